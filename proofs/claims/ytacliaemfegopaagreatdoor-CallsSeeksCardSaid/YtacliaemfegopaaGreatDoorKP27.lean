/- Steps. -/
import Derived.Test.YtacliaemfegopaaGreatDoorKP26
import Derived.Test.YtacliaemfegopaaGreatDoorKP14
set_option linter.unusedVariables false
set_option linter.unusedSimpArgs false
set_option maxRecDepth 100000
set_option maxHeartbeats 40000000
open Go.Proofs Go.SL
namespace Go.SL
open Go.RowKit
theorem KP {e:aM} (h:e.ok=true):bJ 32 ((cZ e.nd 2++cZ e.nm.length 1)++e.nm)=e.enc:=by
 have h1:=pK.1 (aM.kR.1 h).2.2;unfold bJ aM.enc;rw [List.take_append,List.take_of_length_le (by simp only [List.length_append,aS];omega)];simp only [List.append_assoc];congr 3;unfold zs;rw [List.take_replicate];congr 1;simp only [List.length_append,aS];omega
end Go.SL
namespace Go.Fs
open Go.RowKit Go.SL Go.Ba
def Qf (e:aM) (w0:World) (F:ah) (v u:Value) (wr:World):Prop:=
 ∃ k:Nat,k≤1∧u = .int .i64 (k:Int)∧ai w0 wr∧Sat wr (bs 5 v (if k=0 then [] else e.enc)*F)
def Q6 (l:List UInt8) (F:ah) (w:World) (e:Ending) (w':World):Prop:=∃ v,e = .returned (.tuple #[v,.int .i64 0])∧Sat w' (bs 5 v l*F)∧ai w w'
theorem Ao (w:World) (g:Nat) (fr:Nat × Nat) (e:aM) (he:e.ok=true) (F:ah) (h:Sat w (pt g (.cells #[.int .i64 (e.nd:Int),.string (str e.nm)] 99 fr)*F)) :
  Calls Tryz.prog 189 #[.slice (some ⟨g,0,none⟩) 1 1] w (Q6 (bJ 480 e.enc) (pt g (.cells #[.int .i64 (e.nd:Int),.string (str e.nm)] 99 fr)*F) w):=by
 refine aI fun Q HQ=>?_;obtain ⟨o1,o2,o3⟩:=aM.kR.1 he;have onm:=pK.1 o3;have hst:Sat w (bs 5 (.slice none 0 0) []*(pt g (.cells #[.int .i64 (e.nd:Int),.string (str e.nm)] 99 fr)*F)):=h.eA _ _;have HS0:=ae hst;have HE:=ae he;have q1:(e.nd:Int)≤3839:=by omega
 have q0:(0:Int)≤(e.nd:Int):=by omega
 obtain ⟨m,hm⟩:∃ m,e.nm.length=m:=⟨_,rfl⟩
 have hm28:m≤28:=by omega
 have hm28':(m:Int)≤28:=by omega
 have HM:=ae hm;have hsz:=gS e.nm;rw [hm] at hsz;clear h hst he o3 onm hm
 go_enter Tryz.func189,Tryz.ntmps189
 go_wp2_with fail
 go_loopw [4,13] (fun v u wr=>Qf e w (pt g (.cells #[.int .i64 (e.nd:Int),.string (str e.nm)] 99 fr)*F) v u wr) (fun _ u _=>1-(Proofs.intOf u).toNat)
 case atStart=>exact ⟨0,by decide,rfl,ai.refl w,HS0.out⟩
 case round=>
  obtain ⟨k,hk,rfl,hside,hsat⟩:=hrel;clear HS0
  by_cases hlt:k=0
  ·subst hlt
   rw [if_pos rfl] at hsat;have c0:wr.cell? ⟨g,0,none⟩=some (.int .i64 (e.nd:Int)):=hsat.ag.cell 0;have c1:wr.cell? ⟨g,1,none⟩=some (.string (str e.nm)):=hsat.ag.cell 1;have hA:=hsat.alloc (.cells #[.int .i64 (e.nd:Int),.string (str e.nm)] 99 (0,0));have dA:=ae (hside.alloc (.cells #[.int .i64 (e.nd:Int),.string (str e.nm)] 99 (0,0)));have hr:=tY (wr.alloc (.cells #[.int .i64 (e.nd:Int),.string (str e.nm)] 99 (0,0))) e;rw [HE.out] at hr;have Hr:=ae hr;have HA:=ae hA;have hvs:=aB hsat;obtain ⟨va,vc,rfl⟩:=hvs;clear hsat hA hr
   go_wp2_with fail
   refine Hr.out.mono ?_;generalize wr.alloc (.cells #[.int .i64 (e.nd:Int),.string (str e.nm)] 99 (0,0))=w1 at *;generalize wr.heap.size=tb at *;rintro r w2 ⟨rfl,h2,d2⟩;have h3:=h2.dO HA.out;have D3:=ae (dA.out.trans d2);have t0:w2.cell? ⟨tb,0,none⟩=some (.int .i64 (e.nd:Int)):=h3.cell 0;have t1:w2.cell? ⟨tb,1,none⟩=some (.string (str e.nm)):=h3.cell 1;have hp:=eM w2 (.slice none 0 0) [] 2 (e.nd:Int) ⟨rfl,.inl ⟨rfl,rfl⟩⟩ (by decide) (by decide) (by omega) (by omega);rw [List.nil_append] at hp;have Hp:=ae hp;have H3:=ae h3;clear hp h3 h2 Hr HA c0 c1 d2 dA
   go_wp2_with fail
   refine Hp.out.mono ?_;rintro r w4 ⟨v4,rfl,h4,d4⟩;have h5:=h4.under H3.out;have D5:=ae (D3.out.trans d4);have t0:w4.cell? ⟨tb,0,none⟩=some (.int .i64 (e.nd:Int)):=h5.ag.cell 0;have t1:w4.cell? ⟨tb,1,none⟩=some (.string (str e.nm)):=h5.ag.cell 1;have hp:=eM w4 v4 (cZ e.nd 2) 1 (m:Int) h5.nB (by rw [aS];omega) (by decide) (by omega) (by omega);have Hp2:=ae hp;have H5:=ae h5;obtain ⟨v4a,v4c,rfl⟩:=aB h5;clear hp h4 h5 Hp H3 D3 d4
   go_wp2_with fail
   refine Hp2.out.mono ?_;rintro r w6 ⟨v6,rfl,h6,d6⟩;have h7:=h6.under H5.out;obtain ⟨L6,hL6⟩:∃ L6,cZ (e.nd:Int) 2++cZ (m:Int) 1=L6:=⟨_,rfl⟩
   have hl6:L6.length=3:=by rw [← hL6,List.length_append,aS,aS]
   rw [hL6] at h7;have HL6:=ae hL6;have D7:=D5.out.trans d6;have t0:w6.cell? ⟨tb,0,none⟩=some (.int .i64 (e.nd:Int)):=h7.aq.cell 0;have t1:w6.cell? ⟨tb,1,none⟩=some (.string (str e.nm)):=h7.aq.cell 1;obtain ⟨i0,hi,hz,hs0,hb0⟩:=info_parts gg;obtain ⟨v7,w7,hrun,h8,d8⟩:=Sat.Lw (P:=Tryz.prog) (t:=37) (u:=9) (ty:=37) Tryz.underlying37 Tryz.underlying9 hi hz hs0 hb0 h7 e.nm (by rw [HM.out,hl6];omega);have D8:=ae (D7.trans d8);obtain ⟨v6a,v6c,rfl⟩:=aB h7;have hf:=mE w7 v7 _ h8.nB 32 (by decide);have hp9:bJ 32 (L6++e.nm)=e.enc:=by rw [← HL6.out,← HM.out];exact KP HE.out
   rw [hp9] at hf;obtain ⟨v7a,v7c,rfl⟩:=aB h8;have hl7:(L6++e.nm).length=3+m:=by rw [List.length_append,hl6,HM.out]
   rw [hl7] at hf hrun;rw [hl6] at hrun;have hf2:Calls Tryz.prog 165 #[.slice v7a (3+m) v7c,.int .i64 32] w7 (xd e.enc w7):=hf
   have h8':Sat w7 (bs 5 (.slice va 0 vc) []*(pt g (.cells #[.int .i64 (e.nd:Int),.string (str e.nm)] 99 fr)*F)):=by
    exact (h8.to (by ac_rfl:_=(bs 5 (.slice v7a (L6++e.nm).length v7c) (L6++e.nm)*(bs 5 (.slice v4a (cZ (e.nd:Int) 2).length v4c) (cZ (e.nd:Int) 2)*pt tb (.cells #[.int .i64 (e.nd:Int),.string (str e.nm)] 99 (0,0))))*(bs 5 (.slice va 0 vc) []*(pt g (.cells #[.int .i64 (e.nd:Int),.string (str e.nm)] 99 fr)*F)))).right
   have Hf:=ae hf2;have Hrun:=ae hrun;have H8:=ae h8';rw [hl6];clear hi hz hs0 hb0 hf hf2 hrun h8 h8' h7 h6 H5 Hp2 D5 D7 d6 d8 hp9 hl7 hl6 hL6
   go_wp2_with (at_builtin;refine n9 Hrun.out _ _ rfl rfl rfl rfl rfl ?_)
   refine Hf.out.mono ?_;rintro r w9 ⟨v9,rfl,h9,d9⟩;have hE32:=aM.dN HE.out;have h10:=h9.under H8.out;obtain ⟨v9a,v9c,rfl⟩:=aB h10;have hl32:=hE32;obtain ⟨v11,w11,hrun,h11,d11,a11,c11,rfl⟩:=gN (l:=[]) (m:=e.enc) (v:=.slice va 0 vc) (h10.ag) h10.nB (by decide) (by omega);rw [List.nil_append] at h11;simp only [List.length_nil,Nat.zero_add,hl32] at hrun h11;have Hrun2:=ae hrun;have D11:=ae ((D8.out.trans d9).trans d11);have h12:=h11.gZ;have H12:=ae h12;rw [hl32];clear Hrun hrun h11 h12 h10 h9 H8 Hf D8 d9 d11 hE32 hl32 HL6
   go_wp2_with (at_builtin;refine wpList_append_run Hrun2.out _ _ rfl rfl rfl rfl rfl ?_)
   go_roundw
   case rel=>exact ⟨1,Nat.le_refl _,by go_num,D11.out,by rw [if_neg (by decide)];exact H12.out⟩
   case measure=>simp [Proofs.intOf]
  ·obtain rfl:k=1:=by omega
   rw [if_neg (by decide)] at hsat;have hE32:=aM.dN HE.out;obtain ⟨va,vc,rfl⟩:=aB hsat;have hf:=mE wr (.slice va e.enc.length vc) e.enc hsat.nB 480 (by decide);rw [hE32] at hf ⊢;have hf2:Calls Tryz.prog 165 #[.slice va 32 vc,.int .i64 480] wr (xd (bJ 480 e.enc) wr):=hf;have Hf:=ae hf2;have HS:=ae hsat.right;clear hf hf2 hsat hE32
   go_wp2_with fail
   refine Hf.out.mono ?_;rintro r w9 ⟨v9,rfl,h9,d9⟩;have H10:=ae (h9.under HS.out);clear h9 Hf
   go_wp2_with fail
   exact HQ.out _ _ ⟨v9,by simp,H10.out,hside.trans d9⟩
end Go.Fs
namespace Go.SL
open Go.RowKit
def gO (lk:Int) (L:List aM):AF:=⟨2,lk,32*L.length,fun p=>(dG L).getD p 0,fun i=>decide (15*i<L.length)⟩
theorem IL:fN 2=gO 1 []:=by
 unfold fN gO;congr 1
abbrev As (L:List aM):Prop:=∀ e ∈ L,e.ok=true
theorem yQ {L:List aM} {e:aM} (h:As L) (he:e.ok=true):As (L++[e]):=fun x hx=>by
 rcases List.mem_append.1 hx with h1|h1
 ·exact h x h1
 ·rw [List.mem_singleton.1 h1];exact he
theorem iV {lk:Int} {L:List aM} (h:As L) (hl:L.length≤3840):EE (gO lk L) L:=⟨rfl,rfl,h,fun p _=>rfl,hl⟩
theorem pX:∀ {L:List aM} (_:As L) (p:Nat),(dG L).getD p 0=((L[p/32]?).map fun e=>e.enc.getD (p%32) 0).getD 0
 | [],_,p=>by simp [dG]
 | e :: L,h,p=>by
  have he:=aM.dN (h e List.mem_cons_self);have e1:dG (e :: L)=e.enc++dG L:=rfl;rw [e1]
  by_cases hp:p<32
  ·have h0:p/32=0:=by omega
   have h1:p%32=p:=by omega
   rw [h0,h1,List.getElem?_cons_zero,Option.map_some,Option.getD_some,List.getD,List.getElem?_append_left (by omega)];rfl
  ·have ih:=pX (L:=L) (fun x hx=>h x (List.mem_cons_of_mem _ hx)) (p-32)
   have h0:p/32=(p-32)/32+1:=by omega
   have h1:p%32=(p-32)%32:=by omega
   rw [h0,h1,List.getElem?_cons_succ,← ih,List.getD,List.getElem?_append_right (by omega),he];rfl
theorem JV {f:AF} {lk:Int} {L:List aM} (h1:f.kd=2) (h2:f.lk=lk) (h3:f.sz=32*L.length) (h4:∀ p,f.dat p=(dG L).getD p 0) (h5:∀ i,f.pr i=decide (15*i<L.length)):f=gO lk L:=by
 obtain ⟨a,b,c,d,e⟩:=f;dsimp only at h1 h2 h3 h4 h5;subst h1 h2 h3;unfold gO;congr 1
 ·funext p;exact h4 p
 ·funext p;exact h5 p
theorem sd {lk:Int} {L:List aM} {e:aM} (h:As L) (he:e.ok=true):(gO lk L).wr (32*L.length) e.enc=gO lk (L++[e]):=by
 have hl:=aM.dN he;refine JV rfl rfl ?_ (fun p=>?_) fun i=>?_
 ·show (if e.enc.length=0 then 32*L.length else max (32*L.length) (32*L.length+e.enc.length))=_
  rw [if_neg (by omega),hl,List.length_append,List.length_singleton];omega
 ·show (if 32*L.length≤p∧p<32*L.length+e.enc.length then e.enc.getD (p-32*L.length) 0 else (dG L).getD p 0)=_
  rw [pX (yQ h he),pX h,hl]
  split
  ·rename_i hp
   have h0:p/32=L.length:=by omega
   have h1:p%32=p-32*L.length:=by omega
   rw [h0,h1];simp
  ·rename_i hp
   by_cases h2:p/32<L.length
   ·rw [List.getElem?_append_left h2]
   ·rw [List.getElem?_eq_none (by omega),List.getElem?_eq_none (by rw [List.length_append,List.length_singleton];omega)]
 ·show (decide (15*i<L.length) || cG (32*L.length) e.enc.length i)=decide (15*i<(L++[e]).length)
  rw [hl,List.length_append,List.length_singleton,Bool.eq_iff_iff,Bool.or_eq_true,cE,decide_eq_true_iff,decide_eq_true_iff];omega
theorem lD (f:Nat):∀ m,(List.range m).countP (fun i=>decide (i<f))=min f m
 | 0=>by simp
 | m+1=>by
  rw [List.range_succ,List.countP_append,lD f m];simp only [List.countP_cons,List.countP_nil,Nat.zero_add]
  by_cases h:m<f
  ·rw [if_pos (decide_eq_true h)];omega
  ·rw [if_neg (by simpa using h)];omega
def cq (l:Nat):Nat:=1+(l+14)/15+if 240<l then 1 else 0
theorem mK {lk:Int} {L:List aM} (hl:L.length≤3840):cl (gO lk L).pr=cq L.length:=by
 unfold cl cq
 have hc:j8 (gO lk L).pr=(L.length+14)/15:=by
  have:j8 (gO lk L).pr=j8 fun i=>decide (i<(L.length+14)/15):=n7 fun i _=>by
   show decide (15*i<L.length)=_
   rw [Bool.eq_iff_iff,decide_eq_true_iff,decide_eq_true_iff];omega
  rw [this];unfold j8;rw [lD];omega
 rw [hc];congr 1
 by_cases h:240<L.length
 ·rw [if_pos h,if_pos (fY.2 ⟨16,by omega,by omega,decide_eq_true (by omega)⟩)]
 ·rw [if_neg h,if_neg]
  intro h2;obtain ⟨i,h3,h4,h5⟩:=fY.1 h2;have:15*i<L.length:=of_decide_eq_true h5;omega
theorem Nu {w:World} {va:Option Addr} {cap n m:Nat} {l:List UInt8} (hl:l.length=m) (hm:m≤n) (h:Rd w (.slice va n cap) (bJ n l)):Rd w (.slice va m cap) l:=by
 obtain ⟨h1,h2⟩:=h;rcases h2 with ⟨h3,h4⟩|⟨a,c,h3,h4⟩
 ·rw [bR] at h4
  simp only [Value.slice.injEq] at h3;obtain ⟨rfl,rfl,rfl⟩:=h3;have hl0:l.length=0:=by omega
  obtain rfl:m=0:=by omega
  exact ⟨by simp,.inl ⟨rfl,hl0⟩⟩
 ·simp only [Value.slice.injEq] at h3
  obtain ⟨rfl,-,rfl⟩:=h3;refine ⟨by simp,.inr ⟨a,cap,by rw [hl],fun j u hu=>h4 j u ?_⟩⟩
  have hj:j<l.length:=by
   have:=List.getElem?_eq_some_iff.1 hu;obtain ⟨h5,_⟩:=this
   rwa [List.length_map] at h5
  rw [List.getElem?_map] at hu ⊢;rw [← hu];unfold bJ;rw [List.getElem?_take,if_pos (by omega),List.getElem?_append_left hj]
end Go.SL
namespace Go.Fs
open Go.RowKit Go.SL Go.Ba
section
variable {n:Nat} {x x':Fx n} {b k id:Nat} {A:Nat→Option AF} {f:AF} {lk:Int} {L:List aM} {w:World} {F:ah}
theorem yR (e:aM) (he:e.ok=true) (at':Nat) (hat:at'≤3840) {A':Nat→Option AF} {k':Nat} {c:Int} (h:Sat w (et x b A k*F))
  (hw:∀ (w1:World) (va:Option Addr) (cap:Nat) (D G:ah),(∀ W P,Sat W (D*P)→Rd W (.slice va e.enc.length cap) e.enc)→e.enc.length≤cap→Sat w1 (et x b A k*(D*G)) →
   Calls Tryz.prog 42 #[gm b n,.int .i64 (id:Int),.int .i64 ((32*at':Nat):Int),.slice va e.enc.length cap] w1 (YE x' b A' k' c (D*G) w1)) :
  Calls Tryz.prog 136 #[gm b n,.int .i64 (id:Int),.int .i64 (at':Int),.agg #[.int .i64 (e.nd:Int),.string (str e.nm)]] w (YE x' b A' k' c F w):=by
 refine aI fun Q HQ=>?_;have hl:=aM.dN he;rw [hl] at hw;have e32:((32*at':Nat):Int)=(at':Int)*32:=by omega
 rw [e32] at hw;have hA:=((h.alloc (dh b n)).alloc (.cells #[.int .i64 (e.nd:Int),.string (str e.nm)] 99 (0,0))).alloc (.cells #[.int .i64 (e.nd:Int),.string (str e.nm)] 99 (0,0));have dA:=ae ((((ai.refl w).alloc (dh b n)).alloc (.cells #[.int .i64 (e.nd:Int),.string (str e.nm)] 99 (0,0))).alloc (.cells #[.int .i64 (e.nd:Int),.string (str e.nm)] 99 (0,0)));simp only [World.size_alloc] at hA;have he1:=Ao _ _ _ e he _ hA;have HE1:=ae he1;have HW:=ae hw;have HL:=ae hl;have HE:=ae he;clear h hw hl e32 he1 hA;unfold gm
 go_enter Tryz.func136,Tryz.ntmps136
 go_wp2_with fail
 refine HE1.out.mono ?_;generalize ((w.alloc (dh b n)).alloc (.cells #[.int .i64 (e.nd:Int),.string (str e.nm)] 99 (0,0))).alloc (.cells #[.int .i64 (e.nd:Int),.string (str e.nm)] 99 (0,0))=w1 at *;generalize w.heap.size+1+1=gc at *;generalize w.heap.size+1=gb at *;generalize w.heap.size=ga at *;rintro r w2 ⟨v,rfl,h2,d2⟩;clear HE1;have s0:w2.cell? ⟨ga,0,none⟩=some (.pointer (some ⟨b,0,none⟩)):=h2.aC.cell 0;have s1:w2.cell? ⟨ga,1,none⟩=some (.int .i64 (n:Int)):=h2.aC.cell 1;have hcp:∀ W P,Sat W (bs 5 v (bJ 480 e.enc)*P)→Rd W v (bJ 480 e.enc):=fun W P h=>h.nB
 obtain ⟨va,cap,rfl⟩:∃ a c,v = .slice a 480 c:=by
  obtain ⟨a,c,e⟩:=aB h2;rw [bR] at e;exact ⟨a,c,e⟩
 have hcap:480≤cap∧(cap:Int)≤9223372036854775807:=by
  rcases h2.cX with ⟨h3,h4,_⟩|⟨g,c,cur,h3,h4,h5,h6,h7⟩
  ·rw [bR] at h4;omega
  ·simp only [Value.slice.injEq] at h3
   obtain ⟨-,-,rfl⟩:=h3;rw [bR] at h4;unfold maxLen at h5;omega
 obtain ⟨hcap,hcap2⟩:=hcap;have hcap':(32:Int)≤(cap:Int):=by omega
 have hw:=HW.out w2.drew va cap (bs 5 (.slice va 480 cap) (bJ 480 e.enc)) (pt gc (.cells #[.int .i64 (e.nd:Int),.string (str e.nm)] 99 (0,0))*(pt gb (.cells #[.int .i64 (e.nd:Int),.string (str e.nm)] 99 (0,0))*(pt ga (dh b n)*F)))
  (fun W P h=>Nu HL.out (by decide) (hcp W P h)) (by omega) (h2.drew.to (by ac_rfl))
 rw [← (show IntKind.i64.wrap ((at':Int)*32)=(at':Int)*32 by rw [IntKind.wrap_i64];omega)] at hw;have HW2:=ae hw;clear hw HW h2 hcp
 go_wp2_with fail
 go_region_held3 (fun w'=>w'.cell? ⟨ga,0,none⟩=some (.pointer (some ⟨b,0,none⟩))∧w'.cell? ⟨ga,1,none⟩=some (.int .i64 (n:Int)))
  (first|exact ⟨s0,s1⟩|exact k01|go_keep)
  (first|(go_at_call 42;refine HW2.out.mono ?_;rintro r w3 ⟨rfl,d3,h3⟩;have k01:w3.cell? ⟨ga,0,none⟩=some (.pointer (some ⟨b,0,none⟩))∧w3.cell? ⟨ga,1,none⟩=some (.int .i64 (n:Int)):=⟨h3.aG.cell 0,h3.aG.cell 1⟩))
 rename_i hHeld;clear hHeld;have h4:Sat w3 (et x' b A' k'*F):=(h3.to (by ac_rfl:_=(bs 5 (.slice va 480 cap) (bJ 480 e.enc)*(pt gc (.cells #[.int .i64 (e.nd:Int),.string (str e.nm)] 99 (0,0))*(pt gb (.cells #[.int .i64 (e.nd:Int),.string (str e.nm)] 99 (0,0))*pt ga (dh b n))))*(et x' b A' k'*F))).right;have H4:=ae h4;clear h3 h4 HW2
 go_wp2_with fail
 exact HQ.out _ _ ⟨rfl,(dA.out.trans d2).drew.trans d3,H4.out⟩
end
end Go.Fs
namespace Go.SL
open Go.RowKit
theorem AJ {L:List aM} {nm:List UInt8} {i:Nat} (h:jF L nm=some i):i<L.length:=by
 unfold jF at h;rw [List.findIdx?_eq_some_iff_getElem] at h;exact h.1
theorem vd {L:List aM} {nm:List UInt8} {i:Nat} (h:jF L nm=some i):sH L nm=(i:Int):=by unfold sH;rw [h]
theorem qO {L:List aM} {nm:List UInt8} (h:jF L nm=none):sH L nm=-1:=by unfold sH;rw [h]
end Go.SL
namespace Go.Fs
open Go.RowKit Go.SL Go.Ba
section
variable {n:Nat} {x x':Fx n} {b k id:Nat} {A:Nat→Option AF} {f:AF} {lk:Int} {L:List aM} {w:World} {F:ah} {nm:List UInt8}
theorem GK {e:aM} (he:e.ok=true) (hok:As L) (hl:L.length<3840) (hf:A id=some (gO lk L)) (hk:cq (L.length+1)≤k+cq L.length) (h:Sat w (et x b A k*F)) :
  Calls Tryz.prog 136 #[gm b n,.int .i64 (id:Int),.int .i64 (L.length:Int),.agg #[.int .i64 (e.nd:Int),.string (str e.nm)]] w (YE (x.more 5) b (eS A id (some (gO lk (L++[e])))) (k+cq L.length-cq (L.length+1)) 0 F w):=by
 have e32:=aM.dN he;have e1:=mK (lk:=lk) (L:=L) (by omega);have e2:=mK (lk:=lk) (L:=L++[e]) (by rw [List.length_append,List.length_singleton];omega);rw [List.length_append,List.length_singleton] at e2;refine yR e he L.length (by omega) h fun w1 va cap D G hD hc h1=>?_;have:=CT hf (32*L.length) hD hc (by omega) (by omega) (by rw [sd hok he,e1,e2];exact hk) h1;rw [sd hok he,e1,e2,show e.enc.length/480+5=5 by omega] at this;exact this
theorem Ld {e:aM} (he:e.ok=true) (hok:As L) (hl:L.length<3840) (hf:A id=some (gO lk L)) (hk:k+cq L.length<cq (L.length+1)) (h:Sat w (et x b A k*F)) :
  Calls Tryz.prog 136 #[gm b n,.int .i64 (id:Int),.int .i64 (L.length:Int),.agg #[.int .i64 (e.nd:Int),.string (str e.nm)]] w (YE x b A k 7 F w):=by
 have e32:=aM.dN he;have e1:=mK (lk:=lk) (L:=L) (by omega);have e2:=mK (lk:=lk) (L:=L++[e]) (by rw [List.length_append,List.length_singleton];omega);rw [List.length_append,List.length_singleton] at e2;refine yR e he L.length (by omega) h fun w1 va cap D G hD hc h1=>?_;exact GV hf (32*L.length) hD hc (by omega) (by omega) (by rw [sd hok he,e1,e2];exact hk) h1
theorem Gf (h:Sat w (et x b A k*F)) (hf:A id=some (gO lk L)) (hok:As L) (hl:L.length≤3840) {i:Nat} (hi:jF L nm=some i) (hL:i<L.length) :
  Calls Tryz.prog 97 #[gm b n,.int .i64 (id:Int),.string (str nm)] w (YI x b A k ((L[i]).nd) 0 F w):=by
 refine aI fun Q HQ=>?_;have hA:=h.alloc (dh b n);have dA:=ae ((ai.refl w).alloc (dh b n));have hr:=ae (ja hA.ag hf (iV hok hl));have hp:=vd hi;obtain ⟨m,hm⟩:∃ m,L.length=m:=⟨_,rfl⟩
 have c0:(w.alloc (dh b n)).cell? ⟨w.heap.size,0,none⟩=some (.pointer (some ⟨b,0,none⟩)):=hA.cell 0;have HP:=ae hp;have HM:=ae hm;have hl':(m:Int)≤3840:=by omega
 have hi':(i:Int)<(m:Int):=by omega
 have HL:=ae hl;clear h hA hf hok hp hm hl hi;unfold gm
 go_enter Tryz.func97,Tryz.ntmps97
 go_wp2_with fail
 refine hr.out.mono ?_;generalize w.alloc (dh b n)=w1 at *;generalize w.heap.size=ga at *;rintro r w2 ⟨u,rfl,d2,h2⟩;have hpl:=dF w2 u L nm _ HL.out h2;unfold qz at hpl;rw [HP.out] at hpl;have Hpl:=ae hpl;obtain ⟨ua,uc,rfl⟩:=aB h2;rw [HM.out] at Hpl ⊢;clear hr hpl h2
 go_wp2_with fail
 refine Hpl.out.mono ?_;rintro r w3 ⟨rfl,h3,d3⟩;rw [← HM.out] at h3;obtain ⟨g,c,e,e1,e2,k1,k2⟩:=rV h3 hL;simp only [Value.slice.injEq] at e;obtain ⟨rfl,-,rfl⟩:=e;have H3:=ae h3;clear h3 Hpl k1 k2
 go_wp2_with fail
 exact HQ.out _ _ ⟨by simp,(dA.out.trans d2).trans d3,(H3.out.to (by ac_rfl:_=(sl 99 2 (.slice (some ⟨g,0,none⟩) L.length uc) L.length (bk L)*pt ga (dh b n))*(et x b A k*F))).right⟩
theorem LA (h:Sat w (et x b A k*F)) (hf:A id=some (gO lk L)) (hok:As L) (hl:L.length≤3840) (hi:jF L nm=none) :
  Calls Tryz.prog 97 #[gm b n,.int .i64 (id:Int),.string (str nm)] w (YI x b A k 0 5 F w):=by
 refine aI fun Q HQ=>?_;have hA:=h.alloc (dh b n);have dA:=ae ((ai.refl w).alloc (dh b n));have hr:=ae (ja hA.ag hf (iV hok hl));have hp:=qO hi;obtain ⟨m,hm⟩:∃ m,L.length=m:=⟨_,rfl⟩
 have c0:(w.alloc (dh b n)).cell? ⟨w.heap.size,0,none⟩=some (.pointer (some ⟨b,0,none⟩)):=hA.cell 0;have HP:=ae hp;have HM:=ae hm;have hl':(m:Int)≤3840:=by omega
 have HL:=ae hl;clear h hA hf hok hp hm hl hi;unfold gm
 go_enter Tryz.func97,Tryz.ntmps97
 go_wp2_with fail
 refine hr.out.mono ?_;generalize w.alloc (dh b n)=w1 at *;generalize w.heap.size=ga at *;rintro r w2 ⟨u,rfl,d2,h2⟩;have hpl:=dF w2 u L nm _ HL.out h2;unfold qz at hpl;rw [HP.out] at hpl;have Hpl:=ae hpl;obtain ⟨ua,uc,rfl⟩:=aB h2;rw [HM.out] at Hpl ⊢;clear hr hpl h2
 go_wp2_with fail
 refine Hpl.out.mono ?_;rintro r w3 ⟨rfl,h3,d3⟩;have H3:=ae h3;clear h3 Hpl
 go_wp2_with fail
 exact HQ.out _ _ ⟨by simp,(dA.out.trans d2).trans d3,(H3.out.to (by ac_rfl:_=(sl 99 2 (.slice ua m uc) m (bk L)*pt ga (dh b n))*(et x b A k*F))).right⟩
theorem Fw {child:Nat} (hc1:1≤child) (hc2:child≤3839) (h:Sat w (et x b A k*F)) (hf:A id=some (gO lk L)) (hok:As L) (hl:L.length≤3840) (hi:cy nm=true) {i:Nat} (hp:jF L nm=some i) :
  Calls Tryz.prog 98 #[gm b n,.int .i64 (id:Int),.string (str nm),.int .i64 (child:Int)] w (YE x b A k 6 F w):=by
 refine aI fun Q HQ=>?_;have hA:=h.alloc (dh b n);have dA:=ae ((ai.refl w).alloc (dh b n));have hr:=ae (ja hA.ag hf (iV hok hl));obtain ⟨m,hm⟩:∃ m,L.length=m:=⟨_,rfl⟩
 have c0:(w.alloc (dh b n)).cell? ⟨w.heap.size,0,none⟩=some (.pointer (some ⟨b,0,none⟩)):=hA.cell 0;have HM:=ae hm;have hpv:=ae (vd hp);have hl':(m:Int)≤3840:=by omega
 have hi':(i:Int)<(m:Int):=by have:=AJ hp;omega
 have HL:=ae hl;have Hn:=ae fun w=>pP w nm;rw [hi] at Hn;have g1:¬ ((child:Int)<1):=by omega
 have g2:¬ ((3839:Int)<(child:Int)):=by omega
 clear h hA hf hok hm hl hi hp hc1 hc2;unfold gm
 go_enter Tryz.func98,Tryz.ntmps98
 go_wp2_with fail
 refine hr.out.mono ?_;generalize w.alloc (dh b n)=w1 at *;generalize w.heap.size=ga at *;rintro r w2 ⟨u,rfl,d2,h2⟩;have hpl:=dF w2 u L nm _ HL.out h2;unfold qz at hpl;rw [hpv.out] at hpl;have Hpl:=ae hpl;obtain ⟨ua,uc,rfl⟩:=aB h2;rw [HM.out] at Hpl ⊢;clear hr h2 hpl
 go_wp2_with fail
 refine (Hn.out _).mono ?_;rintro r w3 ⟨rfl,rfl⟩
 go_wp2_with fail
 refine Hpl.out.mono ?_;rintro r w3 ⟨rfl,h3,d3⟩;have H3:=ae h3;clear h3 Hpl
 go_wp2_with fail
 exact HQ.out _ _ ⟨by simp,(dA.out.trans d2).trans d3,(H3.out.to (by ac_rfl:_=(sl 99 2 (.slice ua m uc) m (bk L)*pt ga (dh b n))*(et x b A k*F))).right⟩
theorem CU {child:Nat} {A':Nat→Option AF} {k':Nat} {c:Int} (hc1:1≤child) (hc2:child≤3839) (h:Sat w (et x b A k*F)) (hf:A id=some (gO lk L)) (hok:As L) (hl:L.length<3840) (hi:cy nm=true) (hp:jF L nm=none)
  (hput:∀ w1 G,Sat w1 (et x b A k*G)→Calls Tryz.prog 136 #[gm b n,.int .i64 (id:Int),.int .i64 (L.length:Int),.agg #[.int .i64 (child:Int),.string (str nm)]] w1 (YE x' b A' k' c G w1)) :
  Calls Tryz.prog 98 #[gm b n,.int .i64 (id:Int),.string (str nm),.int .i64 (child:Int)] w (YE x' b A' k' c F w):=by
 refine aI fun Q HQ=>?_;have hA:=h.alloc (dh b n);have dA:=ae ((ai.refl w).alloc (dh b n));have hr:=ae (ja hA.ag hf (iV hok (by omega)));obtain ⟨m,hm⟩:∃ m,L.length=m:=⟨_,rfl⟩
 have c0:(w.alloc (dh b n)).cell? ⟨w.heap.size,0,none⟩=some (.pointer (some ⟨b,0,none⟩)):=hA.cell 0;rw [hm] at hput;have HPut:=ae hput;have HM:=ae hm;have hpv:=ae (qO hp);have hl':(m:Int)<3840:=by omega
 have HL:Hid (L.length≤3840):=Nat.le_of_lt hl;have Hn:=ae fun w=>pP w nm;rw [hi] at Hn;have g1:¬ ((child:Int)<1):=by omega
 have g2:¬ ((3839:Int)<(child:Int)):=by omega
 clear h hA hf hok hm hl hi hp hc1 hc2 hput;unfold gm
 go_enter Tryz.func98,Tryz.ntmps98
 go_wp2_with fail
 refine hr.out.mono ?_;generalize w.alloc (dh b n)=w1 at *;generalize w.heap.size=ga at *;rintro r w2 ⟨u,rfl,d2,h2⟩;have hpl:=dF w2 u L nm _ HL.out h2;unfold qz at hpl;rw [hpv.out] at hpl;have Hpl:=ae hpl;obtain ⟨ua,uc,rfl⟩:=aB h2;rw [HM.out] at Hpl ⊢;clear hr h2 hpl
 go_wp2_with fail
 refine (Hn.out _).mono ?_;rintro r w3 ⟨rfl,rfl⟩
 go_wp2_with fail
 refine Hpl.out.mono ?_;rintro r w3 ⟨rfl,h3,d3⟩;have c0:w3.cell? ⟨ga,0,none⟩=some (.pointer (some ⟨b,0,none⟩)):=h3.aq.cell 0;have c1:w3.cell? ⟨ga,1,none⟩=some (.int .i64 (n:Int)):=h3.aq.cell 1;have H3:=ae h3;clear h3 Hpl
 go_wp2_with fail
 refine (HPut.out w3 _ (H3.out.to (by ac_rfl:_=et x b A k*((sl 99 2 (.slice ua m uc) m (bk L)*pt ga (dh b n))*F)))).mono ?_;rintro r w4 ⟨rfl,d4,h4⟩;have H4:=ae (h4.to (by ac_rfl:_=(sl 99 2 (.slice ua m uc) m (bk L)*pt ga (dh b n))*(et x' b A' k'*F))).right;clear h4 H3
 go_wp2_with fail
 exact HQ.out _ _ ⟨by simp,((dA.out.trans d2).trans d3).trans d4,H4.out⟩
theorem rW {child:Nat} (hc1:1≤child) (hc2:child≤3839) (h:Sat w (et x b A k*F)) (hf:A id=some (gO lk L)) (hok:As L) (hl:L.length<3840) (hi:cy nm=true) (hp:jF L nm=none) (hk:cq (L.length+1)≤k+cq L.length) :
  Calls Tryz.prog 98 #[gm b n,.int .i64 (id:Int),.string (str nm),.int .i64 (child:Int)] w (YE (x.more 5) b (eS A id (some (gO lk (L++[⟨child,nm⟩])))) (k+cq L.length-cq (L.length+1)) 0 F w):=
 CU hc1 hc2 h hf hok hl hi hp fun w1 G h1=>GK (e:=⟨child,nm⟩) (aM.kR.2 ⟨hc1,hc2,qu hi⟩) hok hl hf hk h1
theorem OV {child:Nat} (hc1:1≤child) (hc2:child≤3839) (h:Sat w (et x b A k*F)) (hf:A id=some (gO lk L)) (hok:As L) (hl:L.length<3840) (hi:cy nm=true) (hp:jF L nm=none) (hk:k+cq L.length<cq (L.length+1)) :
  Calls Tryz.prog 98 #[gm b n,.int .i64 (id:Int),.string (str nm),.int .i64 (child:Int)] w (YE x b A k 7 F w):=
 CU hc1 hc2 h hf hok hl hi hp fun w1 G h1=>Ld (e:=⟨child,nm⟩) (aM.kR.2 ⟨hc1,hc2,qu hi⟩) hok hl hf hk h1
end
end Go.Fs
namespace Go.SL
open Go.RowKit
inductive ux where
 | file (f:AF)
 | dir (L:List aM)
def ux.af:ux→AF
 | .file f=>f
 | .dir L=>gO 1 L
abbrev Tr:=Nat→Option ux
def gG (T:Tr):Nat→Option AF:=fun id=>(T id).map ux.af
theorem xx (T:Tr) (id:Nat) (x:ux):eS (gG T) id (some x.af)=gG (eS T id (some x)):=by
 funext b;unfold gG eS;split <;> rfl
theorem mn {T:Tr} {id:Nat} {f:AF} (h:T id=some (.file f)):gG T id=some f:=by unfold gG;rw [h];rfl
theorem kZ {T:Tr} {id:Nat} {L:List aM} (h:T id=some (.dir L)):gG T id=some (gO 1 L):=by unfold gG;rw [h];rfl
def fH:Tr:=fun id=>if id=1 then some (.dir []) else none
structure qt (L:List aM):Prop where
 ok:As L
 len:L.length≤3840
 nd:(L.map aM.nm).Nodup
 nm:∀ e ∈ L,cy e.nm=true
def eI:Option ux→List aM
 | some (.dir L)=>L
 | _=>[]
def cQ (ps:List (List UInt8)):List UInt8:=ps.getD (ps.length-1) []
def refs (n:Nat) (T:Tr) (id:Nat):Nat:=((List.range n).map fun d=>(eI (T d)).countP fun e=>e.nd == id).sum
def Ge (id:Nat):Option ux→Int
 | some (.file f)=>f.lk
 | some (.dir _)=>if id=1 then 0 else 1
 | none=>0
structure Tidy (n:Nat) (T:Tr):Prop where
 root:∃ L,T 1=some (.dir L)
 dirs:∀ id L,T id=some (.dir L)→qt L
 files:∀ id f,T id=some (.file f)→f.kd=1
 ref:∀ id,(refs n T id:Int)=Ge id (T id)
 out:∀ id,n≤id→T id=none
def eE (x:Option ux) (nm:List UInt8):Int × Nat:=match x with
 | some (.dir L)=>(match jF L nm with|some i=>(0,(L.getD i aM.no).nd)|none=>(5,0))
 | some (.file _)=>(8,0)
 | none=>(4,0)
def aR (T:Tr):Nat→List (List UInt8)→Int × Nat
 | id,[]=>(0,id)
 | id,nm :: ps=>if (eE (T id) nm).1=0 then aR T (eE (T id) nm).2 ps else ((eE (T id) nm).1,0)
theorem FP (T:Tr) (id:Nat):aR T id []=(0,id):=rfl
theorem mR {T:Tr} {id:Nat} {nm:List UInt8} {ps:List (List UInt8)} (h:(eE (T id) nm).1=0):aR T id (nm :: ps)=aR T (eE (T id) nm).2 ps:=if_pos h
theorem xY {T:Tr} {id:Nat} {nm:List UInt8} {ps:List (List UInt8)} (h:¬ (eE (T id) nm).1=0):aR T id (nm :: ps)=((eE (T id) nm).1,0):=if_neg h
theorem kJ {L:List aM} {nm:List UInt8} {i:Nat} (h:jF L nm=some i):eE (some (.dir L)) nm=(0,(L.getD i aM.no).nd):=by unfold eE;simp only [h]
theorem oe {L:List aM} {nm:List UInt8} (h:jF L nm=none):eE (some (.dir L)) nm=(5,0):=by unfold eE;simp only [h]
theorem N5 {l:List Nat} {a:Nat} (h:a ∈ l):a≤l.sum:=by
 induction l with
 | nil=>cases h
 | cons b l ih=>
  rw [List.sum_cons];rcases List.mem_cons.1 h with rfl|h
  ·omega
  ·have:=ih h;omega
theorem Il {n:Nat} {T:Tr} {d:Nat} {L:List aM} {e:aM} (hd:d<n) (hT:T d=some (.dir L)) (he:e ∈ L):0<refs n T e.nd:=by
 have h1:0<(eI (T d)).countP fun x=>x.nd == e.nd:=by rw [hT];exact List.countP_pos_iff.2 ⟨e,he,by simp⟩
 have h2:((eI (T d)).countP fun x=>x.nd == e.nd)≤refs n T e.nd:=N5 (List.mem_map.2 ⟨d,List.mem_range.2 hd,rfl⟩);omega
section
variable {n:Nat} {T:Tr}
theorem Tidy.lt (h:Tidy n T) {id:Nat} {x:ux} (hx:T id=some x):id<n:=by
 rcases Nat.lt_or_ge id n with h1|h1
 ·exact h1
 ·rw [h.out id h1] at hx;cases hx
theorem Tidy.has (h:Tidy n T) {d:Nat} {L:List aM} {e:aM} (hT:T d=some (.dir L)) (he:e ∈ L):∃ x,T e.nd=some x:=by
 have h1:=Il (h.lt hT) hT he;have h2:=h.ref e.nd
 cases hx:T e.nd with
 | some x=>exact ⟨x,rfl⟩
 | none=>rw [hx] at h2;simp only [Ge] at h2;omega
theorem Tidy.find (h:Tidy n T) {id:Nat} {x:ux} (hx:T id=some x) {nm:List UInt8} (h0:(eE (T id) nm).1=0):∃ y,T (eE (T id) nm).2=some y:=by
 rw [hx] at h0 ⊢
 cases x with
 | file f=>exact absurd h0 (show ¬ (8:Int)=0 by decide)
 | dir L=>
  cases hp:jF L nm with
  | none=>rw [oe hp] at h0;exact absurd h0 (by decide)
  | some i=>
   rw [kJ hp];have hi:=AJ hp;exact h.has hx (e:=L.getD i aM.no) (by rw [List.getD,List.getElem?_eq_getElem hi];exact List.getElem_mem hi)
theorem Tidy.walk (h:Tidy n T):∀ (ps:List (List UInt8)) {id:Nat} {x:ux},T id=some x→(aR T id ps).1=0→∃ y,T (aR T id ps).2=some y
 | [],id,x,hx,_=>⟨x,hx⟩
 | nm :: ps,id,x,hx,h0=>by
  by_cases hf:(eE (T id) nm).1=0
  ·rw [mR hf] at h0 ⊢
   obtain ⟨y,hy⟩:=h.find hx hf;exact h.walk ps hy h0
  ·rw [xY hf] at h0;exact absurd h0 hf
theorem Cu {f g:Nat→Nat} {d:Nat} (h:∀ i,i≠d→g i=f i):∀ m,d<m→((List.range m).map g).sum+f d=((List.range m).map f).sum+g d
 | m+1,hm=>by
  rw [List.range_succ,List.map_append,List.map_append,List.sum_append,List.sum_append];simp only [List.map_cons,List.map_nil,List.sum_cons,List.sum_nil,Nat.add_zero]
  by_cases e:d=m
  ·subst e
   have:(List.range d).map g=(List.range d).map f:=List.map_congr_left fun i hi=>h i (by have:=List.mem_range.1 hi;omega);rw [this];omega
  ·have:=Cu h m (by omega)
   rw [h m (by omega)];omega
theorem oJ {d:Nat} (hd:d<n) (x:Option ux) (id:Nat):refs n (eS T d x) id+(eI (T d)).countP (fun e=>e.nd == id)=refs n T id+(eI x).countP fun e=>e.nd == id:=by
 have:=Cu (f:=fun j=>(eI (T j)).countP fun e=>e.nd == id) (g:=fun j=>(eI (eS T d x j)).countP fun e=>e.nd == id) (d:=d) (fun i hi=>by rw [aQ _ _ hi]) n hd;simp only [bF] at this;exact this
end
end Go.SL
namespace Go.Fs
open Go.RowKit Go.SL Go.Ba
attribute [local go_sem] Oper.semAt_some
section
variable {n:Nat} {x:Fx n} {b k id:Nat} {A:Nat→Option AF} {f:AF} {lk:Int} {L:List aM} {w:World} {F:ah} {nm:List UInt8}
def Re (x:Fx n) (b:Nat) (A:Nat→Option AF) (k:Nat) (c:Int) (F:ah) (w:World) (e:Ending) (w':World):Prop:=
 e = .returned (.tuple #[.slice none 0 0,.int .i64 c])∧ai w w'∧Sat w' (et x b A k*F)
theorem DH (h:Sat w (et x b A k*F)) (hf:A id=some f) (hk:f.kd=1) :
  Calls Tryz.prog 99 #[gm b n,.int .i64 (id:Int)] w (Re x b A k 8 F w):=by
 have hA:=(((h.alloc (dh b n)).alloc (.cells #[.slice none 0 0] 95 (0,0))).alloc (.cells #[.int .i64 0] 28 (0,0)))
 have dA:=(((ai.refl w).alloc (dh b n)).alloc (.cells #[.slice none 0 0] 95 (0,0))).alloc (.cells #[.int .i64 0] 28 (0,0));simp only [World.size_alloc] at hA;have HK:=ae hk;have HF:=ae hf;clear h hk hf;unfold gm;refine (callsIn_wide (n:=9)).1 ?_;refine callsIn_of_wp_marks Tryz.func99 rfl trivial ?_ rfl;simp only [Tryz.ntmps99,List.size_toArray,List.length_cons,List.length_nil,Nat.reduceAdd,Nat.reduceSub,Array.replicate_succ,Array.replicate_zero,List.push_toArray,List.append_toArray,List.nil_append,List.cons_append];have cA:=hA.aq.cell 0;have cB:=hA.aq.cell 1;simp at cA cB;refine wpIn_wide.2 ?_
 go_wp2_with fail
 generalize (((w.alloc (dh b n)).alloc (.cells #[.slice none 0 0] 95 (0,0))).alloc (.cells #[.int .i64 0] 28 (0,0)))=w1 at *;generalize w.heap.size+1+1=r1 at *;generalize w.heap.size+1=r0 at *;generalize w.heap.size=sc at *;have hB:=hA.to (by ac_rfl:_=et x b A k*(pt sc (dh b n)*(pt r0 (.cells #[.slice none 0 0] 95 (0,0))*(pt r1 (.cells #[.int .i64 0] 28 (0,0))*F))));refine (Bo hB HF.out).mono ?_;rintro e w2 ⟨y,rfl,y16,ykd,ylk,ysz,d2,h2⟩;have hX:(ints y.l).size=20:=by rw [dw,Nd.cells y16]
 have hE:=h2.alloc (.cells #[.int .i64 0,.int .i64 0,.int .i64 0,.int .i64 0,.int .i64 0,.int .i64 0,.int .i64 0,.int .i64 0,.int .i64 0,.int .i64 0,.int .i64 0,.int .i64 0,.int .i64 0,.int .i64 0,.int .i64 0,.int .i64 0,.int .i64 0,.int .i64 0,.int .i64 0,.int .i64 0] 73 (0,0));have Hz:=ae hE.heap;have hE2:=hE.setRow (cs':=ints y.l);have D2:=ae (((dA.trans d2).alloc (.cells #[.int .i64 0,.int .i64 0,.int .i64 0,.int .i64 0,.int .i64 0,.int .i64 0,.int .i64 0,.int .i64 0,.int .i64 0,.int .i64 0,.int .i64 0,.int .i64 0,.int .i64 0,.int .i64 0,.int .i64 0,.int .i64 0,.int .i64 0,.int .i64 0,.int .i64 0,.int .i64 0] 73 (0,0))).setRow w2.heap.size (ints y.l));have Hone:Hid ((ints y.l).all (·.oneCell')=true):=by simp [RowKit.Hid,ints,Value.oneCell']
 have Hinf:Hid ((Tryz.prog.info? 73).map (·.size)=some (ints y.l).size):=by show _=_;rw [hX];exact aY
 have HX:=ae hX;have n0:((w2.alloc (.cells #[.int .i64 0,.int .i64 0,.int .i64 0,.int .i64 0,.int .i64 0,.int .i64 0,.int .i64 0,.int .i64 0,.int .i64 0,.int .i64 0,.int .i64 0,.int .i64 0,.int .i64 0,.int .i64 0,.int .i64 0,.int .i64 0,.int .i64 0,.int .i64 0,.int .i64 0,.int .i64 0] 73 (0,0))).setRow w2.heap.size (ints y.l)).cell? ⟨w2.heap.size,0,none⟩=some (.int .i64 1):=by rw [← HK.out,← ykd];exact hE2.cell 0
 have hE3:=hE2.to (by ac_rfl:_=pt r0 (.cells #[.slice none 0 0] 95 (0,0))*(pt r1 (.cells #[.int .i64 0] 28 (0,0))*((et x b A k*F)*(pt w2.heap.size (.cells (ints y.l) 73 (0,0))*pt sc (dh b n)))));have z0:=hE3.cell 0;have z1:=hE3.ag.cell 0;have f0:=hE3.frozen 0;have f1:=hE3.ag.frozen 0;have hne:¬ (r0=r1):=Sat.ne hE3;have hne2:¬ (r1=r0):=fun h=>hne h.symm;have H4:=ae ((hE3.setCell 0 (.slice none 0 0)).ag.setCell 0 (.int .i64 8));have D4:=ae ((D2.out.setCell ⟨r0,0,none⟩ (.slice none 0 0)).setCell ⟨r1,0,none⟩ (.int .i64 8));simp at z0 z1;clear hA hB h2 hE hE2 hE3 hX y16 ykd ylk ysz d2 dA cA cB
 go_wp2_with (refine wpList_store_row (by exact rfl) 73 (.tmp 6) (.tmp 15) (by exact rfl) w2.heap.size (ints y.l) (by exact rfl) (by exact rfl) 73 _ (by with_reducible exact Hz.out) Hinf.out (by rw [HX.out];rfl) Hone.out ?_)
 have h6:=H4.out.ag;simp only [List.setIfInBounds_toArray,List.set_cons_zero] at h6;refine ⟨_,nI rfl rfl h6,rfl,D4.out,?_⟩;exact (h6.to (by ac_rfl:_=(pt r0 (.cells #[.slice none 0 0] 95 (0,0))*(pt r1 (.cells #[.int .i64 8] 28 (0,0))*(pt w2.heap.size (.cells (ints y.l) 73 (0,0))*pt sc (dh b n))))*(et x b A k*F))).right
theorem Fk (h:Sat w (et x b A k*F)) (hf:A id=some f) (hk:f.kd=1) :
  Calls Tryz.prog 97 #[gm b n,.int .i64 (id:Int),.string (str nm)] w (YI x b A k 0 8 F w):=by
 refine aI fun Q HQ=>?_;have hA:=h.alloc (dh b n);have dA:=ae ((ai.refl w).alloc (dh b n));have hr:=ae (DH hA.ag hf hk);have c0:(w.alloc (dh b n)).cell? ⟨w.heap.size,0,none⟩=some (.pointer (some ⟨b,0,none⟩)):=hA.cell 0;clear h hA hf hk;unfold gm
 go_enter Tryz.func97,Tryz.ntmps97
 go_wp2_with fail
 refine hr.out.mono ?_;generalize w.alloc (dh b n)=w1 at *;generalize w.heap.size=ga at *;rintro r w2 ⟨rfl,d2,h2⟩;have H2:=ae (h2.to (by ac_rfl:_=pt ga (dh b n)*(et x b A k*F))).right;clear hr h2
 go_wp2_with fail
 exact HQ.out _ _ ⟨by simp,dA.out.trans d2,H2.out⟩
end
def _root_.Go.SL.Ct (w:World) (v:Value) (l:List (List UInt8)):Prop:=
 (∃ x c,v = .slice x 0 c∧l=[])∨∃ g o c,v = .slice (some ⟨g,o,none⟩) l.length c∧l.length≤c∧c≤maxLen∧∀ k,k<l.length→w.cell? ⟨g,o+k,none⟩=some (.string (str (l.getD k [])))
section
variable {n:Nat} {x:Fx n} {b k id:Nat} {T:Tr} {w:World} {D F:ah} {nm:List UInt8}
theorem vm (ht:Tidy n T) {y:ux} (hy:T id=some y) (h:Sat w (et x b (gG T) k*F)) :
  Calls Tryz.prog 97 #[gm b n,.int .i64 (id:Int),.string (str nm)] w (YI x b (gG T) k ((eE (T id) nm).2:Nat) (eE (T id) nm).1 F w):=by
 cases y with
 | file f=>rw [hy];exact Fk h (mn hy) (ht.files _ _ hy)
 | dir L=>
  have hE:=ht.dirs _ _ hy;rw [hy]
  cases hp:jF L nm with
  | none=>rw [oe hp];exact LA h (kZ hy) hE.ok hE.len hp
  | some i=>
   rw [kJ hp];have hi:=AJ hp;have:=Gf h (kZ hy) hE.ok hE.len hp hi;rw [show L.getD i aM.no=L[i] by rw [List.getD,List.getElem?_eq_getElem hi];rfl];exact this
def Qg (n:Nat) (T:Tr) (ps:List (List UInt8)) (P:ah) (w0:World) (u v:Value) (wr:World):Prop:=
 ∃ (j id:Nat) (y:ux),j≤ps.length∧u = .int .i64 (j:Int)∧v = .int .i64 (id:Int)∧T id=some y∧aR T 1 ps=aR T id (ps.drop j)∧ai w0 wr∧Sat wr P
theorem drop_cons {ps:List (List UInt8)} {j:Nat} (h:j<ps.length):ps.drop j=ps.getD j [] :: ps.drop (j+1):=by
 rw [List.drop_eq_getElem_cons h,List.getD,List.getElem?_eq_getElem h];rfl
theorem E4 (ht:Tidy n T) {v:Value} {ps:List (List UInt8)} (hl:ps.length≤1000) (hD:∀ W P,Sat W (D*P)→Ct W v ps) (h:Sat w (et x b (gG T) k*(D*F))) :
  Calls Tryz.prog 76 #[gm b n,v] w (YI x b (gG T) k ((aR T 1 ps).2:Nat) (aR T 1 ps).1 (D*F) w):=by
 refine aI fun Q HQ=>?_;have hA:=(h.alloc (dh b n)).to (by ac_rfl:_=D*(et x b (gG T) k*(pt w.heap.size (dh b n)*F)));have dA:=(ai.refl w).alloc (dh b n);obtain ⟨L0,hroot⟩:=ht.root
 obtain ⟨va,vc,rfl⟩:∃ a c,v = .slice a ps.length c:=by
  rcases hD _ _ hA with ⟨a,c,rfl,rfl⟩|⟨g,o,c,rfl,-⟩
  ·exact ⟨a,c,rfl⟩
  ·exact ⟨_,_,rfl⟩
 have HA:=ae hA;have DA:=ae dA;have HD:=ae hD;have HT:=ae ht;have HR:=ae hroot;obtain ⟨m,hm⟩:∃ m,ps.length=m:=⟨_,rfl⟩
 have HM:=ae hm;have hmi:(m:Int)≤1000:=by omega
 rw [hm];clear h hA dA hD ht hroot hm hl;unfold gm
 go_enter Tryz.func76,Tryz.ntmps76
 go_wp2_with fail
 go_loopw [6,13] (fun u v wr=>Qg n T ps (D*(et x b (gG T) k*(pt w.heap.size (dh b n)*F))) w v u wr) (fun _ v _=>m-(Proofs.intOf v).toNat)
 case atStart=>exact ⟨0,1,_,Nat.zero_le _,rfl,rfl,HR.out,rfl,DA.out,HA.out⟩
 case round=>
  obtain ⟨j,id,y,hj,rfl,rfl,hy,hw,hside,hsat⟩:=hrel;rw [HM.out] at hj;have HS:=ae hsat;have HW:=ae hw;have HY:=ae hy;have c0:wr.cell? ⟨w.heap.size,0,none⟩=some (.pointer (some ⟨b,0,none⟩)):=hsat.aq.cell 0;have c1:wr.cell? ⟨w.heap.size,1,none⟩=some (.int .i64 (n:Int)):=hsat.aq.cell 1;clear HA DA HR
  by_cases hlt:j<m
  ·have hlt':(j:Int)<(m:Int):=by omega
   obtain ⟨nm,hnm⟩:∃ nm,ps.getD j []=nm:=⟨_,rfl⟩
   rcases HD.out _ _ hsat with ⟨a,c,e,e2⟩|⟨g,o,c,e,hc1,hc2,hcell⟩
   ·rw [e2] at HM;exact absurd hlt (by have:=HM.out;simp at this;omega)
   simp only [Value.slice.injEq] at e;obtain ⟨rfl,-,rfl⟩:=e;have hcj:wr.cell? ⟨g,o+j,none⟩=some (.string (str nm)):=by rw [← hnm];exact hcell j (by have:=HM.out;omega)
   have k1:(m:Int)≤(vc:Int):=by have:=HM.out;omega
   have k2:(vc:Int)≤9223372036854775807:=by unfold maxLen at hc2;omega
   have hdr:ps.drop j=nm :: ps.drop (j+1):=by rw [← hnm];exact drop_cons (by have:=HM.out;omega)
   have hw2:aR T 1 ps=aR T id (nm :: ps.drop (j+1)):=by rw [← hdr];exact hw
   have hf:=vm (nm:=nm) HT.out hy (hsat.to (by ac_rfl:_=et x b (gG T) k*(D*(pt w.heap.size (dh b n)*F))));have hyes:=fun h0=>(mR (T:=T) (id:=id) (nm:=nm) (ps:=ps.drop (j+1)) h0)
   have hno:=fun h0=>(xY (T:=T) (id:=id) (nm:=nm) (ps:=ps.drop (j+1)) h0)
   have hnext:=fun h0=>HT.out.find hy (nm:=nm) h0;have Hf:=ae hf;have Hyes:=ae hyes;have Hno:=ae hno;have Hnext:=ae hnext;have HW2:=ae hw2;have Hsd:=ae hside;generalize hq:eE (T id) nm=q at *;obtain ⟨c',id'⟩:=q;dsimp only at Hf Hyes Hno Hnext;clear hsat hw hy hf hyes hno hnext hcell hc1 hc2 hdr hw2 hnm HS HW HY hside hq
   go_wp2_with fail
   refine Hf.out.mono ?_;rintro e w2 ⟨rfl,d2,h2⟩;have H2:=ae h2;have D2:=ae (Hsd.out.trans d2);clear h2 d2 Hf Hsd
   by_cases h0:c'=0
   ·subst h0
    obtain ⟨y',hy'⟩:=Hnext.out rfl;have Hy:=ae hy';clear hy'
    go_wp2_with fail
    go_roundw
    case rel=>exact ⟨j+1,id',y',by rw [HM.out];omega,by go_num,rfl,Hy.out,HW2.out.trans (Hyes.out trivial),D2.out,H2.out.to (by ac_rfl)⟩
    case measure=>simp [Proofs.intOf];omega
   ·go_wp2_with fail
    have e:=HW2.out.trans (Hno.out h0);refine HQ.out _ _ ⟨by rw [e];rfl,D2.out,?_⟩;exact (H2.out.to (by ac_rfl:_=pt w.heap.size (dh b n)*(et x b (gG T) k*(D*F)))).right
  ·obtain rfl:j=m:=by omega
   have e:aR T 1 ps=(0,id):=by rw [hw,← HM.out,List.drop_length];rfl
   have E:=ae e;have Hsd:=ae hside;clear hsat hw hy e hside HW HY
   go_wp2_with fail
   refine HQ.out _ _ ⟨by rw [E.out];rfl,Hsd.out,?_⟩;exact (HS.out.to (by ac_rfl:_=pt w.heap.size (dh b n)*(et x b (gG T) k*(D*F)))).right
end
end Go.Fs
