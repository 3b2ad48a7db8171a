/- Steps. -/
import Derived.Test.YtacliaemfegopaaGreatDoorKP40
import Derived.Test.YtacliaemfegopaaGreatDoorKP31
set_option linter.unusedVariables false
set_option linter.unusedSimpArgs false
set_option maxRecDepth 100000
set_option maxHeartbeats 40000000
open Go.Proofs Go.SL
namespace Go.SL
def lG (T:Tr) (p:List UInt8):Int:=if (bW T p).1≠0 then (bW T p).1 else match T (bW T p).2 with
 | some (.dir _)=>0
 | _=>8
end Go.SL
namespace Go.Cl
open Go.RowKit Go.SL Go.Nn Go.Ba Go.Su Go.Fs
attribute [local go_sem] Oper.semAt_some
def fP (a:Nat) (v:Value):ah:=pt a (.cells #[v] 52 (0,0))
def xf (a:Nat) (l:List (List UInt8)):ah:=ex fun u=>eK u l*fP a u
theorem pk {w:World} {a:Nat} {l:List (List UInt8)} {F:ah}:Sat w (xf a l*F)↔∃ u,Sat w (eK u l*(fP a u*F)):=by
 unfold xf;rw [Sat.au];exact exists_congr fun u=>by rw [aw]
def uh (a:Nat) (L:List aM):ah:=ex fun W:List aM=>fact (W.Perm L∧jD zr W)*xf a (W.map aM.nm)
section
variable {n:Nat} {x:Fx n} {b v pc rc k:Nat} {T:Tr} {w:World} {F:ah} {p:List UInt8}
def MT (rc:Nat) (v:Value) (W:List aM) (Z:ah) (w0:World) (u:Value) (wr:World):Prop:=
 ∃ i:Nat,i≤W.length∧u = .int .i64 (i:Int)∧ai w0 wr∧Sat wr (xf rc ((W.take i).map aM.nm)*(gr v W*Z))
theorem Mp (ht:Tidy n T) (hgd:lG T p=0) (hs9:(eI (T (bW T p).2)).length≤yz) (h:Sat w (vA x b v T k*(aA pc p*(fP rc (.slice none 0 0)*F)))) :
  Calls Tryz.prog 55 #[ax v,ax pc,ax rc] w (FT (lG T p) (vA x b v T k*(aA pc p*(uh rc (eI (T (bW T p).2))*F))) (vA x b v T k*(aA pc p*(fP rc (.slice none 0 0)*F))) w):=by
 refine aI fun Q HQ=>?_;have h0:=h.to (by unfold vA;ac_rfl:_=et x b (gG T) k*(pt v (bV b n)*(aA pc p*(fP rc (.slice none 0 0)*F))));have k0:w.cell? ⟨v,0,none⟩=some (ax b)∧w.cell? ⟨v,1,none⟩=some (.int .i64 (n:Int))∧w.cell? ⟨pc,0,none⟩=some (.string (str p)):=⟨h0.ag.cell 0,h0.ag.cell 1,h0.aq.cell 0⟩
 have HS9:=ae hs9;clear hs9;have H:=ae h;have HT:=ae ht
 have Hbad:Hid (∀ e,e≠0→e=lG T p→∀ (w':World),ai w w'→Sat w' (vA x b v T k*(aA pc p*(fP rc (.slice none 0 0)*F)))→Q (.panicked (mf e)) w'):=fun e hc he w' d hs=>
  HQ.out _ _ ⟨d,.inr ⟨by rw [← he];exact hc,by rw [he],hs⟩⟩
 clear h h0
 cases hs:aV p with
 | none=>
  exact absurd ((by unfold lG;rw [pO hs];rfl:(1:Int)=lG T p).trans hgd) (by decide)
 | some ps=>
  obtain ⟨hok,hl⟩:=di hs;have hpw:=eW (T:=T) hs;have HS8:(eI (T (aR T 1 ps).2)).length≤yz:=by have:=HS9.out;rw [hpw] at this;exact this
  have HS7:=ae HS8;clear HS8 HS9;have hk:=ae (dK (w:=w.drew) hs);have hy:=fun h0=>ht.walk ps ht.root.choose_spec h0;have hw:=ae fun (u:Value) (w':World) (h':Sat w' (vA x b v T k*(eK u ps*(aA pc p*(fP rc (.slice none 0 0)*F)))))=>fI HT.out hl iz h';have HOC:=ae (show lG T p=if (aR T 1 ps).1≠0 then (aR T 1 ps).1 else match T (aR T 1 ps).2 with|some (.dir _)=>0|_=>8 by unfold lG;rw [hpw]);rw [hpw] at HQ;have HY:=ae hy;clear ht hs hl hok hpw hy;generalize aR T 1 ps=pw at *;obtain ⟨wc,id⟩:=pw;dsimp only at hw HY HOC HQ HS7
  by_cases hc:wc=0
  ·subst hc
   obtain ⟨y,hy⟩:=HY.out rfl
   cases y with
   | file f=>
    have hoc:(8:Int)=lG T p:=by rw [HOC.out,if_neg (by decide),hy]
    exact absurd (hoc.trans hgd) (by decide)
   | dir L=>
    have hoc:lG T p=0:=by rw [HOC.out,if_neg (by decide),hy]
    have hE:=HT.out.dirs _ _ hy;have hs10:L.length≤yz:=by have:=HS7.out;rw [hy] at this;exact this
    have hli:=ae fun (u:Value) (w':World) (h':Sat w' (et x b (gG T) k*(pt v (bV b n)*(aA pc p*(eK u ps*(fP rc (.slice none 0 0)*F))))))=>Ff h' (kZ hy) hE.ok hs10 hE.nd;have hck:=ae du;have HL:=ae hE.len;rw [hoc,hy] at HQ;clear hy HY HOC Hbad hE hoc
    go_enter Tryz.func55,Tryz.ntmps55
    go_wp2_with fail
    go_region_held3 (fun w'=>w'.cell? ⟨v,0,none⟩=some (ax b)∧w'.cell? ⟨v,1,none⟩=some (.int .i64 (n:Int))∧w'.cell? ⟨pc,0,none⟩=some (.string (str p)))
     (first|exact k0|exact k1|exact k2|exact k3|go_keep)
     (first
     | (go_at_call 32;refine hk.out.mono ?_;rintro e w4 ⟨u,rfl,d4,h4⟩;have h5:=(h4.under H.out.drew).to (by ac_rfl:_=vA x b v T k*(eK u ps*(aA pc p*(fP rc (.slice none 0 0)*F))));have h6:=h5.to (by unfold vA;ac_rfl:_=pt v (bV b n)*(aA pc p*(et x b (gG T) k*(eK u ps*(fP rc (.slice none 0 0)*F)))));have k1:w4.cell? ⟨v,0,none⟩=some (ax b)∧w4.cell? ⟨v,1,none⟩=some (.int .i64 (n:Int))∧w4.cell? ⟨pc,0,none⟩=some (.string (str p)):=⟨h6.cell 0,h6.cell 1,h6.ag.cell 0⟩;have hww:=ae (hw.out u w4 h5))
     | (go_at_call 31;refine hww.out.mono ?_;rintro e w5 ⟨he,d5,h7⟩;obtain rfl:=he.elim (fun h=>h.2) (fun h=>absurd rfl h.1);have h8:=h7.to (by unfold vA;ac_rfl:_=et x b (gG T) k*(pt v (bV b n)*(aA pc p*(eK u ps*(fP rc (.slice none 0 0)*F)))));have k2:w5.cell? ⟨v,0,none⟩=some (ax b)∧w5.cell? ⟨v,1,none⟩=some (.int .i64 (n:Int))∧w5.cell? ⟨pc,0,none⟩=some (.string (str p)):=⟨h8.ag.cell 0,h8.ag.cell 1,h8.aq.cell 0⟩;have hls:=ae (hli.out u w5 h8))
     | (go_at_call 56;refine hls.out.mono ?_;rintro e w6 ⟨u2,W,rfl,pW,sW,d6,h9⟩;have k3:w6.cell? ⟨v,0,none⟩=some (ax b)∧w6.cell? ⟨v,1,none⟩=some (.int .i64 (n:Int))∧w6.cell? ⟨pc,0,none⟩=some (.string (str p)):=⟨h9.aq.cell 0,h9.aq.cell 1,h9.aC.cell 0⟩;obtain ⟨ua,uc,rfl⟩:=aB h9))
    rename_i hHeld;have D6:=ae ((((ai.refl w).drew.trans d4).trans d5).trans d6);have H9:=ae (h9.to (by unfold vA;ac_rfl:_=gr (.slice ua W.length uc) W*(fP rc (.slice none 0 0)*(vA x b v T k*(aA pc p*(eK u ps*F))))));have hWl:W.length≤3840:=by rw [pW.length_eq];exact HL.out
    have PW:=ae pW;have SW:=ae sW;clear hHeld k0 k1 k2 k3 h4 h5 h6 h7 h8 h9 d4 d5 d6 hww hls hli hw hk he H HL pW sW
    go_wp2_with fail
    refine (hck.out _).mono ?_;rintro e w7 ⟨rfl,rfl⟩;clear hck
    go_wp2_with fail
    have hZ:=H9.out.to (by ac_rfl:_=fP rc (.slice none 0 0)*(gr (.slice ua W.length uc) W*(vA x b v T k*(aA pc p*(eK u ps*F)))));obtain ⟨Z,hz⟩:∃ Z,vA x b v T k*(aA pc p*(eK u ps*F))=Z:=⟨_,rfl⟩
    rw [hz] at hZ;have h0:MT rc (.slice ua W.length uc) W Z w (.int .i64 0) w6:=⟨0,Nat.zero_le _,rfl,D6.out,pk.2 ⟨.slice none 0 0,hZ.eA 9 1⟩⟩
    have HR0:=ae h0;have HZ:=ae hz.symm;obtain ⟨N,hN⟩:∃ N,W.length=N:=⟨_,rfl⟩
    have HN:=ae hN;have hNi:(N:Int)≤3840:=by omega
    clear hZ h0 hz hWl H9 D6;rw [hN];clear hN
    go_loopw [24] (fun u wr=>MT rc (.slice ua W.length uc) W Z w u wr) (fun u _=>N-(Proofs.intOf u).toNat)
    case atStart=>exact HR0.out
    case round=>
     obtain ⟨i,hi,rfl,hside,hsat⟩:=hrel;rw [HN.out] at hi
     by_cases hlt:i<N
     ·have hlt':(i:Int)<(N:Int):=by omega
      have hiW:i<W.length:=by have:=HN.out;omega
      obtain ⟨v',h1⟩:=pk.1 hsat;obtain ⟨pa,pc',rfl⟩:=aB h1;have h2:Sat wr (sl 99 2 (.slice ua W.length uc) W.length (bk W)*(xf rc ((W.take i).map aM.nm)*Z)):=hsat.to (by unfold gr;ac_rfl);obtain ⟨g,c,e,e1,e2,l1,l2⟩:=rV h2 hiW;simp only [Value.slice.injEq] at e;obtain ⟨rfl,-,rfl⟩:=e;have htk:(W.take (i+1)).map aM.nm=(W.take i).map aM.nm++[(W[i]).nm]:=by rw [List.take_add_one,List.map_append,List.getElem?_eq_getElem hiW];rfl
      have hll:((W.take i).map aM.nm).length=i:=by rw [List.length_map,List.length_take];omega
      generalize W[i]=x at *;have l1':(N:Int)≤(uc:Int):=by have:=HN.out;omega
      have hA:=(h1.alloc (.cells #[.int .i64 (x.nd:Int),.string (str x.nm)] 99 (0,0))).alloc (.cells #[.string (str x.nm)] 9 (0,0));simp only [World.size_alloc] at hA;generalize hl:(W.take i).map aM.nm=l at *;have c0:wr.cell? ⟨rc,0,none⟩=some (.slice pa l.length pc'):=h1.ag.cell 0;have hlt2:rc<wr.heap.size:=World.block_lt_of_cell? wr _ c0;have hlt3:g<wr.heap.size:=World.block_lt_of_cell? wr _ e1
      have hR:nA ((wr.alloc (.cells #[.int .i64 (x.nd:Int),.string (str x.nm)] 99 (0,0))).alloc (.cells #[.string (str x.nm)] 9 (0,0))) 1 (.slice (some ⟨wr.heap.size+1,0,none⟩) 1 1) 1 [.string (str x.nm)]:=
       ⟨rfl,.inr ⟨_,_,rfl,fun j u hu=>by
        rw [Addr.add_lit,Nat.zero_add];exact (hA.cell j).trans (by simpa using hu)⟩⟩
      obtain ⟨i0,hi',hz,hs0,hb0⟩:=info_parts ph;have hA4:=hA.to (by unfold eK;ac_rfl:_=sl 9 1 (.slice pa l.length pc') l.length (strs l)*(fP rc (.slice pa l.length pc')*(gr (.slice (some ⟨g,0,none⟩) W.length uc) W*(pt (wr.heap.size+1) (.cells #[.string (str x.nm)] 9 (0,0))*(pt wr.heap.size (.cells #[.int .i64 (x.nd:Int),.string (str x.nm)] 99 (0,0))*Z)))));obtain ⟨v2,w',hrun,hsat',hside'⟩:=Sat.append (P:=Tryz.prog) (ty:=52) Tryz.underlying52 hi' hz hs0 hb0 rfl hA4 hR (by intro u hu;rw [List.mem_singleton.1 hu];rfl) (by unfold maxLen;omega) (by omega);obtain ⟨aa,ac,rfl⟩:=aB hsat';have c0':w'.cell? ⟨rc,0,none⟩=some (.slice pa l.length pc'):=hsat'.ag.cell 0;have f0':w'.frozen? ⟨rc,0,none⟩=false:=hsat'.ag.frozen 0;have hset:=hsat'.ag.setCell 0 (.slice aa (l.length+1) ac);simp only [List.setIfInBounds_toArray,List.set_cons_zero] at hset;have e:strs l++[.string (str x.nm)]=strs (l++[x.nm]):=by unfold strs;rw [List.map_append];rfl
      rw [e] at hset
      have hnew:Sat (w'.setCell ⟨rc,0,none⟩ (.slice aa (l.length+1) ac)) (xf rc ((W.take (i+1)).map aM.nm)*(gr (.slice (some ⟨g,0,none⟩) W.length uc) W*Z)):=by
       rw [htk];refine pk.2 ⟨.slice aa (l.length+1) ac,?_⟩;unfold eK;rw [List.length_append,List.length_singleton];exact (hset.to (by unfold fP;ac_rfl:_=(pt (wr.heap.size+1) (.cells #[.string (str x.nm)] 9 (0,0))*pt wr.heap.size (.cells #[.int .i64 (x.nd:Int),.string (str x.nm)] 99 (0,0)))*(sl 9 1 (.slice aa (l.length+1) ac) (l.length+1) (strs (l++[x.nm]))*(fP rc (.slice aa (l.length+1) ac)*(gr (.slice (some ⟨g,0,none⟩) W.length uc) W*Z))))).right
      have Hnew:=ae hnew;have Hsd:=ae ((((hside.alloc (.cells #[.int .i64 (x.nd:Int),.string (str x.nm)] 99 (0,0))).alloc (.cells #[.string (str x.nm)] 9 (0,0))).trans hside').setCell ⟨rc,0,none⟩ (.slice aa (l.length+1) ac));have Hrun:=ae hrun;have Hi:=ae hi;clear hsat h1 h2 hA hR hi' hz hs0 hb0 hA4 hrun hsat' hside' hset hnew e htk hl hside HR0 hi hiW l1 hll;obtain ⟨ll,hlen⟩:∃ ll,l.length=ll:=⟨_,rfl⟩
      rw [hlen] at Hrun Hnew Hsd c0 c0';clear hlen;have l2':(uc:Int)≤9223372036854775807:=by omega
      clear l2
      go_wp2_with (at_builtin;refine wpList_append_run Hrun.out _ _ rfl rfl rfl rfl rfl ?_)
      refine ⟨⟨i+1,by have:=HN.out;omega,by go_num,Hsd.out,Hnew.out⟩,by simp [Proofs.intOf];omega⟩
     ·obtain rfl:i=N:=by omega
      have h1:Sat wr (xf rc (W.map aM.nm)*(gr (.slice ua W.length uc) W*Z)):=by rw [List.take_of_length_le (by rw [HN.out];exact Nat.le_refl _)] at hsat;exact hsat
      rw [HZ.out] at h1
      have h2:Sat wr (uh rc L*(vA x b v T k*(aA pc p*F))):=by
       unfold uh;rw [Sat.au];refine ⟨W,?_⟩;rw [aw];exact Sat.ak.2 ⟨⟨PW.out,SW.out⟩,(h1.to (by ac_rfl:_=(gr (.slice ua W.length uc) W*eK u ps)*(xf rc (W.map aM.nm)*(vA x b v T k*(aA pc p*F))))).right⟩
      have hfin:=ae (HQ.out (.returned (.tuple #[])) wr ⟨hside,.inl ⟨rfl,rfl,h2.to (by ac_rfl)⟩⟩);clear h1 h2 HQ hsat hside HR0
      go_wp2_with fail
      go_end0
      exact hfin.out
  ·have hoc:wc=lG T p:=by rw [HOC.out,if_pos hc]
   exact absurd (hoc.trans hgd) hc
end
section
variable {t:Pl} {q:Dk t.n} {s s':Ds} {T:Tr} {k m:Nat} {O:kg} {w:World} {F:ah} {p:List UInt8}
def Rj (t:Pl) (m:Nat) (s:Ds) (O:kg) (c:Int) (L:List aM) (F:ah) (w:World) (e:Ending) (w':World):Prop:=
 ∃ s',ai w w'∧s.Rd s'∧((c≠0∧e = .returned (.tuple #[.slice none 0 0,.int .i64 c])∧Sat w' (dM t s' m O*F)) ∨
  (c=0∧∃ u W,W.Perm L∧jD zr W∧e = .returned (.tuple #[u,.int .i64 0])∧Sat w' (eK u (W.map aM.nm)*(dM t s' m O*F))))
theorem Ab (hf:nr t q s T k) (hB:s.B≤1000000) (hgd:lG T p=0) (hs9:(eI (T (bW T p).2)).length≤yz) (h:Sat w (dM t s m O*F)) :
  Calls Tryz.prog 22 #[ax t.f,.string (str p)] w (Rj t m s O (lG T p) (eI (T (bW T p).2)) F w):=by
 refine aI fun Q HQ=>?_;have hA:=((h.alloc (.cells #[.string (str p)] 9 (0,0))).alloc (.cells #[.slice none 0 0] 52 (0,0)))
 simp only [World.size_alloc] at hA;have dA:=ae (((ai.refl w).alloc (.cells #[.string (str p)] 9 (0,0))).alloc (.cells #[.slice none 0 0] 52 (0,0)))
 have hd:=ae fun (pc rc:Nat) (w':World) (h':Sat w' (dM t s m O*((aA pc p*fP rc (.slice none 0 0))*F)))=>
  iP hf hB 55 #[ax pc,ax rc] (aA pc p*fP rc (.slice none 0 0)) (lG T p) (aA pc p*uh rc (eI (T (bW T p).2))) (aA pc p*fP rc (.slice none 0 0)) (enters Tryz.func55 (by kernel_rfl) rfl)
   (fun x v b w1 H hw=>(Mp (x:=x) (b:=b) (v:=v) (k:=k) (pc:=pc) (rc:=rc) (F:=ew t m O*H) (p:=p) hf.ty hgd hs9 (hw.to (by ac_rfl))).mono fun e w' hq=>by simpa only [aw] using hq) h'
 have HA:=ae hA;clear hgd;unfold Rj at HQ;clear h hA hB hf;generalize lG T p=cc at *;generalize eI (T (bW T p).2)=L at *
 go_enter Tryz.func22,Tryz.ntmps22
 go_wp2_with fail
 generalize (w.alloc (.cells #[.string (str p)] 9 (0,0))).alloc (.cells #[.slice none 0 0] 52 (0,0))=w1 at *;generalize w.heap.size=pc at *;refine (hd.out pc (pc+1) _ (HA.out.to (by unfold aA fP;ac_rfl))).mono ?_;rintro e w2 ⟨s',rfl,d2,hr,h2⟩;have D2:=ae (dA.out.trans d2);clear hd dA HA d2
 by_cases hc:cc=0
 ·subst hc
  rw [if_pos rfl] at h2;have h3:=h2.to (by unfold uh;ac_rfl:_=(ex fun W:List aM=>fact (W.Perm L∧jD zr W)*xf (pc+1) (W.map aM.nm))*(dM t s' m O*(aA pc p*F)));obtain ⟨W,h4⟩:=Sat.au.1 h3;rw [aw] at h4;obtain ⟨⟨pW,sW⟩,h5⟩:=Sat.ak.1 h4;obtain ⟨u,h6⟩:=pk.1 h5;obtain ⟨ua,uc,rfl⟩:=aB h6;have t0:w2.cell? ⟨pc+1,0,none⟩=some (.slice ua (W.map aM.nm).length uc):=h6.ag.cell 0;have hfin:=ae (HQ.out _ _ ⟨s',D2.out,hr,.inr ⟨rfl,_,W,pW,sW,rfl,(h6.to (by ac_rfl:_=(fP (pc+1) (.slice ua (W.map aM.nm).length uc)*aA pc p)*(eK (.slice ua (W.map aM.nm).length uc) (W.map aM.nm)*(dM t s' m O*F)))).right⟩⟩);clear h2 h3 h4 h5 h6 HQ hr D2 pW sW;generalize (W.map aM.nm).length=ln at *
  go_wp2_with fail
  exact hfin.out
 ·rw [if_neg hc] at h2
  have hfin:=ae (HQ.out _ _ ⟨s',D2.out,hr,.inl ⟨hc,rfl,(h2.to (by ac_rfl:_=(aA pc p*fP (pc+1) (.slice none 0 0))*(dM t s' m O*F))).right⟩⟩);clear h2 HQ hr D2
  go_wp2_with fail
  exact hfin.out
end
end Go.Cl
namespace Go.SL
open Go.RowKit
def vN (T:Tr) (d id:Nat) (nm:List UInt8) (f:AF) (L:List aM):Tr:=Go.SL.eS (lr T d (L++[⟨id,nm⟩])) id (some (.file { f with lk:=f.lk+1 }))
theorem Tidy.L7 {n id:Nat} {T:Tr} {f:AF} (h:Tidy n T) (hT:T id=some (.file f)):0≤f.lk:=by
 have:=h.ref id;rw [hT] at this;simp only [Ge] at this;omega
theorem Tidy.LY {n id:Nat} {T:Tr} {f:AF} (h:Tidy n T) (hT:T id=some (.file f)):id≠1:=by
 rintro rfl;obtain ⟨L,hL⟩:=h.root;rw [hL] at hT;cases hT
theorem Tidy.link {n d id:Nat} {T:Tr} {L:List aM} {nm:List UInt8} {f:AF} (h:Tidy n T) (hT:T id=some (.file f)) (hd:T d=some (.dir L)) (hid:0<id) (hn3:n≤3840) (hn:cy nm=true) (hp:jF L nm=none) (hl:L.length<3840):Tidy n (vN T d id nm f L):=by
 have hne:id≠d:=by rintro rfl;rw [hT] at hd;cases hd
 have hlt:=h.lt hT;have h1:=h.w.add hd ((h.dirs _ _ hd).snoc (id:=id) (by omega) (by omega) hn hp hl);have hy:lr T d (L++[⟨id,nm⟩]) id=some (.file f):=by unfold lr;rw [aQ _ _ hne];exact hT
 have h2:=h1.leaf (y':=some (.file { f with lk:=f.lk+1 })) hy rfl rfl (h.LY hT) (fun L e=>by cases e) (fun g e=>by cases e;exact (h.files _ _ hT:f.kd=1));refine h2.tidy fun x=>?_
 by_cases e:x=id
 ·subst e;simp [Ge];omega
 ·simp [e]
def gw (T:Tr) (k:Nat) (p1 p2:List UInt8):Int:=match aV p1,aV p2 with
 | some ps,some qs=>if (aR T 1 ps).1≠0 then (aR T 1 ps).1 else match T (aR T 1 ps).2 with
  | some (.file f)=>if fj T qs≠0 then fj T qs else if 60000≤f.lk then 9 else jZ k (eI (T (fD T qs))) (cQ qs)
  | _=>8
 | _,_=>1
def zV (T:Tr) (k:Nat) (p1 p2:List UInt8) (c:Int) (T':Tr) (k':Nat):Prop:=
 c=gw T k p1 p2∧(c=0→∃ ps qs id f L,aV p1=some ps∧aV p2=some qs∧aR T 1 ps=(0,id)∧T id=some (.file f)∧T (fD T qs)=some (.dir L)∧jF L (cQ qs)=none ∧
  T'=vN T (fD T qs) id (cQ qs) f L∧k'=k+cq L.length-cq (L.length+1))
end Go.SL
namespace Go.Cl
open Go.RowKit Go.SL Go.Nn Go.Ba Go.Su Go.Fs
attribute [local go_sem] Oper.semAt_some
section
variable {n:Nat} {x:Fx n} {b v pc qc k:Nat} {T:Tr} {w:World} {F:ah} {p1 p2:List UInt8}
theorem II (hn:n≤3840) (ht:Tidy n T) (hpos:∀ id y,T id=some y→0<id) (hgd:gw T k p1 p2=0) (h:Sat w (vA x b v T k*(aA pc p1*(aA qc p2*F)))) :
  Calls Tryz.prog 50 #[ax v,ax pc,ax qc] w (QJ x b v (zV T k p1 p2) (aA pc p1*(aA qc p2*F)) w):=by
 refine aI fun Q HQ=>?_;have k0:w.cell? ⟨pc,0,none⟩=some (.string (str p1))∧w.cell? ⟨qc,0,none⟩=some (.string (str p2)):=⟨h.ag.cell 0,h.aq.cell 0⟩
 have H:=ae h;have HT:=ae ht;clear h ht
 cases hs:aV p1 with
 | none=>
  have hc:(1:Int)=gw T k p1 p2:=by unfold gw;rw [hs]
  exact absurd (hc.trans hgd) (by decide)
 | some ps=>
  cases hs2:aV p2 with
  | none=>
   have hc:(1:Int)=gw T k p1 p2:=by unfold gw;rw [hs,hs2]
   exact absurd (hc.trans hgd) (by decide)
  | some qs=>
   obtain ⟨hok,hl⟩:=di hs;obtain ⟨hok2,hl2⟩:=di hs2;have hk:=ae (dK (w:=w.drew) hs);have hk2:=ae fun w'=>dK (w:=w') hs2
   have HOC:=ae (show gw T k p1 p2=if (aR T 1 ps).1≠0 then (aR T 1 ps).1 else match T (aR T 1 ps).2 with
    | some (.file f)=>if fj T qs≠0 then fj T qs else if 60000≤f.lk then 9 else jZ k (eI (T (fD T qs))) (cQ qs)
    | _=>8 by unfold gw;rw [hs,hs2])
   have hy:=fun h0=>HT.out.walk ps HT.out.root.choose_spec h0;have HY:=ae hy;have HL:=ae hl;have HL2:=ae hl2;have HOK2:=ae hok2;have HPOS:=ae hpos
   have HQ0:=ae fun (id:Nat) (f:AF) (L:List aM) (e1:aR T 1 ps=(0,id)) (e2:T id=some (.file f)) (e3:T (fD T qs)=some (.dir L)) (e4:jF L (cQ qs)=none) (e5:gw T k p1 p2=0) (e6:Tidy n (vN T (fD T qs) id (cQ qs) f L)) (w':World) (d:ai w w') (hs':Sat w' (vA (x.more 8) b v (vN T (fD T qs) id (cQ qs) f L) (k+cq L.length-cq (L.length+1))*(aA pc p1*(aA qc p2*F))))=>
    HQ.out (.returned (.tuple #[])) w' ⟨0,_,_,8,⟨e5.symm,fun _=>⟨ps,qs,id,f,L,hs,hs2,e1,e2,e3,e4,rfl,rfl⟩⟩,fun _=>e6,.inl ⟨rfl,rfl⟩,d,by decide,hs'⟩
   clear hs hs2 HQ hok hl hok2 hl2 hy hpos
   go_enter Tryz.func50,Tryz.ntmps50
   go_wp2_with fail
   go_region_held3 (fun w'=>w'.cell? ⟨pc,0,none⟩=some (.string (str p1))∧w'.cell? ⟨qc,0,none⟩=some (.string (str p2)))
    (first|exact k0|exact k1|exact k2|go_keep)
    (first
     | (go_at_call 32;(with_reducible refine (hk2.out _).mono ?_);rintro e w5 ⟨u2,rfl,d5,h6⟩;have h7:=h6.under h5;have k2:w5.cell? ⟨pc,0,none⟩=some (.string (str p1))∧w5.cell? ⟨qc,0,none⟩=some (.string (str p2)):=⟨h7.aC.cell 0,h7.aG.cell 0⟩)
     | (go_at_call 32;(with_reducible refine hk.out.mono ?_);rintro e w4 ⟨u,rfl,d4,h4⟩;have h5:=h4.under H.out.drew;have k1:w4.cell? ⟨pc,0,none⟩=some (.string (str p1))∧w4.cell? ⟨qc,0,none⟩=some (.string (str p2)):=⟨h5.aq.cell 0,h5.aC.cell 0⟩))
   rename_i hHeld;have h8:=h7.to (by ac_rfl:_=vA x b v T k*(eK u ps*(eK u2 qs*(aA pc p1*(aA qc p2*F)))));have hw:=ae (fI HT.out HL.out iz h8);have D5:=ae (((ai.refl w).drew.trans d4).trans d5);clear hHeld k0 k1 k2 h4 h5 h6 h7 h8 d4 d5 hk hk2 H HL;obtain ⟨pw,hpw⟩:∃ pw,aR T 1 ps=pw:=⟨_,rfl⟩
   rw [hpw] at hw HY HOC HQ0;clear hpw;obtain ⟨wc,id⟩:=pw;dsimp only at hw HY HOC
   go_wp2_with fail
   refine hw.out.mono ?_;rintro e w6 ⟨he,d6,h6⟩;clear hw;have D6:=ae (D5.out.trans d6);clear D5 d6;rcases he with ⟨rfl,rfl⟩|⟨hc,rfl⟩
   ·obtain ⟨y,hy⟩:=HY.out rfl
    have hfl:=ae (mX hy h6);clear h6
    go_wp2_with fail
    refine hfl.out.mono ?_;rintro e w7 hq;rcases hq with ⟨hk1,z,rfl,y16,ykd,ylk,ysz,d7,h7⟩|⟨hk1,rfl,d7,h7⟩
    ·cases y with
     | dir L=>exact absurd hk1 (by show ¬ (2:Int)=1;decide)
     | file f=>
      have hoc:gw T k p1 p2=if fj T qs≠0 then fj T qs else if 60000≤f.lk then 9 else jZ k (eI (T (fD T qs))) (cQ qs):=by rw [HOC.out,if_neg (by decide),hy]
      have HOC2:=ae hoc;obtain ⟨hX,hone,hinf⟩:=lM y16;have hB:=h7.alloc (.cells ny 73 (0,0));have Hz:=ae hB.heap;have hE:=hB.setRow (cs':=ints z.l);have n1:((w7.alloc (.cells ny 73 (0,0))).setRow w7.heap.size (ints z.l)).cell? ⟨w7.heap.size,1,none⟩=some (.int .i64 f.lk):=by rw [show f.lk=z.lk from ylk.symm];exact hE.cell 1
      have HE:=ae (hE.to (by ac_rfl:_=vA x b v T k*(eK u2 qs*(pt w7.heap.size (.cells (ints z.l) 73 (0,0))*(eK u ps*(aA pc p1*(aA qc p2*F)))))));have D7:=ae (((D6.out.trans d7).alloc (.cells ny 73 (0,0))).setRow w7.heap.size (ints z.l));have Hone:=ae hone;have Hinf:=ae hinf;have HX:=ae hX;have N1:=ae n1;have HK1:=ae hk1;have HFY:=ae hy;clear hfl hB hE hX hone hinf n1 d7 h7 y16 ykd ylk ysz hy HY HOC hoc hk1 D6;unfold ny at *
      go_upto_region 3 with (refine wpList_store_row (by exact rfl) 73 (.tmp 7) (.tmp 18) (by exact rfl) w7.heap.size (ints z.l) (by exact rfl) (by exact rfl) 73 _ (by with_reducible exact Hz.out) Hinf.out (by rw [HX.out];rfl) Hone.out ?_)
      generalize hw8:(w7.alloc (.cells #[.int .i64 0,.int .i64 0,.int .i64 0,.int .i64 0,.int .i64 0,.int .i64 0,.int .i64 0,.int .i64 0,.int .i64 0,.int .i64 0,.int .i64 0,.int .i64 0,.int .i64 0,.int .i64 0,.int .i64 0,.int .i64 0,.int .i64 0,.int .i64 0,.int .i64 0,.int .i64 0] 73 (0,0))).setRow w7.heap.size (ints z.l)=w8 at *;generalize w7.heap.size=nb at *;have hfr:=ae (sX HT.out HL2.out (fun W P hW=>eF hW) iz HE.out);clear hw8 Hz Hone Hinf HX
      go_wp2_with fail
      refine hfr.out.mono ?_;rintro e w9 ⟨he,d9,h9⟩;have n1:w9.cell? ⟨nb,1,none⟩=some (.int .i64 f.lk):=(h9.aq.cell 1).trans ((HE.out.aq.cell 1).symm.trans N1.out);have D9:=ae (D7.out.trans d9);clear hfr HE N1 D7 d9;rcases he with ⟨hfr0,rfl⟩|⟨hc,rfl⟩
      ·obtain ⟨hne,L,hd,hp⟩:=wg HT.out hfr0
       have hnm:=C8 HOK2.out hne;have hoc:gw T k p1 p2=if 60000≤f.lk then 9 else jZ k L (cQ qs):=by rw [HOC2.out,if_neg (by rw [hfr0];simp),hd];rfl
       have HOC3:=ae hoc;have HQ1:=ae fun e5 e6=>HQ0.out id f L rfl HFY.out hd hp e5 e6;have hE:=HT.out.dirs _ _ hd;have hidpos:=HPOS.out _ _ HFY.out;have hidn:=HT.out.lt HFY.out;have htl:=fun hl=>HT.out.link HFY.out hd hidpos hn hnm hp hl;have HTL:=ae htl;obtain ⟨d,hdE⟩:∃ d,fD T qs=d:=⟨_,rfl⟩
       obtain ⟨nm,hnE⟩:∃ nm,cQ qs=nm:=⟨_,rfl⟩
       rw [hdE,hnE] at HQ1 HTL ⊢;rw [hnE] at HOC3 hnm hp;rw [hdE] at hd;have hB:=h9.alloc (.cells #[.int .i64 (d:Int),.string (str nm)] 92 (0,0));have dB:=ae (D9.out.alloc (.cells #[.int .i64 (d:Int),.string (str nm)] 92 (0,0)));have n1':=bH w9 (.cells #[.int .i64 (d:Int),.string (str nm)] 92 (0,0)) _ _ n1;have hC:=hB.to (by ac_rfl:_=vA x b v T k*(pt w9.heap.size (.cells #[.int .i64 (d:Int),.string (str nm)] 92 (0,0))*(eK u2 qs*(pt nb (.cells (ints z.l) 73 (0,0))*(eK u ps*(aA pc p1*(aA qc p2*F)))))));have s0:(w9.alloc (.cells #[.int .i64 (d:Int),.string (str nm)] 92 (0,0))).cell? ⟨w9.heap.size,0,none⟩=some (.int .i64 (d:Int)):=hB.cell 0;have s1:(w9.alloc (.cells #[.int .i64 (d:Int),.string (str nm)] 92 (0,0))).cell? ⟨w9.heap.size,1,none⟩=some (.string (str nm)):=hB.cell 1;have ha:=ae (zq (child:=id) hidpos (by omega) hd hE hnm hC);have HB:=ae hC;have HD:=ae hd;have HP:=ae hp;have hlk0:=HT.out.L7 HFY.out;have hck:=ae fun w=>dy w 9 (by decide);have hlt2:nb<w9.heap.size:=World.block_lt_of_cell? w9 _ n1;clear hB hC h9 hd hE hnm hp hoc hdE hnE hfr0 hne HOC2 HQ0 hidpos htl n1
       by_cases hlk:60000≤f.lk
       ·exact absurd ((by rw [HOC3.out,if_pos hlk]:gw T k p1 p2=9).symm.trans hgd) (by decide)
       ·have hlk':f.lk<60000:=by omega
        have HOC4:=ae (show gw T k p1 p2=jZ k L nm by rw [HOC3.out,if_neg hlk]);clear HOC3;obtain ⟨lk,hlkE⟩:∃ lk,f.lk=lk:=⟨_,rfl⟩
        rw [hlkE] at n1' hlk hlk' hlk0;have HLK:=ae hlkE;clear hlkE
        go_wp2_with fail
        generalize w9.alloc (.cells #[.int .i64 (d:Int),.string (str nm)] 92 (0,0))=w10 at *;generalize w9.heap.size=sp at *;refine ha.out.mono ?_;rintro e w11 hq;rcases hq with ⟨ha0,rfl,d11,h11⟩|⟨ha0,rfl,d11,h11⟩
        ·have hl3840:L.length<3840:=by
          unfold jZ at ha0;rw [HP.out] at ha0;simp only [Option.isSome_none,Bool.false_eq_true,if_false] at ha0
          split at ha0
          ·exact absurd ha0 (by decide)
          ·omega
         have hidd:id≠d:=by rintro rfl;have h1:=HFY.out;have h2:=HD.out;rw [h1] at h2;cases h2
         have hf2:gG (lr T d (L++[⟨id,nm⟩])) id=some f:=mn (by unfold lr;rw [aQ _ _ hidd];exact HFY.out);have hwr:wrap64 (f.lk+1)=f.lk+1:=by have:=HLK.out;unfold wrap64;omega
         have h12:=h11.to (by unfold vA;ac_rfl:_=et (x.more 5) b (gG (lr T d (L++[⟨id,nm⟩]))) (k+cq L.length-cq (L.length+1))*(pt v (bV b n)*(pt sp (.cells #[.int .i64 (d:Int),.string (str nm)] 92 (0,0))*(eK u2 qs*(pt nb (.cells (ints z.l) 73 (0,0))*(eK u ps*(aA pc p1*(aA qc p2*F))))))));have v0:w11.cell? ⟨v,0,none⟩=some (ax b):=h12.ag.cell 0;have v1:w11.cell? ⟨v,1,none⟩=some (.int .i64 (n:Int)):=h12.ag.cell 1;have hlk2:=ae (Mb h12 hf2 1 (by rw [hwr];have:=HLK.out;omega));have HW:=ae hwr;have Hck:=ae du;have HQ2:=ae (HQ1.out (by rw [HOC4.out,ha0]) (HTL.out hl3840));have D11:=ae (dB.out.trans d11);clear h11 h12 hf2 hwr hidd hl3840 ha0 d11 dB ha HB n1' s0 s1 hlk hlk' hlk0 HQ1 HTL HOC4
         go_wp2_with fail
         refine hlk2.out.mono ?_;rintro e w12 ⟨rfl,d12,h13⟩;rw [HW.out,show eS (gG (lr T d (L++[⟨id,nm⟩]))) id (some { f with lk:=f.lk+1 })=gG (vN T d id nm f L) from xx (lr T d (L++[⟨id,nm⟩])) id (.file { f with lk:=f.lk+1 })] at h13;have hfin:=ae (HQ2.out w12 (D11.out.trans d12) (h13.to (by unfold vA;ac_rfl:_=(pt sp (.cells #[.int .i64 (d:Int),.string (str nm)] 92 (0,0))*(eK u2 qs*(pt nb (.cells (ints z.l) 73 (0,0))*eK u ps)))*(vA (x.more 8) b v (vN T d id nm f L) (k+cq L.length-cq (L.length+1))*(aA pc p1*(aA qc p2*F))))).right);clear hlk2 h13 d12 D11 HQ2 v0 v1
         go_wp2_with fail
         refine (Hck.out _).mono ?_;rintro e w13 ⟨rfl,rfl⟩
         go_wp2_with fail
         go_end0
         exact hfin.out
        ·exact absurd (HOC4.out.symm.trans hgd) ha0
      ·exact absurd ((by rw [HOC2.out,if_pos hc]:gw T k p1 p2=_).symm.trans hgd) hc
    ·have hoc:(8:Int)=gw T k p1 p2:=by
      rw [HOC.out,if_neg (by decide),hy]
      cases y with
      | dir L=>rfl
      | file f=>exact absurd (HT.out.files _ _ hy) hk1
     exact absurd (hoc.trans hgd) (by decide)
   ·exact absurd ((by rw [HOC.out,if_pos hc]:gw T k p1 p2=_).symm.trans hgd) hc
end
section
variable {t:Pl} {q:Dk t.n} {s s':Ds} {T:Tr} {k m:Nat} {O:kg} {w:World} {F:ah} {p1 p2:List UInt8}
theorem nr.pos (h:nr t q s T k):∀ id y,T id=some y→0<id:=fun id y hy=>(h.at_.has.wf (f:=y.af) (by unfold gG;rw [hy];rfl)).2.1
theorem Jh (hf:nr t q s T k) (hB:s.B≤1000000) (hgd:gw T k p1 p2=0) (h:Sat w (dM t s m O*F)) :
  Calls Tryz.prog 19 #[ax t.f,.string (str p1),.string (str p2)] w (Pd t q m s O (zV T k p1 p2) F w):=by
 refine aI fun Q HQ=>?_;have hA:=(h.alloc (.cells #[.string (str p1)] 9 (0,0))).alloc (.cells #[.string (str p2)] 9 (0,0));simp only [World.size_alloc] at hA;have dA:=ae (((ai.refl w).alloc (.cells #[.string (str p1)] 9 (0,0))).alloc (.cells #[.string (str p2)] 9 (0,0)))
 have hd:=ae fun (pc qc:Nat) (w':World) (h':Sat w' (dM t s m O*((aA pc p1*aA qc p2)*F)))=>
  sY hf hB 50 #[ax pc,ax qc] (aA pc p1*aA qc p2) (zV T k p1 p2) (enters Tryz.func50 (by kernel_rfl) rfl)
   (fun x v b w1 H hw=>(II (x:=x) (b:=b) (v:=v) (k:=k) (pc:=pc) (qc:=qc) (F:=ew t m O*H) (p1:=p1) (p2:=p2) hf.hn hf.ty hf.pos hgd (hw.to (by ac_rfl))).mono fun e w' hq=>by simpa only [aw] using hq) h'
 have HA:=ae hA;clear hgd;clear h hA hf hB
 go_enter Tryz.func19,Tryz.ntmps19
 go_wp2_with fail
 generalize (w.alloc (.cells #[.string (str p1)] 9 (0,0))).alloc (.cells #[.string (str p2)] 9 (0,0))=w1 at *;generalize w.heap.size=pc at *;refine (hd.out pc (pc+1) _ (HA.out.to (by unfold aA;ac_rfl))).mono ?_;rintro e w2 ⟨c,T',k',s',hR,rfl,d2,hr,h2⟩;have hfin:=ae (HQ.out _ _ ⟨c,T',k',s',hR,rfl,dA.out.trans d2,hr,(h2.to (by ac_rfl:_=(aA pc p1*aA (pc+1) p2)*(dM t s' m O*F))).right⟩);clear hd dA HA d2 hr hR h2 HQ
 go_wp2_with fail
 exact hfin.out
end
end Go.Cl
namespace Go.SL
def lU (ps qs:List (List UInt8)):Bool:=decide (ps.length<qs.length) && decide (ps=qs.take ps.length)
end Go.SL
namespace Go.Cl
open Go.RowKit Go.SL Go.Nn Go.Ba Go.Su Go.Fs
attribute [local go_sem] Oper.semAt_some
section
variable {w:World} {F:ah} {ps qs:List (List UInt8)} {u1 u2:Value}
theorem str_inj {a c:List UInt8} (h:str a=str c):a=c:=by
 have:=congrArg (fun x:ByteArray=>x.data.toList) h;simpa [str] using this
theorem qS:∀ {a c:List (List UInt8)},a.map str=c.map str→a=c
 | [],[],_=>rfl
 | [],_ :: _,h=>by simp at h
 | _ :: _,[],h=>by simp at h
 | x :: a,y :: c,h=>by
  simp only [List.map_cons,List.cons.injEq] at h;rw [str_inj h.1,qS h.2]
theorem ow {u:Value} (hne:ps≠[]) (h:Sat w (eK u ps*F)):∃ g c,u = .slice (some ⟨g,0,none⟩) ps.length c∧ps.length≤c∧c≤9223372036854775807∧∀ j,j<(ps.map str).length→w.cell? ⟨g,0+j,none⟩=some (.string ((ps.map str).getD j ByteArray.empty)):=by
 have hp:=List.length_pos_iff.2 hne;rcases Sat.cX (show Sat w (sl 9 1 u ps.length (strs ps)*F) from h) with ⟨_,h0,_⟩|⟨g,cap,cur,rfl,h3,h4,h5,h6,h7⟩
 ·omega
 ·refine ⟨g,cap,rfl,h3,by unfold maxLen at h4;omega,fun j hj=>?_⟩
  rw [List.length_map] at hj
  have e:(strs ps)[j]?=some (.string ((ps.map str).getD j ByteArray.empty)):=by
   unfold strs;rw [List.getElem?_map,List.getElem?_eq_getElem hj,List.getD,List.getElem?_map,List.getElem?_eq_getElem hj]
   rfl
  rw [Nat.zero_add,h7.cell,← e,← h6,List.getElem?_take,if_pos (by omega),Array.getElem?_toList]
theorem Eo (hne:ps≠[]) (hl1:ps.length≤1000) (hl2:qs.length≤1000) (h:Sat w (eK u1 ps*(eK u2 qs*F))) :
  Calls Tryz.prog 58 #[u1,u2] w fun e w'=>e = .returned (.bool (lU ps qs))∧ai w w'∧Sat w' (eK u1 ps*(eK u2 qs*F)):=by
 refine aI fun Q HQ=>?_;have H:=ae h;have hp:=List.length_pos_iff.2 hne
 by_cases hlt:ps.length<qs.length
 ·have hne2:qs≠[]:=fun e=>by rw [e] at hlt;simp at hlt
  obtain ⟨g1,c1,rfl,k1,l1,z1⟩:=ow hne h;obtain ⟨g2,c2,rfl,k2,l2,z2⟩:=ow hne2 h.ag;have heq:=Tryz.slices_Equal_string g1 0 ps.length c1 g2 0 ps.length c2 (ps.map str) (qs.map str) w (by rw [List.length_map];exact Nat.le_refl _) (by rw [List.length_map];omega) (by omega) (by omega) z1 z2
  have hd:decide ((ps.map str).take ps.length=(qs.map str).take ps.length)=lU ps qs:=by
   unfold lU;rw [decide_eq_true hlt,Bool.true_and];refine decide_eq_decide.2 ⟨fun e=>?_,fun e=>?_⟩
   ·rw [List.take_of_length_le (by rw [List.length_map];exact Nat.le_refl _),← List.map_take] at e
    exact qS e
   ·rw [List.take_of_length_le (by rw [List.length_map];exact Nat.le_refl _),← List.map_take,← e]
  rw [hd] at heq;have HE:=ae heq;have hi:(ps.length:Int)<(qs.length:Int):=by omega
  have hc:(ps.length:Int)≤(c2:Int):=by omega
  have hc2:(c2:Int)≤9223372036854775807:=by omega
  have hp0:(0:Int)≤(ps.length:Int):=by omega
  clear h heq hd z1 z2 hlt hp l1 l2 k1 k2;generalize lU ps qs=bb at *;obtain ⟨pn,hpn⟩:∃ pn,ps.length=pn:=⟨_,rfl⟩
  obtain ⟨qn,hqn⟩:∃ qn,qs.length=qn:=⟨_,rfl⟩
  rw [hpn] at HE H hi hc hp0 HQ ⊢;rw [hqn] at H hi HQ ⊢;clear hpn hqn hl1 hl2
  go_enter Tryz.func58,Tryz.ntmps58
  go_wp2_with fail
  refine HE.out.mono ?_;rintro e w2 ⟨rfl,nq,rfl⟩;have hfin:=ae (HQ.out _ (w.drewN nq) ⟨rfl,(ai.refl w).trans ⟨rfl,rfl,rfl,Nat.le_refl _⟩,H.out⟩);clear HE H HQ
  go_wp2_with fail
  exact hfin.out
 ·have hb:lU ps qs=false:=by unfold lU;rw [decide_eq_false hlt];rfl
  rw [hb] at HQ;have hfin:=ae (HQ.out _ _ ⟨rfl,ai.refl w,h⟩);obtain ⟨a1,n1,rfl⟩:=eF h;obtain ⟨a2,n2,rfl⟩:=eF h.ag;have hi:¬ (ps.length:Int)<(qs.length:Int):=by omega
  clear h HQ H hlt hb hp;generalize ps.length=pn at *;generalize qs.length=qn at *
  go_enter Tryz.func58,Tryz.ntmps58
  go_wp2_with fail
  exact hfin.out
end
section
variable {t:Pl} {S:Hp} {J:Jr} {D D':ay} {fc m:Nat}
theorem F4 (hfl:J.flush D=(0,J,D')) (hJ:J.Ok) (hD':D'.Ok) :
  Oy t S (.map (some m)) J D 119 #[ax fc] (bY t fc) (fun c M G'=>c=0∧M=⟨0,[],[],(J,D')⟩∧G'=bY t fc):=by
 intro v b w1 H hw;refine aI fun Q HQ=>?_;have h1:Sat w1 (Ms t.s t.j t.d t.n t.P S (J,D)*(az 176 5 uy b (xG t S).rd 0 [] []*(pt t.f (gU t (.map (some m)))*(pt v (bV b t.n)*(aj uy*(bY t fc*H)))))):=hw.to (by unfold cC;show _=(xG t S).RI (J,D)*_;ac_rfl);obtain ⟨hok,h2⟩:=mu h1;have f0:w1.cell? ⟨fc,0,none⟩=some (ax t.f):=(hw.to (by unfold bY;ac_rfl:_=pt fc (.cells #[ax t.f] 25 (0,0))*(pt t.f (gU t (.map (some m)))*(pt v (bV b t.n)*(cC (xG t S) uy b ⟨0,[],[],(J,D)⟩*(aj uy*H)))))).cell 0;have s0:w1.cell? ⟨t.f,0,none⟩=some (ax t.s):=hw.cell 0;have hs:=ae (Kh w1 S t.s t.j t.d t.n t.P J D _ h2 hok.2);have Hck:=ae du;have HF:=ae hfl;clear hw h1 h2 hfl
 go_enter Tryz.func119,Tryz.ntmps119
 go_wp2_with fail
 refine hs.out.mono ?_;rintro e w2 ⟨rfl,h3,d3⟩;rw [HF.out] at h3 ⊢;have h4:=yD (x:=(J,D')) hJ hD' h3;have hfin:=ae (HQ.out (.returned (.tuple #[])) w2 ⟨0,uy,⟨0,[],[],(J,D')⟩,bY t fc,⟨rfl,rfl,rfl⟩,.inl ⟨rfl,rfl⟩,d3,h4.to (by unfold cC;show (xG t S).RI (J,D')*_=_;ac_rfl)⟩);clear h3 h4 HQ hs d3
 go_wp2_with fail
 refine (Hck.out _).mono ?_;rintro e w3 ⟨rfl,rfl⟩
 go_wp2_with fail
 go_end0
 exact hfin.out
end
section
variable {t:Pl} {q:Dk t.n} {s:Ds} {T:Tr} {k m:Nat} {O:kg} {w:World} {F:ah}
def Pt (t:Pl) (q:Dk t.n) (m:Nat) (s:Ds) (T:Tr) (k:Nat) (O:kg) (F:ah) (w:World) (e:Ending) (w':World):Prop:=
 e = .returned (.int .i64 0)∧ai w w'∧nr t q ⟨s.J,s.D.aE,s.has,s.B+1⟩ T k∧Sat w' (dM t ⟨s.J,s.D.aE,s.has,s.B+1⟩ m O*F)
theorem Ls (hf:nr t q s T k) (hB:s.B≤1000000) (h:Sat w (dM t s m O*F)) :
  Calls Tryz.prog 65 #[ax t.f] w (Pt t q m s T k O F w):=by
 refine aI fun Q HQ=>?_;obtain ⟨J,D,has,B⟩:=s;have hq:q.Q B J D has:=hf.at_.q;have hi:=q.inv hq;have hF2:nr t q ⟨J,D.aE,has,B+1⟩ T k:=⟨⟨q.flush hq hB,hf.at_.has⟩,hf.ty,hf.h4,hf.hn⟩
 have hA:=h.alloc (.cells #[ax t.f] 25 (0,0));have dA:=ae ((ai.refl w).alloc (.cells #[ax t.f] 25 (0,0)));obtain ⟨S,hS⟩:=wD (hA.to (by unfold dM;ac_rfl:_=lA t ⟨J,D,has,B⟩*(pt t.f (gU t (.map (some m)))*(pt w.heap.size (.cells #[ax t.f] 25 (0,0))*(mp m (nu O)*F)))))
 have hd:=ae (Bs t _ S J D (.map (some m)) 119 #[ax w.heap.size] (bY t w.heap.size) (mp m (nu O)*F) (fun c M G'=>c=0∧M=⟨0,[],[],(J,D.aE)⟩∧G'=bY t w.heap.size) hi.ok hi.dok (enters Tryz.func119 (by kernel_rfl) rfl) (F4 hi.flush hi.ok hi.aE.dok)
  (by rintro c M G' ⟨-,rfl,-⟩ - - hne;exact absurd rfl hne) (hS.to (by unfold bY;ac_rfl)))
 have HF2:=ae hF2;clear h hA hS hf hq hi hB hF2
 go_enter Tryz.func65,Tryz.ntmps65
 go_wp2_with fail
 refine hd.out.mono ?_;rintro e w2 ⟨c,M,G',S',J',D',⟨rfl,rfl,rfl⟩,-,rfl,d2,hs,-,hc2⟩;have e:=hc2 (.inr rfl);simp only [Prod.mk.injEq] at e;obtain ⟨rfl,rfl⟩:=e;have hfin:=ae (HQ.out _ _ ⟨rfl,dA.out.trans d2,HF2.out,((kY (s:=⟨J,D.aE,has,B+1⟩) (hs.to (by ac_rfl))).to (by unfold dM;ac_rfl:lA t ⟨J,D.aE,has,B+1⟩*(pt t.f (gU t (.map (some m)))*(bY t w.heap.size*(mp m (nu O)*F)))=bY t w.heap.size*(dM t ⟨J,D.aE,has,B+1⟩ m O*F))).right⟩);clear hd d2 hs hc2 HQ HF2 dA
 go_wp2_with fail
 exact hfin.out
end
theorem Lp (w:World) (pf pe:Addr) :
    CallsD Tryz.prog 106 #[.pointer (some pf),.pointer (some pe)] .returning w fun e u w'=>e = .returned (.tuple #[])∧u = .returning∧w=w':=by
  have hr:=tG w;refine callsD_of_wpS Tryz.func106 rfl fun c₀ cs hu=>?_;apply wpS_seq;apply wpS_region
  simp only [Tryz.ntmps106,List.size_toArray,List.length_cons,List.length_nil,Nat.reduceAdd,Nat.reduceSub,Array.replicate_succ,
     Array.replicate_zero,List.push_toArray,List.append_toArray,List.nil_append,List.cons_append]
  simp [wpOpsS,go_sem,recoverD,hu,Exit.thenS];refine hr.mono ?_;rintro e w2 ⟨rfl,rfl⟩;refine wpS_of_wp ?_
  go_wp2
  cases c₀
  simp_all [bodyPostS,results,Tryz.results106]
theorem BR {w:World} {tmps:Array Value} {a b:Nat} {v e:Value} (h6:tmps[6]?=some (ax a)) (h7:tmps[7]?=some (ax b)) (ha:w.cell? ⟨a,0,none⟩=some v) (hb:w.cell? ⟨b,0,none⟩=some e) :
  (results Tryz.f59 tmps).run Tryz.prog w = .ok (.tuple #[v,e]) w:=by
 have hp:tmps.getD 6 undef=ax a:=by simp [h6]
 have hp7:tmps.getD 7 undef=ax b:=by simp [h7]
 simp [results,Tryz.results59,h6,h7,go_sem,ha,hb]
theorem FB {w:World} {tmps:Array Value} {a b:Nat} {v e:Value} {R:Ending→World→Prop} (h6:tmps[6]?=some (ax a)) (h7:tmps[7]?=some (ax b)) (ha:w.cell? ⟨a,0,none⟩=some v) (hb:w.cell? ⟨b,0,none⟩=some e) (hR:R (.returned (.tuple #[v,e])) w) :
  bodyPostD Tryz.prog Tryz.f59 R Exit.ret { tmps:=tmps,defers:=[{ target:=.fn (.func 106) #[.pointer (some ⟨a,0,none⟩),.pointer (some ⟨b,0,none⟩)],args:=#[] }] } w:=by
 refine leaves_cons (f:=106) (args:=#[.pointer (some ⟨a,0,none⟩),.pointer (some ⟨b,0,none⟩)]) (by simp) (by simp [go_sem]) ?_;refine (Lp w ⟨a,0,none⟩ ⟨b,0,none⟩).mono ?_;rintro e u w7 ⟨rfl,rfl,rfl⟩;exact ⟨_,BR h6 h7 ha hb,hR⟩
section
variable {t:Pl} {S:Hp} {J:Jr} {D:ay} {mv:Value} {M1:gW (Jr × ay)}
theorem BN (h4:4≤t.n) (hn:t.n≤3840) (he:eh (iA (xG t S).ask) ⟨0,[],[],(J,D)⟩=(.ok (),M1)) :
  Oy t S mv J D 63 #[] emp (fun c M G'=>c=0∧M=M1∧G'=emp):=by
 intro v b w1 H hw;refine aI fun Q HQ=>?_;have v0:w1.cell? ⟨v,0,none⟩=some (ax b):=hw.ag.cell 0;have v1:w1.cell? ⟨v,1,none⟩=some (.int .i64 (t.n:Int)):=hw.ag.cell 1;have hs:=ae (DN (xG t S) (GH t S) t.n h4 hn b ⟨0,[],[],(J,D)⟩ w1 uy _ (hw.to (by ac_rfl:_=cC (xG t S) uy b ⟨0,[],[],(J,D)⟩*(aj uy*(pt t.f (gU t mv)*(pt v (bV b t.n)*(emp*H)))))));rw [he] at hs;have Hck:=ae du;clear hw he
 go_enter Tryz.func63,Tryz.ntmps63
 go_wp2_with fail
 refine hs.out.mono ?_;rintro e w2 ⟨S',-,d2,rfl,h2⟩;have hfin:=ae (HQ.out (.returned (.tuple #[])) w2 ⟨0,S',M1,emp,⟨rfl,rfl,rfl⟩,.inl ⟨rfl,rfl⟩,d2,h2.to (by ac_rfl)⟩);have hc:Rs.code (.ok ():Rs Unit)=0:=rfl;rw [hc];clear h2 HQ hs d2 v0 v1
 go_wp2_with fail
 refine (Hck.out _).mono ?_;rintro e w3 ⟨rfl,rfl⟩
 go_wp2_with fail
 go_end0
 exact hfin.out
end
structure Lq (n P B:Nat) (J:Jr) (D:ay) (has:Has):Prop where
 inv:fg J D has
 jn:J.n=(n:Int)
 bound:qh J
 jP:J.P=P
 sq:J.sq≤(B:Int)
theorem Lq.wT {n P B:Nat} {J:Jr} {D:ay} {has:Has} {L:Bl} (hP:5*n+240≤2*P) (h:Lq n P B J D has) (hB:B≤1000000) (hb:Batch (n:Int) L):∃ J' D',eu J D true L=(0,J',D')∧Lq n P (B+1) J' D' (lH has L):=by
 have hb':Batch J.n L:=by rw [h.jn];exact hb
 have hsq:J.sq<281474976710655:=by have:=h.sq;omega
 have hf:=B5 h.inv h.bound (by rw [h.jn,h.jP];omega) hb';obtain ⟨D',hD⟩:=Am h.inv hb' hsq hf;refine ⟨_,D',hD.run,hD.inv,?_,Bt h.inv h.bound hb' hf,h.jP,?_⟩
 ·show J.n=_;exact h.jn
 ·show J.sq+1≤_;have:=h.sq;omega
def Rc (n P:Nat) (hP:5*n+240≤2*P):Dk n:=
 ⟨Lq n P,fun h=>h.inv,fun h=>h.jn,fun h r=>⟨h.inv.cr r,h.jn,h.bound,h.jP,h.sq⟩,fun h hB _ hb=>h.wT hP hB hb,fun h hB=>⟨h.inv.aE,h.jn,h.bound,h.jP,by have:=h.sq;omega⟩⟩
def qJ:Has:=fun _=>none
theorem vQ {n:Nat} (hn:2≤n):Tidy n fH:=by
 have hd:∀ id L,fH id=some (.dir L)→L=[]:=by
  intro id L h;unfold fH at h
  split at h
  ·injection h with h;injection h with h;exact h.symm
  ·cases h
 refine ⟨⟨[],rfl⟩,fun id L h=>?_,fun id f h=>?_,fun id=>?_,fun id h=>?_⟩
 ·rw [hd _ _ h];exact qt.nil
 ·unfold fH at h
  split at h
  ·injection h with h;cases h
  ·cases h
 ·have e:refs n fH id=0:=by
   unfold refs
   have:∀ l:List Nat,(l.map fun d=>(eI (fH d)).countP fun e=>e.nd == id).sum=0:=by
    intro l
    induction l with
    | nil=>rfl
    | cons a l ih=>
     rw [List.map_cons,List.sum_cons,ih];have:eI (fH a)=[]:=by unfold fH;split <;> rfl
     rw [this];rfl
   exact this _
  rw [e];unfold fH
  split
  ·rename_i h;subst h;rfl
  ·rfl
 ·unfold fH;rw [if_neg (by omega)]
theorem Jf:gG fH=fun id=>if id=1 then some (fN 2) else none:=by
 funext id;unfold gG fH
 split
 ·show some (ux.dir []).af=_
  have:=Df (kd:=2) (.inr rfl);rw [show lE 2 = .dir [] from rfl] at this;rw [this]
 ·rfl
section
variable {t:Pl} {q:Dk t.n} {w:World} {F:ah} {J:Jr} {D:ay} {m:Nat}
def NB (t:Pl) (q:Dk t.n) (m:Nat) (F:ah) (w:World) (e:Ending) (w':World):Prop:=
 ∃ s,e = .returned (.tuple #[])∧ai w w'∧s.B≤3∧nr t q s fH (t.n-2)∧Sat w' (dM t s m []*F)
theorem Mj (h4:4≤t.n) (hn:t.n≤3840) (hq:q.Q 1 J D qJ) (h:Sat w (pt t.f (gU t (.map (some m)))*(mp m (nu [])*(lA t ⟨J,D,qJ,1⟩*F)))) :
  Calls Tryz.prog 29 #[ax t.f,.func (.func 63) #[] #[]] w fun e w'=>∃ s,e = .returned (.int .i64 0)∧ai w w'∧s.B≤2∧nr t q s fH (t.n-2)∧Sat w' (dM t s m []*F):=by
 have hG:Go.SL.Good t.n (iK qJ) (IJ J D) ⟨0,[],[],(J,D)⟩:=⟨rfl,IJ.start J D,fun i l _ h=>absurd h (by simp [aH]),fun i l _ h=>absurd h (by simp [aH]),fun p hp=>absurd hp (by simp)⟩
 obtain ⟨M1,he,hA⟩:=AM (vF hq) (by omega) h4 hn hG
 have hlen:M1.W.length≤24:=by
  have:=(xU (ask:=OB)).run he;simp at this;omega
 rw [← Jf] at hA;obtain ⟨S,hS⟩:=wD (h.to (by ac_rfl:_=lA t ⟨J,D,qJ,1⟩*(pt t.f (gU t (.map (some m)))*(mp m (nu [])*F))));have hi:=q.inv hq
 have hcm:(M1.W.map Prod.fst).Nodup→M1.W≠[]→∃ r J' D',M1.s=(J,{ D with cr:=r })∧q.Q 1 J { D with cr:=r } qJ∧Batch (t.n:Int) (gH M1.W)∧eu J { D with cr:=r } true (gH M1.W)=(0,J',D')∧q.Q 2 J' D' (lH qJ (gH M1.W)):=by
  intro hnd hne;obtain ⟨e1,r,e2⟩:=hA.good.inv;have hb:=vx hA hnd hlen (List.length_pos_iff.2 hne);obtain ⟨J',D',e3,e4⟩:=q.wT (q.cr hq r) (by decide) hb;exact ⟨r,J',D',Prod.ext e1 e2,q.cr hq r,hb,e3,e4⟩
 refine (Bs t w S J D (.map (some m)) 63 #[] emp (mp m (nu [])*F) (fun c M G'=>c=0∧M=M1∧G'=emp) hi.ok hi.dok (enters Tryz.func63 (by kernel_rfl) rfl) (BN h4 hn he) ?_ (hS.to (by rw [cU];ac_rfl))).mono ?_
 ·rintro c M G' ⟨rfl,rfl,rfl⟩-hnd hne
  obtain ⟨r,J',D',e1,e2,e3,e4,-⟩:=hcm hnd hne;refine ⟨qJ,J',D',?_,?_,e3,?_⟩
  ·rw [e1];exact q.inv e2
  ·rw [e1];exact q.jn e2
  ·rw [e1];exact e4
 ·rintro e w' ⟨c,M,G',S',J',D',⟨rfl,rfl,rfl⟩,hnd,rfl,d,hs,hc1,hc2⟩
  by_cases hne:M.W=[]
  ·obtain ⟨e1,r,e2⟩:=hA.good.inv
   have e:=hc2 (.inr hne);rw [e] at e1 e2;have hr:Ds.Rd ⟨J,D,qJ,1⟩ ⟨J',D',qJ,1⟩:=⟨e1,⟨r,e2⟩,rfl,rfl⟩
   refine ⟨⟨J',D',qJ,1⟩,rfl,d,Nat.le_succ 1,⟨M9.rd (s:=⟨J,D,qJ,1⟩) ⟨hq,rE hA hne⟩ hr,vQ (by omega),h4,hn⟩,?_⟩;exact (kY (s:=⟨J',D',qJ,1⟩) (hs.to (by rw [cU];ac_rfl))).to (by unfold dM;ac_rfl:lA t ⟨J',D',qJ,1⟩*(pt t.f (gU t (.map (some m)))*(mp m (nu [])*F))=_)
  obtain ⟨r',J2,D2,f1,f2,f3,f4,f5⟩:=hcm hnd hne;have g:=hc1 rfl hne;rw [f1] at g;have g:eu J { D with cr:=r' } true (gH M.W)=(0,J',D'):=g;rw [g] at f4;simp only [Prod.mk.injEq,true_and] at f4;obtain ⟨rfl,rfl⟩:=f4;refine ⟨⟨J',D',lH qJ (gH M.W),2⟩,rfl,d,Nat.le_refl 2,⟨⟨f5,tT hA hnd⟩,vQ (by omega),h4,hn⟩,?_⟩;exact (kY (s:=⟨J',D',lH qJ (gH M.W),2⟩) (hs.to (by rw [cU];ac_rfl))).to (by unfold dM;ac_rfl:lA t ⟨J',D',lH qJ (gH M.W),2⟩*(pt t.f (gU t (.map (some m)))*(mp m (nu [])*F))=_)
theorem E8 (h4:4≤t.n) (hn:t.n≤3840) (hq:q.Q 1 J D qJ) (h:Sat w (pt t.f (gU t (.map (some m)))*(mp m (nu [])*(lA t ⟨J,D,qJ,1⟩*F)))) :
  Calls Tryz.prog 62 #[ax t.f] w (NB t q m F w):=by
 refine aI fun Q HQ=>?_;have hmf:=nV Tryz.prog;have hd:=ae (Mj h4 hn hq h);have Hck:=ae du;clear h hq h4 hn
 go_enter Tryz.func62,Tryz.ntmps62
 go_wp2_with fail
 refine hd.out.mono ?_;rintro e w2 ⟨s,rfl,d2,hB,hf,h2⟩;have hsy:=ae (Ls hf (by omega) h2);have D2:=ae d2;have HB:=ae hB;clear hd d2 hf h2 hB
 go_wp2_with fail
 refine (Hck.out _).mono ?_;rintro e w3 ⟨rfl,rfl⟩
 go_wp2_with fail
 refine hsy.out.mono ?_;rintro e w4 ⟨rfl,d4,hf,h4⟩;have hfin:=ae (HQ.out (.returned (.tuple #[])) _ ⟨_,rfl,D2.out.trans d4,(show s.B+1≤3 by have:=HB.out;omega),hf,h4⟩);clear hsy d4 hf h4 HQ D2 HB
 go_wp2_with fail
 refine (Hck.out _).mono ?_;rintro e w5 ⟨rfl,rfl⟩
 go_wp2_with fail
 go_end0
 exact hfin.out
def M3 (ff:FuncId) (fc:Array Value) (G:ah) (X:Nat→ah):Prop:=
 ∀ (w:World) (H:ah),Sat w (G*H)→Calls Tryz.prog ff fc w fun e w'=>∃ s,e = .returned (.tuple #[ax s,.int .i64 0])∧ai w w'∧Sat w' (X s*H)
def Ng (gf:FuncId) (gc:Array Value) (X:Nat→ah) (Y:Nat→Nat→Nat→ah):Prop:=
 ∀ (s f m:Nat) (w:World) (H:ah),Sat w (pt f (.cells #[ax s,.map (some m)] 66 (0,0))*(mp m []*(X s*H)))→Calls Tryz.prog gf (#[ax f]++gc) w fun e w'=>e = .returned (.tuple #[])∧ai w w'∧Sat w' (Y s f m*H)
def OU (Y:Nat→Nat→Nat→ah) (F:ah) (w:World) (e:Ending) (w':World):Prop:=
 ∃ s f m,e = .returned (.tuple #[ax f,.int .i64 0])∧ai w w'∧Sat w' (Y s f m*F)
theorem Fe (w:World):(Instr.makeMap 64 none).run Tryz.prog w = .ok (.map (some w.heap.size)) (w.alloc (.map #[] 0)):=by
 simp [Instr.makeMap,run_underlying Tryz.underlying64]
theorem ER {dv:Nat} {ff gf:FuncId} {fc gc:Array Value} {G:ah} {X:Nat→ah} {Y:Nat→Nat→Nat→ah} (hff:∀ (args:Array Value) (w:World),(callFunc ff args).run Tryz.prog w = .ok (.enter ff args) w) (hgf:∀ (args:Array Value) (w:World),(callFunc gf args).run Tryz.prog w = .ok (.enter gf args) w)
  (hF:M3 ff fc G X) (hT:Ng gf gc X Y) (h:Sat w (G*F)):Calls Tryz.prog 59 #[ax dv,.func (.func ff) #[] fc,.func (.func gf) #[] gc] w (OU Y F w):=by
 refine aI fun Q HQ=>?_;have hmf:=nV Tryz.prog;have H0:=(h.alloc (.cells #[.pointer none] 25 (0,0))).alloc (.cells #[.int .i64 0] 28 (0,0));have D0:=((ai.refl w).alloc (.cells #[.pointer none] 25 (0,0))).alloc (.cells #[.int .i64 0] 28 (0,0));rw [World.size_alloc] at H0;have HF:=ae hF;have HT:=ae hT;clear h hF hT
 go_enter_defers Tryz.func59,Tryz.ntmps59
 go_wp2_with fail
 generalize (w.alloc (.cells #[.pointer none] 25 (0,0))).alloc (.cells #[.int .i64 0] 28 (0,0))=w1 at *;generalize w.heap.size+1=eb at *;generalize w.heap.size=fb at *;have hfr:=ae (HF.out w1 _ (H0.to (by ac_rfl:_=G*(pt eb (.cells #[.int .i64 0] 28 (0,0))*(pt fb (.cells #[.pointer none] 25 (0,0))*F)))));have D1:=ae D0;clear H0 D0 HF
 go_wp2_with fail
 refine hfr.out.mono ?_;rintro e w2 ⟨s,rfl,d2,h2⟩;have h3:=h2.to (by ac_rfl:_=pt eb (.cells #[.int .i64 0] 28 (0,0))*(pt fb (.cells #[.pointer none] 25 (0,0))*(X s*F)));have e0:w2.cell? ⟨eb,0,none⟩=some (.int .i64 0):=h3.cell 0;have ef:w2.frozen? ⟨eb,0,none⟩=false:=h3.frozen 0;have h4:=h3.setCell 0 (.int .i64 0);have D4:=ae ((D1.out.trans d2).setCell ⟨eb,0,none⟩ (.int .i64 0));have H4:=ae (h4.to (by ac_rfl:_=pt fb (.cells #[.pointer none] 25 (0,0))*(pt eb (.cells #[.int .i64 0] 28 (0,0))*(X s*F))));have Hck:=ae du;have Hmm:=ae Fe;clear hfr D1 d2 h2 h3 h4
 go_wp2_with fail
 refine (Hck.out _).mono ?_;rintro e w3 ⟨rfl,rfl⟩;generalize w2.setCell ⟨eb,0,none⟩ (.int .i64 0)=w4 at *;have f0:w4.cell? ⟨fb,0,none⟩=some (.pointer none):=H4.out.cell 0;have ff0:w4.frozen? ⟨fb,0,none⟩=false:=H4.out.frozen 0;have hlt:fb<w4.heap.size:=H4.out.lt;have hmm:=Hmm.out;have H5:=((((H4.out.setCell 0 (ax (w4.heap.size+1))).alloc (.map #[] 0)).tH isMap_empty).alloc (.cells #[ax s,.map (some w4.heap.size)] 66 (0,0)))
 have D5:=(((D4.out.setCell ⟨fb,0,none⟩ (ax (w4.heap.size+1))).alloc (.map #[] 0)).alloc (.cells #[ax s,.map (some w4.heap.size)] 66 (0,0)))
 have hsz:(w4.setCell ⟨fb,0,none⟩ (ax (w4.heap.size+1))).heap.size=w4.heap.size:=World.size_setCell ..;rw [World.size_alloc,hsz] at H5;have D6:=ae D5;have ht:=ae (HT.out s (w4.heap.size+1) w4.heap.size _ _ (H5.to (by show _=pt (w4.heap.size+1) (.cells #[ax s,.map (some w4.heap.size)] 66 (0,0))*(mp w4.heap.size []*(X s*(pt fb (.cells #[ax (w4.heap.size+1)] 25 (0,0))*(pt eb (.cells #[.int .i64 0] 28 (0,0))*F))));simp only [List.setIfInBounds_toArray,List.set_cons_zero];ac_rfl)));generalize hfv:w4.heap.size+1=fv at ht D6;have Hfv:=ae hfv;clear H5 D5 H4 D4 Hmm e0 ef hfv hsz
 go_wp2_with fail
 rw [Hfv.out];refine ht.out.mono ?_;rintro e w6 ⟨rfl,d6,h6⟩;have h7:=h6.to (by ac_rfl:_=pt fb (.cells #[ax fv] 25 (0,0))*(pt eb (.cells #[.int .i64 0] 28 (0,0))*(Y s fv w4.heap.size*F)));have a0:w6.cell? ⟨fb,0,none⟩=some (ax fv):=h7.cell 0;have a1:w6.frozen? ⟨fb,0,none⟩=false:=h7.frozen 0;have b0:(w6.setCell ⟨fb,0,none⟩ (ax fv)).cell? ⟨eb,0,none⟩=some (.int .i64 0):=(h7.setCell 0 (ax fv)).ag.cell 0;have b1:(w6.setCell ⟨fb,0,none⟩ (ax fv)).frozen? ⟨eb,0,none⟩=false:=(h7.setCell 0 (ax fv)).ag.frozen 0;have h8:=(h7.setCell 0 (ax fv)).ag.setCell 0 (.int .i64 0);have H8:=ae h8;have D8:=ae (((D6.out.trans d6).setCell ⟨fb,0,none⟩ (ax fv)).setCell ⟨eb,0,none⟩ (.int .i64 0));clear ht h6 h7 h8 D6 d6 f0 ff0 hmm HT
 go_wp2_with fail
 have h9:=H8.out;simp only [List.setIfInBounds_toArray,List.set_cons_zero] at h9;exact FB rfl rfl (h9.ag.cell 0) (h9.cell 0) (HQ.out _ _ ⟨s,fv,w4.heap.size,rfl,D8.out,h9.right.right⟩)
end
end Go.Cl
namespace Go.Cl
open Go.RowKit Go.SL Go.Nn Go.Ba Go.Su Go.Fs
def gI (t:Pl) (q:Dk t.n) (m:Nat) (T:Tr) (k B:Nat) (O:kg):ah:=ex fun s:Ds=>fact (nr t q s T k∧s.B≤B)*dM t s m O
section
variable {t:Pl} {q:Dk t.n} {s:Ds} {T:Tr} {k m B:Nat} {O:kg} {w:World} {F:ah} {p p1 p2:List UInt8} {R:Int→Tr→Nat→Prop} {e:Ending} {w':World}
theorem ft (h:Sat w (gI t q m T k B O*F)):∃ s,nr t q s T k∧s.B≤B∧Sat w (dM t s m O*F):=by
 obtain ⟨s,h1⟩:=Sat.au.1 h;obtain ⟨⟨h2,h3⟩,h4⟩:=Sat.ak.1 (h1.to (aw _ _ _));exact ⟨s,h2,h3,h4⟩
theorem dR (hf:nr t q s T k) (hB:s.B≤B) (h:Sat w (dM t s m O*F)):Sat w (gI t q m T k B O*F):=
 Sat.au.2 ⟨s,(Sat.ak.2 ⟨⟨hf,hB⟩,h⟩:Sat w (fact _*_)).to (aw _ _ _).symm⟩
theorem LP {B':Nat} (hB:B≤B') (h:Sat w (gI t q m T k B O*F)):Sat w (gI t q m T k B' O*F):=by
 obtain ⟨s,h1,h2,h3⟩:=ft h;exact dR h1 (by omega) h3
theorem nr.go {s':Ds} {wr:Bool} (hg:s.Go t.n wr s'):s'.B≤s.B+1:=by
 rcases hg with h|⟨_,r,L,_,_,_,h⟩
 ·rw [h.B];omega
 ·omega
def Pc (t:Pl) (q:Dk t.n) (m:Nat) (T:Tr) (k B:Nat) (O:kg) (R:Int→Tr→Nat→Prop) (F:ah) (w:World) (e:Ending) (w':World):Prop:=
 ai w w'∧∃ c,e = .returned (.int .i64 c)∧((c≠0∧(∃ T' k',R c T' k')∧Sat w' (gI t q m T k B O*F))∨(c=0∧∃ T' k',R 0 T' k'∧Sat w' (gI t q m T' k' (B+1) O*F)))
theorem NJ (hf:nr t q s T k) (hB:s.B≤B) (h:Pd t q m s O R F w e w'):Pc t q m T k B O R F w e w':=by
 obtain ⟨c,T',k',s',hR,he,d,hr,h1⟩:=h;refine ⟨d,c,he,?_⟩;rcases hr with ⟨hc,hrd⟩|⟨rfl,hf',hg⟩
 ·exact .inl ⟨hc,⟨T',k',hR⟩,dR (hf.rd hrd) (by rw [hrd.B];exact hB) h1⟩
 ·exact .inr ⟨rfl,T',k',hR,dR hf' (by have:=nr.go hg;omega) h1⟩
theorem Pc.ok (h:Pc t q m T k B O R F w e w') (hR:∀ c T' k',R c T' k'→c=0):∃ T' k',R 0 T' k'∧e = .returned (.int .i64 0)∧ai w w'∧Sat w' (gI t q m T' k' (B+1) O*F):=by
 obtain ⟨d,c,rfl,⟨hc,⟨T',k',h1⟩,_⟩|⟨rfl,T',k',h1,h2⟩⟩:=h
 ·exact absurd (hR _ _ _ h1) hc
 ·exact ⟨T',k',h1,rfl,d,h2⟩
theorem xW (hB:B≤1000000) (hgd:fQ T k p=0) (h:Sat w (gI t q m T k B O*F)):Calls Tryz.prog 9 #[ax t.f,.string (str p)] w (Pc t q m T k B O (lV t.n T k 1 p) F w):=by
 obtain ⟨s,h1,h2,h3⟩:=ft h;exact (B9 h1 (by omega) hgd h3).mono fun e w' hq=>NJ h1 h2 hq
theorem MC (hB:B≤1000000) (hgd:fQ T k p=0) (h:Sat w (gI t q m T k B O*F)):Calls Tryz.prog 16 #[ax t.f,.string (str p)] w (Pc t q m T k B O (lV t.n T k 2 p) F w):=by
 obtain ⟨s,h1,h2,h3⟩:=ft h;exact (DO h1 (by omega) hgd h3).mono fun e w' hq=>NJ h1 h2 hq
theorem NU (hB:B≤1000000) (hgd:gw T k p1 p2=0) (h:Sat w (gI t q m T k B O*F)):Calls Tryz.prog 19 #[ax t.f,.string (str p1),.string (str p2)] w (Pc t q m T k B O (zV T k p1 p2) F w):=by
 obtain ⟨s,h1,h2,h3⟩:=ft h;exact (Jh h1 (by omega) hgd h3).mono fun e w' hq=>NJ h1 h2 hq
def Ct (X:ah) (v:Value) (F:ah) (w:World) (e:Ending) (w':World):Prop:=e = .returned v∧ai w w'∧Sat w' (X*F)
theorem Og (hB:B≤1000000) (h:Sat w (gI t q m T k B O*F)):Calls Tryz.prog 20 #[ax t.f,.string (str p)] w (Ct (gI t q m T k B O) (.tuple #[QF (if (bW T p).1=0 then sE (T (bW T p).2) else (0,0,0)),.int .i64 (bW T p).1]) F w):=by
 obtain ⟨s,h1,h2,h3⟩:=ft h;refine (IM h1 (by omega) h3).mono ?_;rintro e w' ⟨s',rfl,d,hg,hf,h4⟩;have hr:s.Rd s':=by rcases hg with h|⟨h,_⟩;exact h;cases h
 exact ⟨rfl,d,dR hf (by rw [hr.B];exact h2) h4⟩
def M5 (t:Pl) (q:Dk t.n) (m:Nat) (T:Tr) (k B:Nat) (O:kg) (p:List UInt8) (F:ah) (w:World) (e:Ending) (w':World):Prop:=
 ai w w'∧((gM T O p≠0∧e = .returned (.tuple #[.int .i64 0,.int .i64 (gM T O p)])∧Sat w' (gI t q m T k B O*F)) ∨
  (gM T O p=0∧∃ fd:Nat,(∀ j:Nat,j<fd→(aH O (j:Int)).isSome=true)∧aH O (fd:Int)=none∧e = .returned (.tuple #[.int .i64 (fd:Int),.int .i64 0])∧Sat w' (gI t q m T k B (eG O fd ((bW T p).2,0))*F)))
theorem GM (hB:B≤1000000) (hO:O.length≤1000) (h:Sat w (gI t q m T k B O*F)):Calls Tryz.prog 11 #[ax t.f,.string (str p)] w (M5 t q m T k B O p F w):=by
 obtain ⟨s,h1,h2,h3⟩:=ft h;refine (mm h1 (by omega) hO h3).mono ?_;rintro e w' ⟨s',d,hr,⟨hc,rfl,h4⟩|⟨hc,fd,a1,a2,rfl,h4⟩⟩
 ·exact ⟨d,.inl ⟨hc,rfl,dR (h1.rd hr) (by rw [hr.B];exact h2) h4⟩⟩
 ·exact ⟨d,.inr ⟨hc,fd,a1,a2,rfl,dR (h1.rd hr) (by rw [hr.B];exact h2) h4⟩⟩
def FV (t:Pl) (q:Dk t.n) (m:Nat) (T:Tr) (k B:Nat) (O:kg) (fd:Int) (id sz at':Nat) (o wh:Int) (F:ah) (w:World) (e:Ending) (w':World):Prop:=
 ai w w'∧((fU sz at' o wh≠0∧e = .returned (.tuple #[.int .i64 0,.int .i64 (fU sz at' o wh)])∧Sat w' (gI t q m T k B O*F)) ∨
  (fU sz at' o wh=0∧e = .returned (.tuple #[.int .i64 (dP sz at' o wh),.int .i64 0])∧Sat w' (gI t q m T k B (eG O fd (id,(dP sz at' o wh).toNat))*F)))
theorem Pb {f:AF} {fd:Int} {id at':Nat} {o wh:Int} (hB:B≤1000000) (hy:aH O fd=some (id,at')) (hT:T id=some (.file f)) (ha:at'≤122880) (hO:-9223372036854775808≤o∧o≤9223372036854775807) (h:Sat w (gI t q m T k B O*F)) :
  Calls Tryz.prog 14 #[ax t.f,.int .i64 fd,.int .i64 o,.int .i64 wh] w (FV t q m T k B O fd id f.sz at' o wh F w):=by
 obtain ⟨s,h1,h2,h3⟩:=ft h;refine (Jw h1 (by omega) hy hT ha hO h3).mono ?_;rintro e w' ⟨s',d,hr,⟨hc,rfl,h4⟩|⟨hc,rfl,h4⟩⟩
 ·exact ⟨d,.inl ⟨hc,rfl,dR (h1.rd hr) (by rw [hr.B];exact h2) h4⟩⟩
 ·exact ⟨d,.inr ⟨hc,rfl,dR (h1.rd hr) (by rw [hr.B];exact h2) h4⟩⟩
def N9 (c:Int) (l:List UInt8) (X Y:ah) (F:ah) (w:World) (e:Ending) (w':World):Prop:=
 ai w w'∧((c≠0∧e = .returned (.tuple #[.slice none 0 0,.int .i64 c])∧Sat w' (X*F))∨(c=0∧∃ u,e = .returned (.tuple #[u,.int .i64 0])∧Sat w' (bs 5 u l*(Y*F))))
theorem Oz {f:AF} {fd:Int} {id at':Nat} {c:Int} (hB:B≤1000000) (hy:aH O fd=some (id,at')) (hT:T id=some (.file f)) (ha:at'≤122880) (h:Sat w (gI t q m T k B O*F)) :
  Calls Tryz.prog 15 #[ax t.f,.int .i64 fd,.int .i64 c] w (N9 (lz c) (f.sub at' c.toNat) (gI t q m T k B O) (gI t q m T k B (eG O fd (id,at'+(f.sub at' c.toNat).length))) F w):=by
 obtain ⟨s,h1,h2,h3⟩:=ft h;refine (IH h1 (by omega) hy hT ha h3).mono ?_;rintro e w' ⟨s',d,hr,⟨hc,rfl,h4⟩|⟨hc,u,rfl,h4⟩⟩
 ·exact ⟨d,.inl ⟨hc,rfl,dR (h1.rd hr) (by rw [hr.B];exact h2) h4⟩⟩
 ·exact ⟨d,.inr ⟨hc,u,rfl,(dR (h1.rd hr) (by rw [hr.B];exact h2) (h4.to (by ac_rfl:_=dM t s' m (eG O fd (id,at'+(f.sub at' c.toNat).length))*(bs 5 u (f.sub at' c.toNat)*F)))).to (by ac_rfl)⟩⟩
theorem OR {a c:Int} (hB:B≤1000000) (hgd:gz T p a c=0) (h:Sat w (gI t q m T k B O*F)):Calls Tryz.prog 21 #[ax t.f,.string (str p),.int .i64 a,.int .i64 c] w (N9 (gz T p a c) (lJ T p a c) (gI t q m T k B O) (gI t q m T k B O) F w):=by
 obtain ⟨s,h1,h2,h3⟩:=ft h;refine (IC h1 (by omega) hgd h3).mono ?_;rintro e w' ⟨s',d,hr,⟨hc,rfl,h4⟩|⟨hc,u,rfl,h4⟩⟩
 ·exact ⟨d,.inl ⟨hc,rfl,dR (h1.rd hr) (by rw [hr.B];exact h2) h4⟩⟩
 ·exact ⟨d,.inr ⟨hc,u,rfl,(dR (h1.rd hr) (by rw [hr.B];exact h2) (h4.to (by ac_rfl:_=dM t s' m O*(bs 5 u (lJ T p a c)*F)))).to (by ac_rfl)⟩⟩
def Q1 (c:Int) (L:List aM) (X:ah) (F:ah) (w:World) (e:Ending) (w':World):Prop:=
 ai w w'∧((c≠0∧e = .returned (.tuple #[.slice none 0 0,.int .i64 c])∧Sat w' (X*F))∨(c=0∧∃ u W,W.Perm L∧jD zr W∧e = .returned (.tuple #[u,.int .i64 0])∧Sat w' (eK u (W.map aM.nm)*(X*F))))
theorem Dy (hB:B≤1000000) (hgd:lG T p=0) (hs9:(eI (T (bW T p).2)).length≤yz) (h:Sat w (gI t q m T k B O*F)):Calls Tryz.prog 22 #[ax t.f,.string (str p)] w (Q1 (lG T p) (eI (T (bW T p).2)) (gI t q m T k B O) F w):=by
 obtain ⟨s,h1,h2,h3⟩:=ft h;refine (Ab h1 (by omega) hgd hs9 h3).mono ?_;rintro e w' ⟨s',d,hr,⟨hc,rfl,h4⟩|⟨hc,u,W,a1,a2,rfl,h4⟩⟩
 ·exact ⟨d,.inl ⟨hc,rfl,dR (h1.rd hr) (by rw [hr.B];exact h2) h4⟩⟩
 ·exact ⟨d,.inr ⟨hc,u,W,a1,a2,rfl,(dR (h1.rd hr) (by rw [hr.B];exact h2) (h4.to (by ac_rfl:_=dM t s' m O*(eK u (W.map aM.nm)*F)))).to (by ac_rfl)⟩⟩
def BA (t:Pl) (q:Dk t.n) (m:Nat) (T:Tr) (k B:Nat) (O:kg) (fd:Int) (o:Nat × Nat) (R:Int→Tr→Nat→Prop) (F:ah) (w:World) (e:Ending) (w':World):Prop:=
 ai w w'∧∃ c,e = .returned (.int .i64 c)∧((c≠0∧(∃ T' k',R c T' k')∧Sat w' (gI t q m T k B O*F))∨(c=0∧∃ T' k',R 0 T' k'∧Sat w' (gI t q m T' k' (B+1) (eG O fd o)*F)))
theorem CO {f:AF} {fd:Int} {id at' vc:Nat} {va:Option Addr} {l:List UInt8} {D:ah} (hB:B≤1000000) (hgd:ie k at' f l=0) (hy:aH O fd=some (id,at')) (hT:T id=some (.file f)) (ha:at'≤122880) (hl9:l.length≤1000000000) (hcap:l.length≤vc) (hD:∀ W P,Sat W (D*P)→Rd W (.slice va l.length vc) l) (h:Sat w (gI t q m T k B O*(D*F))) :
  Calls Tryz.prog 13 #[ax t.f,.int .i64 fd,.slice va l.length vc] w (BA t q m T k B O fd (id,at'+l.length) (fR T k id at' f l) (D*F) w):=by
 obtain ⟨s,h1,h2,h3⟩:=ft h;refine (DI h1 (by omega) hgd hy hT ha hl9 hcap hD h3).mono ?_;rintro e w' ⟨c,T',k',s',hR,rfl,d,hr⟩;refine ⟨d,c,rfl,?_⟩;rcases hr with ⟨hc,hrd,h4⟩|⟨rfl,hf',hg,h4⟩
 ·exact .inl ⟨hc,⟨T',k',hR⟩,dR (h1.rd hrd) (by rw [hrd.B];exact h2) h4⟩
 ·exact .inr ⟨rfl,T',k',hR,dR hf' (by have:=nr.go hg;omega) h4⟩
end
end Go.Cl
namespace Go.SL
open Go.RowKit Go.Cl
section
variable {T T':Tr} {d id x k:Nat} {nm:List UInt8} {kd:Int} {L R X:List aM} {f:AF} {p:List UInt8} {ps qs:List (List UInt8)}
theorem Ly:Kw T d id nm kd d=some (.dir (eI (T d)++[⟨id,nm⟩])):=bF _ _ _
theorem MA (h:id≠d):Kw T d id nm kd id=some (lE kd):=(aQ _ _ h).trans (bF _ _ _)
theorem LG (h:x≠d) (h2:x≠id):Kw T d id nm kd x=T x:=(aQ _ _ h).trans (aQ _ _ h2)
theorem kp {i:Nat} (h:T x=some (.dir R)) (hp:jF R nm=some i):aR T x [nm]=(0,(R.getD i aM.no).nd):=by
 have e:eE (T x) nm=(0,(R.getD i aM.no).nd):=by rw [h,kJ hp]
 rw [mR (by rw [e]),e,FP]
theorem JP {i j:Nat} {nm2:List UInt8} (h:T x=some (.dir R)) (hp:jF R nm=some i) (h2:T (R.getD i aM.no).nd=some (.dir X)) (hp2:jF X nm2=some j):aR T x [nm,nm2]=(0,(X.getD j aM.no).nd):=by
 have e:eE (T x) nm=(0,(R.getD i aM.no).nd):=by rw [h,kJ hp]
 rw [mR (by rw [e]),e];exact kp h2 hp2
theorem wk (hne:ps≠[]) (hw:aR T 1 ps.dropLast=(0,d)) (hd:T d=some (.dir L)) (hp:jF L (cQ ps)=none):fj T ps=0:=by
 unfold fj;rw [if_neg hne,hw,if_neg (by simp),hd,oe hp];rfl
theorem oD (hw:aR T 1 ps.dropLast=(0,d)):fD T ps=d:=by unfold fD;rw [hw]
theorem rW (hp:jF L nm=none) (hl:L.length<3840) (hk:cq (L.length+1)≤k+cq L.length):jZ k L nm=0:=by
 unfold jZ;rw [hp,if_neg (by decide),if_neg (by omega),if_neg (by omega)]
theorem tS (hs:aV p=some ps) (hne:ps≠[]) (hw:aR T 1 ps.dropLast=(0,d)) (hd:T d=some (.dir L)) (hp:jF L (cQ ps)=none) (hl:L.length<3840) (hk:1+cq (L.length+1)≤k+cq L.length) (hk0:0<k):fQ T k p=0:=by
 have e:eI (T d)=L:=by rw [hd];rfl
 unfold fQ;rw [hs];simp only;rw [wk hne hw hd hp,if_neg (by simp),oD hw,e,oN,if_neg (show ¬ 122880≤32*L.length by omega),if_neg (by simp),if_neg (show ¬ k=0 by omega)];exact rW hp hl (by omega)
structure Made (n:Nat) (T T':Tr) (d id:Nat) (nm:List UInt8) (kd:Int) (L:List aM):Prop where
 no:T id=none
 pos:0<id
 lt:id<n
 dir:T' d=some (.dir (L++[⟨id,nm⟩]))
 new:T' id=some (lE kd)
 oz:∀ x,x≠d→x≠id→T' x=T x
theorem xh {n k':Nat} {c:Int} (hs:aV p=some ps) (hw:aR T 1 ps.dropLast=(0,d)) (hd:T d=some (.dir L)) (h:lV n T k kd p c T' k') (hc:c=0):(∃ id,Made n T T' d id (cQ ps) kd L)∧k'=Pg k L:=by
 obtain ⟨-,h2⟩:=h;obtain ⟨qs,L',id,e1,e2,e3,e4,e5,e6,rfl,rfl⟩:=h2 hc;obtain rfl:ps=qs:=by rw [hs] at e1;exact Option.some.inj e1
 rw [oD hw] at e2 ⊢;obtain rfl:L=L':=by rw [hd] at e2;injection e2 with e2;injection e2
 have hne:id≠d:=by rintro rfl;rw [hd] at e4;cases e4
 refine ⟨⟨id,e4,e5,e6,?_,MA hne,fun x h1 h2=>LG h1 h2⟩,rfl⟩;rw [Ly,hd];rfl
end
section
variable {T T1 T2 T4 T5:Tr} {a b k k':Nat} {c:Int}
abbrev pD:List UInt8:=[47,100]
abbrev JE:List UInt8:=[47,100,47,97]
abbrev pB:List UInt8:=[47,98]
abbrev Rz:List UInt8:=[47,100,47,101]
abbrev oS:List UInt8:=[104,101,108,108,111]
theorem lq:aV pD=some [[100]]:=by decide
theorem mw:aV JE=some [[100],[97]]:=by decide
theorem wI:aV pB=some [[98]]:=by decide
theorem GW:aV Rz=some [[100],[101]]:=by decide
theorem Bd:aV [47]=some []:=by decide
theorem zx (a:Nat) (nm:List UInt8):jF [⟨a,nm⟩] nm=some 0:=by simp [jF]
structure QT (n:Nat) (T:Tr) (a:Nat):Prop where
 ne:a≠1
 root:T 1=some (.dir [⟨a,[100]⟩])
 da:T a=some (.dir [])
 oz:∀ x,x≠1→x≠a→T x=none
theorem M8:fQ fH 18 pD=0:=tS lq (by simp) (d:=1) (L:=[]) rfl rfl rfl (by simp) (by decide) (by decide)
theorem Ow {n:Nat} (h:lV n fH 18 2 pD c T1 k') (hc:c=0):(∃ a,QT n T1 a)∧k'=16:=by
 obtain ⟨⟨a,m⟩,hk⟩:=xh (d:=1) (L:=[]) lq rfl rfl h hc;have ne:a≠1:=by intro e;have:=m.no;rw [e] at this;cases this
 refine ⟨⟨a,ne,m.dir,m.new,fun x h1 h2=>(m.oz x h1 h2).trans (if_neg h1)⟩,by rw [hk];decide⟩
structure Ky (n:Nat) (T:Tr) (a b:Nat) (R:List aM) (f:AF):Prop where
 a1:a≠1
 b1:b≠1
 ba:b≠a
 root:T 1=some (.dir R)
 da:T a=some (.dir [⟨b,[97]⟩])
 fb:T b=some (.file f)
theorem M0 {n:Nat} (h:QT n T1 a):fQ T1 16 JE=0:=tS mw (by simp) (kp h.root (zx a _)) h.da rfl (by simp) (by decide) (by decide)
theorem N6 {n:Nat} (h1:QT n T1 a) (h:lV n T1 16 1 JE c T2 k') (hc:c=0):(∃ b,Ky n T2 a b [⟨a,[100]⟩] (fN 1))∧k'=14:=by
 obtain ⟨⟨b,m⟩,hk⟩:=xh (d:=a) (L:=[]) mw (kp h1.root (zx a _)) h1.da h hc;have ne:b≠1:=by intro e;have:=m.no;rw [e,h1.root] at this;cases this
 have nea:b≠a:=by intro e;have:=m.no;rw [e,h1.da] at this;cases this
 exact ⟨⟨b,h1.ne,ne,nea,by rw [m.oz 1 (Ne.symm h1.ne) (Ne.symm ne)];exact h1.root,m.dir,m.new⟩,by rw [hk];decide⟩
theorem uv {n:Nat} {f:AF} (h:Ky n T a b [⟨a,[100]⟩] f):aR T 1 [[100],[97]]=(0,b):=JP h.root (zx a _) h.da (zx b _)
theorem uX {n:Nat} {f:AF} (h:Ky n T a b [⟨a,[100]⟩] f):bW T JE=(0,b):=(eW mw).trans (uv h)
theorem Aj {n:Nat} {f:AF} (h:Ky n T a b [⟨a,[100]⟩] f):(bW T JE).1=0∧T (bW T JE).2=some (.file f):=by rw [uX h];exact ⟨rfl,h.fb⟩
def tB:AF:=(fN 1).wr 0 oS
theorem MR:ie 14 0 (fN 1) oS=0:=by decide +kernel
theorem OF {n:Nat} (h2:Ky n T a b [⟨a,[100]⟩] (fN 1)) (h:fR T 14 b 0 (fN 1) oS c T4 k') (hc:c=0):Ky n T4 a b [⟨a,[100]⟩] tB∧k'=13:=by
 obtain ⟨-,h3⟩:=h;rcases h3 hc with ⟨e,_⟩|⟨_,eT,ek⟩
 ·cases e
 ·rw [eT,ek]
  refine ⟨⟨h2.a1,h2.b1,h2.ba,(aQ _ _ (Ne.symm h2.b1)).trans h2.root,(aQ _ _ (Ne.symm h2.ba)).trans h2.da,bF _ _ _⟩,by decide +kernel⟩
theorem MS {n:Nat} (h:Ky n T a b [⟨a,[100]⟩] tB):gw T 13 JE pB=0:=by
 have hf:fj T [[98]]=0:=wk (d:=1) (by simp) rfl h.root (by simp [jF,cQ]);unfold gw;rw [mw,wI];simp only;rw [uv h,if_neg (by simp),h.fb];simp only;rw [hf,if_neg (by simp),if_neg (by decide),oD (d:=1) rfl,h.root];exact rW (by simp [jF,cQ,eI]) (by simp [eI]) (by simp [eI];decide)
def Dn:AF:={ tB with lk:=2 }
theorem OE {n:Nat} (h4:Ky n T4 a b [⟨a,[100]⟩] tB) (h:zV T4 13 JE pB c T5 k') (hc:c=0):Ky n T5 a b [⟨a,[100]⟩,⟨b,[98]⟩] Dn∧k'=13:=by
 obtain ⟨-,h3⟩:=h;obtain ⟨ps,qs,id,f,L,e1,e2,e3,e4,e5,e6,rfl,rfl⟩:=h3 hc;obtain rfl:=Option.some.inj (mw.symm.trans e1);obtain rfl:=Option.some.inj (wI.symm.trans e2);rw [uv h4] at e3;obtain rfl:b=id:=(Prod.mk.inj e3).2;rw [oD (d:=1) rfl,h4.root] at e5;obtain rfl:[⟨a,[100]⟩]=L:=by injection e5 with e5;injection e5
 obtain rfl:tB=f:=by rw [h4.fb] at e4;injection e4 with e4;injection e4
 rw [oD (d:=1) rfl];refine ⟨⟨h4.a1,h4.b1,h4.ba,(aQ _ _ (Ne.symm h4.b1)).trans (bF _ _ _),?_,bF _ _ _⟩,(show 13+cq 1-cq 2=13 by decide)⟩;exact (aQ _ _ (Ne.symm h4.ba)).trans ((aQ _ _ h4.a1).trans h4.da)
section
variable {n:Nat} (h:Ky n T a b [⟨a,[100]⟩,⟨b,[98]⟩] Dn)
include h
theorem Ig:bW T pB=(0,b):=(eW wI).trans (kp (i:=1) h.root (by simp [jF,List.findIdx?_cons]))
theorem PQ:bW T pD=(0,a):=(eW lq).trans (kp (i:=0) h.root (by simp [jF,List.findIdx?_cons]))
theorem sT:(bW T pB).1=0∧sE (T (bW T pB).2)=(1,2,5):=by
 rw [Ig h];dsimp only;rw [h.fb];exact ⟨rfl,rfl⟩
theorem vi:gz T pB 1 3=0:=by
 unfold gz;rw [if_pos (by decide),Ig h,if_neg (by simp),h.fb]
theorem JX:lJ T pB 1 3=[101,108,108]:=by
 unfold lJ;rw [Ig h];dsimp only;rw [h.fb];decide
theorem rO:lG T [47]=0∧eI (T (bW T [47]).2)=[⟨a,[100]⟩,⟨b,[98]⟩]:=by
 have e:bW T [47]=(0,1):=eW Bd;unfold lG;rw [e];dsimp only;rw [if_neg (by simp),h.root];exact ⟨rfl,rfl⟩
omit h in
theorem FD {W:List aM} (hp:W.Perm [⟨a,[100]⟩,⟨b,[98]⟩]) (hs:jD zr W):W.map aM.nm=[[98],[100]]:=by
 have hl:=hp.length_eq
 match W,hl with
 | [x,y],_=>
  have hm:=hp.map aM.nm;simp only [List.map_cons,List.map_nil] at hm ⊢
  have hnd:x.nm≠y.nm:=by
   have:=hm.nodup_iff.2 (by decide:[([100]:List UInt8),[98]].Nodup);simpa using this
  have hx:x.nm=[100]∨x.nm=[98]:=by simpa using hm.mem_iff.1 (List.mem_cons_self (a:=x.nm) (l:=[y.nm]))
  have hy:y.nm=[100]∨y.nm=[98]:=by simpa using hm.mem_iff.1 (show y.nm ∈ [x.nm,y.nm] by simp)
  rcases hx with e1|e1 <;> rcases hy with e2|e2
  ·exact absurd (e1.trans e2.symm) hnd
  ·have:=(List.pairwise_cons.1 hs).1 y (by simp)
   unfold zr at this;rw [e1,e2] at this;exact absurd this (by decide)
  ·rw [e1,e2]
  ·exact absurd (e1.trans e2.symm) hnd
end
end
end Go.SL
namespace Go.Cl
open Go.RowKit Go.SL Go.Nn Go.Ba Go.Su Go.Fs
attribute [local go_sem] Oper.semAt_some
section
variable {n:Nat} {x:Fx n} {b v pc qc fc k id:Nat} {T:Tr} {w:World} {F:ah} {p p1 p2:List UInt8} {ps qs:List (List UInt8)} {L:List aM} {c:Int}
theorem Bv {X Y:ah} {e:Ending} {w':World} (hc:c≠0) (he:e = .panicked (mf c)) (d:ai w w') (h:Sat w' Y):FT c X Y w e w':=⟨d,.inr ⟨hc,he,h⟩⟩
theorem zc {X:ah} (ht:Tidy n T) (hs:aV p=some ps) (hw:aR T 1 ps=(0,id)) (hy:T id=some (.dir L)) (h:Sat w (vA x b v T k*(aA pc p*F))) :
  Calls Tryz.prog 35 #[ax v,ax pc,ax fc] w (FT 8 X (vA x b v T k*(aA pc p*F)) w):=by
 refine aI fun Q HQ=>?_;have cp:w.cell? ⟨pc,0,none⟩=some (.string (str p)):=h.ag.cell 0;have H:=ae h;obtain ⟨hok,hl⟩:=di hs;have hk:=ae (dK (w:=w) hs);have HT:=ae ht;have HL:=ae hl;have HW:=ae hw;have HY:=ae hy;clear h ht hs hok hl hw hy
 go_enter Tryz.func35,Tryz.ntmps35
 go_wp2_with fail
 refine hk.out.mono ?_;rintro e w2 ⟨u,rfl,d2,h2⟩;have h3:=(h2.under H.out).to (by ac_rfl:_=vA x b v T k*(eK u ps*(aA pc p*F)));have hw:=fI HT.out HL.out iz h3;rw [HW.out] at hw;have Hw:=ae hw;clear cp hk h2 h3 H hw
 go_wp2_with fail
 refine Hw.out.mono ?_;rintro e w3 ⟨⟨-,rfl⟩|⟨hc,-⟩,d3,h3⟩
 ·have hfl:=ae (mX HY.out h3)
  obtain ⟨ua,uc,rfl⟩:=eF (h3.to (by ac_rfl:_=eK u ps*(vA x b v T k*(aA pc p*F))));clear h3 Hw
  go_wp2_with fail
  refine hfl.out.mono ?_;rintro e w7 (⟨hk1,_⟩|⟨-,rfl,d7,h7⟩)
  ·exact absurd hk1 (by show ¬ (2:Int)=1;decide)
  ·exact ⟨rfl,HQ.out _ _ (Bv (by decide) rfl ((d2.trans d3).trans d7) (h7.to (aD _ _ _)).right)⟩
 ·exact absurd rfl hc
theorem yg {X:ah} (ht:Tidy n T) (hs:aV p=some ps) (hne:ps≠[]) (hw:aR T 1 ps=(0,id)) (hy:T id=some (.dir L)) (hL:L≠[]) (h:Sat w (vA x b v T k*(aA pc p*F))) :
  Calls Tryz.prog 49 #[ax v,ax pc] w (FT 11 X (vA x b v T k*(aA pc p*F)) w):=by
 refine aI fun Q HQ=>?_;have cp:w.cell? ⟨pc,0,none⟩=some (.string (str p)):=h.ag.cell 0;have H:=ae h;obtain ⟨hok,hl⟩:=di hs;have hk:=ae (dK (w:=w) hs);have hl0:¬ (ps.length:Int)=0:=by have:=List.length_pos_iff.2 hne;omega
 have hl1:(0:Int)<((gO 1 L).sz:Int):=by have:=List.length_pos_iff.2 hL;show (0:Int)<((32*L.length:Nat):Int);omega
 have HT:=ae ht;have HL:=ae hl;have HW:=ae hw;have HY:=ae hy;have HL0:=ae hl0;have HL1:=ae hl1;clear h ht hs hok hl hw hy hne hL hl0 hl1
 go_enter Tryz.func49,Tryz.ntmps49
 go_wp2_with fail
 refine hk.out.mono ?_;rintro e w2 ⟨u,rfl,d2,h2⟩;have h3:=(h2.under H.out).to (by ac_rfl:_=vA x b v T k*(eK u ps*(aA pc p*F)));have hw:=fI HT.out HL.out iz h3;rw [HW.out] at hw;have Hw:=ae hw;clear cp hk h2 h3 H hw
 go_wp2_with fail
 refine Hw.out.mono ?_;rintro e w3 ⟨⟨-,rfl⟩|⟨hc,-⟩,d3,h3⟩
 ·have hnd:=ae (iZ HY.out h3)
  obtain ⟨ua,uc,rfl⟩:=eF (h3.to (by ac_rfl:_=eK u ps*(vA x b v T k*(aA pc p*F))));clear h3 Hw
  go_wp2_with fail
  refine hnd.out.mono ?_;rintro e w7 ⟨z,rfl,y16,ykd,ylk,ysz,d7,h7⟩;obtain ⟨hX,hone,hinf⟩:=lM y16;have hB:=h7.alloc (.cells ny 73 (0,0));have Hz:=ae hB.heap;have hE:=hB.setRow (cs':=ints z.l);have n0:((w7.alloc (.cells ny 73 (0,0))).setRow w7.heap.size (ints z.l)).cell? ⟨w7.heap.size,0,none⟩=some (.int .i64 2):=by rw [show (2:Int)=z.kd from ykd.symm];exact hE.cell 0
  have n2:((w7.alloc (.cells ny 73 (0,0))).setRow w7.heap.size (ints z.l)).cell? ⟨w7.heap.size,2,none⟩=some (.int .i64 ((gO 1 L).sz:Int)):=by rw [show ((gO 1 L).sz:Int)=z.sz from ysz.symm];exact hE.cell 2
  have HE:=ae (hE.to (by ac_rfl:_=(eK (.slice ua ps.length uc) ps*pt w7.heap.size (.cells (ints z.l) 73 (0,0)))*(vA x b v T k*(aA pc p*F)))).right;have D7:=ae ((((d2.trans d3).trans d7).alloc (.cells ny 73 (0,0))).setRow w7.heap.size (ints z.l));have Hone:=ae hone;have Hinf:=ae hinf;have HX:=ae hX;have N0:=ae n0;have N2:=ae n2;clear hnd hB hE hX hone hinf n0 n2 d7 h7 y16 ykd ylk ysz;unfold ny at *
  go_upto_region 3 with (refine wpList_store_row (by exact rfl) 73 (.tmp 5) (.tmp 13) (by exact rfl) w7.heap.size (ints z.l) (by exact rfl) (by exact rfl) 73 _ (by with_reducible exact Hz.out) Hinf.out (by rw [HX.out];rfl) Hone.out ?_)
  have n0:=N0.out;have n2:=N2.out;have hl0:=HL0.out;have hl1:=HL1.out;have hck:=ae fun w=>dy w 11 (by decide);have hlst:=ae (HQ.out _ _ (Bv (X:=X) (c:=11) (by decide) rfl D7.out HE.out));clear Hz Hone Hinf HX N0 N2 HL0 HL1 D7 HE;generalize ((gO 1 L).sz:Int)=sz at *;generalize ps.length=ln at *
  go_wp2_with fail
  refine (hck.out _).mono ?_;rintro e w9 ⟨rfl,rfl⟩;exact ⟨rfl,hlst.out⟩
 ·exact absurd rfl hc
theorem wM {X:ah} (ht:Tidy n T) (hs:aV p1=some ps) (hs2:aV p2=some qs) (hne:ps≠[]) (hw:aR T 1 ps=(0,id)) (hy:T id=some (.dir L)) (hb:lU ps qs=true) (h:Sat w (vA x b v T k*(aA pc p1*(aA qc p2*F)))) :
  Calls Tryz.prog 57 #[ax v,ax pc,ax qc] w (FT 11 X (vA x b v T k*(aA pc p1*(aA qc p2*F))) w):=by
 refine aI fun Q HQ=>?_;have k0:w.cell? ⟨pc,0,none⟩=some (.string (str p1))∧w.cell? ⟨qc,0,none⟩=some (.string (str p2)):=⟨h.ag.cell 0,h.aq.cell 0⟩
 have H:=ae h;obtain ⟨hok,hl⟩:=di hs;obtain ⟨hok2,hl2⟩:=di hs2;have hk:=ae (dK (w:=w.drew) hs);have hk2:=ae fun w'=>dK (w:=w') hs2;have hl0:¬ (ps.length:Int)=0:=by have:=List.length_pos_iff.2 hne;omega
 have HT:=ae ht;have HL:=ae hl;have HL2:=ae hl2;have HW:=ae hw;have HY:=ae hy;have HL0:=ae hl0;have HNE:=ae hne;have HB:=ae hb;clear h ht hs hs2 hok hok2 hl hl2 hw hy hne hl0 hb
 go_enter Tryz.func57,Tryz.ntmps57
 go_wp2_with fail
 go_region_held3 (fun w'=>w'.cell? ⟨pc,0,none⟩=some (.string (str p1))∧w'.cell? ⟨qc,0,none⟩=some (.string (str p2)))
  (first|exact k0|exact k1|exact k2|go_keep)
  (first
   | (go_at_call 32;(with_reducible refine (hk2.out _).mono ?_);rintro e w5 ⟨u2,rfl,d5,h6⟩;have h7:=h6.under h5;have k2:w5.cell? ⟨pc,0,none⟩=some (.string (str p1))∧w5.cell? ⟨qc,0,none⟩=some (.string (str p2)):=⟨h7.aC.cell 0,h7.aG.cell 0⟩)
   | (go_at_call 32;(with_reducible refine hk.out.mono ?_);rintro e w4 ⟨u,rfl,d4,h4⟩;have h5:=h4.under H.out.drew;have k1:w4.cell? ⟨pc,0,none⟩=some (.string (str p1))∧w4.cell? ⟨qc,0,none⟩=some (.string (str p2)):=⟨h5.aq.cell 0,h5.aC.cell 0⟩))
 rename_i hHeld;have h8:=h7.to (by ac_rfl:_=vA x b v T k*(eK u ps*(eK u2 qs*(aA pc p1*(aA qc p2*F)))));obtain ⟨ua,uc,rfl⟩:=eF h8.ag;obtain ⟨va,vc,rfl⟩:=eF h8.aq;have hw:=fI HT.out HL.out iz h8;rw [HW.out] at hw;have Hw:=ae hw;have D5:=ae (((ai.refl w).drew.trans d4).trans d5);have hl0:=HL0.out;clear hHeld k0 k1 k2 h4 h5 h6 h7 h8 d4 d5 hk hk2 H hw HL0
 go_wp2_with fail
 refine Hw.out.mono ?_;rintro e w6 ⟨⟨-,rfl⟩|⟨hc,-⟩,d6,h6⟩
 ·have h7:=h6.to (by ac_rfl:_=eK (.slice ua ps.length uc) ps*(eK (.slice va qs.length vc) qs*(vA x b v T k*(aA pc p1*(aA qc p2*F)))))
  have hbl:=Eo HNE.out HL.out HL2.out h7;rw [HB.out] at hbl;have Hbl:=ae hbl;have ND:=ae fun (w':World) (h':Sat w' (vA x b v T k*(eK (.slice ua ps.length uc) ps*(eK (.slice va qs.length vc) qs*(aA pc p1*(aA qc p2*F))))))=>iZ HY.out h';have D6:=ae (D5.out.trans d6);clear h6 h7 hbl Hw d6 D5 hl0
  go_wp2_with fail
  refine Hbl.out.mono ?_;rintro e w8 ⟨rfl,d8,h8⟩;have hn:=ae (ND.out w8 (h8.to (by ac_rfl)));have D8:=ae (D6.out.trans d8);clear Hbl h8 d8 ND D6
  go_wp2_with fail
  refine hn.out.mono ?_;rintro e w9 ⟨z,rfl,y16,ykd,ylk,ysz,d9,h9⟩;obtain ⟨hfd,-,-⟩:=sI y16 w9;rw [show z.kd=2 from ykd] at hfd;have hbad:=ae (HQ.out _ _ (Bv (X:=X) (c:=11) (by decide) rfl (D8.out.trans d9) (h9.to (by ac_rfl:_=(eK (.slice ua ps.length uc) ps*eK (.slice va qs.length vc) qs)*(vA x b v T k*(aA pc p1*(aA qc p2*F))))).right));have hck:=ae fun w=>dy w 11 (by decide);generalize ints z.l=yl at *;clear hn y16 ykd ylk ysz d9 h9 D8
  go_wp2_with fail
  refine (hck.out _).mono ?_;rintro e w10 ⟨rfl,rfl⟩;exact ⟨rfl,hbad.out⟩
 ·exact absurd rfl hc
end
section
variable {t:Pl} {q:Dk t.n} {s:Ds} {T:Tr} {k m B id:Nat} {O:kg} {w:World} {F:ah} {p p1 p2:List UInt8} {ps qs:List (List UInt8)} {L:List aM}
theorem refused {c:Int} {fs:ah} {w1:World} {G:ah} {v:Value} {f:FuncId} (hc:c≠0) (hf:nr t q s T k) (hB:s.B≤B)
  (h:Calls Tryz.prog f #[ax t.f,v] w1 fun e w'=>∃ s',e = .returned (.int .i64 c)∧ai w1 w'∧s.Rd s'∧Sat w' (dM t s' m O*((if c=0 then emp else G)*F))) :
  Calls Tryz.prog f #[ax t.f,v] w1 fun e w'=>e = .returned (.int .i64 c)∧ai w1 w'∧Sat w' (G*(gI t q m T k B O*F)):=by
 refine h.mono ?_;rintro e w' ⟨s',rfl,d,hr,h2⟩;rw [if_neg hc] at h2;exact ⟨rfl,d,(dR (hf.rd hr) (by rw [hr.B];exact hB) h2).to (aD _ _ _)⟩
theorem EP (hB:B≤1000000) (hs:aV p=some ps) (hw:aR T 1 ps=(0,id)) (hy:T id=some (.dir L)) (h:Sat w (gI t q m T k B O*F)) :
  Calls Tryz.prog 12 #[ax t.f,.string (str p)] w (Ct (gI t q m T k B O) (.int .i64 8) F w):=by
 refine aI fun Q HQ=>?_;obtain ⟨s,h1,h2,h3⟩:=ft h;have hA:=(h3.alloc (.cells #[ax t.f] 25 (0,0))).alloc (.cells #[.string (str p)] 9 (0,0));simp only [World.size_alloc] at hA;have dA:=ae (((ai.refl w).alloc (.cells #[ax t.f] 25 (0,0))).alloc (.cells #[.string (str p)] 9 (0,0)))
 have hd:=ae (refused (c:=8) (B:=B) (fs:=emp) (by decide) h1 h2 (iP h1 (by omega) 35 #[ax (w.heap.size+1),ax w.heap.size] (aA (w.heap.size+1) p) 8 emp (aA (w.heap.size+1) p) (enters Tryz.func35 (by kernel_rfl) rfl)
  (fun x v b w1 H hw1=>zc h1.ty hs hw hy hw1) ((hA.to (by unfold aA;ac_rfl:_=pt w.heap.size (.cells #[ax t.f] 25 (0,0))*(dM t s m O*(aA (w.heap.size+1) p*F)))).right)))
 clear h hA h1 h2 h3 hs hw hy hB
 go_enter Tryz.func12,Tryz.ntmps12
 go_wp2_with fail
 refine hd.out.mono ?_;rintro e w2 ⟨rfl,d2,h2⟩;have hfin:=ae (HQ.out _ _ ⟨rfl,dA.out.trans d2,h2.right⟩);clear hd dA d2 h2 HQ
 go_wp2_with fail
 exact hfin.out
theorem Ef (hB:B≤1000000) (hs:aV p=some ps) (hne:ps≠[]) (hw:aR T 1 ps=(0,id)) (hy:T id=some (.dir L)) (hL:L≠[]) (h:Sat w (gI t q m T k B O*F)) :
  Calls Tryz.prog 18 #[ax t.f,.string (str p)] w (Ct (gI t q m T k B O) (.int .i64 11) F w):=by
 refine aI fun Q HQ=>?_;obtain ⟨s,h1,h2,h3⟩:=ft h;have hA:=h3.alloc (.cells #[.string (str p)] 9 (0,0));have dA:=ae ((ai.refl w).alloc (.cells #[.string (str p)] 9 (0,0)))
 have hd:=ae (refused (c:=11) (B:=B) (fs:=emp) (by decide) h1 h2 (iP h1 (by omega) 49 #[ax w.heap.size] (aA w.heap.size p) 11 emp (aA w.heap.size p) (enters Tryz.func49 (by kernel_rfl) rfl)
  (fun x v b w1 H hw1=>yg h1.ty hs hne hw hy hL hw1) (hA.to (aD _ _ _))))
 clear h hA h1 h2 h3 hs hw hy hB hne hL
 go_enter Tryz.func18,Tryz.ntmps18
 go_wp2_with fail
 refine hd.out.mono ?_;rintro e w2 ⟨rfl,d2,h2⟩;have hfin:=ae (HQ.out _ _ ⟨rfl,dA.out.trans d2,h2.right⟩);clear hd dA d2 h2 HQ
 go_wp2_with fail
 exact hfin.out
theorem AH (hB:B≤1000000) (hs:aV p1=some ps) (hs2:aV p2=some qs) (hne:ps≠[]) (hw:aR T 1 ps=(0,id)) (hy:T id=some (.dir L)) (hb:lU ps qs=true) (h:Sat w (gI t q m T k B O*F)) :
  Calls Tryz.prog 23 #[ax t.f,.string (str p1),.string (str p2)] w (Ct (gI t q m T k B O) (.int .i64 11) F w):=by
 refine aI fun Q HQ=>?_;obtain ⟨s,h1,h2,h3⟩:=ft h;have hA:=(h3.alloc (.cells #[.string (str p1)] 9 (0,0))).alloc (.cells #[.string (str p2)] 9 (0,0));simp only [World.size_alloc] at hA;have dA:=ae (((ai.refl w).alloc (.cells #[.string (str p1)] 9 (0,0))).alloc (.cells #[.string (str p2)] 9 (0,0)))
 have hd:=ae (refused (c:=11) (B:=B) (fs:=emp) (by decide) h1 h2 (iP (O:=O) (m:=m) h1 (by omega) 57 #[ax w.heap.size,ax (w.heap.size+1)] (aA w.heap.size p1*aA (w.heap.size+1) p2) 11 emp (aA w.heap.size p1*aA (w.heap.size+1) p2) (enters Tryz.func57 (by kernel_rfl) rfl)
  (fun x v b w1 H hw1=>(wM (x:=x) (b:=b) (v:=v) (k:=k) (F:=ew t m O*H) h1.ty hs hs2 hne hw hy hb (hw1.to (by ac_rfl))).mono fun e w' hq=>by simpa only [aw] using hq) (hA.to (by unfold aA;ac_rfl))))
 clear h hA h1 h2 h3 hs hw hy hB hne hb hs2
 go_enter Tryz.func23,Tryz.ntmps23
 go_wp2_with fail
 refine hd.out.mono ?_;rintro e w2 ⟨rfl,d2,h2⟩;have hfin:=ae (HQ.out _ _ ⟨rfl,dA.out.trans d2,h2.right⟩);clear hd dA d2 h2 HQ
 go_wp2_with fail
 exact hfin.out
end
end Go.Cl
