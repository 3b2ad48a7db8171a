/- Steps. -/
import Derived.Test.YtebfaobobccikaaGreatDoorSP25
import Derived.Test.YtebfaobobccikaaGreatDoorSP16
import Derived.Lib.IndexLaws
set_option linter.all false
set_option maxRecDepth 99999
set_option maxHeartbeats 0
open Go.SL
open Go.Value renaming int->Y,slice->X,string->W,bool->Q
open Go.Obj renaming cells->Z
open Go.Ending renaming returned->N
open Go renaming World->U,Value->S
open Go.Proofs.Tryz renaming prog->T
open Option renaming some->R,none->V
open Bool renaming true->O,false->M
open Go.Proofs.Tryz
open Prod renaming fst->A1
open List renaming length_append->D1,length_take->L1,length_cons->N1,take_of_length_le->R1,length_nil->S1,nil_append->T1,map_append->U1,drop_left'->W1,getElem?_append_right->X1,mem_of_mem_take->Z1,size_toArray->E2,push_toArray->M2,append_toArray->N2,cons_append->P2,flatten_append->R2,map->S2,getElem_of_mem->T2,append_assoc->X2,length_drop->Y2,take_prefix->Z2,take_append_drop->B3,filter_append->G3,append_nil->J3,getElem?_take->L3,getElem?_eq_getElem->P3,mem_of_getElem?->S3,getElem?_replicate->T3,getElem?_append_left->W3,flatMap_append->X3,eq_of_mem_replicate->Y3,length_replicate->Z3,drop_eq_nil_of_le->J4,mem_of_mem_drop->K4,getElem?_eq_none->L4
open Bool renaming false_and->H1,and_false->K1,eq_iff_iff->M1,true_and->V1
open Nat renaming zero_le->Y1,reduceAdd->H2,reduceSub->J2,le_refl->W2
open Array renaming replicate_succ->K2,replicate_zero->L2,getElem?_toList->S4
open Go.World renaming size_alloc->K3
namespace Go.SL
open RowKit
structure aN where
 nd:Nat
 nm:List UInt8
deriving DecidableEq
def FF (l:List UInt8):Bool:=decide (1<=l.length) && (decide (l.length<=28) && !l.contains 0)
def aN.ok (e:aN):Bool:=decide (1<=e.nd) && (decide (e.nd<=3839) && FF e.nm)
def aN.no:aN:=⟨0,[]⟩
def aN.enc (e:aN):List UInt8:=dH e.nd 2++(dH e.nm.length 1++(e.nm++zs (29-e.nm.length)))
def aN.v (e:aN):S:=.agg #[Y .i64 (e.nd:Int),W (str e.nm)]
def aN.cells (e:aN):List S:=[Y .i64 (e.nd:Int),W (str e.nm)]
theorem rN {l:List UInt8}:FF l=O↔1<=l.length/\l.length<=28/\(0:UInt8) ∉ l:=by
 unfold FF;simp
theorem aN.mG {e:aN}:e.ok=O↔1<=e.nd/\e.nd<=3839/\FF e.nm=O:=by
 unfold aN.ok;simp
theorem aN.dO {e:aN} (h:e.ok=O):e.enc.length=32:=by
 have:=rN.1 (aN.mG.1 h).2.2;unfold aN.enc;simp only [D1,bu,bq];omega
theorem aN.KC:aN.no.enc=zs 32:=by decide +kernel
theorem tH (l:List UInt8) (c:UInt8):Lib.indexByte l c<0↔c ∉ l:=by
 have m:=Lib.indexByte_ge l c;constructor
 .intro h i
  have:Lib.indexByte l c=-1:=by omega
  obtain ⟨k,d,g⟩:=T2 i;exact Lib.indexByte_none this k (by rw [P3 d,g])
 .intro h
  refine Int.not_le.1 fun a=>?_;obtain ⟨o,j⟩:=Int.eq_ofNat_of_zero_le a;have:=(Lib.indexByte_some j).1;exact h (S3 this)
def cL (l:List UInt8):Bool:=FF l && (!l.contains 47 && (decide (l≠[46]) && decide (l≠[46,46])))
theorem sV {l:List UInt8} (h:cL l=O):FF l=O:=by
 unfold cL at h;simp only [Bool.and_eq_true] at h;exact h.1
end Go.SL
namespace Go.Proofs.Fs
open RowKit SL Proofs.Ba
theorem iL (l:List UInt8):(str l).size=l.length:=by simp [str,ByteArray.size]
theorem xf (w:U) (e:aN):Calls T 239 #[e.v] w fun r v=>r = N (Q e.ok)/\ag v (whole w)/\aj w v:=by
 refine aH fun D g=>?_;obtain ⟨n,l⟩:=e;have t:=((ag.whole w).alloc (Z #[Y .i64 (n:Int),W (str l)] 80 (0,0)))
 have h:=ae ((aj.refl w).alloc (Z #[Y .i64 (n:Int),W (str l)] 80 (0,0)));have d:=ae t.right;have j:=tH l 0;have i:=Tryz.strings_IndexByte (str l) 0;have q:(0:Int).toNat.toUInt8=(0:UInt8):=rfl;have s:(str l).data.toList=l:=rfl;rw [q,s] at i;have C:=iL l;obtain ⟨o,u⟩:∃ o,Lib.indexByte l 0=o:=⟨_,rfl⟩
 rw [u] at i j;have z:=ae i;have y:=ae j;have c:Hid ((aN.mk n l).ok=(decide (1<=n) && (decide (n<=3839) && (decide (1<=l.length) && (decide (l.length<=28) && !l.contains 0))))):=rfl;clear t i j u q s;obtain ⟨m,B⟩:∃ m,l.length=m:=⟨_,rfl⟩
 rw [B] at C c;unfold aN.v
 by_cases E:(n:Int)<1
 .have a:Hid ((aN.mk n l).ok=M):=by show _=_;rw [c.out,decide_eq_false (by omega)];rfl
  go_enter func239,ntmps239
  go_wp2_with fail
  exact g.out _ _ ⟨by rw [a.out];try (first|rfl|simp),d.out,h.out⟩
 by_cases G:(3839:Int)<(n:Int)
 .have a:Hid ((aN.mk n l).ok=M):=by show _=_;rw [c.out,decide_eq_false (p:=n<=3839) (by omega),H1,K1]
  go_enter func239,ntmps239
  go_wp2_with fail
  exact g.out _ _ ⟨by rw [a.out];try (first|rfl|simp),d.out,h.out⟩
 by_cases H:(m:Int)<1
 .have a:Hid ((aN.mk n l).ok=M):=by show _=_;rw [c.out,decide_eq_false (p:=1<=m) (by omega),H1,K1,K1]
  go_enter func239,ntmps239
  go_wp2_with fail
  exact g.out _ _ ⟨by rw [a.out];try (first|rfl|simp),d.out,h.out⟩
 by_cases I:(28:Int)<(m:Int)
 .have a:Hid ((aN.mk n l).ok=M):=by show _=_;rw [c.out,decide_eq_false (p:=m<=28) (by omega),H1,K1,K1,K1]
  go_enter func239,ntmps239
  go_wp2_with fail
  exact g.out _ _ ⟨by rw [a.out];try (first|rfl|simp),d.out,h.out⟩
 have a:Hid ((aN.mk n l).ok=decide (o<0)):=by
  show _=_
  rw [c.out,decide_eq_true (p:=1<=n) (by omega),decide_eq_true (p:=n<=3839) (by omega),decide_eq_true (p:=1<=m) (by omega),decide_eq_true (p:=m<=28) (by omega),V1,V1,V1,V1];rw [M1];simp only [Bool.not_eq_true',decide_eq_true_eq,y.out];simp
 go_enter func239,ntmps239
 go_wp2_with fail
 refine (z.out _).mono ?_;rintro e J ⟨rfl,rfl⟩
 go_wp2_with fail
 exact g.out _ _ ⟨by rw [a.out];try (first|rfl|simp),d.out,h.out⟩
theorem rP (w:U) (l:List UInt8):Calls T 140 #[W (str l)] w fun b0 w'=>b0 = N (Q (cL l))/\w=w':=by
 refine aH fun c0 d=>?_;have g:=Tryz.strings_IndexByte (str l) 0;have h:=Tryz.strings_IndexByte (str l) 47;have v:(0:Int).toNat.toUInt8=(0:UInt8):=rfl;have y:(47:Int).toNat.toUInt8=(47:UInt8):=rfl;have o:(str l).data.toList=l:=rfl;rw [v,o] at g;rw [y,o] at h;have s:=tH l 0;have t:=tH l 47;have P:=iL l;obtain ⟨a,z⟩:∃ a,Lib.indexByte l 0=a:=⟨_,rfl⟩
 obtain ⟨i,B⟩:∃ a,Lib.indexByte l 47=a:=⟨_,rfl⟩
 rw [z] at g s;rw [B] at h t;have u:=ae g;have j:=ae h
 have r:Hid (cL l=((decide (1<=l.length) && (decide (l.length<=28) && decide (a<0))) && (decide (i<0) && (decide (l≠[46]) && decide (l≠[46,46]))))):=by
  unfold cL FF;congr 1
  .congr 2
   rw [M1];simp [s]
  .congr 1
   rw [M1];simp [t]
 have E:((str l).toList == [46]) = !decide (l≠[46]):=by
  rw [Lib.toList_data,M1,beq_iff_eq];simp [str]
 have G:((str l).toList == [46,46]) = !decide (l≠[46,46]):=by
  rw [Lib.toList_data,M1,beq_iff_eq];simp [str]
 obtain ⟨m,C⟩:∃ m,l.length=m:=⟨_,rfl⟩
 rw [C] at P r;have I:=ae E;have J:=ae G;clear C z B g h s t v o y E G
 by_cases h3:(m:Int)<1
 .have c:Hid (cL l=M):=by show _=_;rw [r.out,decide_eq_false (p:=1<=m) (by omega),H1,H1]
  go_enter func140,ntmps140
  go_wp2_with fail
  exact d.out _ _ ⟨by rw [c.out];try (first|rfl|simp),rfl⟩
 by_cases h4:(28:Int)<(m:Int)
 .have c:Hid (cL l=M):=by show _=_;rw [r.out,decide_eq_false (p:=m<=28) (by omega),H1,K1,H1]
  go_enter func140,ntmps140
  go_wp2_with fail
  exact d.out _ _ ⟨by rw [c.out];try (first|rfl|simp),rfl⟩
 have D:Hid (cL l=(decide (a<0) && (decide (i<0) && (decide (l≠[46]) && decide (l≠[46,46]))))):=by grind
 by_cases h5:(0:Int)<=i
 .have c:Hid (cL l=M):=by show _=_;rw [D.out,decide_eq_false (p:=i<0) (by omega),H1,K1]
  go_enter func140,ntmps140
  go_wp2_with fail
  refine (j.out _).mono ?_;rintro e H ⟨rfl,rfl⟩
  go_wp2_with fail
  exact d.out _ _ ⟨by rw [c.out];try (first|rfl|simp),rfl⟩
 by_cases h6:(0:Int)<=a
 .have c:Hid (cL l=M):=by show _=_;rw [D.out,decide_eq_false (p:=a<0) (by omega),H1]
  go_enter func140,ntmps140
  go_wp2_with fail
  refine (j.out _).mono ?_;rintro e H ⟨rfl,rfl⟩
  go_wp2_with fail
  refine (u.out _).mono ?_;rintro e w3 ⟨rfl,rfl⟩
  go_wp2_with fail
  exact d.out _ _ ⟨by rw [c.out];try (first|rfl|simp),rfl⟩
 have K:Hid (cL l=(decide (l≠[46]) && decide (l≠[46,46]))):=by grind
 have n1:=I.out;have n2:=J.out;generalize decide (l≠[46])=p at *;generalize decide (l≠[46,46])=q at *;cases p <;> cases q
 all_goals
  go_enter func140,ntmps140
  go_wp2_with fail
  refine (j.out _).mono ?_;rintro e H ⟨rfl,rfl⟩
  go_wp2_with fail
  refine (u.out _).mono ?_;rintro e w3 ⟨rfl,rfl⟩
  go_wp2_with fail
  exact d.out _ _ ⟨by rw [K.out];try (first|rfl|simp),rfl⟩
end Go.Proofs.Fs
namespace Go.SL
open RowKit
def aN.may (e:aN):Prop:=e.ok=O\/e=aN.no
theorem aN.GF {e:aN} (h:e.may):e.nm.length<=28/\e.nd<=3839:=by
 rcases h with h|rfl
 .have:=aN.mG.1 h
  have a:=rN.1 this.2.2;exact ⟨a.2.1,this.2.1⟩
 .exact ⟨by decide,by decide⟩
theorem GP {a:Int} {s:Nat} (rest:List UInt8) (c:0<=a) (d:a<(256:Int) ^ s):iY (dH a s++rest) s=a:=by
 rw [mZ a s rest s (W2 _),Int.emod_eq_of_lt c d]
theorem aN.parts {e:aN} (d:e.may) {L rest:List UInt8} {o:Nat} (h:L.drop o=e.enc++rest) :
  iY (L.drop o) 2=(e.nd:Int)/\iY (L.drop (o+2)) 1=(e.nm.length:Int)/\(L.drop (o+3)).take 29=e.nm++zs (29-e.nm.length):=by
 obtain ⟨g,i⟩:=aN.GF d
 have a:L.drop (o+2)=dH e.nm.length 1++((e.nm++zs (29-e.nm.length))++rest):=by
  rw [<- List.drop_drop,h];unfold aN.enc;rw [X2,W1 (bu _ _)];simp only [X2]
 have c:L.drop (o+3)=(e.nm++zs (29-e.nm.length))++rest:=by
  rw [show o+3=(o+2)+1 by omega,<- List.drop_drop,a,W1 (bu _ _)]
 refine ⟨?_,?_,?_⟩
 .rw [h];unfold aN.enc;rw [X2];exact GP _ (by omega) (by omega)
 .rw [a];exact GP _ (by omega) (by omega)
 .rw [c,List.take_left']
  rw [D1,bq];omega
end Go.SL
namespace Go.Proofs.Fs
open RowKit SL Proofs.Ba
def PA (r g c:Nat) (d:Array S) (L:List UInt8) (o n:Nat) (w:U) (F:ai) (e:Ending) (a:U):Prop:=
 ∃ v,e = N v/\ag a (bs 5 v ((L.drop o).take n)*(cq r g c d L (o+n)*F))/\aj w a
theorem DJ (w:U) (r g a:Nat) (d:Array S) (L:List UInt8) (o n:Nat) (F:ai) (h:ag w (cq r g a d L o*F)) (B:o<L.length) (y:o+n<=L.length) (u:L.length<=1000000) :
  Calls T 199 #[az r,Y .i64 (n:Int)] w (PA r g a d L o n w F):=by
 have z:=xg w r g a d L o n F h B y u
 go_enter func199,ntmps199
 go_wp2_with fail
 (refine z.mono ?_)
 rintro e D ⟨c,rfl,j,q⟩;have v:((L.drop o).take n).length=n:=by rw [L1,Y2];omega
 have C:=sT j o n c (by omega);have t:ag D (bs 5 (X V 0 0) []*(cq r g a d L (o+n)*F)):=j.fq _ _;obtain ⟨G,H,l,i,s,a3,E,rfl⟩:=iR t C (by simp) (by omega);simp only [S1,Nat.zero_add,v] at l i;have m:=ae l;rw [T1] at i
 go_wp2_with (at_builtin;refine wpList_append_run m.out _ _ rfl rfl rfl rfl rfl ?_)
 go_ret
 exact ⟨_,rfl,i,q.trans s⟩
theorem LL:(prog.info? 80).map (·.size)=R 2:=by kernel_rfl
def UI (r g c:Nat) (d:Array S) (L:List UInt8) (o:Nat) (x:aN) (w:U) (F:ai) (e:Ending) (a:U):Prop:=
 e = N (.tuple #[x.v,Q O])/\ag a (cq r g c d L (o+32)*F)/\aj w a
def VK (m:Nat) (u:S):Prop:=∃ k:Nat,k<=29-m/\u = Y .i64 (k:Int)
theorem qX {w:U} {d:Array S} {a:Nat} {e:S} {c:Array S} {F:ai} (g:d[2]?=R (az a)) (h:d[3]?=R e) (j:ag w (pt a (Z c 80 (0,0))*F)) (i:c.size=2) :
  (results Tryz.f289 d).run T w = .ok (.tuple #[.agg c,e]) w:=by
 have l:=run_loadVar_row (P:=T) w a 80 80 c (0,0) _ j.heap underlying80 rfl (by rw [i];exact LL);simp [results,Tryz.results289,g,h,asAddr,l]
theorem M7 (w:U) (r g c:Nat) (d:Array S) (L rest:List UInt8) (o:Nat) (x:aN) (F:ai) (h0:ag w (cq r g c d L o*F)) (J:x.may) (ho:o+32<=L.length) (hL:L.drop o=x.enc++rest) (E:L.length<=1000000) :
  Calls T 289 #[az r] w (UI r g c d L o x w F):=by
 refine aH fun s0 K=>?_;obtain ⟨p1,p2,p3⟩:=aN.parts J hL;obtain ⟨q1,q2⟩:=aN.GF J;have hA:=h0.alloc (Z #[Y .i64 0,.string ⟨#[]⟩] 80 (0,0));have dA:=ae ((aj.refl w).alloc (Z #[Y .i64 0,.string ⟨#[]⟩] 80 (0,0)));have HX:=ae J;have b0:=ae p1;have c0:=ae p2;have d0:=ae p3;have a:=hA.to (by ac_rfl:_=cq r g c d L o*(pt w.heap.size (Z #[Y .i64 0,.string ⟨#[]⟩] 80 (0,0))*F));have k0:=jr _ r g c d L o 2 _ a (by omega) (by omega) (by decide) E;have e0:=ae k0
 go_enter func289,ntmps289
 go_wp2_with fail
 refine e0.out.mono ?_;generalize w.heap.size=j at *;rintro e w2 ⟨rfl,h2,d2⟩;have D2:=ae (dA.out.trans d2);have l0:=jr _ r g c d L (o+2) 1 _ h2 (by omega) (by omega) (by decide) E;have g0:=ae l0;have q0:(x.nm.length:Int)<=28:=by omega
 rw [b0.out]
 go_wp2_with fail
 refine g0.out.mono ?_;rintro e w3 ⟨rfl,h3,d3⟩;have D3:=ae (D2.out.trans d3);have hb:=DJ _ r g c d L (o+2+1) 29 _ h3 (by omega) (by omega) E;have Hb:=ae hb;rw [c0.out];obtain ⟨m,G⟩:∃ m,x.nm.length=m:=⟨_,rfl⟩
 have q:=ae G;rw [G] at q1 q0;rw [G]
 go_wp2_with fail
 refine Hb.out.mono ?_;rintro e h ⟨v,rfl,h4,d4⟩;have D4:=ae (D3.out.trans d4)
 have D:ag h (bs 5 v (x.nm++zs (29-m))*(cq r g c d L (o+32)*(pt j (Z #[Y .i64 0,.string ⟨#[]⟩] 80 (0,0))*F))):=by
  rw [d0.out,q.out] at h4;exact h4
 have t:(x.nm++zs (29-m)).length=29:=by rw [D1,bq,q.out];omega
 obtain ⟨y,s,rfl,k1,k2,k3,-,-⟩:=KI D (i:=0) (by omega);rw [t];rw [t] at k1 k3
 have hz:∀ k,k<29-m->h.cell? ⟨y,m+k,V⟩=R (Y .u8 0):=fun k hk=>by
  rw [k3 (m+k) (by omega),List.getD,X1 (by rw [q.out];omega),q.out];unfold zs;rw [T3,if_pos (by omega)];rfl
 have o0:Rd h (X (R ⟨y,0,V⟩) 29 s) (x.nm++zs (29-m)):=by have:=D.oI;rw [t] at this;exact ⟨by rw [t];exact this.1,by rw [t];exact this.2⟩
 have m0:Rd h (X (R ⟨y,0,V⟩) m s) x.nm:=by
  rcases o0.2 with ⟨e,-⟩|⟨u0,x0,e,ha⟩
  .cases e
  .simp only [Value.slice.injEq,Option.some.injEq] at e
   obtain ⟨rfl,-,rfl⟩:=e;refine ⟨by simp,.inr ⟨_,_,by rw [q.out],fun p0 u hu=>ha p0 u ?_⟩⟩;rw [U1,W3 (by have:=(List.getElem?_eq_some_iff.1 hu).1;exact this)];exact hu
 have t1:=rI h _ _ m0;have H4:=ae D;have Hz:=ae hz;have K0:(29:Int)<=(s:Int):=by omega
 have L0:(s:Int)<=9223372036854775807:=by unfold maxLen at k2;omega
 have P:=ae t1
 go_wp2_with fail
 go_loop [27] (fun u=>VK m u) (fun u=>29-m-(intOf u).toNat)
 case atStart=>exact ⟨0,Y1 _,rfl⟩
 case round=>
  obtain ⟨k,hk,rfl⟩:=hrel
  by_cases G0:k<29-m
  .have H0:(k:Int)<29-(m:Int):=by omega
   have i0:((29-m:Nat):Int)=29-(m:Int):=by omega
   go_wp2_with fail
   go_round
   case rel=>exact ⟨k+1,by omega,by go_num⟩
   case measure=>simp [intOf];omega
  .obtain rfl:k=29-m:=by omega
   have i0:((29-m:Nat):Int)=29-(m:Int):=by omega
   have t1:=P.out;clear P
   go_upto_region 13 with (fail)
   have a:=(H4.out.alloc (Z #[Y .i64 (x.nd:Int),W (str x.nm)] 80 (0,0))).to (by ac_rfl:_=pt h.heap.size (Z #[Y .i64 (x.nd:Int),W (str x.nm)] 80 (0,0))*(pt j (Z #[Y .i64 0,.string ⟨#[]⟩] 80 (0,0))*(cq r g c d L (o+32)*(F*bs 5 (X (R ⟨y,0,V⟩) (x.nm++zs (29-m)).length s) (x.nm++zs (29-m))))));have dB:=ae (D4.out.alloc (Z #[Y .i64 (x.nd:Int),W (str x.nm)] 80 (0,0)));generalize h.alloc (Z #[Y .i64 (x.nd:Int),W (str x.nm)] 80 (0,0))=w5 at *;generalize h.heap.size=ec at *;have i:=ae a;have B:=a.cell 0;have C:=a.cell 1;rcases HX.out with H|n0
   .have h1:¬ (x.nd:Int)=0:=by have:=(aN.mG.1 H).1;omega
    have I:=xf w5 x;rw [H] at I;have Hr:=ae I;clear H I
    go_wp2_with fail
    refine Hr.out.mono ?_;rintro e w6 ⟨rfl,h6,d6⟩;have a:=h6.ei i.out;have B:=a.cell 0;have C:=a.cell 1;have r0:=a.ah.cell 0;have r1:=a.ah.cell 1;have f0:=a.ah.frozen 0;have f1:=a.ah.frozen 1;have l:=ae ((a.ah.setCell 0 (Y .i64 (x.nd:Int))).setCell 1 (W (str x.nm)));have z:=ae (((dB.out.trans d6).setCell ⟨j,0,V⟩ (Y .i64 (x.nd:Int))).setCell ⟨j,1,V⟩ (W (str x.nm)))
    go_wp2_with fail
    exact bodyPost_ret (qX rfl rfl l.out rfl) rfl (K.out _ _ ⟨rfl,(l.out.right.right.to (ax _ _ _).symm).left,z.out⟩)
   .subst n0
    have r0:=i.out.ah.cell 0;have r1:=i.out.ah.cell 1;have f0:=i.out.ah.frozen 0;have f1:=i.out.ah.frozen 1;have l:=ae ((i.out.ah.setCell 0 (Y .i64 0)).setCell 1 (.string ⟨#[]⟩));have z:=ae ((dB.out.setCell ⟨j,0,V⟩ (Y .i64 0)).setCell ⟨j,1,V⟩ (.string ⟨#[]⟩));have D0:=B;have F0:w5.cell? ⟨ec,1,V⟩=R (.string ⟨#[]⟩):=C;clear i B C
    go_wp2_with fail
    exact bodyPost_ret (qX rfl rfl l.out rfl) rfl (K.out _ _ ⟨rfl,(l.out.right.right.to (ax _ _ _).symm).left,z.out⟩)
end Go.Proofs.Fs
namespace Go.SL
open RowKit
def eE (Es:List aN):List UInt8:=Es.flatMap aN.enc
theorem aN.Pw {e:aN} (h:e.may):e.enc.length=32:=by
 rcases h with h|rfl
 .exact aN.dO h
 .rw [aN.KC];exact bq 32
theorem iA:∀ {Es:List aN},(∀ e ∈ Es,e.may)->(eE Es).length=32*Es.length
 | [],_=>rfl
 | e :: Es,h=>by
  have:=iA (Es:=Es) fun x a=>h x (List.mem_cons_of_mem _ a);unfold eE at this ⊢;rw [List.flatMap_cons,D1,this,aN.Pw (h e (List.mem_cons_self ..)),N1];omega
theorem ld (A B:List aN):eE (A++B)=eE A++eE B:=by unfold eE;rw [X3]
theorem JV {a:List aN} (h:∀ e ∈ a,e.may) {k:Nat} (g:k<a.length):(eE a).drop (32*k)=(a[k]).enc++eE (a.drop (k+1)):=by
 have e:a=a.take k++(a[k] :: a.drop (k+1)):=by simp
 have c:(eE (a.take k)).length=32*k:=by
  rw [iA fun x d=>h x (Z1 d),L1];omega
 conv=>lhs;rw [e]
 rw [ld,W1 c]
 rfl
end Go.SL
namespace Go.Proofs.Fs
open RowKit SL Proofs.Ba
attribute [local go_sem] Oper.semAt_some
def VT (e:aN) (a:Array S):ai:=fact (a=#[e.v,Q O])
def uz (c:Nat) (v:S) (a:List aN):ai:=pt c (Z #[v] 22 (0,0))*bs 5 v (eE a)
def AX (r g d:Nat) (h:Array S) (A:List aN->ai) (a:List aN) (c:ai) (w0:U) (k:Nat) (wr:U):Prop:=
 ∃ j:Nat,j<=a.length/\a.length<=j+k/\aj w0 wr/\ag wr (cq r g d h (eE a) (32*j)*(A (a.take j)*c))
theorem Ev {a:List aN} {k:Nat} (h:k<a.length):a.take k++[a[k]]=a.take (k+1):=by simp_all
theorem DK (n:Nat) (bx:Nat) (v:Value) (Es:List aN) (hm:∀ e ∈ Es,e.may) (h0:0<Es.length) (hl:Es.length<=15) :
  fJ Fence.wide n prog 288 #[.pointer (some ⟨bx,0,none⟩)] (uz bx v Es) VT (fun ys=>ys=Es) (fun ys=>ys <+: Es):=by
 intro lp A Ax G w0 w hY hs h;have hlen:=iA hm;have hB:ag w (pt bx (.cells #[v] 22 (0,0))*(bs 5 v (eE Es)*(A []*G))):=h.to (by unfold uz;ac_rfl);have c0:=hB.cell 0;have hr:=ou w v (eE Es) hB.ah.oI (by omega) (by omega);have H:=ae h;have HM:=ae hm;have HL:=ae hlen;refine callsIn_of_wp func288 rfl trivial ?_ rfl;simp only [ntmps288,E2,N1,S1,H2,J2,K2,L2,M2,N2,T1,P2]
 gi_wp2_with fail
 refine kx hr ?_;rintro e w1 ⟨r,g,cap,cur,rfl,h1,d1⟩;have hst:=h1.under H.out;have ds:=hs.trans d1
 gi_wp2
 gi_loopw [] (fun wr=>∃ k,AX r g cap cur A Es (uz bx v Es*G) w0 k wr) (fun wr=>leastOf (fun k=>AX r g cap cur A Es (uz bx v Es*G) w0 k wr))
 case atStart=>exact ⟨Es.length,0,Y1 _,by omega,ds,hst⟩
 case round=>
  obtain ⟨hk,hmin⟩:=leastOf_spec hrel;generalize leastOf (fun k=>AX r g cap cur A Es (uz bx v Es*G) w0 k wr)=gk at hk hmin ⊢;obtain ⟨j,hj,hjk,hside,hsat⟩:=hk;have hleft:=CF wr r g cap cur (eE Es) (32*j) _ hsat;rw [HL.out] at hleft
  by_cases hlt:j<Es.length
  .obtain ⟨q,hq⟩:∃ q,32*Es.length-32*j=q:=⟨_,rfl⟩
   rw [hq] at hleft;have hq1:(32:Int)<=(q:Int):=by omega
   have hmay:=HM.out _ (List.getElem_mem hlt);have hdr:=JV HM.out hlt;have hsl:=M7 wr r g cap cur (eE Es) (eE (Es.drop (j+1))) (32*j) Es[j] _ hsat hmay (by rw [HL.out];omega) hdr (by rw [HL.out];omega);have hsn:=Ev hlt;have hpre:Es.take j++[Es[j]] <+: Es:=by rw [hsn];exact Z2 _ _
   have Hsl:=ae hsl;have Hsn:=ae hsn;have Hpre:=ae hpre;have HJ:=ae hjk;generalize Es[j]=x at *
   gi_wp2_with fail
   refine kx hleft ?_;rintro e w2 ⟨rfl,rfl⟩
   gi_wp2_with fail
   refine kx Hsl.out ?_;rintro e w3 ⟨rfl,h3,d3⟩;have hA:=h3.alloc (.cells #[.int .i64 (x.nd:Int),.string (str x.nm)] 80 (0,0));have dA:=(hside.trans d3).alloc (.cells #[.int .i64 (x.nd:Int),.string (str x.nm)] 80 (0,0));unfold aN.v
   have hB:ag (w3.alloc (.cells #[.int .i64 (x.nd:Int),.string (str x.nm)] 80 (0,0))) (A (Es.take j)*(VT x #[.agg #[.int .i64 (x.nd:Int),.string (str x.nm)],.bool true]*(cq r g cap cur (eE Es) (32*j+32)*(uz bx v Es*G)))):=by
    have h9:=hA.right;have h10:=h9.to (by ac_rfl:_=A (Es.take j)*(cq r g cap cur (eE Es) (32*j+32)*(uz bx v Es*G)));exact ag.ah (ag.aq.2 ⟨rfl,h10⟩)
   obtain ⟨fn,tmps,assign,body,hy,hR⟩:=hY (Es.take j) x #[.agg #[.int .i64 (x.nd:Int),.string (str x.nm)],.bool true] _ _ Hpre.out dA hB
   gi_wp2
   refine ⟨fun h=>(by cases h),hR.mono ?_⟩;rintro e W' (⟨rfl,hs5,hsat5⟩|⟨rfl,hs5,hsat5⟩)
   .have hrel':AX r g cap cur A Es (uz bx v Es*G) w0 (gk-1) W':=
     ⟨j+1,hlt,by have:=HJ.out;omega,hs5,by rw [<- Hsn.out,Nat.mul_add];exact hsat5.ah⟩
    gi_wp2
    go_roundw
    case rel=>exact ⟨_,hrel'⟩
    case measure=>exact Nat.lt_of_le_of_lt ((leastOf_spec ⟨_,hrel'⟩).2 _ hrel') (by have:=HJ.out;omega)
   .gi_wp2
    refine bodyPost_ret (results_none rfl _ _ _) rfl ?_;exact ⟨⟨_,rfl⟩,hs5,.inr ⟨_,Hpre.out,hsat5.iJ⟩⟩
  .obtain rfl:j=Es.length:=by omega
   rw [Nat.sub_self] at hleft;have hleft2:=hleft;rw [List.take_length] at hsat;have HS:=ae hsat.right
   gi_wp2_with fail
   refine kx hleft2 ?_;rintro e w2 ⟨rfl,rfl⟩
   gi_wp2
   go_end0
   exact ⟨⟨_,rfl⟩,hside,.inl ⟨_,rfl,HS.out⟩⟩
end Go.Proofs.Fs
namespace Go.SL
open RowKit
def bC (P:List aN):List S:=P.flatMap aN.cells
theorem zC (P:List aN):(bC P).length=P.length*2:=by
 unfold bC
 induction P with
 | nil=>rfl
 | cons e P a=>rw [List.flatMap_cons,D1,a,N1];show 2+_=_;omega
theorem mz (A B:List aN):bC (A++B)=bC A++bC B:=by unfold bC;rw [X3]
theorem Ib {P:List aN} {k:Nat} (d:k<P.length):(bC P)[k*2]?=R (Y .i64 ((P[k]).nd:Int))/\(bC P)[k*2+1]?=R (W (str (P[k]).nm)):=by
 have e:P=P.take k++(P[k] :: P.drop (k+1)):=by rw [List.getElem_cons_drop d,B3]
 have a:(bC (P.take k)).length=k*2:=by rw [zC,L1];omega
 have c:bC P=bC (P.take k)++(Y .i64 ((P[k]).nd:Int) :: W (str (P[k]).nm) :: bC (P.drop (k+1))):=by
  conv=>lhs;rw [e]
  rw [mz];rfl
 rw [c];constructor
 .rw [X1 (by omega),a,Nat.sub_self];rfl
 .rw [X1 (by omega),a,show k*2+1-k*2=1 by omega];rfl
theorem IQ (P:List aN):∀ u ∈ bC P,u.oneCell'=O:=by
 intro u a;obtain ⟨e,_,h⟩:=List.mem_flatMap.1 a;simp only [aN.cells,List.mem_cons,List.not_mem_nil,or_false] at h;rcases h with rfl|rfl <;> rfl
def placesOf (P:List aN):List aN:=P++List.replicate (15-P.length) aN.no
theorem j0 {P:List aN} (h:∀ e ∈ P,e.ok=O):∀ e ∈ placesOf P,e.may:=by
 intro e c;rcases List.mem_append.1 c with a|a
 .exact .inl (h e a)
 .exact .inr (Y3 a)
def eH (a:List aN):List aN:=a.filter fun e=>e.ok
def gm (a:List aN):Bool:=a.any fun e => !e.ok
theorem Gi:aN.no.ok=M:=by decide
theorem xK {P:List aN} (h:∀ e ∈ P,e.ok=O):eH (placesOf P)=P:=by
 unfold eH placesOf;rw [G3,List.filter_eq_self.2 h,List.filter_eq_nil_iff.2 (fun e a=>by rw [Y3 a,Gi];exact Bool.noConfusion),J3]
theorem Ea {P:List aN} (h:∀ e ∈ P,e.ok=O) {c:List aN} {x:aN} (m:c++[x] <+: placesOf P) (d:x.ok=O):gm c=M/\c.length<P.length:=by
 obtain ⟨t,r⟩:=m
 have l:c.length<P.length:=by
  refine Nat.lt_of_not_le fun j=>?_;have a:(placesOf P)[c.length]?=R x:=by grind
  unfold placesOf at a;rw [X1 j,T3] at a
  split at a
  .injection a with a
   rw [<- a,Gi] at d;cases d
  .cases a
 refine ⟨?_,l⟩;unfold gm;rw [List.any_eq_false];intro e g
 have:e ∈ P:=by
  obtain ⟨i,o,q⟩:=T2 g;have a:(placesOf P)[i]?=R e:=by grind
  unfold placesOf at a;rw [W3 (by omega)] at a;exact S3 a
 rw [h e this];decide
theorem Ec {P:List aN} (h:∀ e ∈ P,e.ok=O) {d:List aN} {x:aN} (a:d++[x] <+: placesOf P):x.may:=by
 obtain ⟨t,c⟩:=a;exact j0 h x (by rw [<- c];simp)
end Go.SL
namespace Go.Proofs.Fs
open RowKit SL Proofs.Ba
attribute [local go_sem] Oper.semAt_some
def Pp (v:S) (w:U) (e:Ending) (a:U):Prop:=e = N (.func (.func 288) #[] #[.pointer (R ⟨w.heap.size,0,V⟩)])/\a=w.alloc (Z #[v] 22 (0,0))
theorem EU (w:U) (a:Option Addr) (n c:Nat):Calls T 268 #[X a n c] w (Pp (X a n c) w):=by
 go_enter func268,ntmps268
 go_wp2
 go_ret
 exact ⟨rfl,rfl⟩
theorem yf:(prog.info? 80).map (fun i=>(i.zero,i.size,i.bytes))=R (R (.agg #[Y .i64 0,.string ⟨#[]⟩]),2,24):=by kernel_rfl
def F9 (d c:Nat) (a:List aN):ai:=ex fun v=>pt d (Z #[v] 76 (0,0))*(sl 80 2 v (eH a).length (bC (eH a))*pt c (Z #[Q (gm a)] 4 (0,0)))
def SS (a:Option Addr) (d m o h g j:Nat) (l:List aN) (x:aN) (i:Act):ai:=ex fun c:Nat=>
 fact (i={ tmps:=#[X a 480 d,undef,az m,az o,az h,az g,az c,Q O,X a 480 d,Y .i64 480,Q M,X a 480 d,.func (.func 288) #[] #[az j],x.v,Q O,undef,undef,undef,undef,undef,undef,undef,undef,undef,undef,undef,undef,undef,undef],defers:=[] }) *
  (pt c (Z #[Y .i64 (x.nd:Int),W (str x.nm)] 80 (0,0))*F9 h g l)
theorem Kp (a:List aN):eH (a++[aN.no])=eH a/\gm (a++[aN.no])=O:=by
 unfold eH gm;rw [G3,List.any_append];refine ⟨?_,?_⟩
 .rw [show List.filter (fun e:aN=>e.ok) [aN.no]=[] from by rw [List.filter_cons_of_neg (by rw [Gi];exact Bool.noConfusion)];rfl,J3]
 .rw [show List.any [aN.no] (fun e:aN => !e.ok)=O from by rw [List.any_cons,Gi];rfl,Bool.or_true]
theorem I2 (a:List aN) {x:aN} (h:x.ok=O):eH (a++[x])=eH a++[x]/\gm (a++[x])=gm a:=by
 unfold eH gm;rw [G3,List.any_append];refine ⟨?_,?_⟩
 .rw [show List.filter (fun e:aN=>e.ok) [x]=[x] from List.filter_cons_of_pos h]
 .rw [show List.any [x] (fun e:aN => !e.ok)=M from by rw [List.any_cons,h];rfl,Bool.or_false]
theorem P9 (a:List aN):(eH a).length<=a.length:=List.length_filter_le _ _
theorem uE {w:U} {c:Array S} {a b:Nat} {v e:S} {F:ai} (i:c[2]?=R (az a)) (j:c[3]?=R (az b)) (h:ag w (pt a (Z #[v] 76 (0,0))*(pt b (Z #[e] 28 (0,0))*F))) :
  (results Tryz.f244 c).run T w = .ok (.tuple #[v,e]) w:=by
 have d:=h.cell 0;have g:=h.ah.cell 0;simp [results,Tryz.results244,i,j,asAddr,az,go_sem,d,g]
def UR (v:S) (P:List aN) (F:ai) (w:U) (e:Ending) (a:U):Prop:=
 ∃ u,e = N (.tuple #[u,Y .i64 0])/\ag a (sl 80 2 u P.length (bC P)*(bs 5 v (eE (placesOf P))*F))/\aj w a
theorem Bb (w:U) (v:S) (P:List aN) (G:∀ e ∈ P,e.ok=O) (hl:P.length<=15) (F:ai) (h:ag w (bs 5 v (eE (placesOf P))*F)) :
  Calls T 244 #[v] w (UR v P F w):=by
 obtain ⟨i0,hi,hz,m0,h0⟩:=info_parts yf;have l0:(placesOf P).length=15:=by unfold placesOf;rw [D1,Z3];omega
 have k0:(eE (placesOf P)).length=480:=by rw [iA (j0 G),l0]
 obtain ⟨d,g,rfl⟩:=aF h;have u:=(((h.alloc (Z #[X V 0 0] 76 (0,0))).alloc (Z #[Y .i64 0] 28 (0,0))).alloc (Z #[X V 0 0] 76 (0,0))).alloc (Z #[Q M] 4 (0,0));have dA:=((((aj.refl w).alloc (Z #[X V 0 0] 76 (0,0))).alloc (Z #[Y .i64 0] 28 (0,0))).alloc (Z #[X V 0 0] 76 (0,0))).alloc (Z #[Q M] 4 (0,0));simp only [K3] at u;rw [k0] at u ⊢;refine (callsIn_wide (n:=9)).1 ?_;refine callsIn_of_wp_marks func244 rfl trivial ?_ rfl;simp only [ntmps244,E2,N1,S1,H2,J2,K2,L2,M2,N2,T1,P2]
 gi_wp2_with fail
 generalize (((w.alloc (Z #[X V 0 0] 76 (0,0))).alloc (Z #[Y .i64 0] 28 (0,0))).alloc (Z #[X V 0 0] 76 (0,0))).alloc (Z #[Q M] 4 (0,0))=w1 at *;refine ni (EU w1 d 480 g) ?_;rintro en w2 ⟨rfl,rfl⟩;have hB:=u.alloc (Z #[X d 480 g] 22 (0,0));have dB:=dA.alloc (Z #[X d 480 g] 22 (0,0));clear u dA
 gi_wp2_with fail
 generalize w1.alloc (Z #[X d 480 g] 22 (0,0))=w2 at *;generalize w1.heap.size=y at *;generalize w.heap.size+1+1+1=l at *;generalize w.heap.size+1+1=o at *;generalize w.heap.size+1=B at *;generalize w.heap.size=z at *
 have s0:ag w2 (F9 o l []*(uz y (X d 480 g) (placesOf P)*(pt z (Z #[X V 0 0] 76 (0,0))*(pt B (Z #[Y .i64 0] 28 (0,0))*F)))):=
  ag.aw.2 ⟨X V 0 0,by
   have:=(hB.fq 80 2)
   exact this.to (by unfold uz;show _=_*(sl _ 2 _ 0 []*pt l (Z #[Q M] _ _))*_;ac_rfl)⟩
 clear hB h
 refine ku (w0:=w) rfl (by decide) (gf:=288) (lb:=#[.pointer (R ⟨y,0,V⟩)]) rfl trivial (enters func288 (by kernel_rfl) rfl)
  (DK _ y (X d 480 g) (placesOf P) (j0 G) (by omega) (by omega)) (F9 o l) (fun _ _=>fact False) (SS d g z B o l y)
  (pt z (Z #[X V 0 0] 76 (0,0))*(pt B (Z #[Y .i64 0] 28 (0,0))*F)) ?hps dB s0 ?assign ?body ?done ?stop
 case hps=>
  intro x vs C m h;unfold VT at h;obtain ⟨rfl,_⟩:=ag.aq.1 h
  rfl
 case assign=>
  intro J r a x vs C m F0 _ I H hK;have t:=H.ah;unfold VT at t;obtain ⟨rfl,q⟩:=ag.aq.1 t;have u:=q.alloc (Z #[Y .i64 (x.nd:Int),W (str x.nm)] 80 (0,0));have hd:=I.alloc (Z #[Y .i64 (x.nd:Int),W (str x.nm)] 80 (0,0));clear H t q
  have hk:=hK { tmps:=#[X d 480 g,undef,az z,az B,az o,az l,az m.heap.size,Q O,X d 480 g,Y .i64 480,Q M,X d 480 g,.func (.func 288) #[] #[az y],x.v,Q O,undef,undef,undef,undef,undef,undef,undef,undef,undef,undef,undef,undef,undef,undef],defers:=[] } _ hd
   (by
    unfold SS;refine (ag.aw.2 ⟨m.heap.size,?_⟩);exact (ag.aq.2 ⟨rfl,u⟩:ag _ (fact _*_)).to (by ac_rfl))
  clear u hd hK;unfold aN.v at *
  gi_wp2
  exact hk
 case body=>
  intro J r a x a' C m hp I H;unfold SS at H;obtain ⟨c,t⟩:=ag.aw.1 H;obtain ⟨rfl,q⟩:=ag.aq.1 (t.to (ax _ _ _));clear H t;have p0:=Ec G hp;have E:ag m (F9 o l a*(pt c (Z #[Y .i64 (x.nd:Int),W (str x.nm)] 80 (0,0))*(pt J (.loop r)*C))):=q.to (by ac_rfl);obtain ⟨v,H4⟩:=ag.aw.1 E;have s:ag m (pt o (Z #[v] 76 (0,0))*(pt l (Z #[Q (gm a)] 4 (0,0))*(pt c (Z #[Y .i64 (x.nd:Int),W (str x.nm)] 80 (0,0))*(sl 80 2 v (eH a).length (bC (eH a))*(pt J (.loop r)*C))))):=H4.to (by ac_rfl);clear q E H4;have c0:=s.cell 0;have c1:=s.ah.cell 0;have c2:=s.au.cell 0;have c3:=s.au.cell 1;have f0:=s.frozen 0;have f1:=s.ah.frozen 0;rcases p0 with g0|rfl
  .obtain ⟨e1,e2⟩:=Ea G hp g0
   obtain ⟨o1,o2⟩:=I2 a g0;have h1:¬ (x.nd:Int)=0:=by have:=(aN.mG.1 g0).1;omega
   rw [e1] at c1 o2;have R0:=P9 a;have u:=s.alloc (Z #[Y .i64 (x.nd:Int),W (str x.nm)] 80 (0,0))
   have hR:pP (m.alloc (Z #[Y .i64 (x.nd:Int),W (str x.nm)] 80 (0,0))) 2 (X (R ⟨m.heap.size,0,V⟩) 1 1) 1 [Y .i64 (x.nd:Int),W (str x.nm)]:=
    ⟨rfl,.inr ⟨_,_,rfl,fun u0 x0 hu=>by
     rw [Addr.add_lit,Nat.zero_add];exact (u.cell u0).trans (by simpa using hu)⟩⟩
   have o0:=u.to (by ac_rfl:_=sl 80 2 v (eH a).length (bC (eH a))*(pt o (Z #[v] 76 (0,0))*(pt l (Z #[Q (gm a)] 4 (0,0))*(pt c (Z #[Y .i64 (x.nd:Int),W (str x.nm)] 80 (0,0))*(pt m.heap.size (Z #[Y .i64 (x.nd:Int),W (str x.nm)] 80 (0,0))*(pt J (.loop r)*C))))));obtain ⟨v',w',q0,b0,r0⟩:=ag.append (P:=T) (ty:=76) underlying76 hi hz m0 h0 rfl o0 hR (by intro x0 hu;simp only [List.mem_cons,List.not_mem_nil,or_false] at hu;rcases hu with rfl|rfl <;> rfl) (by unfold maxLen;omega) (by omega);obtain ⟨i,j,rfl⟩:=aF b0;have G0:=b0.ah.cell 0;have L0:=b0.ah.frozen 0;have d0:=b0.ah.setCell 0 (X i ((eH a).length+1) j);have e0:=ae d0;have n0:=ae q0;have O1:=ae o1;have O2:=ae o2;have E1:=ae e1;have K:=ae (((I.alloc (Z #[Y .i64 (x.nd:Int),W (str x.nm)] 80 (0,0))).trans r0).setCell ⟨o,0,V⟩ (X i ((eH a).length+1) j));unfold aN.v
   gi_wp2_with (gi_at_builtin;refine dF n0.out _ _ rfl rfl rfl rfl rfl ?_)
   refine ⟨K.out,?_⟩;refine ag.aw.2 ⟨X i ((eH a).length+1) j,?_⟩;rw [O1.out,O2.out,D1,mz];have D:=e0.out;rw [E1.out] at D;have h7:=D.to (by ac_rfl:_=(pt c (Z #[Y .i64 (x.nd:Int),W (str x.nm)] 80 (0,0))*pt m.heap.size (Z #[Y .i64 (x.nd:Int),W (str x.nm)] 80 (0,0)))*(pt o (Z #[X i ((eH a).length+1) j] 76 (0,0))*(sl 80 2 (X i ((eH a).length+1) j) ((eH a).length+1) (bC (eH a)++[Y .i64 (x.nd:Int),W (str x.nm)])*pt l (Z #[Q M] 4 (0,0))*(pt J (.loop r)*C))))
   exact h7.right.to (by
    have e:bC [x]=[Y .i64 (x.nd:Int),W (str x.nm)]:=rfl;rw [e,List.length_singleton];ac_rfl)
  .obtain ⟨o1,o2⟩:=Kp a
   have d0:=s.ah.setCell 0 (Q O);have e0:=ae d0;have O1:=ae o1;have O2:=ae o2;have K:=ae (I.setCell ⟨l,0,V⟩ (Q O));have H0:=c2;have K0:m.cell? ⟨c,1,V⟩=R (.string ⟨#[]⟩):=c3;have ev:aN.no.v = .agg #[Y .i64 0,.string ⟨#[]⟩]:=rfl;clear hi hz m0 h0 d0 o1 o2 s G hp k0 l0 c2 c3;rw [ev];clear ev
   gi_wp2_with fail
   refine ⟨K.out,ag.aw.2 ⟨v,?_⟩⟩;rw [O1.out,O2.out];have D:=e0.out;exact (D.to (by ac_rfl:_=pt c (Z #[Y .i64 (aN.no.nd:Int),W (str aN.no.nm)] 80 (0,0))*(pt o (Z #[v] 76 (0,0))*(sl 80 2 v (eH a).length (bC (eH a))*pt l (Z #[Q O] 4 (0,0))*(pt J (.loop r)*C))))).right.to (by ac_rfl)
 case done=>
  intro D2 ys m hS I H;subst hS;obtain ⟨v,t⟩:=ag.aw.1 H;rw [xK G] at t;obtain ⟨i,j,rfl⟩:=aF (t.to (by ac_rfl:_=sl 80 2 v P.length (bC P)*(pt o (Z #[v] 76 (0,0))*(pt l (Z #[Q (gm (placesOf P))] 4 (0,0))*(uz y (X d 480 g) (placesOf P)*(pt D2 (.deferred (R []))*(pt z (Z #[X V 0 0] 76 (0,0))*(pt B (Z #[Y .i64 0] 28 (0,0))*F))))))));have q:ag m (pt D2 (.deferred (R []))*(pt o (Z #[X i P.length j] 76 (0,0))*(pt z (Z #[X V 0 0] 76 (0,0))*(pt B (Z #[Y .i64 0] 28 (0,0))*(sl 80 2 (X i P.length j) P.length (bC P)*(bs 5 (X d 480 g) (eE (placesOf P))*(F*(pt y (Z #[X d 480 g] 22 (0,0))*pt l (Z #[Q (gm (placesOf P))] 4 (0,0)))))))))):=t.to (by unfold uz;ac_rfl);have c0:=q.ah.cell 0;have z0:=q.au.cell 0;have f0:=q.au.frozen 0;have f1:=q.aA.frozen 0;have E:=q.au.setCell 0 (X i P.length j);have S0:=E.aA.cell 0;have N0:=E.aA.frozen 0;have H4:=E.aA.setCell 0 (Y .i64 0);have s:=ae H4;have K:=ae ((I.setCell ⟨z,0,V⟩ (X i P.length j)).setCell ⟨B,0,V⟩ (Y .i64 0))
  gi_wp2
  have D:=s.out;have h7:=D.to (by ac_rfl:_=pt D2 (.deferred (R []))*(pt z (Z #[X i P.length j] 76 (0,0))*(pt B (Z #[Y .i64 0] 28 (0,0))*(sl 80 2 (X i P.length j) P.length (bC P)*(bs 5 (X d 480 g) (eE (placesOf P))*(F*(pt o (Z #[X i P.length j] 76 (0,0))*(pt y (Z #[X d 480 g] 22 (0,0))*pt l (Z #[Q (gm (placesOf P))] 4 (0,0))))))))));have hK:=h7.heap;have h8:=(h7.putObj (.deferred V)).right;clear D h7;refine ⟨by simp,.inl ⟨_,_,rfl,run_takeDeferred hK,?_⟩⟩;refine ⟨_,uE rfl rfl h8,⟨X i P.length j,rfl,?_,K.out.putObj _ _⟩⟩;exact (h8.right.right.to (by ac_rfl:_=(sl 80 2 (X i P.length j) P.length (bC P)*(bs 5 (X d 480 g) (eE (placesOf P))*F))*(pt o (Z #[X i P.length j] 76 (0,0))*(pt y (Z #[X d 480 g] 22 (0,0))*pt l (Z #[Q (gm (placesOf P))] 4 (0,0)))))).left
 case stop=>
  intro D0 c ys m _ _ H;exact (ag.aq.1 H).1.elim
end Go.Proofs.Fs
namespace Go.SL
open RowKit
structure Jq (f:AF) (L:List aN):Prop where
 kd:f.kd=2
 sz:f.sz=32*L.length
 ok:∀ e ∈ L,e.ok=true
 pR:∀ p,p<32*L.length->f.pR p=(eE L).getD p 0
 len:L.length<=3840
def gT (L:List aN) (i:Nat):List aN:=(L.drop (15*i)).take 15
theorem kr {L:List aN} (h:∀ e ∈ L,e.ok=O):(eE L).length=32*L.length:=iA fun e a=>.inl (h e a)
theorem FM {L:List aN} (h:∀ e ∈ L,e.ok=O) (k:Nat):(eE L).drop (32*k)=eE (L.drop k):=by
 by_cases c:k<=L.length
 .conv=>lhs;rw [<- B3 k L]
  rw [ld,W1];rw [kr fun e a=>h e (Z1 a),L1];omega
 .rw [J4 (by omega:L.length<=k),J4 (by rw [kr h];omega)];rfl
theorem Ed {L:List aN} (h:∀ e ∈ L,e.ok=O) (k:Nat):(eE L).take (32*k)=eE (L.take k):=by
 by_cases c:k<=L.length
 .conv=>lhs;rw [<- B3 k L]
  rw [ld,List.take_left'];rw [kr fun e a=>h e (Z1 a),L1];omega
 .rw [R1 (by omega:L.length<=k),R1 (by rw [kr h];omega)]
theorem MF {L:List aN} (h:∀ e ∈ L,e.ok=O) (i:Nat):∀ e ∈ gT L i,e.ok=O:=fun e a=>h e (K4 (Z1 a))
theorem AR (L:List aN) (i:Nat):(gT L i).length=min 15 (L.length-15*i):=by unfold gT;rw [L1,Y2]
theorem Fq {L:List aN} (h:∀ e ∈ L,e.ok=O) (i:Nat):eE (gT L i)=((eE L).drop (480*i)).take 480:=by
 unfold gT;rw [show 480*i=32*(15*i) by omega,FM h,show 480=32*15 from rfl,Ed fun e a=>h e (K4 a)]
theorem Jq.sub {f:AF} {L:List aN} (D:Jq f L) (i:Nat):f.sub (480*i) (min 480 (32*L.length-480*i))=eE (gT L i):=by
 rw [Fq D.ok];unfold AF.sub;rw [D.sz];have c:=kr D.ok;apply List.ext_getElem?;intro j
 by_cases a:j<min 480 (32*L.length-480*i)
 .rw [List.getElem?_map,List.getElem?_range (by omega),L3,if_pos (by omega),List.getElem?_drop]
  show R (f.pR (480*i+j))=_
  rw [D.pR _ (by omega),List.getD,P3 (by omega)];rfl
 .rw [L4 (by rw [List.length_map,List.length_range];omega),L4 (by rw [L1,Y2];omega)]
theorem Qz (k:Nat):eE (List.replicate k aN.no)=zs (32*k):=by
 induction k with
 | zero=>rfl
 | succ k a=>
  rw [List.replicate_succ];show aN.no.enc++eE _=_
  rw [a,aN.KC];unfold zs;rw [List.replicate_append_replicate];congr 1;omega
theorem Ew {P:List aN} (h:∀ e ∈ P,e.ok=O) (a:P.length<=15):bW 480 (eE P)=eE (placesOf P):=by
 unfold placesOf bW;rw [ld,Qz,List.take_append];have e:=kr h;rw [R1 (by omega)];congr 1;unfold zs;rw [List.take_replicate];congr 1;omega
theorem SV {w:U} {a:TypeId} {g n:Nat} {l:List UInt8} {F:ai} (c:l.length=n) (h:ag w (pt g (Z (eA l) a (0,0))*F)) (d:n<=1000000):ag w (bs a (X (R ⟨g,0,V⟩) n n) l*F):=by
 have:=ag.oa (sz:=1) (n:=n) (cap:=n) h (W2 _) (by unfold maxLen;omega) (by rw [fi];omega);rw [bs,c];refine this.to ?_;congr 2;simp only [eA,Nat.mul_one,List.toList_toArray];rw [R1 (by simp;omega)]
end Go.SL
namespace Go.Proofs.Fs
open RowKit SL Proofs.Ba
section
variable {n:Nat} {x:Fx n} {b k id:Nat} {A:Nat->Option AF} {f:AF} {L:List aN} {w:U} {F:ai}
def Rk (x:Fx n) (b:Nat) (A:Nat->Option AF) (k:Nat) (P:List aN) (F:ai) (w:U) (e:Ending) (a:U):Prop:=
 ∃ u,e = N (.tuple #[u,Y .i64 0])/\aj w a/\ag a (sl 80 2 u P.length (bC P)*(ea x b A k*F))
theorem BW (h0:ag w (ea x b A k*F)) (J:A id=R f) (D:Jq f L) (i:Nat) (m:Nat) (K:m=min 480 (32*L.length-480*i)) (hi:15*i<L.length) :
  Calls T 210 #[fV b n,Y .i64 (id:Int),Y .i64 ((480*i:Nat):Int),Y .i64 (m:Int)] w (Rk x b A k (gT L i) F w):=by
 refine aH fun s0 u=>?_;have s:=D.sub i;have a:=MF D.ok i;have o:=AR L i;have b0:=kr a;have m0:=D.len;have h:m=32*(gT L i).length:=by rw [o];omega
 have j:(gT L i).length<=15:=by omega
 have l:=Ew a j;rw [<- K] at s;have E:=h0.alloc (cP b n);have dA:=ae ((aj.refl w).alloc (cP b n));have G:=E.ah;have r:=MZ G J (480*i) m;rw [s] at r;have d:=ae r;obtain ⟨P,g⟩:∃ P,gT L i=P:=⟨_,rfl⟩
 rw [g] at a o b0 h j l d;rw [g] at u;have k0:((480*i:Nat):Int)<=1000000:=by omega
 obtain ⟨u0,I⟩:∃ g0,480*i=g0:=⟨_,rfl⟩
 rw [I] at d ⊢ k0;have HM:=ae h;have c0:=ae l;have t:=ae a;clear K h o hi s b0 l a r G E g I D J m0;unfold fV
 go_enter func210,ntmps210
 go_wp2_with fail
 refine d.out.mono ?_;generalize w.heap.size=sc at *;rintro e c ⟨v,rfl,d2,y⟩;have H:=y.alloc (Z (eA (zs 480)) 5 (0,0));have D3:=ae ((dA.out.trans d2).alloc (Z (eA (zs 480)) 5 (0,0)));obtain ⟨w3,v3,p0,z,d3⟩:=xY (P:=T) (dT:=22) underlying22 (by kernel_rfl) H (H.ah.oI) 3;rw [c0.out] at z;have n0:=j0 t.out;have o0:(placesOf P).length=15:=by unfold placesOf;rw [D1,Z3];omega
 have l0:(eE (placesOf P)).length=480:=by rw [iA n0,o0]
 have q0:=SV l0 z (by decide);have i0:=Bb w3 _ P t.out j _ q0;have e0:=ae i0;have f0:=ae p0;have r0:(Instr.makeSlice 22 (Y .i64 480) (Y .i64 480)).run T c = .ok (X (R ⟨c.heap.size,0,V⟩) 480 480) (c.alloc (Z (eA (zs 480)) 5 (0,0))):=fB 480 (by omega) c;have D4:=ae (D3.out.trans d3);obtain ⟨va,vc,rfl⟩:=aF y
 go_wp2_with (refine fH f0.out _ _ rfl rfl rfl rfl rfl ?_)
 refine e0.out.mono ?_;rintro e w4 ⟨F0,rfl,B,d4⟩;obtain ⟨ua,uc,rfl⟩:=aF B;have H4:=ae B;have D5:=ae (D4.out.trans d4);obtain ⟨q,hq⟩:∃ q,P.length=q:=⟨_,rfl⟩
 have d0:=ae hq;have x0:(q:Int)*32=(m:Int):=by have:=HM.out;omega
 have D0:(q:Int)<=15:=by omega
 rw [hq]
 go_wp2_with fail
 refine u.out _ _ ⟨X ua q uc,rfl,D5.out,?_⟩;have C:=H4.out;rw [d0.out] at C ⊢;exact (C.to (by ac_rfl:_=(sl 80 2 (X ua q uc) q (bC P)*(ea x b A k*F))*(bs 5 (X (R ⟨c.heap.size,0,V⟩) 480 480) (eE (placesOf P))*(bs 5 (X va (eE P).length vc) (eE P)*pt sc (cP b n))))).left
end
end Go.Proofs.Fs
namespace Go.SL
open RowKit
def N9 (L:List aN):Nat:=(L.length+14)/15
def kq (L:List aN):List (List aN):=(List.range (N9 L)).map (gT L)
theorem lK (L:List aN):(kq L).length=N9 L:=by unfold kq;rw [List.length_map,List.length_range]
theorem E9 {L:List aN} {i:Nat} (h:i<N9 L):(kq L)[i]'(by rw [lK];exact h)=gT L i:=by
 unfold kq;rw [List.getElem_map,List.getElem_range]
theorem vQ (L:List aN):∀ m,((List.range m).map (gT L)).flatten=L.take (15*m)
 | 0=>by simp
 | m+1=>by
  rw [List.range_succ,U1,R2,vQ L m];show _++(gT L m++[])=_
  rw [J3,show 15*(m+1)=15*m+15 by omega,List.take_add]
  rfl
theorem tI (L:List aN):(kq L).flatten=L:=by
 unfold kq;rw [vQ,R1];unfold N9;omega
end Go.SL
namespace Go.Proofs.Fs
open RowKit SL Proofs.Ba
attribute [local go_sem] Oper.semAt_some
section
variable {n:Nat} {x:Fx n} {b k id:Nat} {A:Nat->Option AF} {f:AF} {L:List aN} {w:U} {F:ai}
def Ut (p:List aN × S) (a:Array S):ai:=fact (a=#[p.2,Y .i64 0])*sl 80 2 p.2 p.1.length (bC p.1)
def ux (x:Fx n) (b:Nat) (A:Nat->Option AF) (k id a d c:Nat) (z:Int):ai:=
 pt a (Z #[Y .i64 z] 3 (0,0))*(pt d (cP b n)*(pt c (Z #[Y .i64 (id:Int)] 3 (0,0))*ea x b A k))
def UL (c:List (List aN × S)->ai) (L:List aN) (d:ai) (w0:U) (u:S) (wr:U):Prop:=
 ∃ (i:Nat) (a:List (List aN × S)),i<=N9 L/\u = Y .i64 ((480*i:Nat):Int)/\a.map A1=(kq L).take i/\aj w0 wr/\ag wr (c a*d)
theorem zD (l0:Nat) (hf:A id=R f) (D:Jq f L) (d j g:Nat) :
  fJ Fence.wide l0 T 209 #[az d,az j,az g] (ux x b A k id d j g ((32*L.length:Nat):Int)) Ut (fun c=>c.map A1=kq L) (fun c=>c.map A1 <+: kq L):=by
 intro lp l Ax G w0 w hY hs h;have o0:=D.len;obtain ⟨z,E⟩:∃ z,32*L.length=z:=⟨_,rfl⟩
 have hw:=fun w F h i m y K=>BW (w:=w) (F:=F) (x:=x) (b:=b) (k:=k) h hf D i m y K;rw [E] at hw;have HW:=ae hw;have J:=ae E;rw [E] at h ⊢;have q0:(z:Int)<=122880:=by omega
 have e0:=ae h;refine callsIn_of_wp func209 rfl trivial ?_ rfl;simp only [ntmps209,E2,N1,S1,H2,J2,K2,L2,M2,N2,T1,P2]
 gi_wp2_with fail
 gi_loopw [5] (fun u wr=>UL l L (ux x b A k id d j g (z:Int)*G) w0 u wr) (fun u _=>480*N9 L-(intOf u).toNat)
 case atStart=>exact ⟨0,[],Y1 _,rfl,rfl,hs,e0.out⟩
 case round=>
  obtain ⟨i,c,K,rfl,r,b0,P⟩:=hrel;have o:ag wr (pt d (Z #[Y .i64 (z:Int)] 3 (0,0))*(pt j (cP b n)*(pt g (Z #[Y .i64 (id:Int)] 3 (0,0))*(ea x b A k*(l c*G))))):=P.to (by unfold ux;ac_rfl);have c0:=o.cell 0;have c1:=o.ah.cell 0;have c2:=o.ah.cell 1;have c3:=o.au.cell 0;have p0:N9 L=(L.length+14)/15:=rfl
  by_cases v:i<N9 L
  .obtain ⟨a,q⟩:∃ a,480*i=a:=⟨_,rfl⟩
   have k0:=J.out;have m0:(a:Int)<(z:Int):=by omega
   have g0:((480*i:Nat):Int)=(a:Int):=by rw [q]
   obtain ⟨m,y⟩:∃ m,min 480 (z-480*i)=m:=⟨_,rfl⟩
   have d0:=HW.out wr _ (o.to (by ac_rfl:_=ea x b A k*(pt d (Z #[Y .i64 (z:Int)] 3 (0,0))*(pt j (cP b n)*(pt g (Z #[Y .i64 (id:Int)] 3 (0,0))*(l c*G)))))) i m y.symm (by omega);rw [g0] at d0 ⊢;have f0:=ae d0
   have i0:∀ u:S,(c++[(gT L i,u)]).map A1=(kq L).take (i+1):=fun u=>by
    rw [U1,r,List.take_succ_eq_append_getElem (by rw [lK];exact v),E9 v];rfl
   have t:=ae i0;have H:=ae q;have I:=ae r;have n0:min (480:Int) ((z:Int)-(a:Int))=(m:Int):=by omega
   gi_wp2_with fail
   refine kx f0.out ?_;rintro e s ⟨u,rfl,d2,h2⟩
   have hB:ag s (l c*(Ut (gT L i,u) #[u,Y .i64 0]*(ux x b A k id d j g (z:Int)*G))):=by
    have h3:=h2.to (by unfold ux;ac_rfl:_=(sl 80 2 u (gT L i).length (bC (gT L i)))*(l c*(ux x b A k id d j g (z:Int)*G)));have h4:ag s (Ut (gT L i,u) #[u,Y .i64 0]*(l c*(ux x b A k id d j g (z:Int)*G))):=(ag.aq.2 ⟨rfl,h3⟩:ag s (fact _*(_*_))).to (ax _ _ _).symm;exact h4.ah
   obtain ⟨fn,r0,assign,body,hy,hR⟩:=hY c (gT L i,u) #[u,Y .i64 0] _ s (by show S2 _ _ <+: _;rw [t.out];exact Z2 _ _) (b0.trans d2) hB
   gi_wp2
   refine ⟨fun h=>(by cases h),hR.mono ?_⟩;rintro e W' (⟨rfl,B,C⟩|⟨rfl,B,C⟩)
   .gi_wp2
    go_roundw
    case rel=>exact ⟨i+1,c++[(gT L i,u)],v,by have:=H.out;go_num,t.out u,B,C⟩
    case measure=>have:=H.out;simp [intOf];omega
   .gi_wp2
    refine bodyPost_ret (results_none rfl _ _ _) rfl ?_;exact ⟨⟨_,rfl⟩,B,.inr ⟨_,by show S2 _ _ <+: _;rw [t.out];exact Z2 _ _,C⟩⟩
  .obtain rfl:i=N9 L:=by omega
   have k0:=J.out;have h0:¬ ((480*N9 L:Nat):Int)<(z:Int):=by omega
   obtain ⟨a,q⟩:∃ a,480*N9 L=a:=⟨_,rfl⟩
   rw [q] at h0 ⊢;rw [R1 (by rw [lK];exact W2 _)] at r;have HS:=ae P;have I:=ae r
   gi_wp2
   go_end0
   exact ⟨⟨_,rfl⟩,b0,.inl ⟨_,I.out,HS.out⟩⟩
end
section
variable {n:Nat} {x:Fx n} {b k id:Nat} {A:Nat->Option AF} {f:AF} {L:List aN} {w:U} {F:ai}
abbrev ny:Array S:=#[Y .i64 0,Y .i64 0,Y .i64 0,Y .i64 0,Y .i64 0,Y .i64 0,Y .i64 0,Y .i64 0,Y .i64 0,Y .i64 0,Y .i64 0,Y .i64 0,Y .i64 0,Y .i64 0,Y .i64 0,Y .i64 0,Y .i64 0,Y .i64 0,Y .i64 0,Y .i64 0]
def Sn (d:S) (id z:Int) (a n:Nat) (w:U) (e:Ending) (c:U):Prop:=
 e = N (.func (.func 209) #[] #[az (w.heap.size+2),az w.heap.size,az (w.heap.size+1)]) /\
  c=((w.alloc (cP a n)).alloc (Z #[Y .i64 id] 3 (0,0))).alloc (Z #[Y .i64 z] 3 (0,0))
theorem zI (w:U) (b n:Nat) (id z:Int):Calls T 155 #[fV b n,Y .i64 id,Y .i64 z] w (Sn (fV b n) id z b n w):=by
 unfold fV
 go_enter func155,ntmps155
 go_wp2
 go_ret
 exact ⟨rfl,rfl⟩
theorem C3 {L:List aN} {a:List (List aN × S)} (h:a.map A1 <+: kq L):(a.map A1).flatten.length<=L.length:=by
 obtain ⟨t,c⟩:=h;have:=congrArg List.flatten c;rw [R2,tI] at this;rw [<- this,D1];omega
def VU (c:Nat) (a:List (List aN × S)):ai:=ex fun v=>pt c (Z #[v] 76 (0,0))*sl 80 2 v (a.map A1).flatten.length (bC (a.map A1).flatten)
def JD (p:List aN × S) (t:Array S):Array S:=(((t.setIfInBounds 28 p.2).setIfInBounds 29 (Y .i64 0)).setIfInBounds 9 p.2).setIfInBounds 10 (Y .i64 0)
theorem p9 {w:U} {c:Array S} {a b:Nat} {v e:S} {F:ai} (i:c[4]?=R (az a)) (j:c[5]?=R (az b)) (h:ag w (pt a (Z #[v] 76 (0,0))*(pt b (Z #[e] 28 (0,0))*F))) :
  (results Tryz.f91 c).run T w = .ok (.tuple #[v,e]) w:=by
 have d:=h.cell 0;have g:=h.ah.cell 0;simp [results,Tryz.results91,i,j,asAddr,az,go_sem,d,g]
theorem jk (h:ag w (ea x b A k*F)) (hf:A id=R f) (k0:Jq f L) :
  Calls T 91 #[fV b n,Y .i64 (id:Int)] w (Rk x b A k L F w):=by
 have hA:=(((h.alloc (cP b n)).alloc (Z #[X V 0 0] 76 (0,0))).alloc (Z #[Y .i64 0] 28 (0,0)))
 have dA:=(((aj.refl w).alloc (cP b n)).alloc (Z #[X V 0 0] 76 (0,0))).alloc (Z #[Y .i64 0] 28 (0,0));simp only [K3] at hA;have G:=ae k0;have HF:=ae hf;clear h k0 hf;unfold fV;refine (callsIn_wide (n:=9)).1 ?_;refine callsIn_of_wp_marks func91 rfl trivial ?_ rfl;simp only [ntmps91,E2,N1,S1,H2,J2,K2,L2,M2,N2,T1,P2];have cA:=hA.au.cell 0;have cB:=hA.au.cell 1;simp at cA cB;refine wpIn_wide.2 ?_
 go_wp2_with fail
 generalize w.heap.size+1+1=s at *;generalize w.heap.size+1=r at *;generalize w.heap.size=sc at *;have hB:=hA.to (by ac_rfl:_=ea x b A k*(pt sc (cP b n)*(pt r (Z #[X V 0 0] 76 (0,0))*(pt s (Z #[Y .i64 0] 28 (0,0))*F))));refine (E7 hB HF.out).mono ?_;rintro e c ⟨y,rfl,S0,T0,Y0,x0,d2,h2⟩;have hX:(ints y.l).size=20:=by rw [er,Nd.cells S0]
 have C:=h2.alloc (Z ny 65 (0,0));have Hz:=ae C.heap;have g0:=C.setRow (cs':=ints y.l);have D:=ae (((dA.trans d2).alloc (Z ny 65 (0,0))).setRow c.heap.size (ints y.l));have o0:Hid ((ints y.l).all (·.oneCell')=O):=by simp [RowKit.Hid,ints,Value.oneCell']
 have m0:Hid ((prog.info? 65).map (·.size)=R (ints y.l).size):=by show _=_;rw [hX];exact bF
 have HX:=ae hX;have n0:((c.alloc (Z ny 65 (0,0))).setRow c.heap.size (ints y.l)).cell? ⟨c.heap.size,0,V⟩=R (Y .i64 2):=by rw [<- G.out.kd,<- T0];exact g0.cell 0
 have n2:((c.alloc (Z ny 65 (0,0))).setRow c.heap.size (ints y.l)).cell? ⟨c.heap.size,2,V⟩=R (Y .i64 ((32*L.length:Nat):Int)):=by rw [<- G.out.sz,<- x0];exact g0.cell 2
 have p0:=ae (g0.to (by ac_rfl:_=pt c.heap.size (Z (ints y.l) 65 (0,0))*(ea x b A k*(pt sc (cP b n)*(pt r (Z #[X V 0 0] 76 (0,0))*(pt s (Z #[Y .i64 0] 28 (0,0))*F))))));have F0:=ae x0;unfold ny at *
 go_upto_region 7 with (refine wpList_store_row (by exact rfl) 65 (.tmp 6) (.tmp 15) (by exact rfl) c.heap.size (ints y.l) (by exact rfl) (by exact rfl) 65 _ (by with_reducible exact Hz.out) m0.out (by rw [HX.out];rfl) o0.out ?_)
 clear Hz m0 HX o0;have s0:(((c.alloc (Z #[Y .i64 0,Y .i64 0,Y .i64 0,Y .i64 0,Y .i64 0,Y .i64 0,Y .i64 0,Y .i64 0,Y .i64 0,Y .i64 0,Y .i64 0,Y .i64 0,Y .i64 0,Y .i64 0,Y .i64 0,Y .i64 0,Y .i64 0,Y .i64 0,Y .i64 0,Y .i64 0] 65 (0,0))).setRow c.heap.size (ints y.l))).heap.size=c.heap.size+1:=by simp [World.setRow]
 generalize ((c.alloc (Z #[Y .i64 0,Y .i64 0,Y .i64 0,Y .i64 0,Y .i64 0,Y .i64 0,Y .i64 0,Y .i64 0,Y .i64 0,Y .i64 0,Y .i64 0,Y .i64 0,Y .i64 0,Y .i64 0,Y .i64 0,Y .i64 0,Y .i64 0,Y .i64 0,Y .i64 0,Y .i64 0] 65 (0,0))).setRow c.heap.size (ints y.l))=w3 at *;generalize c.heap.size=nb at *;have B:=p0.out.alloc (Z #[X V 0 0] 76 (0,0));have D3:=D.out.alloc (Z #[X V 0 0] 76 (0,0));rw [s0] at B;clear s0 p0 D n0 n2;generalize w3.alloc (Z #[X V 0 0] 76 (0,0))=a at *;generalize nb+1=j at *;have c0:=B.aA.cell 0;have c1:=B.aA.cell 1;have n2:a.cell? ⟨nb,2,V⟩=R (Y .i64 ((32*L.length:Nat):Int)):=by rw [<- G.out.sz,<- F0.out];exact B.ah.cell 2
 have h0:=zI a b n id ((32*L.length:Nat):Int);obtain ⟨z,K⟩:∃ z,((32*L.length:Nat):Int)=z:=⟨_,rfl⟩
 rw [K] at n2 h0;have HZ:=ae K;have l0:=ae h0;clear K h0
 go_wp2_with fail
 refine l0.out.mono ?_;rintro e w5 ⟨rfl,rfl⟩;have C:=((B.alloc (cP b n)).alloc (Z #[Y .i64 (id:Int)] 3 (0,0))).alloc (Z #[Y .i64 z] 3 (0,0));have D5:=((D3.alloc (cP b n)).alloc (Z #[Y .i64 (id:Int)] 3 (0,0))).alloc (Z #[Y .i64 z] 3 (0,0));simp only [K3] at C;clear B D3 l0 c0 c1 n2
 go_wp2_with fail
 have hF:ag (((a.alloc (cP b n)).alloc (Z #[Y .i64 (id:Int)] 3 (0,0))).alloc (Z #[Y .i64 z] 3 (0,0))) (VU j []*(ux x b A k id (a.heap.size+2) a.heap.size (a.heap.size+1) ((32*L.length:Nat):Int)*(pt r (Z #[X V 0 0] 76 (0,0))*(pt s (Z #[Y .i64 0] 28 (0,0))*F)))):=by
  refine ag.aw.2 ⟨X V 0 0,?_⟩;have t:=(C.fq 80 2)
  rw [HZ.out];have I:=t.to (by ac_rfl:_=(pt nb (Z (ints y.l) 65 (0,0))*pt sc (cP b n))*(pt j (Z #[X V 0 0] 76 (0,0))*(sl 80 2 (X V 0 0) 0 []*(pt (a.heap.size+1+1) (Z #[Y .i64 z] 3 (0,0))*(pt a.heap.size (cP b n)*(pt (a.heap.size+1) (Z #[Y .i64 (id:Int)] 3 (0,0))*(ea x b A k*(pt r (Z #[X V 0 0] 76 (0,0))*(pt s (Z #[Y .i64 0] 28 (0,0))*F)))))))));exact I.right.to (by unfold ux;show _=_*sl _ 2 _ 0 []*_;ac_rfl)
 clear C;refine (wpIn_wide (n:=9)).1 ?_
 refine sx (w0:=w) rfl (by decide) (gf:=209) (lb:=#[az (a.heap.size+2),az a.heap.size,az (a.heap.size+1)]) rfl trivial (enters func209 (by kernel_rfl) rfl)
  (zD (x:=x) (b:=b) (k:=k) (id:=id) (A:=A) _ HF.out G.out (a.heap.size+2) a.heap.size (a.heap.size+1)) JD (VU j) (fun l p=>VU j l*sl 80 2 p.2 p.1.length (bC p.1)) _ ?hps D5 hF ?assign ?body ?done
 case hps=>
  intro p vs E o h;unfold Ut at h;obtain ⟨rfl,_⟩:=ag.aq.1 (h.to (ax _ _ _))
  rfl
 case assign=>
  intro lp d0 l p vs E o V0 _ J H hK;have m:=H.ah;unfold Ut at m;obtain ⟨rfl,i⟩:=ag.aq.1 (m.to (ax _ _ _));clear H m
  gi_wp2
  exact hK _ J (i.to (by ac_rfl))
 case body=>
  intro lp d0 l p E o hp J H;have q0:=C3 hp;have X0:=G.out.len;obtain ⟨P,u⟩:=p;rw [U1,R2] at q0;have e1:((l.map A1).flatten++(S2 A1 [(P,u)]).flatten)=(l.map A1).flatten++P:=by simp
  rw [e1,D1] at q0;have H0:ag o (VU j l*(sl 80 2 u P.length (bC P)*(pt lp (.loop d0)*E))):=H.to (by ac_rfl);obtain ⟨v,m⟩:=ag.aw.1 H0;have i:ag o (sl 80 2 v (l.map A1).flatten.length (bC (l.map A1).flatten)*(pt j (Z #[v] 76 (0,0))*(sl 80 2 u P.length (bC P)*(pt lp (.loop d0)*E)))):=m.to (by ac_rfl);obtain ⟨i0,hi,K,N0,L0⟩:=info_parts yf;have hR:=i.au.oI;have c0:o.cell? ⟨j,0,V⟩=R v:=i.ah.cell 0;obtain ⟨v',w',r0,b0,R0⟩:=ag.append (P:=T) (ty:=76) underlying76 hi K N0 L0 rfl i hR (IQ P) (by unfold maxLen;omega) (by omega);obtain ⟨d,g,rfl⟩:=aF b0;have c1:w'.cell? ⟨j,0,V⟩=R v:=b0.ah.cell 0;have f1:=b0.ah.frozen 0;have u0:=b0.ah.setCell 0 (X d ((l.map A1).flatten.length+P.length) g);obtain ⟨q,hq⟩:∃ q,(l.map A1).flatten=q:=⟨_,rfl⟩
  rw [hq] at r0 u0;have K0:=ae u0;have G0:=ae r0;have D0:=ae hq;have e0:=ae ((J.trans R0).setCell ⟨j,0,V⟩ (X d (q.length+P.length) g));simp only [JD,List.setIfInBounds_toArray,List.set_cons_succ,List.set_cons_zero]
  gi_wp2_with (gi_at_builtin;refine dF G0.out _ _ rfl rfl rfl rfl rfl ?_)
  refine ⟨?_,?_⟩
  .exact e0.out
  .refine ag.aw.2 ⟨X d (q.length+P.length) g,?_⟩
   have e:(S2 A1 (l++[(P,u)])).flatten=q++P:=by rw [U1,R2,D0.out];simp
   rw [e,D1,mz];have t:=K0.out;exact (t.to (by ac_rfl:_=sl 80 2 u P.length (bC P)*(pt j (Z #[X d (q.length+P.length) g] 76 (0,0))*sl 80 2 (X d (q.length+P.length) g) (q.length+P.length) (bC q++bC P)*(pt lp (.loop d0)*E)))).right
 case done=>
  intro D ys o hS J H;obtain ⟨v,m⟩:=ag.aw.1 H;have e:(ys.map A1).flatten=L:=by rw [hS,tI]
  rw [e] at m;have i:ag o (pt D (.deferred (R []))*(pt j (Z #[v] 76 (0,0))*(pt r (Z #[X V 0 0] 76 (0,0))*(pt s (Z #[Y .i64 0] 28 (0,0))*(sl 80 2 v L.length (bC L)*(ux x b A k id (a.heap.size+2) a.heap.size (a.heap.size+1) ((32*L.length:Nat):Int)*F)))))):=m.to (by ac_rfl);obtain ⟨d,g,rfl⟩:=aF i.aM;have c0:=i.ah.cell 0;have z0:=i.au.cell 0;have f0:=i.au.frozen 0;have f1:=i.aA.frozen 0;have H3:=i.au.setCell 0 (X d L.length g);have Z0:=H3.aA.cell 0;have W0:=H3.aA.frozen 0;have H4:=ae (H3.aA.setCell 0 (Y .i64 0));have e0:=ae ((J.setCell ⟨r,0,V⟩ (X d L.length g)).setCell ⟨s,0,V⟩ (Y .i64 0));clear H m i H3 hF e D5
  go_wp2_with fail
  have t:=H4.out;have I:=t.to (by ac_rfl:_=pt D (.deferred (R []))*(pt r (Z #[X d L.length g] 76 (0,0))*(pt s (Z #[Y .i64 0] 28 (0,0))*(sl 80 2 (X d L.length g) L.length (bC L)*(ux x b A k id (a.heap.size+2) a.heap.size (a.heap.size+1) ((32*L.length:Nat):Int)*(F*pt j (Z #[X d L.length g] 76 (0,0))))))));have hK:=I.heap;have h8:=(I.putObj (.deferred V)).right;clear t I;refine ⟨by simp,.inl ⟨_,_,rfl,run_takeDeferred hK,?_⟩⟩;refine ⟨_,p9 rfl rfl h8,⟨X d L.length g,rfl,e0.out.putObj _ _,?_⟩⟩;have h9:=h8.right.right;unfold ux at h9;exact (h9.to (by ac_rfl:_=(sl 80 2 (X d L.length g) L.length (bC L)*(ea x b A k*F))*(pt j (Z #[X d L.length g] 76 (0,0))*(pt (a.heap.size+2) (Z #[Y .i64 ((32*L.length:Nat):Int)] 3 (0,0))*(pt a.heap.size (cP b n)*pt (a.heap.size+1) (Z #[Y .i64 (id:Int)] 3 (0,0))))))).left
end
end Go.Proofs.Fs
namespace Go.SL
open RowKit
def gn (L:List aN) (nm:List UInt8):Option Nat:=L.findIdx? fun e=>decide (e.nm=nm)
def wL (L:List aN) (nm:List UInt8):Int:=match gn L nm with|some i=>(i:Int)|none=>-1
theorem Lg {L:List aN} {nm:List UInt8} {i:Nat} (d:i<L.length) (h:(L[i]).nm=nm) (c:∀ j (a:j<i),(L[j]'(by omega)).nm≠nm):wL L nm=(i:Int):=by
 have:gn L nm=R i:=by
  unfold gn;rw [List.findIdx?_eq_some_iff_getElem];exact ⟨d,decide_eq_true h,fun j a=>by simpa using c j a⟩
 unfold wL;rw [this]
theorem MW {L:List aN} {nm:List UInt8} (h:∀ e ∈ L,e.nm≠nm):wL L nm=-1:=by
 have:gn L nm=V:=by
  unfold gn;rw [List.findIdx?_eq_none_iff];exact fun e a=>decide_eq_false (h e a)
 unfold wL;rw [this]
theorem uI (a b:List UInt8):((str a).toList == (str b).toList)=decide (a=b):=by
 rw [Lib.toList_data,Lib.toList_data,M1,beq_iff_eq,decide_eq_true_iff];exact Iff.rfl
end Go.SL
namespace Go.Proofs.Fs
open RowKit SL Proofs.Ba
def UB (b:Bool) (w:U) (e:Ending) (a:U):Prop:=e = N (Q b)/\ag a (whole w)/\aj w a
theorem Fg (w:U) (e:aN) (a:Nat) (nm:List UInt8) (h:w.cell? ⟨a,0,V⟩=R (W (str nm))) :
  Calls T 192 #[.agg #[Y .i64 (e.nd:Int),W (str e.nm)],.pointer (R ⟨a,0,V⟩)] w (UB (decide (e.nm=nm)) w):=by
 refine aH fun i c=>?_;have g:=ae ((ag.whole w).alloc (Z #[Y .i64 (e.nd:Int),W (str e.nm)] 80 (0,0)));have d:=ae ((aj.refl w).alloc (Z #[Y .i64 (e.nd:Int),W (str e.nm)] 80 (0,0)));have j:=bV w (Z #[Y .i64 (e.nd:Int),W (str e.nm)] 80 (0,0)) _ _ h;have l:=uI e.nm nm
 go_enter func192,ntmps192
 go_wp2_with fail
 exact c.out _ _ ⟨by simp,g.out.right,d.out⟩
def SZ (L:List aN) (nm:List UInt8) (w0:U) (F:ai) (u:S) (wr:U):Prop:=
 ∃ k:Nat,k<=L.length/\u = Y .i64 (k:Int)/\(∀ j (a:j<L.length),j<k->(L[j]).nm≠nm)/\aj w0 wr/\ag wr F
theorem oX {w:U} {v:S} {L:List aN} {F:ai} (h:ag w (sl 80 2 v L.length (bC L)*F)) {k:Nat} (q:k<L.length) :
  ∃ g c,v = X (R ⟨g,0,V⟩) L.length c/\w.cell? ⟨g,k*2,V⟩=R (Y .i64 ((L[k]).nd:Int))/\w.cell? ⟨g,k*2+1,V⟩=R (W (str (L[k]).nm))/\L.length<=c/\c<=9223372036854775807:=by
 rcases h.dm with ⟨_,s,_⟩|⟨g,i,r,rfl,m,o,t,a,d⟩
 .omega
 .obtain ⟨j,l⟩:=Ib q
  refine ⟨g,i,rfl,?_,?_,m,by unfold maxLen at o;omega⟩
  .rw [d.cell,<- j,<- a,L3,if_pos (by omega),S4]
  .rw [d.cell,<- l,<- a,L3,if_pos (by omega),S4]
def Vy (z:Int) (F:ai) (w:U) (e:Ending) (a:U):Prop:=e = N (Y .i64 z)/\ag a F/\aj w a
theorem Fi (w:U) (v:S) (L:List aN) (i:Nat) (nm:List UInt8) (F:ai) (hl:L.length<=3840) (h:ag w (sl 80 2 v L.length (bC L)*(pt i (Z #[W (str nm)] 9 (0,0))*F))) :
  Calls T 191 #[v,.func (.func 192) #[] #[.pointer (R ⟨i,0,V⟩)]] w (Vy (wL L nm) (sl 80 2 v L.length (bC L)*(pt i (Z #[W (str nm)] 9 (0,0))*F)) w):=by
 refine aH fun d0 D=>?_;obtain ⟨va,J,rfl⟩:=aF h;have H:=ae h;obtain ⟨m,I⟩:∃ m,L.length=m:=⟨_,rfl⟩
 have a:=ae I;rw [I]
 go_enter func191,ntmps191
 go_wp2_with fail
 go_loopw [8] (fun u wr=>SZ L nm w (sl 80 2 (X va L.length J) L.length (bC L)*(pt i (Z #[W (str nm)] 9 (0,0))*F)) u wr) (fun u _=>m-(intOf u).toNat)
 case atStart=>exact ⟨0,Y1 _,rfl,fun j c P=>absurd P (Nat.not_lt_zero _),aj.refl w,H.out⟩
 case round=>
  obtain ⟨k,hk,rfl,b0,B,z⟩:=hrel;rw [a.out] at hk;have r:=ae z;have o:=ae b0
  by_cases g0:k<m
  .have h0:(k:Int)<(m:Int):=by omega
   have G:k<L.length:=by have:=a.out;omega
   obtain ⟨f0,e0,e,e1,e2,k1,k2⟩:=oX z G;obtain ⟨rfl,-,rfl⟩:=e;have K:=z.ah.cell 0;have g:=Fg wr L[k] i nm K;generalize hx:L[k]=x at *;have E:=ae hx;have i0:(m:Int)<=(J:Int):=by have:=a.out;omega
   by_cases d:x.nm=nm
   .rw [decide_eq_true d] at g
    have Hp:=ae g;have q:=ae d;clear g d
    go_wp2_with fail
    refine Hp.out.mono ?_;rintro e w2 ⟨rfl,y,t⟩;have h3:=y.ei r.out;have C:=Lg G (by rw [E.out];exact q.out) fun j c=>o.out j (by omega) c;have s:=ae C;have l:=ae h3
    go_wp2_with fail
    exact D.out _ _ ⟨by rw [s.out];try (first|rfl|simp),l.out,B.trans t⟩
   .rw [decide_eq_false d] at g
    have Hp:=ae g;have q:=ae d
    go_wp2_with fail
    refine Hp.out.mono ?_;rintro e w2 ⟨rfl,y,t⟩;have l:=ae (y.ei r.out)
    go_wp2_with fail
    go_roundw
    case rel=>exact ⟨k+1,by rw [a.out];omega,by go_num,fun j c c0=>by
     rcases Nat.lt_succ_iff_lt_or_eq.1 c0 with h|rfl
     .exact o.out j c h
     .rw [E.out];exact q.out,B.trans t,l.out⟩
    case measure=>simp [intOf];omega
  .obtain rfl:k=m:=by omega
   have C:wL L nm=-1:=MW fun e he=>by
    obtain ⟨j,c,rfl⟩:=T2 he;exact o.out j c (by have:=a.out;omega)
   have s:=ae C
   go_wp2_with fail
   exact D.out _ _ ⟨by rw [s.out];try (first|rfl|simp),by have:=r.out;rwa [a.out] at this ⊢,B⟩
def qx (v:S) (L:List aN) (nm:List UInt8) (F:ai) (w:U) (e:Ending) (a:U):Prop:=e = N (Y .i64 (wL L nm))/\ag a (sl 80 2 v L.length (bC L)*F)/\aj w a
theorem eo (w:U) (v:S) (L:List aN) (nm:List UInt8) (F:ai) (o:L.length<=3840) (h:ag w (sl 80 2 v L.length (bC L)*F)) :
  Calls T 141 #[v,W (str nm)] w (qx v L nm F w):=by
 refine aH fun q c=>?_;have l:=(h.alloc (Z #[W (str nm)] 9 (0,0))).ah;have i:=ae ((aj.refl w).alloc (Z #[W (str nm)] 9 (0,0)));have m:=Fi _ v L _ nm F o l;have d:=ae m
 go_enter func141,ntmps141
 go_wp2_with fail
 refine d.out.mono ?_;rintro e r ⟨rfl,j,g⟩;have a:=ae j
 go_wp2_with fail
 exact c.out _ _ ⟨rfl,a.out.iJ,i.out.trans g⟩
end Go.Proofs.Fs
