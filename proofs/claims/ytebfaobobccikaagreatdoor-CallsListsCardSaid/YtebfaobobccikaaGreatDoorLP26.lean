/- Steps. -/
import Derived.Test.YtebfaobobccikaaGreatDoorLP25
import Derived.Test.YtebfaobobccikaaGreatDoorLP16
import Derived.Lib.IndexLaws
set_option linter.all false
set_option maxRecDepth 99999
set_option maxHeartbeats 0
open Go.SL
open Go.Value renaming int->Y,slice->X,string->W,bool->Q
open Go.Obj renaming cells->Z
open Go.Ending renaming returned->N
open Go renaming World->U,Value->S
open Go.Proofs.Tryz renaming prog->T
open Option renaming some->R,none->V
open Bool renaming true->O,false->M
open Go.Proofs.Tryz
open Prod renaming fst->Z0
open List renaming length_append->A1,length_take->H1,length_cons->L1,take_of_length_le->M1,length_nil->N1,nil_append->R1,map_append->S1,drop_left'->U1,getElem?_append_right->V1,mem_of_mem_take->X1,size_toArray->Y1,push_toArray->H2,append_toArray->J2,cons_append->K2,flatten_append->L2,map->M2,getElem_of_mem->N2,append_assoc->R2,length_drop->S2,take_prefix->T2,take_append_drop->U2,filter_append->V2,append_nil->W2,getElem?_take->Y2,getElem?_eq_getElem->Z2,mem_of_getElem?->A3,getElem?_replicate->B3,getElem?_append_left->G3,flatMap_append->J3,eq_of_mem_replicate->K3,length_replicate->L3,drop_eq_nil_of_le->P3,mem_of_mem_drop->R3,getElem?_eq_none->S3
open Bool renaming false_and->B1,and_false->D1,eq_iff_iff->K1,true_and->T1
open Nat renaming zero_le->W1,reduceAdd->Z1,reduceSub->A2,le_refl->P2
open Array renaming replicate_succ->B2,replicate_zero->E2,getElem?_toList->V3
open Go.World renaming size_alloc->X2
namespace Go.SL
open RowKit
structure aH where
 nd:Nat
 nm:List UInt8
deriving DecidableEq
def Ex (l:List UInt8):Bool:=decide (1<=l.length) && (decide (l.length<=28) && !l.contains 0)
def aH.ok (e:aH):Bool:=decide (1<=e.nd) && (decide (e.nd<=3839) && Ex e.nm)
def aH.no:aH:=⟨0,[]⟩
def aH.enc (e:aH):List UInt8:=dx e.nd 2++(dx e.nm.length 1++(e.nm++zs (29-e.nm.length)))
def aH.v (e:aH):S:=.agg #[Y .i64 (e.nd:Int),W (str e.nm)]
def aH.cells (e:aH):List S:=[Y .i64 (e.nd:Int),W (str e.nm)]
theorem pU {l:List UInt8}:Ex l=O↔1<=l.length/\l.length<=28/\(0:UInt8) ∉ l:=by
 unfold Ex;simp
theorem aH.mw {e:aH}:e.ok=O↔1<=e.nd/\e.nd<=3839/\Ex e.nm=O:=by
 unfold aH.ok;simp
theorem aH.dF {e:aH} (h:e.ok=O):e.enc.length=32:=by
 have:=pU.1 (aH.mw.1 h).2.2;unfold aH.enc;simp only [A1,bp,bh];omega
theorem aH.LU:aH.no.enc=zs 32:=by decide +kernel
theorem rD (l:List UInt8) (c:UInt8):Lib.indexByte l c<0↔c ∉ l:=by
 have m:=Lib.indexByte_ge l c;constructor
 .intro h i
  have:Lib.indexByte l c=-1:=by omega
  obtain ⟨k,d,g⟩:=N2 i;exact Lib.indexByte_none this k (by rw [Z2 d,g])
 .intro h
  refine Int.not_le.1 fun a=>?_;obtain ⟨o,j⟩:=Int.eq_ofNat_of_zero_le a;have:=(Lib.indexByte_some j).1;exact h (A3 this)
def cM (l:List UInt8):Bool:=Ex l && (!l.contains 47 && (decide (l≠[46]) && decide (l≠[46,46])))
theorem sf {l:List UInt8} (h:cM l=O):Ex l=O:=by
 unfold cM at h;simp only [Bool.and_eq_true] at h;exact h.1
end Go.SL
namespace Go.Proofs.Fs
open RowKit SL Proofs.Ba
theorem iG (l:List UInt8):(str l).size=l.length:=by simp [str,ByteArray.size]
theorem vh (w:U) (e:aH):Calls T 239 #[e.v] w fun r v=>r = N (Q e.ok)/\ag v (whole w)/\aj w v:=by
 refine aJ fun D g=>?_;obtain ⟨n,l⟩:=e;have t:=((ag.whole w).alloc (Z #[Y .i64 (n:Int),W (str l)] 80 (0,0)))
 have h:=ae ((aj.refl w).alloc (Z #[Y .i64 (n:Int),W (str l)] 80 (0,0)));have d:=ae t.right;have j:=rD l 0;have i:=Tryz.strings_IndexByte (str l) 0;have q:(0:Int).toNat.toUInt8=(0:UInt8):=rfl;have s:(str l).data.toList=l:=rfl;rw [q,s] at i;have C:=iG l;obtain ⟨o,u⟩:∃ o,Lib.indexByte l 0=o:=⟨_,rfl⟩
 rw [u] at i j;have z:=ae i;have y:=ae j;have c:Hid ((aH.mk n l).ok=(decide (1<=n) && (decide (n<=3839) && (decide (1<=l.length) && (decide (l.length<=28) && !l.contains 0))))):=rfl;clear t i j u q s;obtain ⟨m,B⟩:∃ m,l.length=m:=⟨_,rfl⟩
 rw [B] at C c;unfold aH.v
 by_cases E:(n:Int)<1
 .have a:Hid ((aH.mk n l).ok=M):=by show _=_;rw [c.out,decide_eq_false (by omega)];rfl
  go_enter func239,ntmps239
  go_wp2_with fail
  exact g.out _ _ ⟨by rw [a.out];try (first|rfl|simp),d.out,h.out⟩
 by_cases G:(3839:Int)<(n:Int)
 .have a:Hid ((aH.mk n l).ok=M):=by show _=_;rw [c.out,decide_eq_false (p:=n<=3839) (by omega),B1,D1]
  go_enter func239,ntmps239
  go_wp2_with fail
  exact g.out _ _ ⟨by rw [a.out];try (first|rfl|simp),d.out,h.out⟩
 by_cases H:(m:Int)<1
 .have a:Hid ((aH.mk n l).ok=M):=by show _=_;rw [c.out,decide_eq_false (p:=1<=m) (by omega),B1,D1,D1]
  go_enter func239,ntmps239
  go_wp2_with fail
  exact g.out _ _ ⟨by rw [a.out];try (first|rfl|simp),d.out,h.out⟩
 by_cases I:(28:Int)<(m:Int)
 .have a:Hid ((aH.mk n l).ok=M):=by show _=_;rw [c.out,decide_eq_false (p:=m<=28) (by omega),B1,D1,D1,D1]
  go_enter func239,ntmps239
  go_wp2_with fail
  exact g.out _ _ ⟨by rw [a.out];try (first|rfl|simp),d.out,h.out⟩
 have a:Hid ((aH.mk n l).ok=decide (o<0)):=by
  show _=_
  rw [c.out,decide_eq_true (p:=1<=n) (by omega),decide_eq_true (p:=n<=3839) (by omega),decide_eq_true (p:=1<=m) (by omega),decide_eq_true (p:=m<=28) (by omega),T1,T1,T1,T1];rw [K1];simp only [Bool.not_eq_true',decide_eq_true_eq,y.out];simp
 go_enter func239,ntmps239
 go_wp2_with fail
 refine (z.out _).mono ?_;rintro e J ⟨rfl,rfl⟩
 go_wp2_with fail
 exact g.out _ _ ⟨by rw [a.out];try (first|rfl|simp),d.out,h.out⟩
theorem pT (w:U) (l:List UInt8):Calls T 140 #[W (str l)] w fun b0 w'=>b0 = N (Q (cM l))/\w=w':=by
 refine aJ fun c0 d=>?_;have g:=Tryz.strings_IndexByte (str l) 0;have h:=Tryz.strings_IndexByte (str l) 47;have v:(0:Int).toNat.toUInt8=(0:UInt8):=rfl;have y:(47:Int).toNat.toUInt8=(47:UInt8):=rfl;have o:(str l).data.toList=l:=rfl;rw [v,o] at g;rw [y,o] at h;have s:=rD l 0;have t:=rD l 47;have P:=iG l;obtain ⟨a,z⟩:∃ a,Lib.indexByte l 0=a:=⟨_,rfl⟩
 obtain ⟨i,B⟩:∃ a,Lib.indexByte l 47=a:=⟨_,rfl⟩
 rw [z] at g s;rw [B] at h t;have u:=ae g;have j:=ae h
 have r:Hid (cM l=((decide (1<=l.length) && (decide (l.length<=28) && decide (a<0))) && (decide (i<0) && (decide (l≠[46]) && decide (l≠[46,46]))))):=by
  unfold cM Ex;congr 1
  .congr 2
   rw [K1];simp [s]
  .congr 1
   rw [K1];simp [t]
 have E:((str l).toList == [46]) = !decide (l≠[46]):=by
  rw [Lib.toList_data,K1,beq_iff_eq];simp [str]
 have G:((str l).toList == [46,46]) = !decide (l≠[46,46]):=by
  rw [Lib.toList_data,K1,beq_iff_eq];simp [str]
 obtain ⟨m,C⟩:∃ m,l.length=m:=⟨_,rfl⟩
 rw [C] at P r;have I:=ae E;have J:=ae G;clear C z B g h s t v o y E G
 by_cases h3:(m:Int)<1
 .have c:Hid (cM l=M):=by show _=_;rw [r.out,decide_eq_false (p:=1<=m) (by omega),B1,B1]
  go_enter func140,ntmps140
  go_wp2_with fail
  exact d.out _ _ ⟨by rw [c.out];try (first|rfl|simp),rfl⟩
 by_cases h4:(28:Int)<(m:Int)
 .have c:Hid (cM l=M):=by show _=_;rw [r.out,decide_eq_false (p:=m<=28) (by omega),B1,D1,B1]
  go_enter func140,ntmps140
  go_wp2_with fail
  exact d.out _ _ ⟨by rw [c.out];try (first|rfl|simp),rfl⟩
 have D:Hid (cM l=(decide (a<0) && (decide (i<0) && (decide (l≠[46]) && decide (l≠[46,46]))))):=by grind
 by_cases h5:(0:Int)<=i
 .have c:Hid (cM l=M):=by show _=_;rw [D.out,decide_eq_false (p:=i<0) (by omega),B1,D1]
  go_enter func140,ntmps140
  go_wp2_with fail
  refine (j.out _).mono ?_;rintro e H ⟨rfl,rfl⟩
  go_wp2_with fail
  exact d.out _ _ ⟨by rw [c.out];try (first|rfl|simp),rfl⟩
 by_cases h6:(0:Int)<=a
 .have c:Hid (cM l=M):=by show _=_;rw [D.out,decide_eq_false (p:=a<0) (by omega),B1]
  go_enter func140,ntmps140
  go_wp2_with fail
  refine (j.out _).mono ?_;rintro e H ⟨rfl,rfl⟩
  go_wp2_with fail
  refine (u.out _).mono ?_;rintro e w3 ⟨rfl,rfl⟩
  go_wp2_with fail
  exact d.out _ _ ⟨by rw [c.out];try (first|rfl|simp),rfl⟩
 have K:Hid (cM l=(decide (l≠[46]) && decide (l≠[46,46]))):=by grind
 have n1:=I.out;have n2:=J.out;generalize decide (l≠[46])=p at *;generalize decide (l≠[46,46])=q at *;cases p <;> cases q
 all_goals
  go_enter func140,ntmps140
  go_wp2_with fail
  refine (j.out _).mono ?_;rintro e H ⟨rfl,rfl⟩
  go_wp2_with fail
  refine (u.out _).mono ?_;rintro e w3 ⟨rfl,rfl⟩
  go_wp2_with fail
  exact d.out _ _ ⟨by rw [K.out];try (first|rfl|simp),rfl⟩
end Go.Proofs.Fs
namespace Go.SL
open RowKit
def aH.may (e:aH):Prop:=e.ok=O\/e=aH.no
theorem aH.FT {e:aH} (h:e.may):e.nm.length<=28/\e.nd<=3839:=by
 rcases h with h|rfl
 .have:=aH.mw.1 h
  have a:=pU.1 this.2.2;exact ⟨a.2.1,this.2.1⟩
 .exact ⟨by decide,by decide⟩
theorem FO {a:Int} {s:Nat} (rest:List UInt8) (c:0<=a) (d:a<(256:Int) ^ s):iM (dx a s++rest) s=a:=by
 rw [mm a s rest s (P2 _),Int.emod_eq_of_lt c d]
theorem aH.parts {e:aH} (d:e.may) {L rest:List UInt8} {o:Nat} (h:L.drop o=e.enc++rest) :
  iM (L.drop o) 2=(e.nd:Int)/\iM (L.drop (o+2)) 1=(e.nm.length:Int)/\(L.drop (o+3)).take 29=e.nm++zs (29-e.nm.length):=by
 obtain ⟨g,i⟩:=aH.FT d
 have a:L.drop (o+2)=dx e.nm.length 1++((e.nm++zs (29-e.nm.length))++rest):=by
  rw [<- List.drop_drop,h];unfold aH.enc;rw [R2,U1 (bp _ _)];simp only [R2]
 have c:L.drop (o+3)=(e.nm++zs (29-e.nm.length))++rest:=by
  rw [show o+3=(o+2)+1 by omega,<- List.drop_drop,a,U1 (bp _ _)]
 refine ⟨?_,?_,?_⟩
 .rw [h];unfold aH.enc;rw [R2];exact FO _ (by omega) (by omega)
 .rw [a];exact FO _ (by omega) (by omega)
 .rw [c,List.take_left']
  rw [A1,bh];omega
end Go.SL
namespace Go.Proofs.Fs
open RowKit SL Proofs.Ba
def OU (r g c:Nat) (d:Array S) (L:List UInt8) (o n:Nat) (w:U) (F:ai) (e:Ending) (a:U):Prop:=
 ∃ v,e = N v/\ag a (bs 5 v ((L.drop o).take n)*(cu r g c d L (o+n)*F))/\aj w a
theorem EB (w:U) (r g a:Nat) (d:Array S) (L:List UInt8) (o n:Nat) (F:ai) (h:ag w (cu r g a d L o*F)) (B:o<L.length) (y:o+n<=L.length) (u:L.length<=1000000) :
  Calls T 199 #[az r,Y .i64 (n:Int)] w (OU r g a d L o n w F):=by
 have z:=uy w r g a d L o n F h B y u
 go_enter func199,ntmps199
 go_wp2_with fail
 (refine z.mono ?_)
 rintro e D ⟨c,rfl,j,q⟩;have v:((L.drop o).take n).length=n:=by rw [H1,S2];omega
 have C:=rG j o n c (by omega);have t:ag D (bs 5 (X V 0 0) []*(cu r g a d L (o+n)*F)):=j.eQ _ _;obtain ⟨G,H,l,i,s,a3,E,rfl⟩:=iw t C (by simp) (by omega);simp only [N1,Nat.zero_add,v] at l i;have m:=ae l;rw [R1] at i
 go_wp2_with (at_builtin;refine wpList_append_run m.out _ _ rfl rfl rfl rfl rfl ?_)
 go_ret
 exact ⟨_,rfl,i,q.trans s⟩
theorem KD:(prog.info? 80).map (·.size)=R 2:=by kernel_rfl
def Uc (r g c:Nat) (d:Array S) (L:List UInt8) (o:Nat) (x:aH) (w:U) (F:ai) (e:Ending) (a:U):Prop:=
 e = N (.tuple #[x.v,Q O])/\ag a (cu r g c d L (o+32)*F)/\aj w a
def TJ (m:Nat) (u:S):Prop:=∃ k:Nat,k<=29-m/\u = Y .i64 (k:Int)
theorem qS {w:U} {d:Array S} {a:Nat} {e:S} {c:Array S} {F:ai} (g:d[2]?=R (az a)) (h:d[3]?=R e) (j:ag w (pt a (Z c 80 (0,0))*F)) (i:c.size=2) :
  (results Tryz.f289 d).run T w = .ok (.tuple #[.agg c,e]) w:=by
 have l:=run_loadVar_row (P:=T) w a 80 80 c (0,0) _ j.heap underlying80 rfl (by rw [i];exact KD);simp [results,Tryz.results289,g,h,asAddr,l]
theorem Kd (w:U) (r g c:Nat) (d:Array S) (L rest:List UInt8) (o:Nat) (x:aH) (F:ai) (h0:ag w (cu r g c d L o*F)) (J:x.may) (ho:o+32<=L.length) (hL:L.drop o=x.enc++rest) (E:L.length<=1000000) :
  Calls T 289 #[az r] w (Uc r g c d L o x w F):=by
 refine aJ fun q0 K=>?_;obtain ⟨p1,p2,p3⟩:=aH.parts J hL;obtain ⟨q1,q2⟩:=aH.FT J;have hA:=h0.alloc (Z #[Y .i64 0,.string ⟨#[]⟩] 80 (0,0));have dA:=ae ((aj.refl w).alloc (Z #[Y .i64 0,.string ⟨#[]⟩] 80 (0,0)));have HX:=ae J;have b0:=ae p1;have c0:=ae p2;have d0:=ae p3;have a:=hA.to (by ac_rfl:_=cu r g c d L o*(pt w.heap.size (Z #[Y .i64 0,.string ⟨#[]⟩] 80 (0,0))*F));have j0:=iR _ r g c d L o 2 _ a (by omega) (by omega) (by decide) E;have e0:=ae j0
 go_enter func289,ntmps289
 go_wp2_with fail
 refine e0.out.mono ?_;generalize w.heap.size=j at *;rintro e w2 ⟨rfl,h2,d2⟩;have D2:=ae (dA.out.trans d2);have k0:=iR _ r g c d L (o+2) 1 _ h2 (by omega) (by omega) (by decide) E;have g0:=ae k0;have p0:(x.nm.length:Int)<=28:=by omega
 rw [b0.out]
 go_wp2_with fail
 refine g0.out.mono ?_;rintro e w3 ⟨rfl,h3,d3⟩;have D3:=ae (D2.out.trans d3);have hb:=EB _ r g c d L (o+2+1) 29 _ h3 (by omega) (by omega) E;have Hb:=ae hb;rw [c0.out];obtain ⟨m,G⟩:∃ m,x.nm.length=m:=⟨_,rfl⟩
 have q:=ae G;rw [G] at q1 p0;rw [G]
 go_wp2_with fail
 refine Hb.out.mono ?_;rintro e h ⟨v,rfl,h4,d4⟩;have D4:=ae (D3.out.trans d4)
 have D:ag h (bs 5 v (x.nm++zs (29-m))*(cu r g c d L (o+32)*(pt j (Z #[Y .i64 0,.string ⟨#[]⟩] 80 (0,0))*F))):=by
  rw [d0.out,q.out] at h4;exact h4
 have t:(x.nm++zs (29-m)).length=29:=by rw [A1,bh,q.out];omega
 obtain ⟨y,s,rfl,k1,k2,k3,-,-⟩:=Kl D (i:=0) (by omega);rw [t];rw [t] at k1 k3
 have hz:∀ k,k<29-m->h.cell? ⟨y,m+k,V⟩=R (Y .u8 0):=fun k hk=>by
  rw [k3 (m+k) (by omega),List.getD,V1 (by rw [q.out];omega),q.out];unfold zs;rw [B3,if_pos (by omega)];rfl
 have n0:Rd h (X (R ⟨y,0,V⟩) 29 s) (x.nm++zs (29-m)):=by have:=D.oD;rw [t] at this;exact ⟨by rw [t];exact this.1,by rw [t];exact this.2⟩
 have l0:Rd h (X (R ⟨y,0,V⟩) m s) x.nm:=by
  rcases n0.2 with ⟨e,-⟩|⟨s0,u0,e,ha⟩
  .cases e
  .simp only [Value.slice.injEq,Option.some.injEq] at e
   obtain ⟨rfl,-,rfl⟩:=e;refine ⟨by simp,.inr ⟨_,_,by rw [q.out],fun o0 u hu=>ha o0 u ?_⟩⟩;rw [S1,G3 (by have:=(List.getElem?_eq_some_iff.1 hu).1;exact this)];exact hu
 have t1:=qm h _ _ l0;have H4:=ae D;have Hz:=ae hz;have H0:(29:Int)<=(s:Int):=by omega
 have K0:(s:Int)<=9223372036854775807:=by unfold maxLen at k2;omega
 have P:=ae t1
 go_wp2_with fail
 go_loop [27] (fun u=>TJ m u) (fun u=>29-m-(intOf u).toNat)
 case atStart=>exact ⟨0,W1 _,rfl⟩
 case round=>
  obtain ⟨k,hk,rfl⟩:=hrel
  by_cases F0:k<29-m
  .have G0:(k:Int)<29-(m:Int):=by omega
   have i0:((29-m:Nat):Int)=29-(m:Int):=by omega
   go_wp2_with fail
   go_round
   case rel=>exact ⟨k+1,by omega,by go_num⟩
   case measure=>simp [intOf];omega
  .obtain rfl:k=29-m:=by omega
   have i0:((29-m:Nat):Int)=29-(m:Int):=by omega
   have t1:=P.out;clear P
   go_upto_region 13 with (fail)
   have a:=(H4.out.alloc (Z #[Y .i64 (x.nd:Int),W (str x.nm)] 80 (0,0))).to (by ac_rfl:_=pt h.heap.size (Z #[Y .i64 (x.nd:Int),W (str x.nm)] 80 (0,0))*(pt j (Z #[Y .i64 0,.string ⟨#[]⟩] 80 (0,0))*(cu r g c d L (o+32)*(F*bs 5 (X (R ⟨y,0,V⟩) (x.nm++zs (29-m)).length s) (x.nm++zs (29-m))))));have dB:=ae (D4.out.alloc (Z #[Y .i64 (x.nd:Int),W (str x.nm)] 80 (0,0)));generalize h.alloc (Z #[Y .i64 (x.nd:Int),W (str x.nm)] 80 (0,0))=w5 at *;generalize h.heap.size=ec at *;have i:=ae a;have B:=a.cell 0;have C:=a.cell 1;rcases HX.out with H|m0
   .have h1:¬ (x.nd:Int)=0:=by have:=(aH.mw.1 H).1;omega
    have I:=vh w5 x;rw [H] at I;have Hr:=ae I;clear H I
    go_wp2_with fail
    refine Hr.out.mono ?_;rintro e w6 ⟨rfl,h6,d6⟩;have a:=h6.du i.out;have B:=a.cell 0;have C:=a.cell 1;have r0:=a.ah.cell 0;have r1:=a.ah.cell 1;have f0:=a.ah.frozen 0;have f1:=a.ah.frozen 1;have l:=ae ((a.ah.setCell 0 (Y .i64 (x.nd:Int))).setCell 1 (W (str x.nm)));have z:=ae (((dB.out.trans d6).setCell ⟨j,0,V⟩ (Y .i64 (x.nd:Int))).setCell ⟨j,1,V⟩ (W (str x.nm)))
    go_wp2_with fail
    exact bodyPost_ret (qS rfl rfl l.out rfl) rfl (K.out _ _ ⟨rfl,(l.out.right.right.to (ay _ _ _).symm).left,z.out⟩)
   .subst m0
    have r0:=i.out.ah.cell 0;have r1:=i.out.ah.cell 1;have f0:=i.out.ah.frozen 0;have f1:=i.out.ah.frozen 1;have l:=ae ((i.out.ah.setCell 0 (Y .i64 0)).setCell 1 (.string ⟨#[]⟩));have z:=ae ((dB.out.setCell ⟨j,0,V⟩ (Y .i64 0)).setCell ⟨j,1,V⟩ (.string ⟨#[]⟩));have x0:=B;have D0:w5.cell? ⟨ec,1,V⟩=R (.string ⟨#[]⟩):=C;clear i B C
    go_wp2_with fail
    exact bodyPost_ret (qS rfl rfl l.out rfl) rfl (K.out _ _ ⟨rfl,(l.out.right.right.to (ay _ _ _).symm).left,z.out⟩)
end Go.Proofs.Fs
namespace Go.SL
open RowKit
def dV (Es:List aH):List UInt8:=Es.flatMap aH.enc
theorem aH.Od {e:aH} (h:e.may):e.enc.length=32:=by
 rcases h with h|rfl
 .exact aH.dF h
 .rw [aH.LU];exact bh 32
theorem gY:∀ {Es:List aH},(∀ e ∈ Es,e.may)->(dV Es).length=32*Es.length
 | [],_=>rfl
 | e :: Es,h=>by
  have:=gY (Es:=Es) fun x a=>h x (List.mem_cons_of_mem _ a);unfold dV at this ⊢;rw [List.flatMap_cons,A1,this,aH.Od (h e (List.mem_cons_self ..)),L1];omega
theorem kG (A B:List aH):dV (A++B)=dV A++dV B:=by unfold dV;rw [J3]
theorem GW {a:List aH} (h:∀ e ∈ a,e.may) {k:Nat} (g:k<a.length):(dV a).drop (32*k)=(a[k]).enc++dV (a.drop (k+1)):=by
 have e:a=a.take k++(a[k] :: a.drop (k+1)):=by simp
 have c:(dV (a.take k)).length=32*k:=by
  rw [gY fun x d=>h x (X1 d),H1];omega
 conv=>lhs;rw [e]
 rw [kG,U1 c]
 rfl
end Go.SL
namespace Go.Proofs.Fs
open RowKit SL Proofs.Ba
attribute [local go_sem] Oper.semAt_some
def Uv (e:aH) (a:Array S):ai:=fact (a=#[e.v,Q O])
def tL (c:Nat) (v:S) (a:List aH):ai:=pt c (Z #[v] 22 (0,0))*bs 5 v (dV a)
def yN (r g d:Nat) (h:Array S) (A:List aH->ai) (a:List aH) (c:ai) (w0:U) (k:Nat) (wr:U):Prop:=
 ∃ j:Nat,j<=a.length/\a.length<=j+k/\aj w0 wr/\ag wr (cu r g d h (dV a) (32*j)*(A (a.take j)*c))
theorem DK {a:List aH} {k:Nat} (h:k<a.length):a.take k++[a[k]]=a.take (k+1):=by simp_all
theorem DM (n:Nat) (bx:Nat) (v:Value) (Es:List aH) (hm:∀ e ∈ Es,e.may) (h0:0<Es.length) (hl:Es.length<=15) :
  fW Fence.wide n prog 288 #[.pointer (some ⟨bx,0,none⟩)] (tL bx v Es) Uv (fun ys=>ys=Es) (fun ys=>ys <+: Es):=by
 intro lp A Ax G w0 w hY hs h;have hlen:=gY hm;have hB:ag w (pt bx (.cells #[v] 22 (0,0))*(bs 5 v (dV Es)*(A []*G))):=h.to (by unfold tL;ac_rfl);have c0:=hB.cell 0;have hr:=nu w v (dV Es) hB.ah.oD (by omega) (by omega);have H:=ae h;have HM:=ae hm;have HL:=ae hlen;refine callsIn_of_wp func288 rfl trivial ?_ rfl;simp only [ntmps288,Y1,L1,N1,Z1,A2,B2,E2,H2,J2,R1,K2]
 gi_wp2_with fail
 refine lz hr ?_;rintro e w1 ⟨r,g,cap,cur,rfl,h1,d1⟩;have hst:=h1.under H.out;have ds:=hs.trans d1
 gi_wp2
 gi_loopw [] (fun wr=>∃ k,yN r g cap cur A Es (tL bx v Es*G) w0 k wr) (fun wr=>leastOf (fun k=>yN r g cap cur A Es (tL bx v Es*G) w0 k wr))
 case atStart=>exact ⟨Es.length,0,W1 _,by omega,ds,hst⟩
 case round=>
  obtain ⟨hk,hmin⟩:=leastOf_spec hrel;generalize leastOf (fun k=>yN r g cap cur A Es (tL bx v Es*G) w0 k wr)=gk at hk hmin ⊢;obtain ⟨j,hj,hjk,hside,hsat⟩:=hk;have hleft:=BM wr r g cap cur (dV Es) (32*j) _ hsat;rw [HL.out] at hleft
  by_cases hlt:j<Es.length
  .obtain ⟨q,hq⟩:∃ q,32*Es.length-32*j=q:=⟨_,rfl⟩
   rw [hq] at hleft;have hq1:(32:Int)<=(q:Int):=by omega
   have hmay:=HM.out _ (List.getElem_mem hlt);have hdr:=GW HM.out hlt;have hsl:=Kd wr r g cap cur (dV Es) (dV (Es.drop (j+1))) (32*j) Es[j] _ hsat hmay (by rw [HL.out];omega) hdr (by rw [HL.out];omega);have hsn:=DK hlt;have hpre:Es.take j++[Es[j]] <+: Es:=by rw [hsn];exact T2 _ _
   have Hsl:=ae hsl;have Hsn:=ae hsn;have Hpre:=ae hpre;have HJ:=ae hjk;generalize Es[j]=x at *
   gi_wp2_with fail
   refine lz hleft ?_;rintro e w2 ⟨rfl,rfl⟩
   gi_wp2_with fail
   refine lz Hsl.out ?_;rintro e w3 ⟨rfl,h3,d3⟩;have hA:=h3.alloc (.cells #[.int .i64 (x.nd:Int),.string (str x.nm)] 80 (0,0));have dA:=(hside.trans d3).alloc (.cells #[.int .i64 (x.nd:Int),.string (str x.nm)] 80 (0,0));unfold aH.v
   have hB:ag (w3.alloc (.cells #[.int .i64 (x.nd:Int),.string (str x.nm)] 80 (0,0))) (A (Es.take j)*(Uv x #[.agg #[.int .i64 (x.nd:Int),.string (str x.nm)],.bool true]*(cu r g cap cur (dV Es) (32*j+32)*(tL bx v Es*G)))):=by
    have h9:=hA.right;have h10:=h9.to (by ac_rfl:_=A (Es.take j)*(cu r g cap cur (dV Es) (32*j+32)*(tL bx v Es*G)));exact ag.ah (ag.au.2 ⟨rfl,h10⟩)
   obtain ⟨fn,tmps,assign,body,hy,hR⟩:=hY (Es.take j) x #[.agg #[.int .i64 (x.nd:Int),.string (str x.nm)],.bool true] _ _ Hpre.out dA hB
   gi_wp2
   refine ⟨fun h=>(by cases h),hR.mono ?_⟩;rintro e W' (⟨rfl,hs5,hsat5⟩|⟨rfl,hs5,hsat5⟩)
   .have hrel':yN r g cap cur A Es (tL bx v Es*G) w0 (gk-1) W':=
     ⟨j+1,hlt,by have:=HJ.out;omega,hs5,by rw [<- Hsn.out,Nat.mul_add];exact hsat5.ah⟩
    gi_wp2
    go_roundw
    case rel=>exact ⟨_,hrel'⟩
    case measure=>exact Nat.lt_of_le_of_lt ((leastOf_spec ⟨_,hrel'⟩).2 _ hrel') (by have:=HJ.out;omega)
   .gi_wp2
    refine bodyPost_ret (results_none rfl _ _ _) rfl ?_;exact ⟨⟨_,rfl⟩,hs5,.inr ⟨_,Hpre.out,hsat5.iC⟩⟩
  .obtain rfl:j=Es.length:=by omega
   rw [Nat.sub_self] at hleft;have hleft2:=hleft;rw [List.take_length] at hsat;have HS:=ae hsat.right
   gi_wp2_with fail
   refine lz hleft2 ?_;rintro e w2 ⟨rfl,rfl⟩
   gi_wp2
   go_end0
   exact ⟨⟨_,rfl⟩,hside,.inl ⟨_,rfl,HS.out⟩⟩
end Go.Proofs.Fs
namespace Go.SL
open RowKit
def bD (P:List aH):List S:=P.flatMap aH.cells
theorem y7 (P:List aH):(bD P).length=P.length*2:=by
 unfold bD
 induction P with
 | nil=>rfl
 | cons e P a=>rw [List.flatMap_cons,A1,a,L1];show 2+_=_;omega
theorem mq (A B:List aH):bD (A++B)=bD A++bD B:=by unfold bD;rw [J3]
theorem Gu {P:List aH} {k:Nat} (d:k<P.length):(bD P)[k*2]?=R (Y .i64 ((P[k]).nd:Int))/\(bD P)[k*2+1]?=R (W (str (P[k]).nm)):=by
 have e:P=P.take k++(P[k] :: P.drop (k+1)):=by rw [List.getElem_cons_drop d,U2]
 have a:(bD (P.take k)).length=k*2:=by rw [y7,H1];omega
 have c:bD P=bD (P.take k)++(Y .i64 ((P[k]).nd:Int) :: W (str (P[k]).nm) :: bD (P.drop (k+1))):=by
  conv=>lhs;rw [e]
  rw [mq];rfl
 rw [c];constructor
 .rw [V1 (by omega),a,Nat.sub_self];rfl
 .rw [V1 (by omega),a,show k*2+1-k*2=1 by omega];rfl
theorem Ib (P:List aH):∀ u ∈ bD P,u.oneCell'=O:=by
 intro u a;obtain ⟨e,_,h⟩:=List.mem_flatMap.1 a;simp only [aH.cells,List.mem_cons,List.not_mem_nil,or_false] at h;rcases h with rfl|rfl <;> rfl
def placesOf (P:List aH):List aH:=P++List.replicate (15-P.length) aH.no
theorem jG {P:List aH} (h:∀ e ∈ P,e.ok=O):∀ e ∈ placesOf P,e.may:=by
 intro e c;rcases List.mem_append.1 c with a|a
 .exact .inl (h e a)
 .exact .inr (K3 a)
def ed (a:List aH):List aH:=a.filter fun e=>e.ok
def fL (a:List aH):Bool:=a.any fun e => !e.ok
theorem FL:aH.no.ok=M:=by decide
theorem wT {P:List aH} (h:∀ e ∈ P,e.ok=O):ed (placesOf P)=P:=by
 unfold ed placesOf;rw [V2,List.filter_eq_self.2 h,List.filter_eq_nil_iff.2 (fun e a=>by rw [K3 a,FL];exact Bool.noConfusion),W2]
theorem Di {P:List aH} (h:∀ e ∈ P,e.ok=O) {c:List aH} {x:aH} (m:c++[x] <+: placesOf P) (d:x.ok=O):fL c=M/\c.length<P.length:=by
 obtain ⟨t,r⟩:=m
 have l:c.length<P.length:=by
  refine Nat.lt_of_not_le fun j=>?_;have a:(placesOf P)[c.length]?=R x:=by grind
  unfold placesOf at a;rw [V1 j,B3] at a
  split at a
  .injection a with a
   rw [<- a,FL] at d;cases d
  .cases a
 refine ⟨?_,l⟩;unfold fL;rw [List.any_eq_false];intro e g
 have:e ∈ P:=by
  obtain ⟨i,o,q⟩:=N2 g;have a:(placesOf P)[i]?=R e:=by grind
  unfold placesOf at a;rw [G3 (by omega)] at a;exact A3 a
 rw [h e this];decide
theorem Eo {P:List aH} (h:∀ e ∈ P,e.ok=O) {d:List aH} {x:aH} (a:d++[x] <+: placesOf P):x.may:=by
 obtain ⟨t,c⟩:=a;exact jG h x (by rw [<- c];simp)
end Go.SL
namespace Go.Proofs.Fs
open RowKit SL Proofs.Ba
attribute [local go_sem] Oper.semAt_some
def NX (v:S) (w:U) (e:Ending) (a:U):Prop:=e = N (.func (.func 288) #[] #[.pointer (R ⟨w.heap.size,0,V⟩)])/\a=w.alloc (Z #[v] 22 (0,0))
theorem C4 (w:U) (a:Option Addr) (n c:Nat):Calls T 268 #[X a n c] w (NX (X a n c) w):=by
 go_enter func268,ntmps268
 go_wp2
 go_ret
 exact ⟨rfl,rfl⟩
theorem xy:(prog.info? 80).map (fun i=>(i.zero,i.size,i.bytes))=R (R (.agg #[Y .i64 0,.string ⟨#[]⟩]),2,24):=by kernel_rfl
def Fh (d c:Nat) (a:List aH):ai:=ex fun v=>pt d (Z #[v] 76 (0,0))*(sl 80 2 v (ed a).length (bD (ed a))*pt c (Z #[Q (fL a)] 4 (0,0)))
def Rh (a:Option Addr) (d m o h g j:Nat) (l:List aH) (x:aH) (i:Act):ai:=ex fun c:Nat=>
 fact (i={ tmps:=#[X a 480 d,undef,az m,az o,az h,az g,az c,Q O,X a 480 d,Y .i64 480,Q M,X a 480 d,.func (.func 288) #[] #[az j],x.v,Q O,undef,undef,undef,undef,undef,undef,undef,undef,undef,undef,undef,undef,undef,undef],defers:=[] }) *
  (pt c (Z #[Y .i64 (x.nd:Int),W (str x.nm)] 80 (0,0))*Fh h g l)
theorem IA (a:List aH):ed (a++[aH.no])=ed a/\fL (a++[aH.no])=O:=by
 unfold ed fL;rw [V2,List.any_append];refine ⟨?_,?_⟩
 .rw [show List.filter (fun e:aH=>e.ok) [aH.no]=[] from by rw [List.filter_cons_of_neg (by rw [FL];exact Bool.noConfusion)];rfl,W2]
 .rw [show List.any [aH.no] (fun e:aH => !e.ok)=O from by rw [List.any_cons,FL];rfl,Bool.or_true]
theorem GC (a:List aH) {x:aH} (h:x.ok=O):ed (a++[x])=ed a++[x]/\fL (a++[x])=fL a:=by
 unfold ed fL;rw [V2,List.any_append];refine ⟨?_,?_⟩
 .rw [show List.filter (fun e:aH=>e.ok) [x]=[x] from List.filter_cons_of_pos h]
 .rw [show List.any [x] (fun e:aH => !e.ok)=M from by rw [List.any_cons,h];rfl,Bool.or_false]
theorem Py (a:List aH):(ed a).length<=a.length:=List.length_filter_le _ _
theorem tG {w:U} {c:Array S} {a b:Nat} {v e:S} {F:ai} (i:c[2]?=R (az a)) (j:c[3]?=R (az b)) (h:ag w (pt a (Z #[v] 76 (0,0))*(pt b (Z #[e] 28 (0,0))*F))) :
  (results Tryz.f244 c).run T w = .ok (.tuple #[v,e]) w:=by
 have d:=h.cell 0;have g:=h.ah.cell 0;simp [results,Tryz.results244,i,j,asAddr,az,go_sem,d,g]
def TK (v:S) (P:List aH) (F:ai) (w:U) (e:Ending) (a:U):Prop:=
 ∃ u,e = N (.tuple #[u,Y .i64 0])/\ag a (sl 80 2 u P.length (bD P)*(bs 5 v (dV (placesOf P))*F))/\aj w a
theorem BO (w:U) (v:S) (P:List aH) (G:∀ e ∈ P,e.ok=O) (hl:P.length<=15) (F:ai) (h:ag w (bs 5 v (dV (placesOf P))*F)) :
  Calls T 244 #[v] w (TK v P F w):=by
 obtain ⟨i0,hi,hz,l0,h0⟩:=info_parts xy;have k0:(placesOf P).length=15:=by unfold placesOf;rw [A1,L3];omega
 have j0:(dV (placesOf P)).length=480:=by rw [gY (jG G),k0]
 obtain ⟨d,g,rfl⟩:=aE h;have u:=(((h.alloc (Z #[X V 0 0] 76 (0,0))).alloc (Z #[Y .i64 0] 28 (0,0))).alloc (Z #[X V 0 0] 76 (0,0))).alloc (Z #[Q M] 4 (0,0));have dA:=((((aj.refl w).alloc (Z #[X V 0 0] 76 (0,0))).alloc (Z #[Y .i64 0] 28 (0,0))).alloc (Z #[X V 0 0] 76 (0,0))).alloc (Z #[Q M] 4 (0,0));simp only [X2] at u;rw [j0] at u ⊢;refine (callsIn_wide (n:=9)).1 ?_;refine callsIn_of_wp_marks func244 rfl trivial ?_ rfl;simp only [ntmps244,Y1,L1,N1,Z1,A2,B2,E2,H2,J2,R1,K2]
 gi_wp2_with fail
 generalize (((w.alloc (Z #[X V 0 0] 76 (0,0))).alloc (Z #[Y .i64 0] 28 (0,0))).alloc (Z #[X V 0 0] 76 (0,0))).alloc (Z #[Q M] 4 (0,0))=w1 at *;refine nG (C4 w1 d 480 g) ?_;rintro en w2 ⟨rfl,rfl⟩;have hB:=u.alloc (Z #[X d 480 g] 22 (0,0));have dB:=dA.alloc (Z #[X d 480 g] 22 (0,0));clear u dA
 gi_wp2_with fail
 generalize w1.alloc (Z #[X d 480 g] 22 (0,0))=w2 at *;generalize w1.heap.size=y at *;generalize w.heap.size+1+1+1=l at *;generalize w.heap.size+1+1=o at *;generalize w.heap.size+1=B at *;generalize w.heap.size=z at *
 have r0:ag w2 (Fh o l []*(tL y (X d 480 g) (placesOf P)*(pt z (Z #[X V 0 0] 76 (0,0))*(pt B (Z #[Y .i64 0] 28 (0,0))*F)))):=
  ag.ax.2 ⟨X V 0 0,by
   have:=(hB.eQ 80 2)
   exact this.to (by unfold tL;show _=_*(sl _ 2 _ 0 []*pt l (Z #[Q M] _ _))*_;ac_rfl)⟩
 clear hB h
 refine jY (w0:=w) rfl (by decide) (gf:=288) (lb:=#[.pointer (R ⟨y,0,V⟩)]) rfl trivial (enters func288 (by kernel_rfl) rfl)
  (DM _ y (X d 480 g) (placesOf P) (jG G) (by omega) (by omega)) (Fh o l) (fun _ _=>fact False) (Rh d g z B o l y)
  (pt z (Z #[X V 0 0] 76 (0,0))*(pt B (Z #[Y .i64 0] 28 (0,0))*F)) ?hps dB r0 ?assign ?body ?done ?stop
 case hps=>
  intro x vs C m h;unfold Uv at h;obtain ⟨rfl,_⟩:=ag.au.1 h
  rfl
 case assign=>
  intro J r a x vs C m D0 _ I H hK;have t:=H.ah;unfold Uv at t;obtain ⟨rfl,q⟩:=ag.au.1 t;have u:=q.alloc (Z #[Y .i64 (x.nd:Int),W (str x.nm)] 80 (0,0));have hd:=I.alloc (Z #[Y .i64 (x.nd:Int),W (str x.nm)] 80 (0,0));clear H t q
  have hk:=hK { tmps:=#[X d 480 g,undef,az z,az B,az o,az l,az m.heap.size,Q O,X d 480 g,Y .i64 480,Q M,X d 480 g,.func (.func 288) #[] #[az y],x.v,Q O,undef,undef,undef,undef,undef,undef,undef,undef,undef,undef,undef,undef,undef,undef],defers:=[] } _ hd
   (by
    unfold Rh;refine (ag.ax.2 ⟨m.heap.size,?_⟩);exact (ag.au.2 ⟨rfl,u⟩:ag _ (fact _*_)).to (by ac_rfl))
  clear u hd hK;unfold aH.v at *
  gi_wp2
  exact hk
 case body=>
  intro J r a x a' C m hp I H;unfold Rh at H;obtain ⟨c,t⟩:=ag.ax.1 H;obtain ⟨rfl,q⟩:=ag.au.1 (t.to (ay _ _ _));clear H t;have o0:=Eo G hp;have E:ag m (Fh o l a*(pt c (Z #[Y .i64 (x.nd:Int),W (str x.nm)] 80 (0,0))*(pt J (.loop r)*C))):=q.to (by ac_rfl);obtain ⟨v,H4⟩:=ag.ax.1 E;have s:ag m (pt o (Z #[v] 76 (0,0))*(pt l (Z #[Q (fL a)] 4 (0,0))*(pt c (Z #[Y .i64 (x.nd:Int),W (str x.nm)] 80 (0,0))*(sl 80 2 v (ed a).length (bD (ed a))*(pt J (.loop r)*C))))):=H4.to (by ac_rfl);clear q E H4;have c0:=s.cell 0;have c1:=s.ah.cell 0;have c2:=s.aw.cell 0;have c3:=s.aw.cell 1;have f0:=s.frozen 0;have f1:=s.ah.frozen 0;rcases o0 with g0|rfl
  .obtain ⟨e1,e2⟩:=Di G hp g0
   obtain ⟨o1,o2⟩:=GC a g0;have h1:¬ (x.nd:Int)=0:=by have:=(aH.mw.1 g0).1;omega
   rw [e1] at c1 o2;have N0:=Py a;have u:=s.alloc (Z #[Y .i64 (x.nd:Int),W (str x.nm)] 80 (0,0))
   have hR:oG (m.alloc (Z #[Y .i64 (x.nd:Int),W (str x.nm)] 80 (0,0))) 2 (X (R ⟨m.heap.size,0,V⟩) 1 1) 1 [Y .i64 (x.nd:Int),W (str x.nm)]:=
    ⟨rfl,.inr ⟨_,_,rfl,fun s0 u0 hu=>by
     rw [Addr.add_lit,Nat.zero_add];exact (u.cell s0).trans (by simpa using hu)⟩⟩
   have n0:=u.to (by ac_rfl:_=sl 80 2 v (ed a).length (bD (ed a))*(pt o (Z #[v] 76 (0,0))*(pt l (Z #[Q (fL a)] 4 (0,0))*(pt c (Z #[Y .i64 (x.nd:Int),W (str x.nm)] 80 (0,0))*(pt m.heap.size (Z #[Y .i64 (x.nd:Int),W (str x.nm)] 80 (0,0))*(pt J (.loop r)*C))))));obtain ⟨v',w',p0,b0,q0⟩:=ag.append (P:=T) (ty:=76) underlying76 hi hz l0 h0 rfl n0 hR (by intro u0 hu;simp only [List.mem_cons,List.not_mem_nil,or_false] at hu;rcases hu with rfl|rfl <;> rfl) (by unfold maxLen;omega) (by omega);obtain ⟨i,j,rfl⟩:=aE b0;have F0:=b0.ah.cell 0;have K0:=b0.ah.frozen 0;have d0:=b0.ah.setCell 0 (X i ((ed a).length+1) j);have e0:=ae d0;have m0:=ae p0;have O1:=ae o1;have O2:=ae o2;have E1:=ae e1;have K:=ae (((I.alloc (Z #[Y .i64 (x.nd:Int),W (str x.nm)] 80 (0,0))).trans q0).setCell ⟨o,0,V⟩ (X i ((ed a).length+1) j));unfold aH.v
   gi_wp2_with (gi_at_builtin;refine dj m0.out _ _ rfl rfl rfl rfl rfl ?_)
   refine ⟨K.out,?_⟩;refine ag.ax.2 ⟨X i ((ed a).length+1) j,?_⟩;rw [O1.out,O2.out,A1,mq];have D:=e0.out;rw [E1.out] at D;have h7:=D.to (by ac_rfl:_=(pt c (Z #[Y .i64 (x.nd:Int),W (str x.nm)] 80 (0,0))*pt m.heap.size (Z #[Y .i64 (x.nd:Int),W (str x.nm)] 80 (0,0)))*(pt o (Z #[X i ((ed a).length+1) j] 76 (0,0))*(sl 80 2 (X i ((ed a).length+1) j) ((ed a).length+1) (bD (ed a)++[Y .i64 (x.nd:Int),W (str x.nm)])*pt l (Z #[Q M] 4 (0,0))*(pt J (.loop r)*C))))
   exact h7.right.to (by
    have e:bD [x]=[Y .i64 (x.nd:Int),W (str x.nm)]:=rfl;rw [e,List.length_singleton];ac_rfl)
  .obtain ⟨o1,o2⟩:=IA a
   have d0:=s.ah.setCell 0 (Q O);have e0:=ae d0;have O1:=ae o1;have O2:=ae o2;have K:=ae (I.setCell ⟨l,0,V⟩ (Q O));have G0:=c2;have H0:m.cell? ⟨c,1,V⟩=R (.string ⟨#[]⟩):=c3;have ev:aH.no.v = .agg #[Y .i64 0,.string ⟨#[]⟩]:=rfl;clear hi hz l0 h0 d0 o1 o2 s G hp j0 k0 c2 c3;rw [ev];clear ev
   gi_wp2_with fail
   refine ⟨K.out,ag.ax.2 ⟨v,?_⟩⟩;rw [O1.out,O2.out];have D:=e0.out;exact (D.to (by ac_rfl:_=pt c (Z #[Y .i64 (aH.no.nd:Int),W (str aH.no.nm)] 80 (0,0))*(pt o (Z #[v] 76 (0,0))*(sl 80 2 v (ed a).length (bD (ed a))*pt l (Z #[Q O] 4 (0,0))*(pt J (.loop r)*C))))).right.to (by ac_rfl)
 case done=>
  intro D2 ys m hS I H;subst hS;obtain ⟨v,t⟩:=ag.ax.1 H;rw [wT G] at t;obtain ⟨i,j,rfl⟩:=aE (t.to (by ac_rfl:_=sl 80 2 v P.length (bD P)*(pt o (Z #[v] 76 (0,0))*(pt l (Z #[Q (fL (placesOf P))] 4 (0,0))*(tL y (X d 480 g) (placesOf P)*(pt D2 (.deferred (R []))*(pt z (Z #[X V 0 0] 76 (0,0))*(pt B (Z #[Y .i64 0] 28 (0,0))*F))))))));have q:ag m (pt D2 (.deferred (R []))*(pt o (Z #[X i P.length j] 76 (0,0))*(pt z (Z #[X V 0 0] 76 (0,0))*(pt B (Z #[Y .i64 0] 28 (0,0))*(sl 80 2 (X i P.length j) P.length (bD P)*(bs 5 (X d 480 g) (dV (placesOf P))*(F*(pt y (Z #[X d 480 g] 22 (0,0))*pt l (Z #[Q (fL (placesOf P))] 4 (0,0)))))))))):=t.to (by unfold tL;ac_rfl);have c0:=q.ah.cell 0;have z0:=q.aw.cell 0;have f0:=q.aw.frozen 0;have f1:=q.aD.frozen 0;have E:=q.aw.setCell 0 (X i P.length j);have R0:=E.aD.cell 0;have L0:=E.aD.frozen 0;have H4:=E.aD.setCell 0 (Y .i64 0);have s:=ae H4;have K:=ae ((I.setCell ⟨z,0,V⟩ (X i P.length j)).setCell ⟨B,0,V⟩ (Y .i64 0))
  gi_wp2
  have D:=s.out;have h7:=D.to (by ac_rfl:_=pt D2 (.deferred (R []))*(pt z (Z #[X i P.length j] 76 (0,0))*(pt B (Z #[Y .i64 0] 28 (0,0))*(sl 80 2 (X i P.length j) P.length (bD P)*(bs 5 (X d 480 g) (dV (placesOf P))*(F*(pt o (Z #[X i P.length j] 76 (0,0))*(pt y (Z #[X d 480 g] 22 (0,0))*pt l (Z #[Q (fL (placesOf P))] 4 (0,0))))))))));have hK:=h7.heap;have h8:=(h7.putObj (.deferred V)).right;clear D h7;refine ⟨by simp,.inl ⟨_,_,rfl,run_takeDeferred hK,?_⟩⟩;refine ⟨_,tG rfl rfl h8,⟨X i P.length j,rfl,?_,K.out.putObj _ _⟩⟩;exact (h8.right.right.to (by ac_rfl:_=(sl 80 2 (X i P.length j) P.length (bD P)*(bs 5 (X d 480 g) (dV (placesOf P))*F))*(pt o (Z #[X i P.length j] 76 (0,0))*(pt y (Z #[X d 480 g] 22 (0,0))*pt l (Z #[Q (fL (placesOf P))] 4 (0,0)))))).left
 case stop=>
  intro x0 c ys m _ _ H;exact (ag.au.1 H).1.elim
end Go.Proofs.Fs
namespace Go.SL
open RowKit
structure IW (f:AF) (L:List aH):Prop where
 kd:f.kd=2
 sz:f.sz=32*L.length
 ok:∀ e ∈ L,e.ok=true
 tK:∀ p,p<32*L.length->f.tK p=(dV L).getD p 0
 len:L.length<=3840
def gF (L:List aH) (i:Nat):List aH:=(L.drop (15*i)).take 15
theorem jV {L:List aH} (h:∀ e ∈ L,e.ok=O):(dV L).length=32*L.length:=gY fun e a=>.inl (h e a)
theorem DW {L:List aH} (h:∀ e ∈ L,e.ok=O) (k:Nat):(dV L).drop (32*k)=dV (L.drop k):=by
 by_cases c:k<=L.length
 .conv=>lhs;rw [<- U2 k L]
  rw [kG,U1];rw [jV fun e a=>h e (X1 a),H1];omega
 .rw [P3 (by omega:L.length<=k),P3 (by rw [jV h];omega)];rfl
theorem DL {L:List aH} (h:∀ e ∈ L,e.ok=O) (k:Nat):(dV L).take (32*k)=dV (L.take k):=by
 by_cases c:k<=L.length
 .conv=>lhs;rw [<- U2 k L]
  rw [kG,List.take_left'];rw [jV fun e a=>h e (X1 a),H1];omega
 .rw [M1 (by omega:L.length<=k),M1 (by rw [jV h];omega)]
theorem JS {L:List aH} (h:∀ e ∈ L,e.ok=O) (i:Nat):∀ e ∈ gF L i,e.ok=O:=fun e a=>h e (R3 (X1 a))
theorem zk (L:List aH) (i:Nat):(gF L i).length=min 15 (L.length-15*i):=by unfold gF;rw [H1,S2]
theorem Eu {L:List aH} (h:∀ e ∈ L,e.ok=O) (i:Nat):dV (gF L i)=((dV L).drop (480*i)).take 480:=by
 unfold gF;rw [show 480*i=32*(15*i) by omega,DW h,show 480=32*15 from rfl,DL fun e a=>h e (R3 a)]
theorem IW.sub {f:AF} {L:List aH} (D:IW f L) (i:Nat):f.sub (480*i) (min 480 (32*L.length-480*i))=dV (gF L i):=by
 rw [Eu D.ok];unfold AF.sub;rw [D.sz];have c:=jV D.ok;apply List.ext_getElem?;intro j
 by_cases a:j<min 480 (32*L.length-480*i)
 .rw [List.getElem?_map,List.getElem?_range (by omega),Y2,if_pos (by omega),List.getElem?_drop]
  show R (f.tK (480*i+j))=_
  rw [D.tK _ (by omega),List.getD,Z2 (by omega)];rfl
 .rw [S3 (by rw [List.length_map,List.length_range];omega),S3 (by rw [H1,S2];omega)]
theorem NI (k:Nat):dV (List.replicate k aH.no)=zs (32*k):=by
 induction k with
 | zero=>rfl
 | succ k a=>
  rw [List.replicate_succ];show aH.no.enc++dV _=_
  rw [a,aH.LU];unfold zs;rw [List.replicate_append_replicate];congr 1;omega
theorem Dt {P:List aH} (h:∀ e ∈ P,e.ok=O) (a:P.length<=15):bW 480 (dV P)=dV (placesOf P):=by
 unfold placesOf bW;rw [kG,NI,List.take_append];have e:=jV h;rw [M1 (by omega)];congr 1;unfold zs;rw [List.take_replicate];congr 1;omega
theorem Rq {w:U} {a:TypeId} {g n:Nat} {l:List UInt8} {F:ai} (c:l.length=n) (h:ag w (pt g (Z (dP l) a (0,0))*F)) (d:n<=1000000):ag w (bs a (X (R ⟨g,0,V⟩) n n) l*F):=by
 have:=ag.nj (sz:=1) (n:=n) (cap:=n) h (P2 _) (by unfold maxLen;omega) (by rw [eO];omega);rw [bs,c];refine this.to ?_;congr 2;simp only [dP,Nat.mul_one,List.toList_toArray];rw [M1 (by simp;omega)]
end Go.SL
namespace Go.Proofs.Fs
open RowKit SL Proofs.Ba
section
variable {n:Nat} {x:Fx n} {b k id:Nat} {A:Nat->Option AF} {f:AF} {L:List aH} {w:U} {F:ai}
def PV (x:Fx n) (b:Nat) (A:Nat->Option AF) (k:Nat) (P:List aH) (F:ai) (w:U) (e:Ending) (a:U):Prop:=
 ∃ u,e = N (.tuple #[u,Y .i64 0])/\aj w a/\ag a (sl 80 2 u P.length (bD P)*(dS x b A k*F))
theorem BI (h0:ag w (dS x b A k*F)) (J:A id=R f) (D:IW f L) (i:Nat) (m:Nat) (K:m=min 480 (32*L.length-480*i)) (hi:15*i<L.length) :
  Calls T 210 #[fS b n,Y .i64 (id:Int),Y .i64 ((480*i:Nat):Int),Y .i64 (m:Int)] w (PV x b A k (gF L i) F w):=by
 refine aJ fun r0 u=>?_;have s:=D.sub i;have a:=JS D.ok i;have o:=zk L i;have b0:=jV a;have l0:=D.len;have h:m=32*(gF L i).length:=by rw [o];omega
 have j:(gF L i).length<=15:=by omega
 have l:=Dt a j;rw [<- K] at s;have E:=h0.alloc (cQ b n);have dA:=ae ((aj.refl w).alloc (cQ b n));have G:=E.ah;have r:=Mn G J (480*i) m;rw [s] at r;have d:=ae r;obtain ⟨P,g⟩:∃ P,gF L i=P:=⟨_,rfl⟩
 rw [g] at a o b0 h j l d;rw [g] at u;have j0:((480*i:Nat):Int)<=1000000:=by omega
 obtain ⟨s0,I⟩:∃ g0,480*i=g0:=⟨_,rfl⟩
 rw [I] at d ⊢ j0;have HM:=ae h;have c0:=ae l;have t:=ae a;clear K h o hi s b0 l a r G E g I D J l0;unfold fS
 go_enter func210,ntmps210
 go_wp2_with fail
 refine d.out.mono ?_;generalize w.heap.size=sc at *;rintro e c ⟨v,rfl,d2,y⟩;have H:=y.alloc (Z (dP (zs 480)) 5 (0,0));have D3:=ae ((dA.out.trans d2).alloc (Z (dP (zs 480)) 5 (0,0)));obtain ⟨w3,v3,o0,z,d3⟩:=xh (P:=T) (dT:=22) underlying22 (by kernel_rfl) H (H.ah.oD) 3;rw [c0.out] at z;have m0:=jG t.out;have n0:(placesOf P).length=15:=by unfold placesOf;rw [A1,L3];omega
 have k0:(dV (placesOf P)).length=480:=by rw [gY m0,n0]
 have p0:=Rq k0 z (by decide);have i0:=BO w3 _ P t.out j _ p0;have e0:=ae i0;have f0:=ae o0;have q0:(Instr.makeSlice 22 (Y .i64 480) (Y .i64 480)).run T c = .ok (X (R ⟨c.heap.size,0,V⟩) 480 480) (c.alloc (Z (dP (zs 480)) 5 (0,0))):=fh 480 (by omega) c;have D4:=ae (D3.out.trans d3);obtain ⟨va,vc,rfl⟩:=aE y
 go_wp2_with (refine fo f0.out _ _ rfl rfl rfl rfl rfl ?_)
 refine e0.out.mono ?_;rintro e w4 ⟨D0,rfl,B,d4⟩;obtain ⟨ua,uc,rfl⟩:=aE B;have H4:=ae B;have D5:=ae (D4.out.trans d4);obtain ⟨q,hq⟩:∃ q,P.length=q:=⟨_,rfl⟩
 have d0:=ae hq;have u0:(q:Int)*32=(m:Int):=by have:=HM.out;omega
 have x0:(q:Int)<=15:=by omega
 rw [hq]
 go_wp2_with fail
 refine u.out _ _ ⟨X ua q uc,rfl,D5.out,?_⟩;have C:=H4.out;rw [d0.out] at C ⊢;exact (C.to (by ac_rfl:_=(sl 80 2 (X ua q uc) q (bD P)*(dS x b A k*F))*(bs 5 (X (R ⟨c.heap.size,0,V⟩) 480 480) (dV (placesOf P))*(bs 5 (X va (dV P).length vc) (dV P)*pt sc (cQ b n))))).left
end
end Go.Proofs.Fs
namespace Go.SL
open RowKit
def Mk (L:List aH):Nat:=(L.length+14)/15
def kh (L:List aH):List (List aH):=(List.range (Mk L)).map (gF L)
theorem kS (L:List aH):(kh L).length=Mk L:=by unfold kh;rw [List.length_map,List.length_range]
theorem Dh {L:List aH} {i:Nat} (h:i<Mk L):(kh L)[i]'(by rw [kS];exact h)=gF L i:=by
 unfold kh;rw [List.getElem_map,List.getElem_range]
theorem uu (L:List aH):∀ m,((List.range m).map (gF L)).flatten=L.take (15*m)
 | 0=>by simp
 | m+1=>by
  rw [List.range_succ,S1,L2,uu L m];show _++(gF L m++[])=_
  rw [W2,show 15*(m+1)=15*m+15 by omega,List.take_add]
  rfl
theorem sP (L:List aH):(kh L).flatten=L:=by
 unfold kh;rw [uu,M1];unfold Mk;omega
end Go.SL
namespace Go.Proofs.Fs
open RowKit SL Proofs.Ba
attribute [local go_sem] Oper.semAt_some
section
variable {n:Nat} {x:Fx n} {b k id:Nat} {A:Nat->Option AF} {f:AF} {L:List aH} {w:U} {F:ai}
def Sr (p:List aH × S) (a:Array S):ai:=fact (a=#[p.2,Y .i64 0])*sl 80 2 p.2 p.1.length (bD p.1)
def tH (x:Fx n) (b:Nat) (A:Nat->Option AF) (k id a d c:Nat) (z:Int):ai:=
 pt a (Z #[Y .i64 z] 3 (0,0))*(pt d (cQ b n)*(pt c (Z #[Y .i64 (id:Int)] 3 (0,0))*dS x b A k))
def TG (c:List (List aH × S)->ai) (L:List aH) (d:ai) (w0:U) (u:S) (wr:U):Prop:=
 ∃ (i:Nat) (a:List (List aH × S)),i<=Mk L/\u = Y .i64 ((480*i:Nat):Int)/\a.map Z0=(kh L).take i/\aj w0 wr/\ag wr (c a*d)
theorem zn (k0:Nat) (hf:A id=R f) (D:IW f L) (d j g:Nat) :
  fW Fence.wide k0 T 209 #[az d,az j,az g] (tH x b A k id d j g ((32*L.length:Nat):Int)) Sr (fun c=>c.map Z0=kh L) (fun c=>c.map Z0 <+: kh L):=by
 intro lp l Ax G w0 w hY hs h;have n0:=D.len;obtain ⟨z,E⟩:∃ z,32*L.length=z:=⟨_,rfl⟩
 have hw:=fun w F h i m y K=>BI (w:=w) (F:=F) (x:=x) (b:=b) (k:=k) h hf D i m y K;rw [E] at hw;have HW:=ae hw;have J:=ae E;rw [E] at h ⊢;have p0:(z:Int)<=122880:=by omega
 have e0:=ae h;refine callsIn_of_wp func209 rfl trivial ?_ rfl;simp only [ntmps209,Y1,L1,N1,Z1,A2,B2,E2,H2,J2,R1,K2]
 gi_wp2_with fail
 gi_loopw [5] (fun u wr=>TG l L (tH x b A k id d j g (z:Int)*G) w0 u wr) (fun u _=>480*Mk L-(intOf u).toNat)
 case atStart=>exact ⟨0,[],W1 _,rfl,rfl,hs,e0.out⟩
 case round=>
  obtain ⟨i,c,K,rfl,r,b0,P⟩:=hrel;have o:ag wr (pt d (Z #[Y .i64 (z:Int)] 3 (0,0))*(pt j (cQ b n)*(pt g (Z #[Y .i64 (id:Int)] 3 (0,0))*(dS x b A k*(l c*G))))):=P.to (by unfold tH;ac_rfl);have c0:=o.cell 0;have c1:=o.ah.cell 0;have c2:=o.ah.cell 1;have c3:=o.aw.cell 0;have o0:Mk L=(L.length+14)/15:=rfl
  by_cases v:i<Mk L
  .obtain ⟨a,q⟩:∃ a,480*i=a:=⟨_,rfl⟩
   have j0:=J.out;have l0:(a:Int)<(z:Int):=by omega
   have g0:((480*i:Nat):Int)=(a:Int):=by rw [q]
   obtain ⟨m,y⟩:∃ m,min 480 (z-480*i)=m:=⟨_,rfl⟩
   have d0:=HW.out wr _ (o.to (by ac_rfl:_=dS x b A k*(pt d (Z #[Y .i64 (z:Int)] 3 (0,0))*(pt j (cQ b n)*(pt g (Z #[Y .i64 (id:Int)] 3 (0,0))*(l c*G)))))) i m y.symm (by omega);rw [g0] at d0 ⊢;have f0:=ae d0
   have i0:∀ u:S,(c++[(gF L i,u)]).map Z0=(kh L).take (i+1):=fun u=>by
    rw [S1,r,List.take_succ_eq_append_getElem (by rw [kS];exact v),Dh v];rfl
   have t:=ae i0;have H:=ae q;have I:=ae r;have m0:min (480:Int) ((z:Int)-(a:Int))=(m:Int):=by omega
   gi_wp2_with fail
   refine lz f0.out ?_;rintro e s ⟨u,rfl,d2,h2⟩
   have hB:ag s (l c*(Sr (gF L i,u) #[u,Y .i64 0]*(tH x b A k id d j g (z:Int)*G))):=by
    have h3:=h2.to (by unfold tH;ac_rfl:_=(sl 80 2 u (gF L i).length (bD (gF L i)))*(l c*(tH x b A k id d j g (z:Int)*G)));have h4:ag s (Sr (gF L i,u) #[u,Y .i64 0]*(l c*(tH x b A k id d j g (z:Int)*G))):=(ag.au.2 ⟨rfl,h3⟩:ag s (fact _*(_*_))).to (ay _ _ _).symm;exact h4.ah
   obtain ⟨fn,q0,assign,body,hy,hR⟩:=hY c (gF L i,u) #[u,Y .i64 0] _ s (by show M2 _ _ <+: _;rw [t.out];exact T2 _ _) (b0.trans d2) hB
   gi_wp2
   refine ⟨fun h=>(by cases h),hR.mono ?_⟩;rintro e W' (⟨rfl,B,C⟩|⟨rfl,B,C⟩)
   .gi_wp2
    go_roundw
    case rel=>exact ⟨i+1,c++[(gF L i,u)],v,by have:=H.out;go_num,t.out u,B,C⟩
    case measure=>have:=H.out;simp [intOf];omega
   .gi_wp2
    refine bodyPost_ret (results_none rfl _ _ _) rfl ?_;exact ⟨⟨_,rfl⟩,B,.inr ⟨_,by show M2 _ _ <+: _;rw [t.out];exact T2 _ _,C⟩⟩
  .obtain rfl:i=Mk L:=by omega
   have j0:=J.out;have h0:¬ ((480*Mk L:Nat):Int)<(z:Int):=by omega
   obtain ⟨a,q⟩:∃ a,480*Mk L=a:=⟨_,rfl⟩
   rw [q] at h0 ⊢;rw [M1 (by rw [kS];exact P2 _)] at r;have HS:=ae P;have I:=ae r
   gi_wp2
   go_end0
   exact ⟨⟨_,rfl⟩,b0,.inl ⟨_,I.out,HS.out⟩⟩
end
section
variable {n:Nat} {x:Fx n} {b k id:Nat} {A:Nat->Option AF} {f:AF} {L:List aH} {w:U} {F:ai}
abbrev mR:Array S:=#[Y .i64 0,Y .i64 0,Y .i64 0,Y .i64 0,Y .i64 0,Y .i64 0,Y .i64 0,Y .i64 0,Y .i64 0,Y .i64 0,Y .i64 0,Y .i64 0,Y .i64 0,Y .i64 0,Y .i64 0,Y .i64 0,Y .i64 0,Y .i64 0,Y .i64 0,Y .i64 0]
def Q0 (d:S) (id z:Int) (a n:Nat) (w:U) (e:Ending) (c:U):Prop:=
 e = N (.func (.func 209) #[] #[az (w.heap.size+2),az w.heap.size,az (w.heap.size+1)]) /\
  c=((w.alloc (cQ a n)).alloc (Z #[Y .i64 id] 3 (0,0))).alloc (Z #[Y .i64 z] 3 (0,0))
theorem yK (w:U) (b n:Nat) (id z:Int):Calls T 155 #[fS b n,Y .i64 id,Y .i64 z] w (Q0 (fS b n) id z b n w):=by
 unfold fS
 go_enter func155,ntmps155
 go_wp2
 go_ret
 exact ⟨rfl,rfl⟩
theorem AB {L:List aH} {a:List (List aH × S)} (h:a.map Z0 <+: kh L):(a.map Z0).flatten.length<=L.length:=by
 obtain ⟨t,c⟩:=h;have:=congrArg List.flatten c;rw [L2,sP] at this;rw [<- this,A1];omega
def Uu (c:Nat) (a:List (List aH × S)):ai:=ex fun v=>pt c (Z #[v] 76 (0,0))*sl 80 2 v (a.map Z0).flatten.length (bD (a.map Z0).flatten)
def GB (p:List aH × S) (t:Array S):Array S:=(((t.setIfInBounds 28 p.2).setIfInBounds 29 (Y .i64 0)).setIfInBounds 9 p.2).setIfInBounds 10 (Y .i64 0)
theorem oK {w:U} {c:Array S} {a b:Nat} {v e:S} {F:ai} (i:c[4]?=R (az a)) (j:c[5]?=R (az b)) (h:ag w (pt a (Z #[v] 76 (0,0))*(pt b (Z #[e] 28 (0,0))*F))) :
  (results Tryz.f91 c).run T w = .ok (.tuple #[v,e]) w:=by
 have d:=h.cell 0;have g:=h.ah.cell 0;simp [results,Tryz.results91,i,j,asAddr,az,go_sem,d,g]
theorem iT (h:ag w (dS x b A k*F)) (hf:A id=R f) (j0:IW f L) :
  Calls T 91 #[fS b n,Y .i64 (id:Int)] w (PV x b A k L F w):=by
 have hA:=(((h.alloc (cQ b n)).alloc (Z #[X V 0 0] 76 (0,0))).alloc (Z #[Y .i64 0] 28 (0,0)))
 have dA:=(((aj.refl w).alloc (cQ b n)).alloc (Z #[X V 0 0] 76 (0,0))).alloc (Z #[Y .i64 0] 28 (0,0));simp only [X2] at hA;have G:=ae j0;have HF:=ae hf;clear h j0 hf;unfold fS;refine (callsIn_wide (n:=9)).1 ?_;refine callsIn_of_wp_marks func91 rfl trivial ?_ rfl;simp only [ntmps91,Y1,L1,N1,Z1,A2,B2,E2,H2,J2,R1,K2];have cA:=hA.aw.cell 0;have cB:=hA.aw.cell 1;simp at cA cB;refine wpIn_wide.2 ?_
 go_wp2_with fail
 generalize w.heap.size+1+1=s at *;generalize w.heap.size+1=r at *;generalize w.heap.size=sc at *;have hB:=hA.to (by ac_rfl:_=dS x b A k*(pt sc (cQ b n)*(pt r (Z #[X V 0 0] 76 (0,0))*(pt s (Z #[Y .i64 0] 28 (0,0))*F))));refine (EH hB HF.out).mono ?_;rintro e c ⟨y,rfl,R0,S0,X0,u0,d2,h2⟩;have hX:(ints y.l).size=20:=by rw [dO,Nd.cells R0]
 have C:=h2.alloc (Z mR 65 (0,0));have Hz:=ae C.heap;have g0:=C.setRow (cs':=ints y.l);have D:=ae (((dA.trans d2).alloc (Z mR 65 (0,0))).setRow c.heap.size (ints y.l));have m0:Hid ((ints y.l).all (·.oneCell')=O):=by simp [RowKit.Hid,ints,Value.oneCell']
 have l0:Hid ((prog.info? 65).map (·.size)=R (ints y.l).size):=by show _=_;rw [hX];exact bE
 have HX:=ae hX;have n0:((c.alloc (Z mR 65 (0,0))).setRow c.heap.size (ints y.l)).cell? ⟨c.heap.size,0,V⟩=R (Y .i64 2):=by rw [<- G.out.kd,<- S0];exact g0.cell 0
 have n2:((c.alloc (Z mR 65 (0,0))).setRow c.heap.size (ints y.l)).cell? ⟨c.heap.size,2,V⟩=R (Y .i64 ((32*L.length:Nat):Int)):=by rw [<- G.out.sz,<- u0];exact g0.cell 2
 have o0:=ae (g0.to (by ac_rfl:_=pt c.heap.size (Z (ints y.l) 65 (0,0))*(dS x b A k*(pt sc (cQ b n)*(pt r (Z #[X V 0 0] 76 (0,0))*(pt s (Z #[Y .i64 0] 28 (0,0))*F))))));have D0:=ae u0;unfold mR at *
 go_upto_region 7 with (refine wpList_store_row (by exact rfl) 65 (.tmp 6) (.tmp 15) (by exact rfl) c.heap.size (ints y.l) (by exact rfl) (by exact rfl) 65 _ (by with_reducible exact Hz.out) l0.out (by rw [HX.out];rfl) m0.out ?_)
 clear Hz l0 HX m0;have r0:(((c.alloc (Z #[Y .i64 0,Y .i64 0,Y .i64 0,Y .i64 0,Y .i64 0,Y .i64 0,Y .i64 0,Y .i64 0,Y .i64 0,Y .i64 0,Y .i64 0,Y .i64 0,Y .i64 0,Y .i64 0,Y .i64 0,Y .i64 0,Y .i64 0,Y .i64 0,Y .i64 0,Y .i64 0] 65 (0,0))).setRow c.heap.size (ints y.l))).heap.size=c.heap.size+1:=by simp [World.setRow]
 generalize ((c.alloc (Z #[Y .i64 0,Y .i64 0,Y .i64 0,Y .i64 0,Y .i64 0,Y .i64 0,Y .i64 0,Y .i64 0,Y .i64 0,Y .i64 0,Y .i64 0,Y .i64 0,Y .i64 0,Y .i64 0,Y .i64 0,Y .i64 0,Y .i64 0,Y .i64 0,Y .i64 0,Y .i64 0] 65 (0,0))).setRow c.heap.size (ints y.l))=w3 at *;generalize c.heap.size=nb at *;have B:=o0.out.alloc (Z #[X V 0 0] 76 (0,0));have D3:=D.out.alloc (Z #[X V 0 0] 76 (0,0));rw [r0] at B;clear r0 o0 D n0 n2;generalize w3.alloc (Z #[X V 0 0] 76 (0,0))=a at *;generalize nb+1=j at *;have c0:=B.aD.cell 0;have c1:=B.aD.cell 1;have n2:a.cell? ⟨nb,2,V⟩=R (Y .i64 ((32*L.length:Nat):Int)):=by rw [<- G.out.sz,<- D0.out];exact B.ah.cell 2
 have h0:=yK a b n id ((32*L.length:Nat):Int);obtain ⟨z,K⟩:∃ z,((32*L.length:Nat):Int)=z:=⟨_,rfl⟩
 rw [K] at n2 h0;have HZ:=ae K;have k0:=ae h0;clear K h0
 go_wp2_with fail
 refine k0.out.mono ?_;rintro e w5 ⟨rfl,rfl⟩;have C:=((B.alloc (cQ b n)).alloc (Z #[Y .i64 (id:Int)] 3 (0,0))).alloc (Z #[Y .i64 z] 3 (0,0));have D5:=((D3.alloc (cQ b n)).alloc (Z #[Y .i64 (id:Int)] 3 (0,0))).alloc (Z #[Y .i64 z] 3 (0,0));simp only [X2] at C;clear B D3 k0 c0 c1 n2
 go_wp2_with fail
 have hF:ag (((a.alloc (cQ b n)).alloc (Z #[Y .i64 (id:Int)] 3 (0,0))).alloc (Z #[Y .i64 z] 3 (0,0))) (Uu j []*(tH x b A k id (a.heap.size+2) a.heap.size (a.heap.size+1) ((32*L.length:Nat):Int)*(pt r (Z #[X V 0 0] 76 (0,0))*(pt s (Z #[Y .i64 0] 28 (0,0))*F)))):=by
  refine ag.ax.2 ⟨X V 0 0,?_⟩;have t:=(C.eQ 80 2)
  rw [HZ.out];have I:=t.to (by ac_rfl:_=(pt nb (Z (ints y.l) 65 (0,0))*pt sc (cQ b n))*(pt j (Z #[X V 0 0] 76 (0,0))*(sl 80 2 (X V 0 0) 0 []*(pt (a.heap.size+1+1) (Z #[Y .i64 z] 3 (0,0))*(pt a.heap.size (cQ b n)*(pt (a.heap.size+1) (Z #[Y .i64 (id:Int)] 3 (0,0))*(dS x b A k*(pt r (Z #[X V 0 0] 76 (0,0))*(pt s (Z #[Y .i64 0] 28 (0,0))*F)))))))));exact I.right.to (by unfold tH;show _=_*sl _ 2 _ 0 []*_;ac_rfl)
 clear C;refine (wpIn_wide (n:=9)).1 ?_
 refine yV (w0:=w) rfl (by decide) (gf:=209) (lb:=#[az (a.heap.size+2),az a.heap.size,az (a.heap.size+1)]) rfl trivial (enters func209 (by kernel_rfl) rfl)
  (zn (x:=x) (b:=b) (k:=k) (id:=id) (A:=A) _ HF.out G.out (a.heap.size+2) a.heap.size (a.heap.size+1)) GB (Uu j) (fun l p=>Uu j l*sl 80 2 p.2 p.1.length (bD p.1)) _ ?hps D5 hF ?assign ?body ?done
 case hps=>
  intro p vs E o h;unfold Sr at h;obtain ⟨rfl,_⟩:=ag.au.1 (h.to (ay _ _ _))
  rfl
 case assign=>
  intro lp d0 l p vs E o T0 _ J H hK;have m:=H.ah;unfold Sr at m;obtain ⟨rfl,i⟩:=ag.au.1 (m.to (ay _ _ _));clear H m
  gi_wp2
  exact hK _ J (i.to (by ac_rfl))
 case body=>
  intro lp d0 l p E o hp J H;have p0:=AB hp;have W0:=G.out.len;obtain ⟨P,u⟩:=p;rw [S1,L2] at p0;have e1:((l.map Z0).flatten++(M2 Z0 [(P,u)]).flatten)=(l.map Z0).flatten++P:=by simp
  rw [e1,A1] at p0;have H0:ag o (Uu j l*(sl 80 2 u P.length (bD P)*(pt lp (.loop d0)*E))):=H.to (by ac_rfl);obtain ⟨v,m⟩:=ag.ax.1 H0;have i:ag o (sl 80 2 v (l.map Z0).flatten.length (bD (l.map Z0).flatten)*(pt j (Z #[v] 76 (0,0))*(sl 80 2 u P.length (bD P)*(pt lp (.loop d0)*E)))):=m.to (by ac_rfl);obtain ⟨i0,hi,K,L0,K0⟩:=info_parts xy;have hR:=i.aw.oD;have c0:o.cell? ⟨j,0,V⟩=R v:=i.ah.cell 0;obtain ⟨v',w',q0,b0,N0⟩:=ag.append (P:=T) (ty:=76) underlying76 hi K L0 K0 rfl i hR (Ib P) (by unfold maxLen;omega) (by omega);obtain ⟨d,g,rfl⟩:=aE b0;have c1:w'.cell? ⟨j,0,V⟩=R v:=b0.ah.cell 0;have f1:=b0.ah.frozen 0;have s0:=b0.ah.setCell 0 (X d ((l.map Z0).flatten.length+P.length) g);obtain ⟨q,hq⟩:∃ q,(l.map Z0).flatten=q:=⟨_,rfl⟩
  rw [hq] at q0 s0;have G0:=ae s0;have F0:=ae q0;have x0:=ae hq;have e0:=ae ((J.trans N0).setCell ⟨j,0,V⟩ (X d (q.length+P.length) g));simp only [GB,List.setIfInBounds_toArray,List.set_cons_succ,List.set_cons_zero]
  gi_wp2_with (gi_at_builtin;refine dj F0.out _ _ rfl rfl rfl rfl rfl ?_)
  refine ⟨?_,?_⟩
  .exact e0.out
  .refine ag.ax.2 ⟨X d (q.length+P.length) g,?_⟩
   have e:(M2 Z0 (l++[(P,u)])).flatten=q++P:=by rw [S1,L2,x0.out];simp
   rw [e,A1,mq];have t:=G0.out;exact (t.to (by ac_rfl:_=sl 80 2 u P.length (bD P)*(pt j (Z #[X d (q.length+P.length) g] 76 (0,0))*sl 80 2 (X d (q.length+P.length) g) (q.length+P.length) (bD q++bD P)*(pt lp (.loop d0)*E)))).right
 case done=>
  intro D ys o hS J H;obtain ⟨v,m⟩:=ag.ax.1 H;have e:(ys.map Z0).flatten=L:=by rw [hS,sP]
  rw [e] at m;have i:ag o (pt D (.deferred (R []))*(pt j (Z #[v] 76 (0,0))*(pt r (Z #[X V 0 0] 76 (0,0))*(pt s (Z #[Y .i64 0] 28 (0,0))*(sl 80 2 v L.length (bD L)*(tH x b A k id (a.heap.size+2) a.heap.size (a.heap.size+1) ((32*L.length:Nat):Int)*F)))))):=m.to (by ac_rfl);obtain ⟨d,g,rfl⟩:=aE i.aM;have c0:=i.ah.cell 0;have z0:=i.aw.cell 0;have f0:=i.aw.frozen 0;have f1:=i.aD.frozen 0;have H3:=i.aw.setCell 0 (X d L.length g);have Y0:=H3.aD.cell 0;have V0:=H3.aD.frozen 0;have H4:=ae (H3.aD.setCell 0 (Y .i64 0));have e0:=ae ((J.setCell ⟨r,0,V⟩ (X d L.length g)).setCell ⟨s,0,V⟩ (Y .i64 0));clear H m i H3 hF e D5
  go_wp2_with fail
  have t:=H4.out;have I:=t.to (by ac_rfl:_=pt D (.deferred (R []))*(pt r (Z #[X d L.length g] 76 (0,0))*(pt s (Z #[Y .i64 0] 28 (0,0))*(sl 80 2 (X d L.length g) L.length (bD L)*(tH x b A k id (a.heap.size+2) a.heap.size (a.heap.size+1) ((32*L.length:Nat):Int)*(F*pt j (Z #[X d L.length g] 76 (0,0))))))));have hK:=I.heap;have h8:=(I.putObj (.deferred V)).right;clear t I;refine ⟨by simp,.inl ⟨_,_,rfl,run_takeDeferred hK,?_⟩⟩;refine ⟨_,oK rfl rfl h8,⟨X d L.length g,rfl,e0.out.putObj _ _,?_⟩⟩;have h9:=h8.right.right;unfold tH at h9;exact (h9.to (by ac_rfl:_=(sl 80 2 (X d L.length g) L.length (bD L)*(dS x b A k*F))*(pt j (Z #[X d L.length g] 76 (0,0))*(pt (a.heap.size+2) (Z #[Y .i64 ((32*L.length:Nat):Int)] 3 (0,0))*(pt a.heap.size (cQ b n)*pt (a.heap.size+1) (Z #[Y .i64 (id:Int)] 3 (0,0))))))).left
end
end Go.Proofs.Fs
namespace Go.SL
open RowKit
def iz (L:List aH) (nm:List UInt8):Option Nat:=L.findIdx? fun e=>decide (e.nm=nm)
def uZ (L:List aH) (nm:List UInt8):Int:=match iz L nm with|some i=>(i:Int)|none=>-1
theorem MM {L:List aH} {nm:List UInt8} {i:Nat} (d:i<L.length) (h:(L[i]).nm=nm) (c:∀ j (a:j<i),(L[j]'(by omega)).nm≠nm):uZ L nm=(i:Int):=by
 have:iz L nm=R i:=by
  unfold iz;rw [List.findIdx?_eq_some_iff_getElem];exact ⟨d,decide_eq_true h,fun j a=>by simpa using c j a⟩
 unfold uZ;rw [this]
theorem Mo {L:List aH} {nm:List UInt8} (h:∀ e ∈ L,e.nm≠nm):uZ L nm=-1:=by
 have:iz L nm=V:=by
  unfold iz;rw [List.findIdx?_eq_none_iff];exact fun e a=>decide_eq_false (h e a)
 unfold uZ;rw [this]
theorem tR (a b:List UInt8):((str a).toList == (str b).toList)=decide (a=b):=by
 rw [Lib.toList_data,Lib.toList_data,K1,beq_iff_eq,decide_eq_true_iff];exact Iff.rfl
end Go.SL
namespace Go.Proofs.Fs
open RowKit SL Proofs.Ba
def Sw (b:Bool) (w:U) (e:Ending) (a:U):Prop:=e = N (Q b)/\ag a (whole w)/\aj w a
theorem Ea (w:U) (e:aH) (a:Nat) (nm:List UInt8) (h:w.cell? ⟨a,0,V⟩=R (W (str nm))) :
  Calls T 192 #[.agg #[Y .i64 (e.nd:Int),W (str e.nm)],.pointer (R ⟨a,0,V⟩)] w (Sw (decide (e.nm=nm)) w):=by
 refine aJ fun i c=>?_;have g:=ae ((ag.whole w).alloc (Z #[Y .i64 (e.nd:Int),W (str e.nm)] 80 (0,0)));have d:=ae ((aj.refl w).alloc (Z #[Y .i64 (e.nd:Int),W (str e.nm)] 80 (0,0)));have j:=bN w (Z #[Y .i64 (e.nd:Int),W (str e.nm)] 80 (0,0)) _ _ h;have l:=tR e.nm nm
 go_enter func192,ntmps192
 go_wp2_with fail
 exact c.out _ _ ⟨by simp,g.out.right,d.out⟩
def QP (L:List aH) (nm:List UInt8) (w0:U) (F:ai) (u:S) (wr:U):Prop:=
 ∃ k:Nat,k<=L.length/\u = Y .i64 (k:Int)/\(∀ j (a:j<L.length),j<k->(L[j]).nm≠nm)/\aj w0 wr/\ag wr F
theorem nV {w:U} {v:S} {L:List aH} {F:ai} (h:ag w (sl 80 2 v L.length (bD L)*F)) {k:Nat} (q:k<L.length) :
  ∃ g c,v = X (R ⟨g,0,V⟩) L.length c/\w.cell? ⟨g,k*2,V⟩=R (Y .i64 ((L[k]).nd:Int))/\w.cell? ⟨g,k*2+1,V⟩=R (W (str (L[k]).nm))/\L.length<=c/\c<=9223372036854775807:=by
 rcases h.cW with ⟨_,s,_⟩|⟨g,i,r,rfl,m,o,t,a,d⟩
 .omega
 .obtain ⟨j,l⟩:=Gu q
  refine ⟨g,i,rfl,?_,?_,m,by unfold maxLen at o;omega⟩
  .rw [d.cell,<- j,<- a,Y2,if_pos (by omega),V3]
  .rw [d.cell,<- l,<- a,Y2,if_pos (by omega),V3]
def Ud (z:Int) (F:ai) (w:U) (e:Ending) (a:U):Prop:=e = N (Y .i64 z)/\ag a F/\aj w a
theorem C1 (w:U) (v:S) (L:List aH) (i:Nat) (nm:List UInt8) (F:ai) (hl:L.length<=3840) (h:ag w (sl 80 2 v L.length (bD L)*(pt i (Z #[W (str nm)] 9 (0,0))*F))) :
  Calls T 191 #[v,.func (.func 192) #[] #[.pointer (R ⟨i,0,V⟩)]] w (Ud (uZ L nm) (sl 80 2 v L.length (bD L)*(pt i (Z #[W (str nm)] 9 (0,0))*F)) w):=by
 refine aJ fun d0 D=>?_;obtain ⟨va,J,rfl⟩:=aE h;have H:=ae h;obtain ⟨m,I⟩:∃ m,L.length=m:=⟨_,rfl⟩
 have a:=ae I;rw [I]
 go_enter func191,ntmps191
 go_wp2_with fail
 go_loopw [8] (fun u wr=>QP L nm w (sl 80 2 (X va L.length J) L.length (bD L)*(pt i (Z #[W (str nm)] 9 (0,0))*F)) u wr) (fun u _=>m-(intOf u).toNat)
 case atStart=>exact ⟨0,W1 _,rfl,fun j c P=>absurd P (Nat.not_lt_zero _),aj.refl w,H.out⟩
 case round=>
  obtain ⟨k,hk,rfl,b0,B,z⟩:=hrel;rw [a.out] at hk;have r:=ae z;have o:=ae b0
  by_cases g0:k<m
  .have h0:(k:Int)<(m:Int):=by omega
   have G:k<L.length:=by have:=a.out;omega
   obtain ⟨f0,e0,e,e1,e2,k1,k2⟩:=nV z G;obtain ⟨rfl,-,rfl⟩:=e;have K:=z.ah.cell 0;have g:=Ea wr L[k] i nm K;generalize hx:L[k]=x at *;have E:=ae hx;have i0:(m:Int)<=(J:Int):=by have:=a.out;omega
   by_cases d:x.nm=nm
   .rw [decide_eq_true d] at g
    have Hp:=ae g;have q:=ae d;clear g d
    go_wp2_with fail
    refine Hp.out.mono ?_;rintro e w2 ⟨rfl,y,t⟩;have h3:=y.du r.out;have C:=MM G (by rw [E.out];exact q.out) fun j c=>o.out j (by omega) c;have s:=ae C;have l:=ae h3
    go_wp2_with fail
    exact D.out _ _ ⟨by rw [s.out];try (first|rfl|simp),l.out,B.trans t⟩
   .rw [decide_eq_false d] at g
    have Hp:=ae g;have q:=ae d
    go_wp2_with fail
    refine Hp.out.mono ?_;rintro e w2 ⟨rfl,y,t⟩;have l:=ae (y.du r.out)
    go_wp2_with fail
    go_roundw
    case rel=>exact ⟨k+1,by rw [a.out];omega,by go_num,fun j c c0=>by
     rcases Nat.lt_succ_iff_lt_or_eq.1 c0 with h|rfl
     .exact o.out j c h
     .rw [E.out];exact q.out,B.trans t,l.out⟩
    case measure=>simp [intOf];omega
  .obtain rfl:k=m:=by omega
   have C:uZ L nm=-1:=Mo fun e he=>by
    obtain ⟨j,c,rfl⟩:=N2 he;exact o.out j c (by have:=a.out;omega)
   have s:=ae C
   go_wp2_with fail
   exact D.out _ _ ⟨by rw [s.out];try (first|rfl|simp),by have:=r.out;rwa [a.out] at this ⊢,B⟩
def ph (v:S) (L:List aH) (nm:List UInt8) (F:ai) (w:U) (e:Ending) (a:U):Prop:=e = N (Y .i64 (uZ L nm))/\ag a (sl 80 2 v L.length (bD L)*F)/\aj w a
theorem dN (w:U) (v:S) (L:List aH) (nm:List UInt8) (F:ai) (o:L.length<=3840) (h:ag w (sl 80 2 v L.length (bD L)*F)) :
  Calls T 141 #[v,W (str nm)] w (ph v L nm F w):=by
 refine aJ fun q c=>?_;have l:=(h.alloc (Z #[W (str nm)] 9 (0,0))).ah;have i:=ae ((aj.refl w).alloc (Z #[W (str nm)] 9 (0,0)));have m:=C1 _ v L _ nm F o l;have d:=ae m
 go_enter func141,ntmps141
 go_wp2_with fail
 refine d.out.mono ?_;rintro e r ⟨rfl,j,g⟩;have a:=ae j
 go_wp2_with fail
 exact c.out _ _ ⟨rfl,a.out.iC,i.out.trans g⟩
end Go.Proofs.Fs
