/- Steps. -/
import Derived.Test.YtiomanbgcfjblaaGreatDoorLP34
import Derived.Test.YtiomanbgcfjblaaGreatDoorLP18
import Derived.Lib.IndexLaws
set_option linter.all false
set_option maxRecDepth 99999
set_option maxHeartbeats 0
open Go.SL
open Go.Value renaming int->Y,slice->W,string->V,bool->O
open Go.IntKind renaming i64->X
open Go.Obj renaming cells->Z
open Go.Ending renaming returned->M
open Go renaming World->T,Value->R
open Go.Proofs.Tryz renaming prog->S
open Option renaming some->Q,none->U
open Bool renaming true->N,false->K
open Go.SL renaming Om0->J
open Go.Proofs.Tryz
open Prod renaming fst->A1
open List renaming length_append->B3,length_take->D7,length_cons->D1,take_of_length_le->E5,length_nil->E4,nil_append->E3,map_append->E2,drop_left'->H9,getElem?_append_right->H8,mem_of_mem_take->H6,size_toArray->H5,push_toArray->J4,append_toArray->J3,cons_append->J2,flatten_append->K9,map->K8,getElem_of_mem->K7,append_assoc->K5,length_drop->K4,take_prefix->K3,take_append_drop->K2,filter_append->K1,append_nil->L8,getElem?_take->L5,getElem?_eq_getElem->L4,mem_of_getElem?->L3,getElem?_replicate->L2,getElem?_append_left->L1,flatMap_append->M2,eq_of_mem_replicate->M1,length_replicate->N2,drop_eq_nil_of_le->N1,mem_of_mem_drop->P3,getElem?_eq_none->P2
open Bool renaming false_and->D9,and_false->D8,eq_iff_iff->D6,true_and->G3
open Nat renaming zero_le->H7,reduceAdd->H2,reduceSub->H1,le_refl->K6
open Array renaming replicate_succ->J7,replicate_zero->J5,getElem?_toList->R2
open Go.World renaming size_alloc->L6
namespace Go.SL
open RowKit
structure aM where
 nd:Nat
 nm:List UInt8
deriving DecidableEq
def EA (l:List UInt8):Bool:=decide (1<=l.length) && (decide (l.length<=28) && !l.contains 0)
def aM.ok (e:aM):Bool:=decide (1<=e.nd) && (decide (e.nd<=3839) && EA e.nm)
def aM.no:aM:=⟨0,[]⟩
def aM.enc (e:aM):List UInt8:=cO e.nd 2++(cO e.nm.length 1++(e.nm++zs (29-e.nm.length)))
def aM.v (e:aM):R:=.agg #[Y X (e.nd:Int),V (str e.nm)]
def aM.cells (e:aM):List R:=[Y X (e.nd:Int),V (str e.nm)]
def q9 {l:List UInt8}:EA l=N↔1<=l.length/\l.length<=28/\(0:UInt8) ∉ l:=by
 unfold EA;simp
def aM.mZ {e:aM}:e.ok=N↔1<=e.nd/\e.nd<=3839/\EA e.nm=N:=by
 unfold aM.ok;simp
def aM.cV {e:aM} (h:e.ok=N):e.enc.length=32:=by
 have:=q9.1 (aM.mZ.1 h).2.2;unfold aM.enc;simp only [B3,aT,aX];omega
def aM.Mr:aM.no.enc=zs 32:=by decide +kernel
def ss (l:List UInt8) (c:UInt8):Lib.indexByte l c<0↔c ∉ l:=by
 have m:=Lib.indexByte_ge l c;constructor
 .intro h i
  have:Lib.indexByte l c=-1:=J
  obtain ⟨k,d,g⟩:=K7 i;exact Lib.indexByte_none this k (by rw [L4 d,g])
 .intro h
  refine Int.not_le.1 fun a=>?_;obtain ⟨o,j⟩:=Int.eq_ofNat_of_zero_le a;have:=(Lib.indexByte_some j).1;exact h (L3 this)
def cG (l:List UInt8):Bool:=EA l && (!l.contains 47 && (decide (l≠[46]) && decide (l≠[46,46])))
def sA {l:List UInt8} (h:cG l=N):EA l=N:=by
 unfold cG at h;simp only [Bool.and_eq_true] at h;exact h.1
end Go.SL
namespace Go.Proofs.Fs
open RowKit SL Proofs.Ba
def iV (l:List UInt8):(str l).size=l.length:=by simp [str,ByteArray.size]
def vg (w:T) (e:aM):Calls S 316 #[e.v] w fun r u=>r = M (O e.ok)/\ah u (whole w)/\ak w u:=by
 refine aK fun D g=>?_;obtain ⟨n,l⟩:=e;have s:=((ah.whole w).alloc (Z #[Y X (n:Int),V (str l)] 90 (0,0)))
 have h:=ae ((ak.refl w).alloc (Z #[Y X (n:Int),V (str l)] 90 (0,0)));have d:=ae s.right;have j:=ss l 0;have i:=Tryz.strings_IndexByte (str l) 0;have o:(0:Int).toNat.toUInt8=(0:UInt8):=rfl;have q:(str l).data.toList=l:=rfl;rw [o,q] at i;have B:=iV l;obtain ⟨C,t⟩:=Nm (Lib.indexByte l 0)
 rw [t] at i j;have y:=ae i;have v:=ae j;have c:Hid ((aM.mk n l).ok=(decide (1<=n) && (decide (n<=3839) && (decide (1<=l.length) && (decide (l.length<=28) && !l.contains 0))))):=rfl;clear s i j t o q;obtain ⟨m,z⟩:=Nm l.length
 rw [z] at B c;unfold aM.v
 by_cases E:(n:Int)<1
 .have a:Hid ((aM.mk n l).ok=K):=by show _=_;rw [c.o,decide_eq_false J];rfl
  go_in
  go_wp2_with fail
  exact g.o _ _ ⟨by rw [a.o];try (first|rfl|simp),d.o,h.o⟩
 by_cases G:(3839:Int)<(n:Int)
 .have a:Hid ((aM.mk n l).ok=K):=by show _=_;rw [c.o,decide_eq_false (p:=n<=3839) J,D9,D8]
  go_in
  go_wp2_with fail
  exact g.o _ _ ⟨by rw [a.o];try (first|rfl|simp),d.o,h.o⟩
 by_cases H:(m:Int)<1
 .have a:Hid ((aM.mk n l).ok=K):=by show _=_;rw [c.o,decide_eq_false (p:=1<=m) J,D9,D8,D8]
  go_in
  go_wp2_with fail
  exact g.o _ _ ⟨by rw [a.o];try (first|rfl|simp),d.o,h.o⟩
 by_cases h4:(28:Int)<(m:Int)
 .have a:Hid ((aM.mk n l).ok=K):=by show _=_;rw [c.o,decide_eq_false (p:=m<=28) J,D9,D8,D8,D8]
  go_in
  go_wp2_with fail
  exact g.o _ _ ⟨by rw [a.o];try (first|rfl|simp),d.o,h.o⟩
 have a:Hid ((aM.mk n l).ok=decide (C<0)):=by
  show _=_
  rw [c.o,decide_eq_true (p:=1<=n) J,decide_eq_true (p:=n<=3839) J,decide_eq_true (p:=1<=m) J,decide_eq_true (p:=m<=28) J,G3,G3,G3,G3];rw [D6];simp only [Bool.not_eq_true',decide_eq_true_eq,v.o];simp
 go_in
 go_wp2_with fail
 apply (y.o _).mono;rintro e I ⟨rfl,rfl⟩
 go_wp2_with fail
 exact g.o _ _ ⟨by rw [a.o];try (first|rfl|simp),d.o,h.o⟩
def rH (w:T) (l:List UInt8):Calls S 176 #[V (str l)] w fun d0 w'=>d0 = M (O (cG l))/\w=w':=by
 refine aK fun e0 c=>?_;have d:=Tryz.strings_IndexByte (str l) 0;have g:=Tryz.strings_IndexByte (str l) 47;have u:(0:Int).toNat.toUInt8=(0:UInt8):=rfl;have v:(47:Int).toNat.toUInt8=(47:UInt8):=rfl;have o:(str l).data.toList=l:=rfl;rw [u,o] at d;rw [v,o] at g;have r:=ss l 0;have s:=ss l 47;have b0:=iV l;obtain ⟨h,y⟩:=Nm (Lib.indexByte l 0)
 obtain ⟨i,z⟩:=Nm (Lib.indexByte l 47)
 rw [y] at d r;rw [z] at g s;have t:=ae d;have j:=ae g
 have q:Hid (cG l=((decide (1<=l.length) && (decide (l.length<=28) && decide (h<0))) && (decide (i<0) && (decide (l≠[46]) && decide (l≠[46,46]))))):=by
  unfold cG EA;congr 1
  .congr 2
   rw [D6];simp [r]
  .congr 1
   rw [D6];simp [s]
 have D:((str l).toList == [46]) = !decide (l≠[46]):=by
  rw [Lib.toList_data,D6,beq_iff_eq];simp [str]
 have E:((str l).toList == [46,46]) = !decide (l≠[46,46]):=by
  rw [Lib.toList_data,D6,beq_iff_eq];simp [str]
 obtain ⟨m,B⟩:=Nm l.length
 rw [B] at b0 q;have H:=ae D;have I:=ae E;clear B y z d g r s u o v D E
 by_cases h3:(m:Int)<1
 .have a:Hid (cG l=K):=by show _=_;rw [q.o,decide_eq_false (p:=1<=m) J,D9,D9]
  go_in
  go_wp2_with fail
  exact c.o _ _ ⟨by rw [a.o];try (first|rfl|simp),rfl⟩
 by_cases h4:(28:Int)<(m:Int)
 .have a:Hid (cG l=K):=by show _=_;rw [q.o,decide_eq_false (p:=m<=28) J,D9,D8,D9]
  go_in
  go_wp2_with fail
  exact c.o _ _ ⟨by rw [a.o];try (first|rfl|simp),rfl⟩
 have C:Hid (cG l=(decide (h<0) && (decide (i<0) && (decide (l≠[46]) && decide (l≠[46,46]))))):=Gr0
 by_cases h5:(0:Int)<=i
 .have a:Hid (cG l=K):=by show _=_;rw [C.o,decide_eq_false (p:=i<0) J,D9,D8]
  go_in
  go_wp2_with fail
  apply (j.o _).mono;rintro e G ⟨rfl,rfl⟩
  go_wp2_with fail
  exact c.o _ _ ⟨by rw [a.o];try (first|rfl|simp),rfl⟩
 by_cases h6:(0:Int)<=h
 .have a:Hid (cG l=K):=by show _=_;rw [C.o,decide_eq_false (p:=h<0) J,D9]
  go_in
  go_wp2_with fail
  apply (j.o _).mono;rintro e G ⟨rfl,rfl⟩
  go_wp2_with fail
  apply (t.o _).mono;rintro e w3 ⟨rfl,rfl⟩
  go_wp2_with fail
  exact c.o _ _ ⟨by rw [a.o];try (first|rfl|simp),rfl⟩
 have P:Hid (cG l=(decide (l≠[46]) && decide (l≠[46,46]))):=Gr0
 have n1:=H.o;have n2:=I.o;generalize decide (l≠[46])=p at *;generalize decide (l≠[46,46])=c0 at *;cases p <;> cases c0
 all_goals
  go_in
  go_wp2_with fail
  apply (j.o _).mono;rintro e G ⟨rfl,rfl⟩
  go_wp2_with fail
  apply (t.o _).mono;rintro e w3 ⟨rfl,rfl⟩
  go_wp2_with fail
  exact c.o _ _ ⟨by rw [P.o];try (first|rfl|simp),rfl⟩
end Go.Proofs.Fs
namespace Go.SL
open RowKit
def aM.may (e:aM):Prop:=e.ok=N\/e=aM.no
def aM.Il {e:aM} (h:e.may):e.nm.length<=28/\e.nd<=3839:=by
 rcases h with h|rfl
 .have:=aM.mZ.1 h
  have a:=q9.1 this.2.2;exact ⟨a.2.1,this.2.1⟩
 .exact ⟨De0,De0⟩
def G2 {a:Int} {s:Nat} (rest:List UInt8) (c:0<=a) (d:a<(256:Int) ^ s):gE (cO a s++rest) s=a:=by
 rw [jR a s rest s (K6 _),Int.emod_eq_of_lt c d]
def aM.parts {e:aM} (d:e.may) {L rest:List UInt8} {o:Nat} (h:L.drop o=e.enc++rest) :
  gE (L.drop o) 2=(e.nd:Int)/\gE (L.drop (o+2)) 1=(e.nm.length:Int)/\(L.drop (o+3)).take 29=e.nm++zs (29-e.nm.length):=by
 obtain ⟨g,i⟩:=aM.Il d
 have a:L.drop (o+2)=cO e.nm.length 1++((e.nm++zs (29-e.nm.length))++rest):=by
  rw [<- List.drop_drop,h];unfold aM.enc;rw [K5,H9 (aT _ _)];simp only [K5]
 have c:L.drop (o+3)=(e.nm++zs (29-e.nm.length))++rest:=by
  rw [show o+3=(o+2)+1 by omega,<- List.drop_drop,a,H9 (aT _ _)]
 refine ⟨?_,?_,?_⟩
 .rw [h];unfold aM.enc;rw [K5];exact G2 _ J J
 .rw [a];exact G2 _ J J
 .rw [c,List.take_left']
  rw [B3,aX];omega
end Go.SL
namespace Go.Proofs.Fs
open RowKit SL Proofs.Ba
def uK (r g c:Nat) (d:Array R) (L:List UInt8) (o n:Nat) (w:T) (F:ai) (e:Ending) (a:T):Prop:=
 ∃ v,e = M v/\ah a (bs 5 v ((L.drop o).take n)*(bD r g c d L (o+n)*F))/\ak w a
def DS (w:T) (r g a:Nat) (d:Array R) (L:List UInt8) (o n:Nat) (F:ai) (h:ah w (bD r g a d L o*F)) (B:o<L.length) (y:o+n<=L.length) (u:L.length<=1000000) :
  Calls S 278 #[ax r,Y X (n:Int)] w (uK r g a d L o n w F):=by
 have z:=rX w r g a d L o n F h B y u
 go_in
 go_wp2_with fail
 (apply z.mono)
 rintro e D ⟨c,rfl,j,q⟩;have v:((L.drop o).take n).length=n:=by rw [D7,K4];omega
 have C:=ph j o n c J;have t:ah D (bs 5 (W U 0 0) []*(bD r g a d L (o+n)*F)):=j.dR _ _;obtain ⟨G,H,l,i,s,a3,E,rfl⟩:=gx t C Si0 J;simp only [E4,Nat.zero_add,v] at l i;have m:=ae l;rw [E3] at i
 go_wp2_with (at_builtin;refine wpList_append_run m.o _ _ rfl rfl rfl rfl rfl ?_)
 go_ret
 exact ⟨_,rfl,i,q.trans s⟩
def OS:(prog.info? 90).map (·.size)=Q 2:=Kr0
def Xi (r g c:Nat) (d:Array R) (L:List UInt8) (o:Nat) (x:aM) (w:T) (F:ai) (e:Ending) (a:T):Prop:=
 e = M (.tuple #[x.v,O N])/\ah a (bD r g c d L (o+32)*F)/\ak w a
def Wm (m:Nat) (u:R):Prop:=∃ k:Nat,k<=29-m/\u = Y X (k:Int)
def rJ {w:T} {d:Array R} {a:Nat} {e:R} {c:Array R} {F:ai} (g:d[2]?=Q (ax a)) (h:d[3]?=Q e) (j:ah w (pt a (Z c 90 (0,0))*F)) (i:c.size=2) :
  (results Tryz.f357 d).run S w = .ok (.tuple #[.agg c,e]) w:=by
 have l:=run_loadVar_row (P:=S) w a 90 90 c (0,0) _ j.heap underlying90 rfl (by rw [i];exact OS);simp [results,Tryz.results357,g,h,asAddr,l]
def Oe (w:T) (r g d:Nat) (h:Array R) (L rest:List UInt8) (o:Nat) (x:aM) (F:ai) (h0:ah w (bD r g d h L o*F)) (hx:x.may) (ho:o+32<=L.length) (hL:L.drop o=x.enc++rest) (G:L.length<=1000000) :
  Calls S 357 #[ax r] w (Xi r g d h L o x w F):=by
 refine aK fun s0 HQ=>?_;obtain ⟨p1,p2,p3⟩:=aM.parts hx hL;obtain ⟨q1,q2⟩:=aM.Il hx;have hA:=h0.alloc (Z #[Y X 0,.string ⟨#[]⟩] 90 (0,0));have dA:=ae ((ak.refl w).alloc (Z #[Y X 0,.string ⟨#[]⟩] 90 (0,0)));have HX:=ae hx;have b0:=ae p1;have c0:=ae p2;have d0:=ae p3;have a:=hA.to (by ac_rfl:_=bD r g d h L o*(pt w.heap.size (Z #[Y X 0,.string ⟨#[]⟩] 90 (0,0))*F));have k0:=fX _ r g d h L o 2 _ a J J De0 G;have e0:=ae k0
 go_in
 go_wp2_with fail
 refine e0.o.mono ?_;generalize w.heap.size=l at *;rintro e w2 ⟨rfl,h2,d2⟩;have D2:=ae (dA.o.trans d2);have l0:=fX _ r g d h L (o+2) 1 _ h2 J J De0 G;have g0:=ae l0;have q0:(x.nm.length:Int)<=28:=J
 rw [b0.o]
 go_wp2_with fail
 refine g0.o.mono ?_;rintro e w3 ⟨rfl,h3,d3⟩;have D3:=ae (D2.o.trans d3);have hb:=DS _ r g d h L (o+2+1) 29 _ h3 J J G;have Hb:=ae hb;rw [c0.o];obtain ⟨m,H⟩:∃ m,x.nm.length=m:=⟨_,rfl⟩
 have s:=ae H;rw [H] at q1 q0;rw [H]
 go_wp2_with fail
 refine Hb.o.mono ?_;rintro e i ⟨v,rfl,h4,d4⟩;have D4:=ae (D3.o.trans d4)
 have E:ah i (bs 5 v (x.nm++zs (29-m))*(bD r g d h L (o+32)*(pt l (Z #[Y X 0,.string ⟨#[]⟩] 90 (0,0))*F))):=by
  rw [d0.o,s.o] at h4;exact h4
 have y:(x.nm++zs (29-m)).length=29:=by rw [B3,aX,s.o];omega
 obtain ⟨z,t,rfl,k1,k2,k3,-,-⟩:=NL E (i:=0) J;rw [y];rw [y] at k1 k3
 have hz:∀ k,k<29-m->i.cell? ⟨z,m+k,U⟩=Q (Y .u8 0):=fun k hk=>by
  rw [k3 (m+k) J,List.getD,H8 (by rw [s.o];omega),s.o];unfold zs;rw [L2,if_pos J];rfl
 have o0:Rd i (W (Q ⟨z,0,U⟩) 29 t) (x.nm++zs (29-m)):=by have:=E.ny;rw [y] at this;exact ⟨by rw [y];exact this.1,by rw [y];exact this.2⟩
 have m0:Rd i (W (Q ⟨z,0,U⟩) m t) x.nm:=by
  rcases o0.2 with ⟨e,-⟩|⟨u0,c,e,ha⟩
  .cases e
  .simp only [Value.slice.injEq,Option.some.injEq] at e
   obtain ⟨rfl,-,rfl⟩:=e;refine ⟨Si0,.inr ⟨_,_,by rw [s.o],fun p0 u hu=>ha p0 u ?_⟩⟩;rw [E2,L1 (by have:=(List.getElem?_eq_some_iff.1 hu).1;exact this)];exact hu
 have t1:=ry i _ _ m0;have H4:=ae E;have Hz:=ae hz;have H0:(29:Int)<=(t:Int):=J
 have K0:(t:Int)<=9223372036854775807:=by unfold maxLen at k2;omega
 have T1:=ae t1
 go_wp2_with fail
 go_loop [27] (fun u=>Wm m u) (fun u=>29-m-(intOf u).toNat)
 case atStart=>exact ⟨0,H7 _,rfl⟩
 case round=>
  obtain ⟨k,hk,rfl⟩:=hrel
  by_cases F0:k<29-m
  .have G0:(k:Int)<29-(m:Int):=J
   have i0:((29-m:Nat):Int)=29-(m:Int):=J
   go_wp2_with fail
   go_round
   case rel=>exact ⟨k+1,J,by go_num⟩
   case measure=>simp [intOf];omega
  .obtain rfl:k=29-m:=J
   have i0:((29-m:Nat):Int)=29-(m:Int):=J
   have t1:=T1.o;clear T1
   go_upto_region 13 with (fail)
   have a:=(H4.o.alloc (Z #[Y X (x.nd:Int),V (str x.nm)] 90 (0,0))).to (by ac_rfl:_=pt i.heap.size (Z #[Y X (x.nd:Int),V (str x.nm)] 90 (0,0))*(pt l (Z #[Y X 0,.string ⟨#[]⟩] 90 (0,0))*(bD r g d h L (o+32)*(F*bs 5 (W (Q ⟨z,0,U⟩) (x.nm++zs (29-m)).length t) (x.nm++zs (29-m))))));have dB:=ae (D4.o.alloc (Z #[Y X (x.nd:Int),V (str x.nm)] 90 (0,0)));generalize i.alloc (Z #[Y X (x.nd:Int),V (str x.nm)] 90 (0,0))=w5 at *;generalize i.heap.size=ec at *;have j:=ae a;have C:=a.cell 0;have D:=a.cell 1;rcases HX.o with I|n0
   .have h1:¬ (x.nd:Int)=0:=by have:=(aM.mZ.1 I).1;omega
    have P:=vg w5 x;rw [I] at P;have Hr:=ae P;clear I P
    go_wp2_with fail
    refine Hr.o.mono ?_;rintro e w6 ⟨rfl,h6,d6⟩;have a:=h6.cU j.o;have C:=a.cell 0;have D:=a.cell 1;have r0:=a.aj.cell 0;have r1:=a.aj.cell 1;have f0:=a.aj.frozen 0;have f1:=a.aj.frozen 1;have q:=ae ((a.aj.setCell 0 (Y X (x.nd:Int))).setCell 1 (V (str x.nm)));have B:=ae (((dB.o.trans d6).setCell ⟨l,0,U⟩ (Y X (x.nd:Int))).setCell ⟨l,1,U⟩ (V (str x.nm)))
    go_wp2_with fail
    exact bodyPost_ret (rJ rfl rfl q.o rfl) rfl (HQ.o _ _ ⟨rfl,(q.o.right.right.to (ar _ _ _).symm).left,B.o⟩)
   .subst n0
    have r0:=j.o.aj.cell 0;have r1:=j.o.aj.cell 1;have f0:=j.o.aj.frozen 0;have f1:=j.o.aj.frozen 1;have q:=ae ((j.o.aj.setCell 0 (Y X 0)).setCell 1 (.string ⟨#[]⟩));have B:=ae ((dB.o.setCell ⟨l,0,U⟩ (Y X 0)).setCell ⟨l,1,U⟩ (.string ⟨#[]⟩));have x0:=C;have D0:w5.cell? ⟨ec,1,U⟩=Q (.string ⟨#[]⟩):=D;clear j C D
    go_wp2_with fail
    exact bodyPost_ret (rJ rfl rfl q.o rfl) rfl (HQ.o _ _ ⟨rfl,(q.o.right.right.to (ar _ _ _).symm).left,B.o⟩)
end Go.Proofs.Fs
namespace Go.SL
open RowKit
def ee (Es:List aM):List UInt8:=Es.flatMap aM.enc
def aM.Q7 {e:aM} (h:e.may):e.enc.length=32:=by
 rcases h with h|rfl
 .exact aM.cV h
 .rw [aM.Mr];exact aX 32
def iz:∀ {Es:List aM},(∀ e ∈ Es,e.may)->(ee Es).length=32*Es.length
 | [],_=>rfl
 | e :: Es,h=>by
  have:=iz (Es:=Es) fun x a=>h x (List.mem_cons_of_mem _ a);unfold ee at this ⊢;rw [List.flatMap_cons,B3,this,aM.Q7 (h e (List.mem_cons_self ..)),D1];omega
def lf (A B:List aM):ee (A++B)=ee A++ee B:=by unfold ee;rw [M2]
def JJ {a:List aM} (h:∀ e ∈ a,e.may) {k:Nat} (g:k<a.length):(ee a).drop (32*k)=(a[k]).enc++ee (a.drop (k+1)):=by
 have e:a=a.take k++(a[k] :: a.drop (k+1)):=Si0
 have c:(ee (a.take k)).length=32*k:=by
  rw [iz fun x d=>h x (H6 d),D7];omega
 conv=>lhs;rw [e]
 rw [lf,H9 c]
 rfl
end Go.SL
namespace Go.Proofs.Fs
open RowKit SL Proofs.Ba
attribute [local go_sem] Oper.semAt_some
def Xm (e:aM) (a:Array R):ai:=fact (a=#[e.v,O N])
def uB (c:Nat) (v:R) (a:List aM):ai:=pt c (Z #[v] 23 (0,0))*bs 5 v (ee a)
def Ag (r g d:Nat) (h:Array R) (A:List aM->ai) (a:List aM) (c:ai) (w0:T) (k:Nat) (wr:T):Prop:=
 ∃ j:Nat,j<=a.length/\a.length<=j+k/\ak w0 wr/\ah wr (bD r g d h (ee a) (32*j)*(A (a.take j)*c))
def FT {a:List aM} {k:Nat} (h:k<a.length):a.take k++[a[k]]=a.take (k+1):=Sa0
theorem Gg (n:Nat) (bx:Nat) (v:Value) (Es:List aM) (hm:∀ e ∈ Es,e.may) (h0:0<Es.length) (hl:Es.length<=15) :
  dU Fence.wide n prog 356 #[.pointer (some ⟨bx,0,none⟩)] (uB bx v Es) Xm (fun ys=>ys=Es) (fun ys=>ys <+: Es):=by
 intro lp A Ax G w0 w hY hs h;have hlen:=iz hm;have hB:ah w (pt bx (.cells #[v] 23 (0,0))*(bs 5 v (ee Es)*(A []*G))):=h.to (by unfold uB;ac_rfl);have c0:=hB.cell 0;have hr:=jx w v (ee Es) hB.aj.ny (by omega) (by omega);have H:=ae h;have HM:=ae hm;have HL:=ae hlen;refine callsIn_of_wp func356 rfl trivial ?_ rfl;simp only [ntmps356,H5,D1,E4,H2,H1,J7,J5,J4,J3,E3,J2]
 gi_wp2_with fail
 refine mh hr ?_;rintro e w1 ⟨r,g,cap,cur,rfl,h1,d1⟩;have hst:=h1.under H.out;have ds:=hs.trans d1
 gi_wp2
 gi_loopw [] (fun wr=>∃ k,Ag r g cap cur A Es (uB bx v Es*G) w0 k wr) (fun wr=>leastOf (fun k=>Ag r g cap cur A Es (uB bx v Es*G) w0 k wr))
 case atStart=>exact ⟨Es.length,0,H7 _,by omega,ds,hst⟩
 case round=>
  obtain ⟨hk,hmin⟩:=leastOf_spec hrel;generalize leastOf (fun k=>Ag r g cap cur A Es (uB bx v Es*G) w0 k wr)=gk at hk hmin ⊢;obtain ⟨j,hj,hjk,hside,hsat⟩:=hk;have hleft:=Bv wr r g cap cur (ee Es) (32*j) _ hsat;rw [HL.out] at hleft
  by_cases hlt:j<Es.length
  .obtain ⟨q,hq⟩:∃ q,32*Es.length-32*j=q:=⟨_,rfl⟩
   rw [hq] at hleft;have hq1:(32:Int)<=(q:Int):=by omega
   have hmay:=HM.out _ (List.getElem_mem hlt);have hdr:=JJ HM.out hlt;have hsl:=Oe wr r g cap cur (ee Es) (ee (Es.drop (j+1))) (32*j) Es[j] _ hsat hmay (by rw [HL.out];omega) hdr (by rw [HL.out];omega);have hsn:=FT hlt;have hpre:Es.take j++[Es[j]] <+: Es:=by rw [hsn];exact K3 _ _
   have Hsl:=ae hsl;have Hsn:=ae hsn;have Hpre:=ae hpre;have HJ:=ae hjk;generalize Es[j]=x at *
   gi_wp2_with fail
   refine mh hleft ?_;rintro e w2 ⟨rfl,rfl⟩
   gi_wp2_with fail
   refine mh Hsl.out ?_;rintro e w3 ⟨rfl,h3,d3⟩;have hA:=h3.alloc (.cells #[.int .i64 (x.nd:Int),.string (str x.nm)] 90 (0,0));have dA:=(hside.trans d3).alloc (.cells #[.int .i64 (x.nd:Int),.string (str x.nm)] 90 (0,0));unfold aM.v
   have hB:ah (w3.alloc (.cells #[.int .i64 (x.nd:Int),.string (str x.nm)] 90 (0,0))) (A (Es.take j)*(Xm x #[.agg #[.int .i64 (x.nd:Int),.string (str x.nm)],.bool true]*(bD r g cap cur (ee Es) (32*j+32)*(uB bx v Es*G)))):=by
    have h9:=hA.right;have h10:=h9.to (by ac_rfl:_=A (Es.take j)*(bD r g cap cur (ee Es) (32*j+32)*(uB bx v Es*G)));exact ah.aj (ah.ao.2 ⟨rfl,h10⟩)
   obtain ⟨fn,tmps,assign,body,hy,hR⟩:=hY (Es.take j) x #[.agg #[.int .i64 (x.nd:Int),.string (str x.nm)],.bool true] _ _ Hpre.out dA hB
   gi_wp2
   refine ⟨fun h=>(by cases h),hR.mono ?_⟩;rintro e W' (⟨rfl,hs5,hsat5⟩|⟨rfl,hs5,hsat5⟩)
   .have hrel':Ag r g cap cur A Es (uB bx v Es*G) w0 (gk-1) W':=
     ⟨j+1,hlt,by have:=HJ.out;omega,hs5,by rw [<- Hsn.out,Nat.mul_add];exact hsat5.aj⟩
    gi_wp2
    go_roundw
    case rel=>exact ⟨_,hrel'⟩
    case measure=>exact Nat.lt_of_le_of_lt ((leastOf_spec ⟨_,hrel'⟩).2 _ hrel') (by have:=HJ.out;omega)
   .gi_wp2
    refine bodyPost_ret (results_none rfl _ _ _) rfl ?_;exact ⟨⟨_,rfl⟩,hs5,.inr ⟨_,Hpre.out,hsat5.fT⟩⟩
  .obtain rfl:j=Es.length:=by omega
   rw [Nat.sub_self] at hleft;have hleft2:=hleft;rw [List.take_length] at hsat;have HS:=ae hsat.right
   gi_wp2_with fail
   refine mh hleft2 ?_;rintro e w2 ⟨rfl,rfl⟩
   gi_wp2
   go_end0
   exact ⟨⟨_,rfl⟩,hside,.inl ⟨_,rfl,HS.out⟩⟩
end Go.Proofs.Fs
namespace Go.SL
open RowKit
def bE (P:List aM):List R:=P.flatMap aM.cells
def Al (P:List aM):(bE P).length=P.length*2:=by
 unfold bE
 induction P with
 | nil=>rfl
 | cons e P a=>rw [List.flatMap_cons,B3,a,D1];show 2+_=_;omega
def mT (A B:List aM):bE (A++B)=bE A++bE B:=by unfold bE;rw [M2]
def Jm {P:List aM} {k:Nat} (d:k<P.length):(bE P)[k*2]?=Q (Y X ((P[k]).nd:Int))/\(bE P)[k*2+1]?=Q (V (str (P[k]).nm)):=by
 have e:P=P.take k++(P[k] :: P.drop (k+1)):=by rw [List.getElem_cons_drop d,K2]
 have a:(bE (P.take k)).length=k*2:=by rw [Al,D7];omega
 have c:bE P=bE (P.take k)++(Y X ((P[k]).nd:Int) :: V (str (P[k]).nm) :: bE (P.drop (k+1))):=by
  conv=>lhs;rw [e]
  rw [mT];rfl
 rw [c];constructor
 .rw [H8 J,a,Nat.sub_self];rfl
 .rw [H8 J,a,show k*2+1-k*2=1 by omega];rfl
def Kx (P:List aM):∀ u ∈ bE P,u.oneCell'=N:=by
 intro u a;obtain ⟨e,_,h⟩:=List.mem_flatMap.1 a;simp only [aM.cells,List.mem_cons,List.not_mem_nil,or_false] at h;rcases h with rfl|rfl <;> rfl
def placesOf (P:List aM):List aM:=P++List.replicate (15-P.length) aM.no
def jQ {P:List aM} (h:∀ e ∈ P,e.ok=N):∀ e ∈ placesOf P,e.may:=by
 intro e c;rcases List.mem_append.1 c with a|a
 .exact .inl (h e a)
 .exact .inr (M1 a)
def dY (a:List aM):List aM:=a.filter fun e=>e.ok
def fR (a:List aM):Bool:=a.any fun e => !e.ok
def Is:aM.no.ok=K:=De0
def yi {P:List aM} (h:∀ e ∈ P,e.ok=N):dY (placesOf P)=P:=by
 unfold dY placesOf;rw [K1,List.filter_eq_self.2 h,List.filter_eq_nil_iff.2 (fun e a=>by rw [M1 a,Is];exact Bool.noConfusion),L8]
def F4 {P:List aM} (h:∀ e ∈ P,e.ok=N) {c:List aM} {x:aM} (m:c++[x] <+: placesOf P) (d:x.ok=N):fR c=K/\c.length<P.length:=by
 obtain ⟨t,r⟩:=m
 have l:c.length<P.length:=by
  refine Nat.lt_of_not_le fun j=>?_;have a:(placesOf P)[c.length]?=Q x:=Gr0
  unfold placesOf at a;rw [H8 j,L2] at a
  split at a
  .injection a with a
   rw [<- a,Is] at d;cases d
  .cases a
 refine ⟨?_,l⟩;unfold fR;rw [List.any_eq_false];intro e g
 have:e ∈ P:=by
  obtain ⟨i,o,q⟩:=K7 g;have a:(placesOf P)[i]?=Q e:=Gr0
  unfold placesOf at a;rw [L1 J] at a;exact L3 a
 rw [h e this];decide
def EP {P:List aM} (h:∀ e ∈ P,e.ok=N) {d:List aM} {x:aM} (a:d++[x] <+: placesOf P):x.may:=by
 obtain ⟨t,c⟩:=a;exact jQ h x (by rw [<- c];simp)
end Go.SL
namespace Go.Proofs.Fs
open RowKit SL Proofs.Ba
attribute [local go_sem] Oper.semAt_some
def R5 (v:R) (w:T) (e:Ending) (a:T):Prop:=e = M (.func (.func 356) #[] #[.pointer (Q ⟨w.heap.size,0,U⟩)])/\a=w.alloc (Z #[v] 23 (0,0))
def EY (w:T) (a:Option Addr) (n c:Nat):Calls S 333 #[W a n c] w (R5 (W a n c) w):=by
 go_in
 go_wp2
 go_ret
 exact ⟨rfl,rfl⟩
def zq:(prog.info? 90).map (fun i=>(i.zero,i.size,i.bytes))=Q (Q (.agg #[Y X 0,.string ⟨#[]⟩]),2,24):=Kr0
def Iu (d c:Nat) (a:List aM):ai:=ex fun v=>pt d (Z #[v] 80 (0,0))*(sl 90 2 v (dY a).length (bE (dY a))*pt c (Z #[O (fR a)] 4 (0,0)))
def Uq (a:Option Addr) (d m o h g j:Nat) (l:List aM) (x:aM) (i:Act):ai:=ex fun c:Nat=>
 fact (i={ tmps:=#[W a 480 d,undef,ax m,ax o,ax h,ax g,ax c,O N,W a 480 d,Y X 480,O K,W a 480 d,.func (.func 356) #[] #[ax j],x.v,O N,undef,undef,undef,undef,undef,undef,undef,undef,undef,undef,undef,undef,undef,undef],defers:=[] }) *
  (pt c (Z #[Y X (x.nd:Int),V (str x.nm)] 90 (0,0))*Iu h g l)
def Lm (a:List aM):dY (a++[aM.no])=dY a/\fR (a++[aM.no])=N:=by
 unfold dY fR;rw [K1,List.any_append];refine ⟨?_,?_⟩
 .rw [show List.filter (fun e:aM=>e.ok) [aM.no]=[] from by rw [List.filter_cons_of_neg (by rw [Is];exact Bool.noConfusion)];rfl,L8]
 .rw [show List.any [aM.no] (fun e:aM => !e.ok)=N from by rw [List.any_cons,Is];rfl,Bool.or_true]
def LL (a:List aM) {x:aM} (h:x.ok=N):dY (a++[x])=dY a++[x]/\fR (a++[x])=fR a:=by
 unfold dY fR;rw [K1,List.any_append];refine ⟨?_,?_⟩
 .rw [show List.filter (fun e:aM=>e.ok) [x]=[x] from List.filter_cons_of_pos h]
 .rw [show List.any [x] (fun e:aM => !e.ok)=K from by rw [List.any_cons,h];rfl,Bool.or_false]
def Qm (a:List aM):(dY a).length<=a.length:=List.length_filter_le _ _
def ux {w:T} {c:Array R} {a b:Nat} {v e:R} {F:ai} (i:c[2]?=Q (ax a)) (j:c[3]?=Q (ax b)) (h:ah w (pt a (Z #[v] 80 (0,0))*(pt b (Z #[e] 31 (0,0))*F))) :
  (results Tryz.f301 c).run S w = .ok (.tuple #[v,e]) w:=by
 have d:=h.cell 0;have g:=h.aj.cell 0;simp [results,Tryz.results301,i,j,asAddr,ax,go_sem,d,g]
def Wt (v:R) (P:List aM) (F:ai) (w:T) (e:Ending) (a:T):Prop:=
 ∃ u,e = M (.tuple #[u,Y X 0])/\ah a (sl 90 2 u P.length (bE P)*(bs 5 v (ee (placesOf P))*F))/\ak w a
def CP (w:T) (v:R) (P:List aM) (E:∀ e ∈ P,e.ok=N) (hl:P.length<=15) (F:ai) (h:ah w (bs 5 v (ee (placesOf P))*F)) :
  Calls S 301 #[v] w (Wt v P F w):=by
 obtain ⟨i0,hi,hz,o0,l0⟩:=info_parts zq;have n0:(placesOf P).length=15:=by unfold placesOf;rw [B3,N2];omega
 have m0:(ee (placesOf P)).length=480:=by rw [iz (jQ E),n0]
 obtain ⟨d,g,rfl⟩:=az h;have t:=(((h.alloc (Z #[W U 0 0] 80 (0,0))).alloc (Z #[Y X 0] 31 (0,0))).alloc (Z #[W U 0 0] 80 (0,0))).alloc (Z #[O K] 4 (0,0));have dA:=((((ak.refl w).alloc (Z #[W U 0 0] 80 (0,0))).alloc (Z #[Y X 0] 31 (0,0))).alloc (Z #[W U 0 0] 80 (0,0))).alloc (Z #[O K] 4 (0,0));simp only [L6] at t;rw [m0] at t ⊢;refine (callsIn_wide (n:=9)).1 ?_;refine callsIn_of_wp_marks func301 rfl trivial ?_ rfl;simp only [ntmps301,H5,D1,E4,H2,H1,J7,J5,J4,J3,E3,J2]
 gi_wp2_with fail
 generalize (((w.alloc (Z #[W U 0 0] 80 (0,0))).alloc (Z #[Y X 0] 31 (0,0))).alloc (Z #[W U 0 0] 80 (0,0))).alloc (Z #[O K] 4 (0,0))=w1 at *;refine lq (EY w1 d 480 g) ?_;rintro en w2 ⟨rfl,rfl⟩;have hB:=t.alloc (Z #[W d 480 g] 23 (0,0));have dB:=dA.alloc (Z #[W d 480 g] 23 (0,0));clear t dA
 gi_wp2_with fail
 generalize w1.alloc (Z #[W d 480 g] 23 (0,0))=w2 at *;generalize w1.heap.size=u at *;generalize w.heap.size+1+1+1=l at *;generalize w.heap.size+1+1=o at *;generalize w.heap.size+1=z at *;generalize w.heap.size=y at *
 have x0:ah w2 (Iu o l []*(uB u (W d 480 g) (placesOf P)*(pt y (Z #[W U 0 0] 80 (0,0))*(pt z (Z #[Y X 0] 31 (0,0))*F)))):=
  ah.aq.2 ⟨W U 0 0,by
   have:=(hB.dR 90 2)
   exact this.to (by unfold uB;show _=_*(sl _ 2 _ 0 []*pt l (Z #[O K] _ _))*_;ac_rfl)⟩
 clear hB h
 refine ji (w0:=w) rfl De0 (gf:=356) (lb:=#[.pointer (Q ⟨u,0,U⟩)]) rfl trivial (enters func356 Kr0 rfl)
  (Gg _ u (W d 480 g) (placesOf P) (jQ E) J J) (Iu o l) (fun _ _=>fact False) (Uq d g y z o l u)
  (pt y (Z #[W U 0 0] 80 (0,0))*(pt z (Z #[Y X 0] 31 (0,0))*F)) ?hps dB x0 ?assign ?body ?done ?stop
 case hps=>
  intro x vs B m h;unfold Xm at h;obtain ⟨rfl,_⟩:=ah.ao.1 h
  rfl
 case assign=>
  intro I b0 a x vs B m H0 _ G H hK;have s:=H.aj;unfold Xm at s;obtain ⟨rfl,q⟩:=ah.ao.1 s;have t:=q.alloc (Z #[Y X (x.nd:Int),V (str x.nm)] 90 (0,0));have hd:=G.alloc (Z #[Y X (x.nd:Int),V (str x.nm)] 90 (0,0));clear H s q
  have hk:=hK { tmps:=#[W d 480 g,undef,ax y,ax z,ax o,ax l,ax m.heap.size,O N,W d 480 g,Y X 480,O K,W d 480 g,.func (.func 356) #[] #[ax u],x.v,O N,undef,undef,undef,undef,undef,undef,undef,undef,undef,undef,undef,undef,undef,undef],defers:=[] } _ hd
   (by
    unfold Uq;refine (ah.aq.2 ⟨m.heap.size,?_⟩);exact (ah.ao.2 ⟨rfl,t⟩:ah _ (fact _*_)).u00)
  clear t hd hK;unfold aM.v at *
  gi_wp2
  exact hk
 case body=>
  intro I b0 a x a' B m hp G H;unfold Uq at H;obtain ⟨c,s⟩:=ah.aq.1 H;obtain ⟨rfl,q⟩:=ah.ao.1 (s.to (ar _ _ _));clear H s;have r0:=EP E hp;have D:ah m (Iu o l a*(pt c (Z #[Y X (x.nd:Int),V (str x.nm)] 90 (0,0))*(pt I (.loop b0)*B))):=q.u00;obtain ⟨v,H4⟩:=ah.aq.1 D;have r:ah m (pt o (Z #[v] 80 (0,0))*(pt l (Z #[O (fR a)] 4 (0,0))*(pt c (Z #[Y X (x.nd:Int),V (str x.nm)] 90 (0,0))*(sl 90 2 v (dY a).length (bE (dY a))*(pt I (.loop b0)*B))))):=H4.u00;clear q D H4;have c0:=r.cell 0;have c1:=r.aj.cell 0;have c2:=r.au.cell 0;have c3:=r.au.cell 1;have f0:=r.frozen 0;have f1:=r.aj.frozen 0;rcases r0 with k0|rfl
  .obtain ⟨e1,e2⟩:=F4 E hp k0
   obtain ⟨o1,o2⟩:=LL a k0;have h1:¬ (x.nd:Int)=0:=by have:=(aM.mZ.1 k0).1;omega
   rw [e1] at c1 o2;have T0:=Qm a;have t:=r.alloc (Z #[Y X (x.nd:Int),V (str x.nm)] 90 (0,0))
   have hR:nt (m.alloc (Z #[Y X (x.nd:Int),V (str x.nm)] 90 (0,0))) 2 (W (Q ⟨m.heap.size,0,U⟩) 1 1) 1 [Y X (x.nd:Int),V (str x.nm)]:=
    ⟨rfl,.inr ⟨_,_,rfl,fun D0 F0 hu=>by
     rw [Addr.add_lit,Nat.zero_add];exact (t.cell D0).trans (by simpa using hu)⟩⟩
   have q0:=t.t00 (sl 90 2 v (dY a).length (bE (dY a))*(pt o (Z #[v] 80 (0,0))*(pt l (Z #[O (fR a)] 4 (0,0))*(pt c (Z #[Y X (x.nd:Int),V (str x.nm)] 90 (0,0))*(pt m.heap.size (Z #[Y X (x.nd:Int),V (str x.nm)] 90 (0,0))*(pt I (.loop b0)*B))))));obtain ⟨v',w',s0,e0,u0⟩:=ah.append (P:=S) (ty:=80) underlying80 hi hz o0 l0 rfl q0 hR (by intro F0 hu;simp only [List.mem_cons,List.not_mem_nil,or_false] at hu;rcases hu with rfl|rfl <;> rfl) (by unfold maxLen;omega) J;obtain ⟨i,j,rfl⟩:=az e0;have K0:=e0.aj.cell 0;have R0:=e0.aj.frozen 0;have g0:=e0.aj.setCell 0 (W i ((dY a).length+1) j);have h0:=ae g0;have p0:=ae s0;have O1:=ae o1;have O2:=ae o2;have E1:=ae e1;have d0:=ae (((G.alloc (Z #[Y X (x.nd:Int),V (str x.nm)] 90 (0,0))).trans u0).setCell ⟨o,0,U⟩ (W i ((dY a).length+1) j));unfold aM.v
   gi_wp2_with (gi_at_builtin;refine cm p0.o _ _ rfl rfl rfl rfl rfl ?_)
   refine ⟨d0.o,?_⟩;refine ah.aq.2 ⟨W i ((dY a).length+1) j,?_⟩;rw [O1.o,O2.o,B3,mT];have C:=h0.o;rw [E1.o] at C;have h7:=C.t00 ((pt c (Z #[Y X (x.nd:Int),V (str x.nm)] 90 (0,0))*pt m.heap.size (Z #[Y X (x.nd:Int),V (str x.nm)] 90 (0,0)))*(pt o (Z #[W i ((dY a).length+1) j] 80 (0,0))*(sl 90 2 (W i ((dY a).length+1) j) ((dY a).length+1) (bE (dY a)++[Y X (x.nd:Int),V (str x.nm)])*pt l (Z #[O K] 4 (0,0))*(pt I (.loop b0)*B))))
   exact h7.right.to (by
    have e:bE [x]=[Y X (x.nd:Int),V (str x.nm)]:=rfl;rw [e,List.length_singleton];ac_rfl)
  .obtain ⟨o1,o2⟩:=Lm a
   have g0:=r.aj.setCell 0 (O N);have h0:=ae g0;have O1:=ae o1;have O2:=ae o2;have d0:=ae (G.setCell ⟨l,0,U⟩ (O N));have L0:=c2;have N0:m.cell? ⟨c,1,U⟩=Q (.string ⟨#[]⟩):=c3;have ev:aM.no.v = .agg #[Y X 0,.string ⟨#[]⟩]:=rfl;clear hi hz o0 l0 g0 o1 o2 r E hp m0 n0 c2 c3;rw [ev];clear ev
   gi_wp2_with fail
   refine ⟨d0.o,ah.aq.2 ⟨v,?_⟩⟩;rw [O1.o,O2.o];have C:=h0.o;exact (C.t00 (pt c (Z #[Y X (aM.no.nd:Int),V (str aM.no.nm)] 90 (0,0))*(pt o (Z #[v] 80 (0,0))*(sl 90 2 v (dY a).length (bE (dY a))*pt l (Z #[O N] 4 (0,0))*(pt I (.loop b0)*B))))).right.u00
 case done=>
  intro D2 ys m hS G H;subst hS;obtain ⟨v,s⟩:=ah.aq.1 H;rw [yi E] at s;obtain ⟨i,j,rfl⟩:=az (s.t00 (sl 90 2 v P.length (bE P)*(pt o (Z #[v] 80 (0,0))*(pt l (Z #[O (fR (placesOf P))] 4 (0,0))*(uB u (W d 480 g) (placesOf P)*(pt D2 (.deferred (Q []))*(pt y (Z #[W U 0 0] 80 (0,0))*(pt z (Z #[Y X 0] 31 (0,0))*F))))))));have q:ah m (pt D2 (.deferred (Q []))*(pt o (Z #[W i P.length j] 80 (0,0))*(pt y (Z #[W U 0 0] 80 (0,0))*(pt z (Z #[Y X 0] 31 (0,0))*(sl 90 2 (W i P.length j) P.length (bE P)*(bs 5 (W d 480 g) (ee (placesOf P))*(F*(pt u (Z #[W d 480 g] 23 (0,0))*pt l (Z #[O (fR (placesOf P))] 4 (0,0)))))))))):=s.to (by unfold uB;ac_rfl);have c0:=q.aj.cell 0;have z0:=q.au.cell 0;have f0:=q.au.frozen 0;have f1:=q.aC.frozen 0;have D:=q.au.setCell 0 (W i P.length j);have V0:=D.aC.cell 0;have S0:=D.aC.frozen 0;have H4:=D.aC.setCell 0 (Y X 0);have r:=ae H4;have d0:=ae ((G.setCell ⟨y,0,U⟩ (W i P.length j)).setCell ⟨z,0,U⟩ (Y X 0))
  gi_wp2
  have C:=r.o;have h7:=C.t00 (pt D2 (.deferred (Q []))*(pt y (Z #[W i P.length j] 80 (0,0))*(pt z (Z #[Y X 0] 31 (0,0))*(sl 90 2 (W i P.length j) P.length (bE P)*(bs 5 (W d 480 g) (ee (placesOf P))*(F*(pt o (Z #[W i P.length j] 80 (0,0))*(pt u (Z #[W d 480 g] 23 (0,0))*pt l (Z #[O (fR (placesOf P))] 4 (0,0))))))))));have hK:=h7.heap;have h8:=(h7.putObj (.deferred U)).right;clear C h7;refine ⟨Si0,.inl ⟨_,_,rfl,run_takeDeferred hK,?_⟩⟩;refine ⟨_,ux rfl rfl h8,⟨W i P.length j,rfl,?_,d0.o.putObj _ _⟩⟩;exact (h8.right.right.t00 ((sl 90 2 (W i P.length j) P.length (bE P)*(bs 5 (W d 480 g) (ee (placesOf P))*F))*(pt o (Z #[W i P.length j] 80 (0,0))*(pt u (Z #[W d 480 g] 23 (0,0))*pt l (Z #[O (fR (placesOf P))] 4 (0,0)))))).left
 case stop=>
  intro G0 c ys m _ _ H;exact (ah.ao.1 H).1.elim
end Go.Proofs.Fs
namespace Go.SL
open RowKit
structure Lz (f:AF) (L:List aM):Prop where
 kd:f.kd=2
 sz:f.sz=32*L.length
 ok:∀ e ∈ L,e.ok=true
 ti:∀ p,p<32*L.length->f.ti p=(ee L).getD p 0
 len:L.length<=3840
def gU (L:List aM) (i:Nat):List aM:=(L.drop (15*i)).take 15
def kr {L:List aM} (h:∀ e ∈ L,e.ok=N):(ee L).length=32*L.length:=iz fun e a=>.inl (h e a)
def FQ {L:List aM} (h:∀ e ∈ L,e.ok=N) (k:Nat):(ee L).drop (32*k)=ee (L.drop k):=by
 by_cases c:k<=L.length
 .conv=>lhs;rw [<- K2 k L]
  rw [lf,H9];rw [kr fun e a=>h e (H6 a),D7];omega
 .rw [N1 (by omega:L.length<=k),N1 (by rw [kr h];omega)];rfl
def FJ {L:List aM} (h:∀ e ∈ L,e.ok=N) (k:Nat):(ee L).take (32*k)=ee (L.take k):=by
 by_cases c:k<=L.length
 .conv=>lhs;rw [<- K2 k L]
  rw [lf,List.take_left'];rw [kr fun e a=>h e (H6 a),D7];omega
 .rw [E5 (by omega:L.length<=k),E5 (by rw [kr h];omega)]
def Pa {L:List aM} (h:∀ e ∈ L,e.ok=N) (i:Nat):∀ e ∈ gU L i,e.ok=N:=fun e a=>h e (P3 (H6 a))
def Aj (L:List aM) (i:Nat):(gU L i).length=min 15 (L.length-15*i):=by unfold gU;rw [D7,K4]
def Gb {L:List aM} (h:∀ e ∈ L,e.ok=N) (i:Nat):ee (gU L i)=((ee L).drop (480*i)).take 480:=by
 unfold gU;rw [show 480*i=32*(15*i) by omega,FQ h,show 480=32*15 from rfl,FJ fun e a=>h e (P3 a)]
def Lz.sub {f:AF} {L:List aM} (D:Lz f L) (i:Nat):f.sub (480*i) (min 480 (32*L.length-480*i))=ee (gU L i):=by
 rw [Gb D.ok];unfold AF.sub;rw [D.sz];have c:=kr D.ok;apply List.ext_getElem?;intro j
 by_cases a:j<min 480 (32*L.length-480*i)
 .rw [List.getElem?_map,List.getElem?_range J,L5,if_pos J,List.getElem?_drop]
  show Q (f.ti (480*i+j))=_
  rw [D.ti _ J,List.getD,L4 J];rfl
 .rw [P2 (by rw [List.length_map,List.length_range];omega),P2 (by rw [D7,K4];omega)]
def QW (k:Nat):ee (List.replicate k aM.no)=zs (32*k):=by
 induction k with
 | zero=>rfl
 | succ k a=>
  rw [List.replicate_succ];show aM.no.enc++ee _=_
  rw [a,aM.Mr];unfold zs;rw [List.replicate_append_replicate];congr 1;omega
def Fq {P:List aM} (h:∀ e ∈ P,e.ok=N) (a:P.length<=15):bB 480 (ee P)=ee (placesOf P):=by
 unfold placesOf bB;rw [lf,QW,List.take_append];have e:=kr h;rw [E5 J];congr 1;unfold zs;rw [List.take_replicate];congr 1;omega
def TP {w:T} {a:TypeId} {g n:Nat} {l:List UInt8} {F:ai} (c:l.length=n) (h:ah w (pt g (Z (dP l) a (0,0))*F)) (d:n<=1000000):ah w (bs a (W (Q ⟨g,0,U⟩) n n) l*F):=by
 have:=ah.nz (sz:=1) (n:=n) (cap:=n) h (K6 _) (by unfold maxLen;omega) (by rw [eX];omega);rw [bs,c];refine this.to ?_;congr 2;simp only [dP,Nat.mul_one,List.toList_toArray];rw [E5 (by simp;omega)]
end Go.SL
namespace Go.Proofs.Fs
open RowKit SL Proofs.Ba
section
variable {n:Nat} {x:Fx n} {b k id:Nat} {A:Nat->Option AF} {f:AF} {L:List aM} {w:T} {F:ai}
def To (x:Fx n) (b:Nat) (A:Nat->Option AF) (k:Nat) (P:List aM) (F:ai) (w:T) (e:Ending) (a:T):Prop:=
 ∃ u,e = M (.tuple #[u,Y X 0])/\ak w a/\ah a (sl 90 2 u P.length (bE P)*(eK x b A k*F))
def BE (g0:ah w (eK x b A k*F)) (H:A id=Q f) (D:Lz f L) (i:Nat) (m:Nat) (I:m=min 480 (32*L.length-480*i)) (hi:15*i<L.length) :
  Calls S 249 #[iH b n,Y X (id:Int),Y X ((480*i:Nat):Int),Y X (m:Int)] w (To x b A k (gU L i) F w):=by
 refine aK fun r0 u=>?_;have s:=D.sub i;have a:=Pa D.ok i;have o:=Aj L i;have b0:=kr a;have l0:=D.len;have h:m=32*(gU L i).length:=by rw [o];omega
 have j:(gU L i).length<=15:=J
 have l:=Fq a j;rw [<- I] at s;have B:=g0.alloc (dx b n);have dA:=ae ((ak.refl w).alloc (dx b n));have C:=B.aj;have r:=PE C H (480*i) m;rw [s] at r;have d:=ae r;obtain ⟨P,g⟩:=Nm (gU L i)
 rw [g] at a o b0 h j l d;rw [g] at u;have i0:((480*i:Nat):Int)<=1000000:=J
 obtain ⟨s0,G⟩:=Nm (480*i)
 rw [G] at d ⊢ i0;have HM:=ae h;have c0:=ae l;have t:=ae a;clear I h o hi s b0 l a r C B g G D H l0;unfold iH
 go_in
 go_wp2_with fail
 apply d.o.mono;generalize w.heap.size=sc at *;rintro e c ⟨v,rfl,d2,y⟩;have E:=y.alloc (Z (dP (zs 480)) 5 (0,0));have D3:=ae ((dA.o.trans d2).alloc (Z (dP (zs 480)) 5 (0,0)));obtain ⟨w3,v3,o0,z,d3⟩:=zi (P:=S) (dT:=23) underlying23 Kr0 E (E.aj.ny) 3;rw [c0.o] at z;have m0:=jQ t.o;have n0:(placesOf P).length=15:=by unfold placesOf;rw [B3,N2];omega
 have k0:(ee (placesOf P)).length=480:=by rw [iz m0,n0]
 have p0:=TP k0 z De0;have h0:=CP w3 _ P t.o j _ p0;have e0:=ae h0;have f0:=ae o0;have q0:(Instr.makeSlice 23 (Y X 480) (Y X 480)).run S c = .ok (W (Q ⟨c.heap.size,0,U⟩) 480 480) (c.alloc (Z (dP (zs 480)) 5 (0,0))):=fm 480 J c;have D4:=ae (D3.o.trans d3);obtain ⟨va,vc,rfl⟩:=az y
 go_wp2_with (refine fI f0.o _ _ rfl rfl rfl rfl rfl ?_)
 apply e0.o.mono;rintro e w4 ⟨D0,rfl,h4,d4⟩;obtain ⟨ua,uc,rfl⟩:=az h4;have H4:=ae h4;have D5:=ae (D4.o.trans d4);obtain ⟨q,hq⟩:=Nm P.length
 have d0:=ae hq;have u0:(q:Int)*32=(m:Int):=by have:=HM.o;omega
 have x0:(q:Int)<=15:=J
 rw [hq]
 go_wp2_with fail
 refine u.o _ _ ⟨W ua q uc,rfl,D5.o,?_⟩;have h5:=H4.o;rw [d0.o] at h5 ⊢;exact (h5.t00 ((sl 90 2 (W ua q uc) q (bE P)*(eK x b A k*F))*(bs 5 (W (Q ⟨c.heap.size,0,U⟩) 480 480) (ee (placesOf P))*(bs 5 (W va (ee P).length vc) (ee P)*pt sc (dx b n))))).left
end
end Go.Proofs.Fs
namespace Go.SL
open RowKit
def N3 (L:List aM):Nat:=(L.length+14)/15
def kz (L:List aM):List (List aM):=(List.range (N3 L)).map (gU L)
def lN (L:List aM):(kz L).length=N3 L:=by unfold kz;rw [List.length_map,List.length_range]
def EV {L:List aM} {i:Nat} (h:i<N3 L):(kz L)[i]'(by rw [lN];exact h)=gU L i:=by
 unfold kz;rw [List.getElem_map,List.getElem_range]
def xB (L:List aM):∀ m,((List.range m).map (gU L)).flatten=L.take (15*m)
 | 0=>Si0
 | m+1=>by
  rw [List.range_succ,E2,K9,xB L m];show _++(gU L m++[])=_
  rw [L8,show 15*(m+1)=15*m+15 by omega,List.take_add]
  rfl
def tX (L:List aM):(kz L).flatten=L:=by
 unfold kz;rw [xB,E5];unfold N3;omega
end Go.SL
namespace Go.Proofs.Fs
open RowKit SL Proofs.Ba
attribute [local go_sem] Oper.semAt_some
section
variable {n:Nat} {x:Fx n} {b k id:Nat} {A:Nat->Option AF} {f:AF} {L:List aM} {w:T} {F:ai}
def Xd (p:List aM × R) (a:Array R):ai:=fact (a=#[p.2,Y X 0])*sl 90 2 p.2 p.1.length (bE p.1)
def uw (x:Fx n) (b:Nat) (A:Nat->Option AF) (k id a d c:Nat) (z:Int):ai:=
 pt a (Z #[Y X z] 3 (0,0))*(pt d (dx b n)*(pt c (Z #[Y X (id:Int)] 3 (0,0))*eK x b A k))
def Xh (c:List (List aM × R)->ai) (L:List aM) (d:ai) (w0:T) (u:R) (wr:T):Prop:=
 ∃ (i:Nat) (a:List (List aM × R)),i<=N3 L/\u = Y X ((480*i:Nat):Int)/\a.map A1=(kz L).take i/\ak w0 wr/\ah wr (c a*d)
def AU (m0:Nat) (hf:A id=Q f) (D:Lz f L) (d j g:Nat) :
  dU Fence.wide m0 S 248 #[ax d,ax j,ax g] (uw x b A k id d j g ((32*L.length:Nat):Int)) Xd (fun c=>c.map A1=kz L) (fun c=>c.map A1 <+: kz L):=by
 intro lp l Ax G w0 w hY hs h;have p0:=D.len;obtain ⟨z,E⟩:=Nm (32*L.length)
 have hw:=fun w F h i m y hi=>BE (w:=w) (F:=F) (x:=x) (b:=b) (k:=k) h hf D i m y hi;rw [E] at hw;have HW:=ae hw;have P:=ae E;rw [E] at h ⊢;have r0:(z:Int)<=122880:=J
 have f0:=ae h;refine callsIn_of_wp func248 rfl trivial ?_ rfl;simp only [ntmps248,H5,D1,E4,H2,H1,J7,J5,J4,J3,E3,J2]
 gi_wp2_with fail
 gi_loopw [5] (fun u wr=>Xh l L (uw x b A k id d j g (z:Int)*G) w0 u wr) (fun u _=>480*N3 L-(intOf u).toNat)
 case atStart=>exact ⟨0,[],H7 _,rfl,rfl,hs,f0.o⟩
 case round=>
  obtain ⟨i,c,hi,rfl,r,d0,b0⟩:=hrel;have o:ah wr (pt d (Z #[Y X (z:Int)] 3 (0,0))*(pt j (dx b n)*(pt g (Z #[Y X (id:Int)] 3 (0,0))*(eK x b A k*(l c*G))))):=b0.to (by unfold uw;ac_rfl);have c0:=o.cell 0;have c1:=o.aj.cell 0;have c2:=o.aj.cell 1;have c3:=o.au.cell 0;have q0:N3 L=(L.length+14)/15:=rfl
  by_cases v:i<N3 L
  .obtain ⟨a,q⟩:=Nm (480*i)
   have l0:=P.o;have n0:(a:Int)<(z:Int):=J
   have h0:((480*i:Nat):Int)=(a:Int):=by rw [q]
   obtain ⟨m,y⟩:=Nm (min 480 (z-480*i))
   have e0:=HW.o wr _ (o.t00 (eK x b A k*(pt d (Z #[Y X (z:Int)] 3 (0,0))*(pt j (dx b n)*(pt g (Z #[Y X (id:Int)] 3 (0,0))*(l c*G)))))) i m y.symm J;rw [h0] at e0 ⊢;have g0:=ae e0
   have k0:∀ u:R,(c++[(gU L i,u)]).map A1=(kz L).take (i+1):=fun u=>by
    rw [E2,r,List.take_succ_eq_append_getElem (by rw [lN];exact v),EV v];rfl
   have t:=ae k0;have H:=ae q;have I:=ae r;have o0:min (480:Int) ((z:Int)-(a:Int))=(m:Int):=J
   gi_wp2_with fail
   refine mh g0.o ?_;rintro e s ⟨u,rfl,d2,h2⟩
   have hB:ah s (l c*(Xd (gU L i,u) #[u,Y X 0]*(uw x b A k id d j g (z:Int)*G))):=by
    have h3:=h2.to (by unfold uw;ac_rfl:_=(sl 90 2 u (gU L i).length (bE (gU L i)))*(l c*(uw x b A k id d j g (z:Int)*G)));have h4:ah s (Xd (gU L i,u) #[u,Y X 0]*(l c*(uw x b A k id d j g (z:Int)*G))):=(ah.ao.2 ⟨rfl,h3⟩:ah s (fact _*(_*_))).to (ar _ _ _).symm;exact h4.aj
   obtain ⟨fn,s0,assign,body,hy,hR⟩:=hY c (gU L i,u) #[u,Y X 0] _ s (by show K8 _ _ <+: _;rw [t.o];exact K3 _ _) (d0.trans d2) hB
   gi_wp2
   refine ⟨fun h=>(by cases h),hR.mono ?_⟩;rintro e W' (⟨rfl,B,C⟩|⟨rfl,B,C⟩)
   .gi_wp2
    go_roundw
    case rel=>exact ⟨i+1,c++[(gU L i,u)],v,by have:=H.o;go_num,t.o u,B,C⟩
    case measure=>have:=H.o;simp [intOf];omega
   .gi_wp2
    refine bodyPost_ret (results_none rfl _ _ _) rfl ?_;exact ⟨⟨_,rfl⟩,B,.inr ⟨_,by show K8 _ _ <+: _;rw [t.o];exact K3 _ _,C⟩⟩
  .obtain rfl:i=N3 L:=J
   have l0:=P.o;have i0:¬ ((480*N3 L:Nat):Int)<(z:Int):=J
   obtain ⟨a,q⟩:=Nm (480*N3 L)
   rw [q] at i0 ⊢;rw [E5 (by rw [lN];exact K6 _)] at r;have HS:=ae b0;have I:=ae r
   gi_wp2
   go_end0
   exact ⟨⟨_,rfl⟩,d0,.inl ⟨_,I.o,HS.o⟩⟩
end
section
variable {n:Nat} {x:Fx n} {b k id:Nat} {A:Nat->Option AF} {f:AF} {L:List aM} {w:T} {F:ai}
abbrev pE:Array R:=#[Y X 0,Y X 0,Y X 0,Y X 0,Y X 0,Y X 0,Y X 0,Y X 0,Y X 0,Y X 0,Y X 0,Y X 0,Y X 0,Y X 0,Y X 0,Y X 0,Y X 0,Y X 0,Y X 0,Y X 0]
def Un (d:R) (id z:Int) (a n:Nat) (w:T) (e:Ending) (c:T):Prop:=
 e = M (.func (.func 248) #[] #[ax (w.heap.size+2),ax w.heap.size,ax (w.heap.size+1)]) /\
  c=((w.alloc (dx a n)).alloc (Z #[Y X id] 3 (0,0))).alloc (Z #[Y X z] 3 (0,0))
def As (w:T) (b n:Nat) (id z:Int):Calls S 177 #[iH b n,Y X id,Y X z] w (Un (iH b n) id z b n w):=by
 unfold iH
 go_in
 go_wp2
 go_ret
 exact ⟨rfl,rfl⟩
def Bs {L:List aM} {a:List (List aM × R)} (h:a.map A1 <+: kz L):(a.map A1).flatten.length<=L.length:=by
 obtain ⟨t,c⟩:=h;have:=congrArg List.flatten c;rw [K9,tX] at this;rw [<- this,B3];omega
def Xl (c:Nat) (a:List (List aM × R)):ai:=ex fun v=>pt c (Z #[v] 80 (0,0))*sl 90 2 v (a.map A1).flatten.length (bE (a.map A1).flatten)
def Kp (p:List aM × R) (t:Array R):Array R:=(((t.setIfInBounds 28 p.2).setIfInBounds 29 (Y X 0)).setIfInBounds 9 p.2).setIfInBounds 10 (Y X 0)
def pT {w:T} {c:Array R} {a b:Nat} {v e:R} {F:ai} (i:c[4]?=Q (ax a)) (j:c[5]?=Q (ax b)) (h:ah w (pt a (Z #[v] 80 (0,0))*(pt b (Z #[e] 31 (0,0))*F))) :
  (results Tryz.f98 c).run S w = .ok (.tuple #[v,e]) w:=by
 have d:=h.cell 0;have g:=h.aj.cell 0;simp [results,Tryz.results98,i,j,asAddr,ax,go_sem,d,g]
def kg (h:ah w (eK x b A k*F)) (hf:A id=Q f) (m0:Lz f L) :
  Calls S 98 #[iH b n,Y X (id:Int)] w (To x b A k L F w):=by
 have hA:=(((h.alloc (dx b n)).alloc (Z #[W U 0 0] 80 (0,0))).alloc (Z #[Y X 0] 31 (0,0)))
 have dA:=(((ak.refl w).alloc (dx b n)).alloc (Z #[W U 0 0] 80 (0,0))).alloc (Z #[Y X 0] 31 (0,0));simp only [L6] at hA;have D:=ae m0;have HF:=ae hf;clear h m0 hf;unfold iH;refine (callsIn_wide (n:=9)).1 ?_;refine callsIn_of_wp_marks func98 rfl trivial ?_ rfl;simp only [ntmps98,H5,D1,E4,H2,H1,J7,J5,J4,J3,E3,J2];have cA:=hA.au.cell 0;have cB:=hA.au.cell 1;simp at cA cB;refine wpIn_wide.2 ?_
 go_wp2_with fail
 generalize w.heap.size+1+1=s at *;generalize w.heap.size+1=r at *;generalize w.heap.size=sc at *;have hB:=hA.t00 (eK x b A k*(pt sc (dx b n)*(pt r (Z #[W U 0 0] 80 (0,0))*(pt s (Z #[Y X 0] 31 (0,0))*F))));apply (E0 hB HF.o).mono;rintro e c ⟨y,rfl,V0,W0,b1,F0,d2,h2⟩;have hX:(ints y.l).size=20:=by rw [ed,Nd.cells V0]
 have z:=h2.alloc (Z pE 75 (0,0));have Hz:=ae z.heap;have k0:=z.setRow (cs':=ints y.l);have B:=ae (((dA.trans d2).alloc (Z pE 75 (0,0))).setRow c.heap.size (ints y.l));have q0:Hid ((ints y.l).all (·.oneCell')=N):=by simp [RowKit.Hid,ints,Value.oneCell']
 have p0:Hid ((prog.info? 75).map (·.size)=Q (ints y.l).size):=by show _=_;rw [hX];exact bd
 have HX:=ae hX;have n0:((c.alloc (Z pE 75 (0,0))).setRow c.heap.size (ints y.l)).cell? ⟨c.heap.size,0,U⟩=Q (Y X 2):=by rw [<- D.o.kd,<- W0];exact k0.cell 0
 have n2:((c.alloc (Z pE 75 (0,0))).setRow c.heap.size (ints y.l)).cell? ⟨c.heap.size,2,U⟩=Q (Y X ((32*L.length:Nat):Int)):=by rw [<- D.o.sz,<- F0];exact k0.cell 2
 have r0:=ae (k0.t00 (pt c.heap.size (Z (ints y.l) 75 (0,0))*(eK x b A k*(pt sc (dx b n)*(pt r (Z #[W U 0 0] 80 (0,0))*(pt s (Z #[Y X 0] 31 (0,0))*F))))));have K0:=ae F0;unfold pE at *
 go_upto_region 7 with (refine wpList_store_row (by exact rfl) 75 (.tmp 6) (.tmp 15) (by exact rfl) c.heap.size (ints y.l) (by exact rfl) (by exact rfl) 75 _ (by with_reducible exact Hz.o) p0.o (by rw [HX.o];rfl) q0.o ?_)
 clear Hz p0 HX q0;have x0:(((c.alloc (Z #[Y X 0,Y X 0,Y X 0,Y X 0,Y X 0,Y X 0,Y X 0,Y X 0,Y X 0,Y X 0,Y X 0,Y X 0,Y X 0,Y X 0,Y X 0,Y X 0,Y X 0,Y X 0,Y X 0,Y X 0] 75 (0,0))).setRow c.heap.size (ints y.l))).heap.size=c.heap.size+1:=by simp [World.setRow]
 generalize ((c.alloc (Z #[Y X 0,Y X 0,Y X 0,Y X 0,Y X 0,Y X 0,Y X 0,Y X 0,Y X 0,Y X 0,Y X 0,Y X 0,Y X 0,Y X 0,Y X 0,Y X 0,Y X 0,Y X 0,Y X 0,Y X 0] 75 (0,0))).setRow c.heap.size (ints y.l))=w3 at *;generalize c.heap.size=nb at *;have u:=r0.o.alloc (Z #[W U 0 0] 80 (0,0));have D3:=B.o.alloc (Z #[W U 0 0] 80 (0,0));rw [x0] at u;clear x0 r0 B n0 n2;generalize w3.alloc (Z #[W U 0 0] 80 (0,0))=a at *;generalize nb+1=j at *;have c0:=u.aC.cell 0;have c1:=u.aC.cell 1;have n2:a.cell? ⟨nb,2,U⟩=Q (Y X ((32*L.length:Nat):Int)):=by rw [<- D.o.sz,<- K0.o];exact u.aj.cell 2
 have l0:=As a b n id ((32*L.length:Nat):Int);obtain ⟨g0,I⟩:=Nm (((32*L.length:Nat):Int))
 rw [I] at n2 l0;have HZ:=ae I;have o0:=ae l0;clear I l0
 go_wp2_with fail
 apply o0.o.mono;rintro e w5 ⟨rfl,rfl⟩;have z:=((u.alloc (dx b n)).alloc (Z #[Y X (id:Int)] 3 (0,0))).alloc (Z #[Y X g0] 3 (0,0));have D5:=((D3.alloc (dx b n)).alloc (Z #[Y X (id:Int)] 3 (0,0))).alloc (Z #[Y X g0] 3 (0,0));simp only [L6] at z;clear u D3 o0 c0 c1 n2
 go_wp2_with fail
 have hF:ah (((a.alloc (dx b n)).alloc (Z #[Y X (id:Int)] 3 (0,0))).alloc (Z #[Y X g0] 3 (0,0))) (Xl j []*(uw x b A k id (a.heap.size+2) a.heap.size (a.heap.size+1) ((32*L.length:Nat):Int)*(pt r (Z #[W U 0 0] 80 (0,0))*(pt s (Z #[Y X 0] 31 (0,0))*F)))):=by
  refine ah.aq.2 ⟨W U 0 0,?_⟩;have t:=(z.dR 90 2)
  rw [HZ.o];have E:=t.t00 ((pt nb (Z (ints y.l) 75 (0,0))*pt sc (dx b n))*(pt j (Z #[W U 0 0] 80 (0,0))*(sl 90 2 (W U 0 0) 0 []*(pt (a.heap.size+1+1) (Z #[Y X g0] 3 (0,0))*(pt a.heap.size (dx b n)*(pt (a.heap.size+1) (Z #[Y X (id:Int)] 3 (0,0))*(eK x b A k*(pt r (Z #[W U 0 0] 80 (0,0))*(pt s (Z #[Y X 0] 31 (0,0))*F)))))))));exact E.right.to (by unfold uw;show _=_*sl _ 2 _ 0 []*_;ac_rfl)
 clear z;refine (wpIn_wide (n:=9)).1 ?_
 refine rY (w0:=w) rfl De0 (gf:=248) (lb:=#[ax (a.heap.size+2),ax a.heap.size,ax (a.heap.size+1)]) rfl trivial (enters func248 Kr0 rfl)
  (AU (x:=x) (b:=b) (k:=k) (id:=id) (A:=A) _ HF.o D.o (a.heap.size+2) a.heap.size (a.heap.size+1)) Kp (Xl j) (fun l p=>Xl j l*sl 90 2 p.2 p.1.length (bE p.1)) _ ?hps D5 hF ?assign ?body ?done
 case hps=>
  intro p vs C o h;unfold Xd at h;obtain ⟨rfl,_⟩:=ah.ao.1 (h.to (ar _ _ _))
  rfl
 case assign=>
  intro lp e0 l p vs C o Y0 _ G H hK;have m:=H.aj;unfold Xd at m;obtain ⟨rfl,i⟩:=ah.ao.1 (m.to (ar _ _ _));clear H m
  gi_wp2
  exact hK _ G (i.u00)
 case body=>
  intro lp e0 l p C o hp G H;have s0:=Bs hp;have a1:=D.o.len;obtain ⟨P,b0⟩:=p;rw [E2,K9] at s0;have e1:((l.map A1).flatten++(K8 A1 [(P,b0)]).flatten)=(l.map A1).flatten++P:=Si0
  rw [e1,B3] at s0;have H0:ah o (Xl j l*(sl 90 2 b0 P.length (bE P)*(pt lp (.loop e0)*C))):=H.u00;obtain ⟨v,m⟩:=ah.aq.1 H0;have i:ah o (sl 90 2 v (l.map A1).flatten.length (bE (l.map A1).flatten)*(pt j (Z #[v] 80 (0,0))*(sl 90 2 b0 P.length (bE P)*(pt lp (.loop e0)*C)))):=m.u00;obtain ⟨i0,hi,I,S0,R0⟩:=info_parts zq;have hR:=i.au.ny;have c0:o.cell? ⟨j,0,U⟩=Q v:=i.aj.cell 0;obtain ⟨v',w',u0,d0,T0⟩:=ah.append (P:=S) (ty:=80) underlying80 hi I S0 R0 rfl i hR (Kx P) (by unfold maxLen;omega) J;obtain ⟨d,g,rfl⟩:=az d0;have c1:w'.cell? ⟨j,0,U⟩=Q v:=d0.aj.cell 0;have f1:=d0.aj.frozen 0;have D0:=d0.aj.setCell 0 (W d ((l.map A1).flatten.length+P.length) g);obtain ⟨q,hq⟩:=Nm ((l.map A1).flatten)
  rw [hq] at u0 D0;have N0:=ae D0;have L0:=ae u0;have G0:=ae hq;have h0:=ae ((G.trans T0).setCell ⟨j,0,U⟩ (W d (q.length+P.length) g));simp only [Kp,List.setIfInBounds_toArray,List.set_cons_succ,List.set_cons_zero]
  gi_wp2_with (gi_at_builtin;refine cm L0.o _ _ rfl rfl rfl rfl rfl ?_)
  refine ⟨?_,?_⟩
  .exact h0.o
  .refine ah.aq.2 ⟨W d (q.length+P.length) g,?_⟩
   have e:(K8 A1 (l++[(P,b0)])).flatten=q++P:=by rw [E2,K9,G0.o];simp
   rw [e,B3,mT];have t:=N0.o;exact (t.t00 (sl 90 2 b0 P.length (bE P)*(pt j (Z #[W d (q.length+P.length) g] 80 (0,0))*sl 90 2 (W d (q.length+P.length) g) (q.length+P.length) (bE q++bE P)*(pt lp (.loop e0)*C)))).right
 case done=>
  intro B ys o hS G H;obtain ⟨v,m⟩:=ah.aq.1 H;have e:(ys.map A1).flatten=L:=by rw [hS,tX]
  rw [e] at m;have i:ah o (pt B (.deferred (Q []))*(pt j (Z #[v] 80 (0,0))*(pt r (Z #[W U 0 0] 80 (0,0))*(pt s (Z #[Y X 0] 31 (0,0))*(sl 90 2 v L.length (bE L)*(uw x b A k id (a.heap.size+2) a.heap.size (a.heap.size+1) ((32*L.length:Nat):Int)*F)))))):=m.u00;obtain ⟨d,g,rfl⟩:=az i.aI;have c0:=i.aj.cell 0;have z0:=i.au.cell 0;have f0:=i.au.frozen 0;have f1:=i.aC.frozen 0;have H3:=i.au.setCell 0 (W d L.length g);have d1:=H3.aC.cell 0;have Z0:=H3.aC.frozen 0;have H4:=ae (H3.aC.setCell 0 (Y X 0));have h0:=ae ((G.setCell ⟨r,0,U⟩ (W d L.length g)).setCell ⟨s,0,U⟩ (Y X 0));clear H m i H3 hF e D5
  go_wp2_with fail
  have t:=H4.o;have E:=t.t00 (pt B (.deferred (Q []))*(pt r (Z #[W d L.length g] 80 (0,0))*(pt s (Z #[Y X 0] 31 (0,0))*(sl 90 2 (W d L.length g) L.length (bE L)*(uw x b A k id (a.heap.size+2) a.heap.size (a.heap.size+1) ((32*L.length:Nat):Int)*(F*pt j (Z #[W d L.length g] 80 (0,0))))))));have hK:=E.heap;have h8:=(E.putObj (.deferred U)).right;clear t E;refine ⟨Si0,.inl ⟨_,_,rfl,run_takeDeferred hK,?_⟩⟩;refine ⟨_,pT rfl rfl h8,⟨W d L.length g,rfl,h0.o.putObj _ _,?_⟩⟩;have h9:=h8.right.right;unfold uw at h9;exact (h9.t00 ((sl 90 2 (W d L.length g) L.length (bE L)*(eK x b A k*F))*(pt j (Z #[W d L.length g] 80 (0,0))*(pt (a.heap.size+2) (Z #[Y X ((32*L.length:Nat):Int)] 3 (0,0))*(pt a.heap.size (dx b n)*pt (a.heap.size+1) (Z #[Y X (id:Int)] 3 (0,0))))))).left
end
end Go.Proofs.Fs
namespace Go.SL
open RowKit
def kZ (L:List aM) (nm:List UInt8):Option Nat:=L.findIdx? fun e=>decide (e.nm=nm)
def vM (L:List aM) (nm:List UInt8):Int:=match kZ L nm with|some i=>(i:Int)|none=>-1
def N4 {L:List aM} {nm:List UInt8} {i:Nat} (d:i<L.length) (h:(L[i]).nm=nm) (c:∀ j (a:j<i),(L[j]'Om0).nm≠nm):vM L nm=(i:Int):=by
 have:kZ L nm=Q i:=by
  unfold kZ;rw [List.findIdx?_eq_some_iff_getElem];exact ⟨d,decide_eq_true h,fun j a=>by simpa using c j a⟩
 unfold vM;rw [this]
def Ml {L:List aM} {nm:List UInt8} (h:∀ e ∈ L,e.nm≠nm):vM L nm=-1:=by
 have:kZ L nm=U:=by
  unfold kZ;rw [List.findIdx?_eq_none_iff];exact fun e a=>decide_eq_false (h e a)
 unfold vM;rw [this]
def uI (a b:List UInt8):((str a).toList == (str b).toList)=decide (a=b):=by
 rw [Lib.toList_data,Lib.toList_data,D6,beq_iff_eq,decide_eq_true_iff];exact Iff.rfl
end Go.SL
namespace Go.Proofs.Fs
open RowKit SL Proofs.Ba
def WE (b:Bool) (w:T) (e:Ending) (a:T):Prop:=e = M (O b)/\ah a (whole w)/\ak w a
def Fy (w:T) (e:aM) (a:Nat) (nm:List UInt8) (h:w.cell? ⟨a,0,U⟩=Q (V (str nm))) :
  Calls S 287 #[.agg #[Y X (e.nd:Int),V (str e.nm)],.pointer (Q ⟨a,0,U⟩)] w (WE (decide (e.nm=nm)) w):=by
 refine aK fun i c=>?_;have g:=ae ((ah.whole w).alloc (Z #[Y X (e.nd:Int),V (str e.nm)] 90 (0,0)));have d:=ae ((ak.refl w).alloc (Z #[Y X (e.nd:Int),V (str e.nm)] 90 (0,0)));have j:=bF w (Z #[Y X (e.nd:Int),V (str e.nm)] 90 (0,0)) _ _ h;have l:=uI e.nm nm
 go_in
 go_wp2_with fail
 exact c.o _ _ ⟨Si0,g.o.right,d.o⟩
def Vj (L:List aM) (nm:List UInt8) (w0:T) (F:ai) (u:R) (wr:T):Prop:=
 ∃ k:Nat,k<=L.length/\u = Y X (k:Int)/\(∀ j (a:j<L.length),j<k->(L[j]).nm≠nm)/\ak w0 wr/\ah wr F
def uW {w:T} {v:R} {L:List aM} {F:ai} (h:ah w (sl 90 2 v L.length (bE L)*F)) {k:Nat} (o:k<L.length) :
  ∃ g c,v = W (Q ⟨g,0,U⟩) L.length c/\w.cell? ⟨g,k*2,U⟩=Q (Y X ((L[k]).nd:Int))/\w.cell? ⟨g,k*2+1,U⟩=Q (V (str (L[k]).nm))/\L.length<=c/\c<=9223372036854775807:=by
 rcases h.cH with ⟨_,r,_⟩|⟨g,i,q,rfl,m,h4,h5,a,d⟩
 .omega
 .obtain ⟨j,l⟩:=Jm o
  refine ⟨g,i,rfl,?_,?_,m,by unfold maxLen at h4;omega⟩
  .rw [d.cell,<- j,<- a,L5,if_pos J,R2]
  .rw [d.cell,<- l,<- a,L5,if_pos J,R2]
def Xc (z:Int) (F:ai) (w:T) (e:Ending) (a:T):Prop:=e = M (Y X z)/\ah a F/\ak w a
def Fz (w:T) (v:R) (L:List aM) (l:Nat) (nm:List UInt8) (F:ai) (hl:L.length<=3840) (h:ah w (sl 90 2 v L.length (bE L)*(pt l (Z #[V (str nm)] 9 (0,0))*F))) :
  Calls S 286 #[v,.func (.func 287) #[] #[.pointer (Q ⟨l,0,U⟩)]] w (Xc (vM L nm) (sl 90 2 v L.length (bE L)*(pt l (Z #[V (str nm)] 9 (0,0))*F)) w):=by
 refine aK fun d0 D=>?_;obtain ⟨va,P,rfl⟩:=az h;have H:=ae h;obtain ⟨m,I⟩:=Nm L.length
 have a:=ae I;rw [I]
 go_in
 go_wp2_with fail
 go_loopw [8] (fun u wr=>Vj L nm w (sl 90 2 (W va L.length P) L.length (bE L)*(pt l (Z #[V (str nm)] 9 (0,0))*F)) u wr) (fun u _=>m-(intOf u).toNat)
 case atStart=>exact ⟨0,H7 _,rfl,fun j d h0=>absurd h0 (Nat.not_lt_zero _),ak.refl w,H.o⟩
 case round=>
  obtain ⟨k,hk,rfl,b0,C,B⟩:=hrel;rw [a.o] at hk;have s:=ae B;have q:=ae b0
  by_cases f0:k<m
  .have g0:(k:Int)<(m:Int):=J
   have G:k<L.length:=by have:=a.o;omega
   obtain ⟨e0,c,e,e1,e2,k1,k2⟩:=uW B G;obtain ⟨rfl,-,rfl⟩:=e;have cn:=B.aj.cell 0;have i:=Fy wr L[k] l nm cn;generalize hx:L[k]=x at *;have E:=ae hx;have i0:(m:Int)<=(P:Int):=by have:=a.o;omega
   by_cases g:x.nm=nm
   .rw [decide_eq_true g] at i
    have Hp:=ae i;have r:=ae g;clear i g
    go_wp2_with fail
    apply Hp.o.mono;rintro e w2 ⟨rfl,z,y⟩;have h3:=z.cU s.o;have hv:=N4 G (by rw [E.o];exact r.o) fun j d=>q.o j J d;have t:=ae hv;have o:=ae h3
    go_wp2_with fail
    exact D.o _ _ ⟨by rw [t.o];try (first|rfl|simp),o.o,C.trans y⟩
   .rw [decide_eq_false g] at i
    have Hp:=ae i;have r:=ae g
    go_wp2_with fail
    apply Hp.o.mono;rintro e w2 ⟨rfl,z,y⟩;have o:=ae (z.cU s.o)
    go_wp2_with fail
    go_roundw
    case rel=>exact ⟨k+1,by rw [a.o];omega,by go_num,fun j d c0=>by
     rcases Nat.lt_succ_iff_lt_or_eq.1 c0 with h|rfl
     .exact q.o j d h
     .rw [E.o];exact r.o,C.trans y,o.o⟩
    case measure=>simp [intOf];omega
  .obtain rfl:k=m:=J
   have hv:vM L nm=-1:=Ml fun e he=>by
    obtain ⟨j,d,rfl⟩:=K7 he;exact q.o j d (by have:=a.o;omega)
   have t:=ae hv
   go_wp2_with fail
   exact D.o _ _ ⟨by rw [t.o];try (first|rfl|simp),by have:=s.o;rwa [a.o] at this ⊢,C⟩
def si (v:R) (L:List aM) (nm:List UInt8) (F:ai) (w:T) (e:Ending) (a:T):Prop:=e = M (Y X (vM L nm))/\ah a (sl 90 2 v L.length (bE L)*F)/\ak w a
def de (w:T) (v:R) (L:List aM) (nm:List UInt8) (F:ai) (o:L.length<=3840) (h:ah w (sl 90 2 v L.length (bE L)*F)) :
  Calls S 224 #[v,V (str nm)] w (si v L nm F w):=by
 refine aK fun q c=>?_;have l:=(h.alloc (Z #[V (str nm)] 9 (0,0))).aj;have i:=ae ((ak.refl w).alloc (Z #[V (str nm)] 9 (0,0)));have m:=Fz _ v L _ nm F o l;have d:=ae m
 go_in
 go_wp2_with fail
 apply d.o.mono;rintro e r ⟨rfl,j,g⟩;have a:=ae j
 exact Zz (c.o _ _ ⟨rfl,a.o.fT,i.o.trans g⟩)
end Go.Proofs.Fs
