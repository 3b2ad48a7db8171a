/- Steps. -/
import Derived.Test.YtdickhgiahcnaaaGreatDoorNP27
import Derived.Test.YtdickhgiahcnaaaGreatDoorNP16
import Derived.Lib.IndexLaws
set_option linter.all false
set_option maxRecDepth 99999
set_option maxHeartbeats 0
open Go.SL
open Go.Value renaming int->Y,slice->W,string->V,bool->O
open Go.IntKind renaming i64->X
open Go.Obj renaming cells->Z
open Go.Ending renaming returned->M
open Go renaming World->T,Value->R
open Go.Proofs.Tryz renaming prog->S
open Option renaming some->Q,none->U
open Bool renaming true->N,false->K
open Go.SL renaming Om0->J
open Go.Proofs.Tryz
open Prod renaming fst->A3
open List renaming length_append->A2,length_take->B2,length_cons->D9,take_of_length_le->D8,length_nil->D7,nil_append->D6,map_append->D1,drop_left'->E2,getElem?_append_right->G3,mem_of_mem_take->H8,size_toArray->H7,push_toArray->J7,append_toArray->J4,cons_append->J3,flatten_append->J2,map->K9,getElem_of_mem->K8,append_assoc->K6,length_drop->K5,take_prefix->K4,take_append_drop->K3,filter_append->K2,append_nil->K1,getElem?_take->L6,getElem?_eq_getElem->L5,mem_of_getElem?->L4,getElem?_replicate->L3,getElem?_append_left->L2,flatMap_append->L1,eq_of_mem_replicate->M2,length_replicate->M1,drop_eq_nil_of_le->N4,mem_of_mem_drop->N2,getElem?_eq_none->N1
open Bool renaming false_and->A1,and_false->B3,eq_iff_iff->B1,true_and->E5
open Nat renaming zero_le->H9,reduceAdd->H6,reduceSub->H5,le_refl->K7
open Array renaming replicate_succ->H2,replicate_zero->H1,getElem?_toList->O4
open Go.World renaming size_alloc->L8
namespace Go.SL
open RowKit
structure aL where
 nd:Nat
 nm:List UInt8
deriving DecidableEq
def Fp (l:List UInt8):Bool:=decide (1<=l.length) && (decide (l.length<=28) && !l.contains 0)
def aL.ok (e:aL):Bool:=decide (1<=e.nd) && (decide (e.nd<=3839) && Fp e.nm)
def aL.no:aL:=⟨0,[]⟩
def aL.enc (e:aL):List UInt8:=dD e.nd 2++(dD e.nm.length 1++(e.nm++zs (29-e.nm.length)))
def aL.v (e:aL):R:=.agg #[Y X (e.nd:Int),V (str e.nm)]
def aL.cells (e:aL):List R:=[Y X (e.nd:Int),V (str e.nm)]
def rU {l:List UInt8}:Fp l=N↔1<=l.length/\l.length<=28/\(0:UInt8) ∉ l:=by
 unfold Fp;simp
def aL.mH {e:aL}:e.ok=N↔1<=e.nd/\e.nd<=3839/\Fp e.nm=N:=by
 unfold aL.ok;simp
def aL.dK {e:aL} (h:e.ok=N):e.enc.length=32:=by
 have:=rU.1 (aL.mH.1 h).2.2;unfold aL.enc;simp only [A2,bp,bg];omega
def aL.Nt:aL.no.enc=zs 32:=by decide +kernel
def ta (l:List UInt8) (c:UInt8):Lib.indexByte l c<0↔c ∉ l:=by
 have m:=Lib.indexByte_ge l c;constructor
 .intro h i
  have:Lib.indexByte l c=-1:=J
  obtain ⟨k,d,g⟩:=K8 i;exact Lib.indexByte_none this k (by rw [L5 d,g])
 .intro h
  refine Int.not_le.1 fun a=>?_;obtain ⟨o,j⟩:=Int.eq_ofNat_of_zero_le a;have:=(Lib.indexByte_some j).1;exact h (L4 this)
def cK (l:List UInt8):Bool:=Fp l && (!l.contains 47 && (decide (l≠[46]) && decide (l≠[46,46])))
def sk {l:List UInt8} (h:cK l=N):Fp l=N:=by
 unfold cK at h;simp only [Bool.and_eq_true] at h;exact h.1
end Go.SL
namespace Go.Proofs.Fs
open RowKit SL Proofs.Ba
def iH (l:List UInt8):(str l).size=l.length:=by simp [str,ByteArray.size]
def xg (w:T) (e:aL):Calls S 243 #[e.v] w fun r u=>r = M (O e.ok)/\ag u (whole w)/\aj w u:=by
 refine aF fun D g=>?_;obtain ⟨n,l⟩:=e;have s:=((ag.whole w).alloc (Z #[Y X (n:Int),V (str l)] 81 (0,0)))
 have h:=ae ((aj.refl w).alloc (Z #[Y X (n:Int),V (str l)] 81 (0,0)));have d:=ae s.right;have j:=ta l 0;have i:=Tryz.strings_IndexByte (str l) 0;have o:(0:Int).toNat.toUInt8=(0:UInt8):=rfl;have q:(str l).data.toList=l:=rfl;rw [o,q] at i;have B:=iH l;obtain ⟨C,t⟩:=Nm (Lib.indexByte l 0)
 rw [t] at i j;have y:=ae i;have v:=ae j;have c:Hid ((aL.mk n l).ok=(decide (1<=n) && (decide (n<=3839) && (decide (1<=l.length) && (decide (l.length<=28) && !l.contains 0))))):=rfl;clear s i j t o q;obtain ⟨m,z⟩:=Nm l.length
 rw [z] at B c;unfold aL.v
 by_cases E:(n:Int)<1
 .have a:Hid ((aL.mk n l).ok=K):=by show _=_;rw [c.o,decide_eq_false J];rfl
  go_in
  go_wp2_with fail
  exact g.o _ _ ⟨by rw [a.o];try (first|rfl|simp),d.o,h.o⟩
 by_cases G:(3839:Int)<(n:Int)
 .have a:Hid ((aL.mk n l).ok=K):=by show _=_;rw [c.o,decide_eq_false (p:=n<=3839) J,A1,B3]
  go_in
  go_wp2_with fail
  exact g.o _ _ ⟨by rw [a.o];try (first|rfl|simp),d.o,h.o⟩
 by_cases H:(m:Int)<1
 .have a:Hid ((aL.mk n l).ok=K):=by show _=_;rw [c.o,decide_eq_false (p:=1<=m) J,A1,B3,B3]
  go_in
  go_wp2_with fail
  exact g.o _ _ ⟨by rw [a.o];try (first|rfl|simp),d.o,h.o⟩
 by_cases h4:(28:Int)<(m:Int)
 .have a:Hid ((aL.mk n l).ok=K):=by show _=_;rw [c.o,decide_eq_false (p:=m<=28) J,A1,B3,B3,B3]
  go_in
  go_wp2_with fail
  exact g.o _ _ ⟨by rw [a.o];try (first|rfl|simp),d.o,h.o⟩
 have a:Hid ((aL.mk n l).ok=decide (C<0)):=by
  show _=_
  rw [c.o,decide_eq_true (p:=1<=n) J,decide_eq_true (p:=n<=3839) J,decide_eq_true (p:=1<=m) J,decide_eq_true (p:=m<=28) J,E5,E5,E5,E5];rw [B1];simp only [Bool.not_eq_true',decide_eq_true_eq,v.o];simp
 go_in
 go_wp2_with fail
 apply (y.o _).mono;rintro e I ⟨rfl,rfl⟩
 go_wp2_with fail
 exact g.o _ _ ⟨by rw [a.o];try (first|rfl|simp),d.o,h.o⟩
def qG (w:T) (l:List UInt8):Calls S 138 #[V (str l)] w fun d0 w'=>d0 = M (O (cK l))/\w=w':=by
 refine aF fun e0 c=>?_;have d:=Tryz.strings_IndexByte (str l) 0;have g:=Tryz.strings_IndexByte (str l) 47;have u:(0:Int).toNat.toUInt8=(0:UInt8):=rfl;have v:(47:Int).toNat.toUInt8=(47:UInt8):=rfl;have o:(str l).data.toList=l:=rfl;rw [u,o] at d;rw [v,o] at g;have r:=ta l 0;have s:=ta l 47;have b0:=iH l;obtain ⟨h,y⟩:=Nm (Lib.indexByte l 0)
 obtain ⟨i,z⟩:=Nm (Lib.indexByte l 47)
 rw [y] at d r;rw [z] at g s;have t:=ae d;have j:=ae g
 have q:Hid (cK l=((decide (1<=l.length) && (decide (l.length<=28) && decide (h<0))) && (decide (i<0) && (decide (l≠[46]) && decide (l≠[46,46]))))):=by
  unfold cK Fp;congr 1
  .congr 2
   rw [B1];simp [r]
  .congr 1
   rw [B1];simp [s]
 have D:((str l).toList == [46]) = !decide (l≠[46]):=by
  rw [Lib.toList_data,B1,beq_iff_eq];simp [str]
 have E:((str l).toList == [46,46]) = !decide (l≠[46,46]):=by
  rw [Lib.toList_data,B1,beq_iff_eq];simp [str]
 obtain ⟨m,B⟩:=Nm l.length
 rw [B] at b0 q;have H:=ae D;have I:=ae E;clear B y z d g r s u o v D E
 by_cases h3:(m:Int)<1
 .have a:Hid (cK l=K):=by show _=_;rw [q.o,decide_eq_false (p:=1<=m) J,A1,A1]
  go_in
  go_wp2_with fail
  exact c.o _ _ ⟨by rw [a.o];try (first|rfl|simp),rfl⟩
 by_cases h4:(28:Int)<(m:Int)
 .have a:Hid (cK l=K):=by show _=_;rw [q.o,decide_eq_false (p:=m<=28) J,A1,B3,A1]
  go_in
  go_wp2_with fail
  exact c.o _ _ ⟨by rw [a.o];try (first|rfl|simp),rfl⟩
 have C:Hid (cK l=(decide (h<0) && (decide (i<0) && (decide (l≠[46]) && decide (l≠[46,46]))))):=Gr0
 by_cases h5:(0:Int)<=i
 .have a:Hid (cK l=K):=by show _=_;rw [C.o,decide_eq_false (p:=i<0) J,A1,B3]
  go_in
  go_wp2_with fail
  apply (j.o _).mono;rintro e G ⟨rfl,rfl⟩
  go_wp2_with fail
  exact c.o _ _ ⟨by rw [a.o];try (first|rfl|simp),rfl⟩
 by_cases h6:(0:Int)<=h
 .have a:Hid (cK l=K):=by show _=_;rw [C.o,decide_eq_false (p:=h<0) J,A1]
  go_in
  go_wp2_with fail
  apply (j.o _).mono;rintro e G ⟨rfl,rfl⟩
  go_wp2_with fail
  apply (t.o _).mono;rintro e w3 ⟨rfl,rfl⟩
  go_wp2_with fail
  exact c.o _ _ ⟨by rw [a.o];try (first|rfl|simp),rfl⟩
 have P:Hid (cK l=(decide (l≠[46]) && decide (l≠[46,46]))):=Gr0
 have n1:=H.o;have n2:=I.o;generalize decide (l≠[46])=p at *;generalize decide (l≠[46,46])=c0 at *;cases p <;> cases c0
 all_goals
  go_in
  go_wp2_with fail
  apply (j.o _).mono;rintro e G ⟨rfl,rfl⟩
  go_wp2_with fail
  apply (t.o _).mono;rintro e w3 ⟨rfl,rfl⟩
  go_wp2_with fail
  exact c.o _ _ ⟨by rw [P.o];try (first|rfl|simp),rfl⟩
end Go.Proofs.Fs
namespace Go.SL
open RowKit
def aL.may (e:aL):Prop:=e.ok=N\/e=aL.no
def aL.FO {e:aL} (h:e.may):e.nm.length<=28/\e.nd<=3839:=by
 rcases h with h|rfl
 .have:=aL.mH.1 h
  have a:=rU.1 this.2.2;exact ⟨a.2.1,this.2.1⟩
 .exact ⟨De0,De0⟩
def Gh {a:Int} {s:Nat} (rest:List UInt8) (c:0<=a) (d:a<(256:Int) ^ s):iM (dD a s++rest) s=a:=by
 rw [mE a s rest s (K7 _),Int.emod_eq_of_lt c d]
def aL.parts {e:aL} (d:e.may) {L rest:List UInt8} {o:Nat} (h:L.drop o=e.enc++rest) :
  iM (L.drop o) 2=(e.nd:Int)/\iM (L.drop (o+2)) 1=(e.nm.length:Int)/\(L.drop (o+3)).take 29=e.nm++zs (29-e.nm.length):=by
 obtain ⟨g,i⟩:=aL.FO d
 have a:L.drop (o+2)=dD e.nm.length 1++((e.nm++zs (29-e.nm.length))++rest):=by
  rw [<- List.drop_drop,h];unfold aL.enc;rw [K6,E2 (bp _ _)];simp only [K6]
 have c:L.drop (o+3)=(e.nm++zs (29-e.nm.length))++rest:=by
  rw [show o+3=(o+2)+1 by omega,<- List.drop_drop,a,E2 (bp _ _)]
 refine ⟨?_,?_,?_⟩
 .rw [h];unfold aL.enc;rw [K6];exact Gh _ J J
 .rw [a];exact Gh _ J J
 .rw [c,List.take_left']
  rw [A2,bg];omega
end Go.SL
namespace Go.Proofs.Fs
open RowKit SL Proofs.Ba
def Qi (r g c:Nat) (d:Array R) (L:List UInt8) (o n:Nat) (w:T) (F:ai) (e:Ending) (a:T):Prop:=
 ∃ v,e = M v/\ag a (bs 5 v ((L.drop o).take n)*(cy r g c d L (o+n)*F))/\aj w a
def EX (w:T) (r g a:Nat) (d:Array R) (L:List UInt8) (o n:Nat) (F:ai) (h:ag w (cy r g a d L o*F)) (B:o<L.length) (y:o+n<=L.length) (u:L.length<=1000000) :
  Calls S 204 #[az r,Y X (n:Int)] w (Qi r g a d L o n w F):=by
 have z:=ve w r g a d L o n F h B y u
 go_in
 go_wp2_with fail
 (refine z.mono ?_)
 rintro e D ⟨c,rfl,j,q⟩;have v:((L.drop o).take n).length=n:=by rw [B2,K5];omega
 have C:=sL j o n c J;have t:ag D (bs 5 (W U 0 0) []*(cy r g a d L (o+n)*F)):=j.eU _ _;obtain ⟨G,H,l,i,s,a3,E,rfl⟩:=iG t C Si0 J;simp only [D7,Nat.zero_add,v] at l i;have m:=ae l;rw [D6] at i
 go_wp2_with (at_builtin;refine wpList_append_run m.o _ _ rfl rfl rfl rfl rfl ?_)
 go_ret
 exact ⟨_,rfl,i,q.trans s⟩
def Lc:(prog.info? 81).map (·.size)=Q 2:=Kr0
def UX (r g c:Nat) (d:Array R) (L:List UInt8) (o:Nat) (x:aL) (w:T) (F:ai) (e:Ending) (a:T):Prop:=
 e = M (.tuple #[x.v,O N])/\ag a (cy r g c d L (o+32)*F)/\aj w a
def VE (m:Nat) (u:R):Prop:=∃ k:Nat,k<=29-m/\u = Y X (k:Int)
def qQ {w:T} {d:Array R} {a:Nat} {e:R} {c:Array R} {F:ai} (g:d[2]?=Q (az a)) (h:d[3]?=Q e) (j:ag w (pt a (Z c 81 (0,0))*F)) (i:c.size=2) :
  (results Tryz.f287 d).run S w = .ok (.tuple #[.agg c,e]) w:=by
 have l:=run_loadVar_row (P:=S) w a 81 81 c (0,0) _ j.heap underlying81 rfl (by rw [i];exact Lc);simp [results,Tryz.results287,g,h,asAddr,l]
def NJ (w:T) (r g d:Nat) (h:Array R) (L rest:List UInt8) (o:Nat) (x:aL) (F:ai) (h0:ag w (cy r g d h L o*F)) (hx:x.may) (ho:o+32<=L.length) (hL:L.drop o=x.enc++rest) (G:L.length<=1000000) :
  Calls S 287 #[az r] w (UX r g d h L o x w F):=by
 refine aF fun q0 HQ=>?_;obtain ⟨p1,p2,p3⟩:=aL.parts hx hL;obtain ⟨q1,q2⟩:=aL.FO hx;have hA:=h0.alloc (Z #[Y X 0,.string ⟨#[]⟩] 81 (0,0));have dA:=ae ((aj.refl w).alloc (Z #[Y X 0,.string ⟨#[]⟩] 81 (0,0)));have HX:=ae hx;have b0:=ae p1;have c0:=ae p2;have d0:=ae p3;have a:=hA.to (by ac_rfl:_=cy r g d h L o*(pt w.heap.size (Z #[Y X 0,.string ⟨#[]⟩] 81 (0,0))*F));have j0:=iV _ r g d h L o 2 _ a J J De0 G;have e0:=ae j0
 go_in
 go_wp2_with fail
 refine e0.o.mono ?_;generalize w.heap.size=l at *;rintro e w2 ⟨rfl,h2,d2⟩;have D2:=ae (dA.o.trans d2);have k0:=iV _ r g d h L (o+2) 1 _ h2 J J De0 G;have g0:=ae k0;have p0:(x.nm.length:Int)<=28:=J
 rw [b0.o]
 go_wp2_with fail
 refine g0.o.mono ?_;rintro e w3 ⟨rfl,h3,d3⟩;have D3:=ae (D2.o.trans d3);have hb:=EX _ r g d h L (o+2+1) 29 _ h3 J J G;have Hb:=ae hb;rw [c0.o];obtain ⟨m,H⟩:∃ m,x.nm.length=m:=⟨_,rfl⟩
 have s:=ae H;rw [H] at q1 p0;rw [H]
 go_wp2_with fail
 refine Hb.o.mono ?_;rintro e i ⟨v,rfl,h4,d4⟩;have D4:=ae (D3.o.trans d4)
 have E:ag i (bs 5 v (x.nm++zs (29-m))*(cy r g d h L (o+32)*(pt l (Z #[Y X 0,.string ⟨#[]⟩] 81 (0,0))*F))):=by
  rw [d0.o,s.o] at h4;exact h4
 have y:(x.nm++zs (29-m)).length=29:=by rw [A2,bg,s.o];omega
 obtain ⟨z,t,rfl,k1,k2,k3,-,-⟩:=M8 E (i:=0) J;rw [y];rw [y] at k1 k3
 have hz:∀ k,k<29-m->i.cell? ⟨z,m+k,U⟩=Q (Y .u8 0):=fun k hk=>by
  rw [k3 (m+k) J,List.getD,G3 (by rw [s.o];omega),s.o];unfold zs;rw [L3,if_pos J];rfl
 have n0:Rd i (W (Q ⟨z,0,U⟩) 29 t) (x.nm++zs (29-m)):=by have:=E.oa;rw [y] at this;exact ⟨by rw [y];exact this.1,by rw [y];exact this.2⟩
 have l0:Rd i (W (Q ⟨z,0,U⟩) m t) x.nm:=by
  rcases n0.2 with ⟨e,-⟩|⟨s0,c,e,ha⟩
  .cases e
  .simp only [Value.slice.injEq,Option.some.injEq] at e
   obtain ⟨rfl,-,rfl⟩:=e;refine ⟨Si0,.inr ⟨_,_,by rw [s.o],fun o0 u hu=>ha o0 u ?_⟩⟩;rw [D1,L2 (by have:=(List.getElem?_eq_some_iff.1 hu).1;exact this)];exact hu
 have t1:=qC i _ _ l0;have H4:=ae E;have Hz:=ae hz;have G0:(29:Int)<=(t:Int):=J
 have H0:(t:Int)<=9223372036854775807:=by unfold maxLen at k2;omega
 have T1:=ae t1
 go_wp2_with fail
 go_loop [27] (fun u=>VE m u) (fun u=>29-m-(intOf u).toNat)
 case atStart=>exact ⟨0,H9 _,rfl⟩
 case round=>
  obtain ⟨k,hk,rfl⟩:=hrel
  by_cases D0:k<29-m
  .have F0:(k:Int)<29-(m:Int):=J
   have i0:((29-m:Nat):Int)=29-(m:Int):=J
   go_wp2_with fail
   go_round
   case rel=>exact ⟨k+1,J,by go_num⟩
   case measure=>simp [intOf];omega
  .obtain rfl:k=29-m:=J
   have i0:((29-m:Nat):Int)=29-(m:Int):=J
   have t1:=T1.o;clear T1
   go_upto_region 13 with (fail)
   have a:=(H4.o.alloc (Z #[Y X (x.nd:Int),V (str x.nm)] 81 (0,0))).to (by ac_rfl:_=pt i.heap.size (Z #[Y X (x.nd:Int),V (str x.nm)] 81 (0,0))*(pt l (Z #[Y X 0,.string ⟨#[]⟩] 81 (0,0))*(cy r g d h L (o+32)*(F*bs 5 (W (Q ⟨z,0,U⟩) (x.nm++zs (29-m)).length t) (x.nm++zs (29-m))))));have dB:=ae (D4.o.alloc (Z #[Y X (x.nd:Int),V (str x.nm)] 81 (0,0)));generalize i.alloc (Z #[Y X (x.nd:Int),V (str x.nm)] 81 (0,0))=w5 at *;generalize i.heap.size=ec at *;have j:=ae a;have C:=a.cell 0;have D:=a.cell 1;rcases HX.o with I|m0
   .have h1:¬ (x.nd:Int)=0:=by have:=(aL.mH.1 I).1;omega
    have P:=xg w5 x;rw [I] at P;have Hr:=ae P;clear I P
    go_wp2_with fail
    refine Hr.o.mono ?_;rintro e w6 ⟨rfl,h6,d6⟩;have a:=h6.cM j.o;have C:=a.cell 0;have D:=a.cell 1;have r0:=a.ah.cell 0;have r1:=a.ah.cell 1;have f0:=a.ah.frozen 0;have f1:=a.ah.frozen 1;have q:=ae ((a.ah.setCell 0 (Y X (x.nd:Int))).setCell 1 (V (str x.nm)));have B:=ae (((dB.o.trans d6).setCell ⟨l,0,U⟩ (Y X (x.nd:Int))).setCell ⟨l,1,U⟩ (V (str x.nm)))
    go_wp2_with fail
    exact bodyPost_ret (qQ rfl rfl q.o rfl) rfl (HQ.o _ _ ⟨rfl,(q.o.right.right.to (ay _ _ _).symm).left,B.o⟩)
   .subst m0
    have r0:=j.o.ah.cell 0;have r1:=j.o.ah.cell 1;have f0:=j.o.ah.frozen 0;have f1:=j.o.ah.frozen 1;have q:=ae ((j.o.ah.setCell 0 (Y X 0)).setCell 1 (.string ⟨#[]⟩));have B:=ae ((dB.o.setCell ⟨l,0,U⟩ (Y X 0)).setCell ⟨l,1,U⟩ (.string ⟨#[]⟩));have u0:=C;have x0:w5.cell? ⟨ec,1,U⟩=Q (.string ⟨#[]⟩):=D;clear j C D
    go_wp2_with fail
    exact bodyPost_ret (qQ rfl rfl q.o rfl) rfl (HQ.o _ _ ⟨rfl,(q.o.right.right.to (ay _ _ _).symm).left,B.o⟩)
end Go.Proofs.Fs
namespace Go.SL
open RowKit
def dU (Es:List aL):List UInt8:=Es.flatMap aL.enc
def aL.Qj {e:aL} (h:e.may):e.enc.length=32:=by
 rcases h with h|rfl
 .exact aL.dK h
 .rw [aL.Nt];exact bg 32
def ir:∀ {Es:List aL},(∀ e ∈ Es,e.may)->(dU Es).length=32*Es.length
 | [],_=>rfl
 | e :: Es,h=>by
  have:=ir (Es:=Es) fun x a=>h x (List.mem_cons_of_mem _ a);unfold dU at this ⊢;rw [List.flatMap_cons,A2,this,aL.Qj (h e (List.mem_cons_self ..)),D9];omega
def kT (A B:List aL):dU (A++B)=dU A++dU B:=by unfold dU;rw [L1]
def IL {a:List aL} (h:∀ e ∈ a,e.may) {k:Nat} (g:k<a.length):(dU a).drop (32*k)=(a[k]).enc++dU (a.drop (k+1)):=by
 have e:a=a.take k++(a[k] :: a.drop (k+1)):=Si0
 have c:(dU (a.take k)).length=32*k:=by
  rw [ir fun x d=>h x (H8 d),B2];omega
 conv=>lhs;rw [e]
 rw [kT,E2 c]
 rfl
end Go.SL
namespace Go.Proofs.Fs
open RowKit SL Proofs.Ba
attribute [local go_sem] Oper.semAt_some
def VR (e:aL) (a:Array R):ai:=fact (a=#[e.v,O N])
def uj (c:Nat) (v:R) (a:List aL):ai:=pt c (Z #[v] 23 (0,0))*bs 5 v (dU a)
def zm (r g d:Nat) (h:Array R) (A:List aL->ai) (a:List aL) (c:ai) (w0:T) (k:Nat) (wr:T):Prop:=
 ∃ j:Nat,j<=a.length/\a.length<=j+k/\aj w0 wr/\ag wr (cy r g d h (dU a) (32*j)*(A (a.take j)*c))
def E4 {a:List aL} {k:Nat} (h:k<a.length):a.take k++[a[k]]=a.take (k+1):=Sa0
theorem DP (n:Nat) (bx:Nat) (v:Value) (Es:List aL) (hm:∀ e ∈ Es,e.may) (h0:0<Es.length) (hl:Es.length<=15) :
  fF Fence.wide n prog 286 #[.pointer (some ⟨bx,0,none⟩)] (uj bx v Es) VR (fun ys=>ys=Es) (fun ys=>ys <+: Es):=by
 intro lp A Ax G w0 w hY hs h;have hlen:=ir hm;have hB:ag w (pt bx (.cells #[v] 23 (0,0))*(bs 5 v (dU Es)*(A []*G))):=h.to (by unfold uj;ac_rfl);have c0:=hB.cell 0;have hr:=om w v (dU Es) hB.ah.oa (by omega) (by omega);have H:=ae h;have HM:=ae hm;have HL:=ae hlen;refine callsIn_of_wp func286 rfl trivial ?_ rfl;simp only [ntmps286,H7,D9,D7,H6,H5,H2,H1,J7,J4,D6,J3]
 gi_wp2_with fail
 refine kq hr ?_;rintro e w1 ⟨r,g,cap,cur,rfl,h1,d1⟩;have hst:=h1.under H.out;have ds:=hs.trans d1
 gi_wp2
 gi_loopw [] (fun wr=>∃ k,zm r g cap cur A Es (uj bx v Es*G) w0 k wr) (fun wr=>leastOf (fun k=>zm r g cap cur A Es (uj bx v Es*G) w0 k wr))
 case atStart=>exact ⟨Es.length,0,H9 _,by omega,ds,hst⟩
 case round=>
  obtain ⟨hk,hmin⟩:=leastOf_spec hrel;generalize leastOf (fun k=>zm r g cap cur A Es (uj bx v Es*G) w0 k wr)=gk at hk hmin ⊢;obtain ⟨j,hj,hjk,hside,hsat⟩:=hk;have hleft:=BV wr r g cap cur (dU Es) (32*j) _ hsat;rw [HL.out] at hleft
  by_cases hlt:j<Es.length
  .obtain ⟨q,hq⟩:∃ q,32*Es.length-32*j=q:=⟨_,rfl⟩
   rw [hq] at hleft;have hq1:(32:Int)<=(q:Int):=by omega
   have hmay:=HM.out _ (List.getElem_mem hlt);have hdr:=IL HM.out hlt;have hsl:=NJ wr r g cap cur (dU Es) (dU (Es.drop (j+1))) (32*j) Es[j] _ hsat hmay (by rw [HL.out];omega) hdr (by rw [HL.out];omega);have hsn:=E4 hlt;have hpre:Es.take j++[Es[j]] <+: Es:=by rw [hsn];exact K4 _ _
   have Hsl:=ae hsl;have Hsn:=ae hsn;have Hpre:=ae hpre;have HJ:=ae hjk;generalize Es[j]=x at *
   gi_wp2_with fail
   refine kq hleft ?_;rintro e w2 ⟨rfl,rfl⟩
   gi_wp2_with fail
   refine kq Hsl.out ?_;rintro e w3 ⟨rfl,h3,d3⟩;have hA:=h3.alloc (.cells #[.int .i64 (x.nd:Int),.string (str x.nm)] 81 (0,0));have dA:=(hside.trans d3).alloc (.cells #[.int .i64 (x.nd:Int),.string (str x.nm)] 81 (0,0));unfold aL.v
   have hB:ag (w3.alloc (.cells #[.int .i64 (x.nd:Int),.string (str x.nm)] 81 (0,0))) (A (Es.take j)*(VR x #[.agg #[.int .i64 (x.nd:Int),.string (str x.nm)],.bool true]*(cy r g cap cur (dU Es) (32*j+32)*(uj bx v Es*G)))):=by
    have h9:=hA.right;have h10:=h9.to (by ac_rfl:_=A (Es.take j)*(cy r g cap cur (dU Es) (32*j+32)*(uj bx v Es*G)));exact ag.ah (ag.aq.2 ⟨rfl,h10⟩)
   obtain ⟨fn,tmps,assign,body,hy,hR⟩:=hY (Es.take j) x #[.agg #[.int .i64 (x.nd:Int),.string (str x.nm)],.bool true] _ _ Hpre.out dA hB
   gi_wp2
   refine ⟨fun h=>(by cases h),hR.mono ?_⟩;rintro e W' (⟨rfl,hs5,hsat5⟩|⟨rfl,hs5,hsat5⟩)
   .have hrel':zm r g cap cur A Es (uj bx v Es*G) w0 (gk-1) W':=
     ⟨j+1,hlt,by have:=HJ.out;omega,hs5,by rw [<- Hsn.out,Nat.mul_add];exact hsat5.ah⟩
    gi_wp2
    go_roundw
    case rel=>exact ⟨_,hrel'⟩
    case measure=>exact Nat.lt_of_le_of_lt ((leastOf_spec ⟨_,hrel'⟩).2 _ hrel') (by have:=HJ.out;omega)
   .gi_wp2
    refine bodyPost_ret (results_none rfl _ _ _) rfl ?_;exact ⟨⟨_,rfl⟩,hs5,.inr ⟨_,Hpre.out,hsat5.iD⟩⟩
  .obtain rfl:j=Es.length:=by omega
   rw [Nat.sub_self] at hleft;have hleft2:=hleft;rw [List.take_length] at hsat;have HS:=ae hsat.right
   gi_wp2_with fail
   refine kq hleft2 ?_;rintro e w2 ⟨rfl,rfl⟩
   gi_wp2
   go_end0
   exact ⟨⟨_,rfl⟩,hside,.inl ⟨_,rfl,HS.out⟩⟩
end Go.Proofs.Fs
namespace Go.SL
open RowKit
def bG (P:List aL):List R:=P.flatMap aL.cells
def zB (P:List aL):(bG P).length=P.length*2:=by
 unfold bG
 induction P with
 | nil=>rfl
 | cons e P a=>rw [List.flatMap_cons,A2,a,D9];show 2+_=_;omega
def mj (A B:List aL):bG (A++B)=bG A++bG B:=by unfold bG;rw [L1]
def JC {P:List aL} {k:Nat} (d:k<P.length):(bG P)[k*2]?=Q (Y X ((P[k]).nd:Int))/\(bG P)[k*2+1]?=Q (V (str (P[k]).nm)):=by
 have e:P=P.take k++(P[k] :: P.drop (k+1)):=by rw [List.getElem_cons_drop d,K3]
 have a:(bG (P.take k)).length=k*2:=by rw [zB,B2];omega
 have c:bG P=bG (P.take k)++(Y X ((P[k]).nd:Int) :: V (str (P[k]).nm) :: bG (P.drop (k+1))):=by
  conv=>lhs;rw [e]
  rw [mj];rfl
 rw [c];constructor
 .rw [G3 J,a,Nat.sub_self];rfl
 .rw [G3 J,a,show k*2+1-k*2=1 by omega];rfl
def GU (P:List aL):∀ u ∈ bG P,u.oneCell'=N:=by
 intro u a;obtain ⟨e,_,h⟩:=List.mem_flatMap.1 a;simp only [aL.cells,List.mem_cons,List.not_mem_nil,or_false] at h;rcases h with rfl|rfl <;> rfl
def placesOf (P:List aL):List aL:=P++List.replicate (15-P.length) aL.no
def jK {P:List aL} (h:∀ e ∈ P,e.ok=N):∀ e ∈ placesOf P,e.may:=by
 intro e c;rcases List.mem_append.1 c with a|a
 .exact .inl (h e a)
 .exact .inr (M2 a)
def eh (a:List aL):List aL:=a.filter fun e=>e.ok
def fQ (a:List aL):Bool:=a.any fun e => !e.ok
def FP:aL.no.ok=K:=De0
def xH {P:List aL} (h:∀ e ∈ P,e.ok=N):eh (placesOf P)=P:=by
 unfold eh placesOf;rw [K2,List.filter_eq_self.2 h,List.filter_eq_nil_iff.2 (fun e a=>by rw [M2 a,FP];exact Bool.noConfusion),K1]
def E8 {P:List aL} (h:∀ e ∈ P,e.ok=N) {c:List aL} {x:aL} (m:c++[x] <+: placesOf P) (d:x.ok=N):fQ c=K/\c.length<P.length:=by
 obtain ⟨t,r⟩:=m
 have l:c.length<P.length:=by
  refine Nat.lt_of_not_le fun j=>?_;have a:(placesOf P)[c.length]?=Q x:=Gr0
  unfold placesOf at a;rw [G3 j,L3] at a
  split at a
  .injection a with a
   rw [<- a,FP] at d;cases d
  .cases a
 refine ⟨?_,l⟩;unfold fQ;rw [List.any_eq_false];intro e g
 have:e ∈ P:=by
  obtain ⟨i,o,q⟩:=K8 g;have a:(placesOf P)[i]?=Q e:=Gr0
  unfold placesOf at a;rw [L2 J] at a;exact L4 a
 rw [h e this];decide
theorem E9 {P:List aL} (h:∀ e ∈ P,e.ok=true) {pre:List aL} {x:aL} (hp:pre++[x] <+: placesOf P):x.may:=by
 obtain ⟨t,ht⟩:=hp;exact jK h x (by rw [<- ht];simp)
end Go.SL
namespace Go.Proofs.Fs
open RowKit SL Proofs.Ba
attribute [local go_sem] Oper.semAt_some
def Qo (v:R) (w:T) (e:Ending) (a:T):Prop:=e = M (.func (.func 286) #[] #[.pointer (Q ⟨w.heap.size,0,U⟩)])/\a=w.alloc (Z #[v] 23 (0,0))
def Ee (w:T) (a:Option Addr) (n c:Nat):Calls S 264 #[W a n c] w (Qo (W a n c) w):=by
 go_enter func264,ntmps264
 go_wp2
 go_ret
 exact ⟨rfl,rfl⟩
def xU:(prog.info? 81).map (fun i=>(i.zero,i.size,i.bytes))=Q (Q (.agg #[Y X 0,.string ⟨#[]⟩]),2,24):=Kr0
def Gj (d c:Nat) (a:List aL):ai:=ex fun v=>pt d (Z #[v] 71 (0,0))*(sl 81 2 v (eh a).length (bG (eh a))*pt c (Z #[O (fQ a)] 4 (0,0)))
def TR (a:Option Addr) (d m o h g j:Nat) (l:List aL) (x:aL) (i:Act):ai:=ex fun c:Nat=>
 fact (i={ tmps:=#[W a 480 d,undef,az m,az o,az h,az g,az c,O N,W a 480 d,Y X 480,O K,W a 480 d,.func (.func 286) #[] #[az j],x.v,O N,undef,undef,undef,undef,undef,undef,undef,undef,undef,undef,undef,undef,undef,undef],defers:=[] }) *
  (pt c (Z #[Y X (x.nd:Int),V (str x.nm)] 81 (0,0))*Gj h g l)
def JV (a:List aL):eh (a++[aL.no])=eh a/\fQ (a++[aL.no])=N:=by
 unfold eh fQ;rw [K2,List.any_append];refine ⟨?_,?_⟩
 .rw [show List.filter (fun e:aL=>e.ok) [aL.no]=[] from by rw [List.filter_cons_of_neg (by rw [FP];exact Bool.noConfusion)];rfl,K1]
 .rw [show List.any [aL.no] (fun e:aL => !e.ok)=N from by rw [List.any_cons,FP];rfl,Bool.or_true]
def I3 (a:List aL) {x:aL} (h:x.ok=N):eh (a++[x])=eh a++[x]/\fQ (a++[x])=fQ a:=by
 unfold eh fQ;rw [K2,List.any_append];refine ⟨?_,?_⟩
 .rw [show List.filter (fun e:aL=>e.ok) [x]=[x] from List.filter_cons_of_pos h]
 .rw [show List.any [x] (fun e:aL => !e.ok)=K from by rw [List.any_cons,h];rfl,Bool.or_false]
def PO (a:List aL):(eh a).length<=a.length:=List.length_filter_le _ _
def uk {w:T} {c:Array R} {a b:Nat} {v e:R} {F:ai} (i:c[2]?=Q (az a)) (j:c[3]?=Q (az b)) (h:ag w (pt a (Z #[v] 71 (0,0))*(pt b (Z #[e] 31 (0,0))*F))) :
  (results Tryz.f237 c).run S w = .ok (.tuple #[v,e]) w:=by
 have d:=h.cell 0;have g:=h.ah.cell 0;simp [results,Tryz.results237,i,j,asAddr,az,go_sem,d,g]
def Ux (v:R) (P:List aL) (F:ai) (w:T) (e:Ending) (a:T):Prop:=
 ∃ u,e = M (.tuple #[u,Y X 0])/\ag a (sl 81 2 u P.length (bG P)*(bs 5 v (dU (placesOf P))*F))/\aj w a
def BR (w:T) (v:R) (P:List aL) (E:∀ e ∈ P,e.ok=N) (hl:P.length<=15) (F:ai) (h:ag w (bs 5 v (dU (placesOf P))*F)) :
  Calls S 237 #[v] w (Ux v P F w):=by
 obtain ⟨i0,hi,hz,n0,k0⟩:=info_parts xU;have m0:(placesOf P).length=15:=by unfold placesOf;rw [A2,M1];omega
 have l0:(dU (placesOf P)).length=480:=by rw [ir (jK E),m0]
 obtain ⟨d,g,rfl⟩:=aC h;have t:=(((h.alloc (Z #[W U 0 0] 71 (0,0))).alloc (Z #[Y X 0] 31 (0,0))).alloc (Z #[W U 0 0] 71 (0,0))).alloc (Z #[O K] 4 (0,0));have dA:=((((aj.refl w).alloc (Z #[W U 0 0] 71 (0,0))).alloc (Z #[Y X 0] 31 (0,0))).alloc (Z #[W U 0 0] 71 (0,0))).alloc (Z #[O K] 4 (0,0));simp only [L8] at t;rw [l0] at t ⊢;refine (callsIn_wide (n:=9)).1 ?_;refine callsIn_of_wp_marks func237 rfl trivial ?_ rfl;simp only [ntmps237,H7,D9,D7,H6,H5,H2,H1,J7,J4,D6,J3]
 gi_wp2_with fail
 generalize (((w.alloc (Z #[W U 0 0] 71 (0,0))).alloc (Z #[Y X 0] 31 (0,0))).alloc (Z #[W U 0 0] 71 (0,0))).alloc (Z #[O K] 4 (0,0))=w1 at *;refine nk (Ee w1 d 480 g) ?_;rintro en w2 ⟨rfl,rfl⟩;have hB:=t.alloc (Z #[W d 480 g] 23 (0,0));have dB:=dA.alloc (Z #[W d 480 g] 23 (0,0));clear t dA
 gi_wp2_with fail
 generalize w1.alloc (Z #[W d 480 g] 23 (0,0))=w2 at *;generalize w1.heap.size=u at *;generalize w.heap.size+1+1+1=l at *;generalize w.heap.size+1+1=o at *;generalize w.heap.size+1=z at *;generalize w.heap.size=y at *
 have u0:ag w2 (Gj o l []*(uj u (W d 480 g) (placesOf P)*(pt y (Z #[W U 0 0] 71 (0,0))*(pt z (Z #[Y X 0] 31 (0,0))*F)))):=
  ag.aw.2 ⟨W U 0 0,by
   have:=(hB.eU 81 2)
   exact this.to (by unfold uj;show _=_*(sl _ 2 _ 0 []*pt l (Z #[O K] _ _))*_;ac_rfl)⟩
 clear hB h
 refine kB (w0:=w) rfl De0 (gf:=286) (lb:=#[.pointer (Q ⟨u,0,U⟩)]) rfl trivial (enters func286 Kr0 rfl)
  (DP _ u (W d 480 g) (placesOf P) (jK E) J J) (Gj o l) (fun _ _=>fact False) (TR d g y z o l u)
  (pt y (Z #[W U 0 0] 71 (0,0))*(pt z (Z #[Y X 0] 31 (0,0))*F)) ?hps dB u0 ?assign ?body ?done ?stop
 case hps=>
  intro x vs B m h;unfold VR at h;obtain ⟨rfl,_⟩:=ag.aq.1 h
  rfl
 case assign=>
  intro I b0 a x vs B m G0 _ G H hK;have s:=H.ah;unfold VR at s;obtain ⟨rfl,q⟩:=ag.aq.1 s;have t:=q.alloc (Z #[Y X (x.nd:Int),V (str x.nm)] 81 (0,0));have hd:=G.alloc (Z #[Y X (x.nd:Int),V (str x.nm)] 81 (0,0));clear H s q
  have hk:=hK { tmps:=#[W d 480 g,undef,az y,az z,az o,az l,az m.heap.size,O N,W d 480 g,Y X 480,O K,W d 480 g,.func (.func 286) #[] #[az u],x.v,O N,undef,undef,undef,undef,undef,undef,undef,undef,undef,undef,undef,undef,undef,undef],defers:=[] } _ hd
   (by
    unfold TR;refine (ag.aw.2 ⟨m.heap.size,?_⟩);exact (ag.aq.2 ⟨rfl,t⟩:ag _ (fact _*_)).u00)
  clear t hd hK;unfold aL.v at *
  gi_wp2
  exact hk
 case body=>
  intro I b0 a x a' B m hp G H;unfold TR at H;obtain ⟨c,s⟩:=ag.aw.1 H;obtain ⟨rfl,q⟩:=ag.aq.1 (s.to (ay _ _ _));clear H s;have q0:=E9 E hp;have D:ag m (Gj o l a*(pt c (Z #[Y X (x.nd:Int),V (str x.nm)] 81 (0,0))*(pt I (.loop b0)*B))):=q.u00;obtain ⟨v,H4⟩:=ag.aw.1 D;have r:ag m (pt o (Z #[v] 71 (0,0))*(pt l (Z #[O (fQ a)] 4 (0,0))*(pt c (Z #[Y X (x.nd:Int),V (str x.nm)] 81 (0,0))*(sl 81 2 v (eh a).length (bG (eh a))*(pt I (.loop b0)*B))))):=H4.u00;clear q D H4;have c0:=r.cell 0;have c1:=r.ah.cell 0;have c2:=r.au.cell 0;have c3:=r.au.cell 1;have f0:=r.frozen 0;have f1:=r.ah.frozen 0;rcases q0 with j0|rfl
  .obtain ⟨e1,e2⟩:=E8 E hp j0
   obtain ⟨o1,o2⟩:=I3 a j0;have h1:¬ (x.nd:Int)=0:=by have:=(aL.mH.1 j0).1;omega
   rw [e1] at c1 o2;have S0:=PO a;have t:=r.alloc (Z #[Y X (x.nd:Int),V (str x.nm)] 81 (0,0))
   have hR:pC (m.alloc (Z #[Y X (x.nd:Int),V (str x.nm)] 81 (0,0))) 2 (W (Q ⟨m.heap.size,0,U⟩) 1 1) 1 [Y X (x.nd:Int),V (str x.nm)]:=
    ⟨rfl,.inr ⟨_,_,rfl,fun x0 D0 hu=>by
     rw [Addr.add_lit,Nat.zero_add];exact (t.cell x0).trans (by simpa using hu)⟩⟩
   have p0:=t.t00 (sl 81 2 v (eh a).length (bG (eh a))*(pt o (Z #[v] 71 (0,0))*(pt l (Z #[O (fQ a)] 4 (0,0))*(pt c (Z #[Y X (x.nd:Int),V (str x.nm)] 81 (0,0))*(pt m.heap.size (Z #[Y X (x.nd:Int),V (str x.nm)] 81 (0,0))*(pt I (.loop b0)*B))))));obtain ⟨v',w',r0,e0,s0⟩:=ag.append (P:=S) (ty:=71) underlying71 hi hz n0 k0 rfl p0 hR (by intro D0 hu;simp only [List.mem_cons,List.not_mem_nil,or_false] at hu;rcases hu with rfl|rfl <;> rfl) (by unfold maxLen;omega) J;obtain ⟨i,j,rfl⟩:=aC e0;have H0:=e0.ah.cell 0;have N0:=e0.ah.frozen 0;have g0:=e0.ah.setCell 0 (W i ((eh a).length+1) j);have h0:=ae g0;have o0:=ae r0;have O1:=ae o1;have O2:=ae o2;have E1:=ae e1;have d0:=ae (((G.alloc (Z #[Y X (x.nd:Int),V (str x.nm)] 81 (0,0))).trans s0).setCell ⟨o,0,U⟩ (W i ((eh a).length+1) j));unfold aL.v
   gi_wp2_with (gi_at_builtin;refine dw o0.o _ _ rfl rfl rfl rfl rfl ?_)
   refine ⟨d0.o,?_⟩;refine ag.aw.2 ⟨W i ((eh a).length+1) j,?_⟩;rw [O1.o,O2.o,A2,mj];have C:=h0.o;rw [E1.o] at C;have h7:=C.t00 ((pt c (Z #[Y X (x.nd:Int),V (str x.nm)] 81 (0,0))*pt m.heap.size (Z #[Y X (x.nd:Int),V (str x.nm)] 81 (0,0)))*(pt o (Z #[W i ((eh a).length+1) j] 71 (0,0))*(sl 81 2 (W i ((eh a).length+1) j) ((eh a).length+1) (bG (eh a)++[Y X (x.nd:Int),V (str x.nm)])*pt l (Z #[O K] 4 (0,0))*(pt I (.loop b0)*B))))
   exact h7.right.to (by
    have e:bG [x]=[Y X (x.nd:Int),V (str x.nm)]:=rfl;rw [e,List.length_singleton];ac_rfl)
  .obtain ⟨o1,o2⟩:=JV a
   have g0:=r.ah.setCell 0 (O N);have h0:=ae g0;have O1:=ae o1;have O2:=ae o2;have d0:=ae (G.setCell ⟨l,0,U⟩ (O N));have K0:=c2;have L0:m.cell? ⟨c,1,U⟩=Q (.string ⟨#[]⟩):=c3;have ev:aL.no.v = .agg #[Y X 0,.string ⟨#[]⟩]:=rfl;clear hi hz n0 k0 g0 o1 o2 r E hp l0 m0 c2 c3;rw [ev];clear ev
   gi_wp2_with fail
   refine ⟨d0.o,ag.aw.2 ⟨v,?_⟩⟩;rw [O1.o,O2.o];have C:=h0.o;exact (C.t00 (pt c (Z #[Y X (aL.no.nd:Int),V (str aL.no.nm)] 81 (0,0))*(pt o (Z #[v] 71 (0,0))*(sl 81 2 v (eh a).length (bG (eh a))*pt l (Z #[O N] 4 (0,0))*(pt I (.loop b0)*B))))).right.u00
 case done=>
  intro D2 ys m hS G H;subst hS;obtain ⟨v,s⟩:=ag.aw.1 H;rw [xH E] at s;obtain ⟨i,j,rfl⟩:=aC (s.t00 (sl 81 2 v P.length (bG P)*(pt o (Z #[v] 71 (0,0))*(pt l (Z #[O (fQ (placesOf P))] 4 (0,0))*(uj u (W d 480 g) (placesOf P)*(pt D2 (.deferred (Q []))*(pt y (Z #[W U 0 0] 71 (0,0))*(pt z (Z #[Y X 0] 31 (0,0))*F))))))));have q:ag m (pt D2 (.deferred (Q []))*(pt o (Z #[W i P.length j] 71 (0,0))*(pt y (Z #[W U 0 0] 71 (0,0))*(pt z (Z #[Y X 0] 31 (0,0))*(sl 81 2 (W i P.length j) P.length (bG P)*(bs 5 (W d 480 g) (dU (placesOf P))*(F*(pt u (Z #[W d 480 g] 23 (0,0))*pt l (Z #[O (fQ (placesOf P))] 4 (0,0)))))))))):=s.to (by unfold uj;ac_rfl);have c0:=q.ah.cell 0;have z0:=q.au.cell 0;have f0:=q.au.frozen 0;have f1:=q.aA.frozen 0;have D:=q.au.setCell 0 (W i P.length j);have T0:=D.aA.cell 0;have R0:=D.aA.frozen 0;have H4:=D.aA.setCell 0 (Y X 0);have r:=ae H4;have d0:=ae ((G.setCell ⟨y,0,U⟩ (W i P.length j)).setCell ⟨z,0,U⟩ (Y X 0))
  gi_wp2
  have C:=r.o;have h7:=C.t00 (pt D2 (.deferred (Q []))*(pt y (Z #[W i P.length j] 71 (0,0))*(pt z (Z #[Y X 0] 31 (0,0))*(sl 81 2 (W i P.length j) P.length (bG P)*(bs 5 (W d 480 g) (dU (placesOf P))*(F*(pt o (Z #[W i P.length j] 71 (0,0))*(pt u (Z #[W d 480 g] 23 (0,0))*pt l (Z #[O (fQ (placesOf P))] 4 (0,0))))))))));have hK:=h7.heap;have h8:=(h7.putObj (.deferred U)).right;clear C h7;refine ⟨Si0,.inl ⟨_,_,rfl,run_takeDeferred hK,?_⟩⟩;refine ⟨_,uk rfl rfl h8,⟨W i P.length j,rfl,?_,d0.o.putObj _ _⟩⟩;exact (h8.right.right.t00 ((sl 81 2 (W i P.length j) P.length (bG P)*(bs 5 (W d 480 g) (dU (placesOf P))*F))*(pt o (Z #[W i P.length j] 71 (0,0))*(pt u (Z #[W d 480 g] 23 (0,0))*pt l (Z #[O (fQ (placesOf P))] 4 (0,0)))))).left
 case stop=>
  intro F0 c ys m _ _ H;exact (ag.aq.1 H).1.elim
end Go.Proofs.Fs
namespace Go.SL
open RowKit
structure Jl (f:AF) (L:List aL):Prop where
 kd:f.kd=2
 sz:f.sz=32*L.length
 ok:∀ e ∈ L,e.ok=true
 uq:∀ p,p<32*L.length->f.uq p=(dU L).getD p 0
 len:L.length<=3840
def gG (L:List aL) (i:Nat):List aL:=(L.drop (15*i)).take 15
def kK {L:List aL} (h:∀ e ∈ L,e.ok=N):(dU L).length=32*L.length:=ir fun e a=>.inl (h e a)
def Dh {L:List aL} (h:∀ e ∈ L,e.ok=N) (k:Nat):(dU L).drop (32*k)=dU (L.drop k):=by
 by_cases c:k<=L.length
 .conv=>lhs;rw [<- K3 k L]
  rw [kT,E2];rw [kK fun e a=>h e (H8 a),B2];omega
 .rw [N4 (by omega:L.length<=k),N4 (by rw [kK h];omega)];rfl
def EN {L:List aL} (h:∀ e ∈ L,e.ok=N) (k:Nat):(dU L).take (32*k)=dU (L.take k):=by
 by_cases c:k<=L.length
 .conv=>lhs;rw [<- K3 k L]
  rw [kT,List.take_left'];rw [kK fun e a=>h e (H8 a),B2];omega
 .rw [D8 (by omega:L.length<=k),D8 (by rw [kK h];omega)]
def Ou {L:List aL} (h:∀ e ∈ L,e.ok=N) (i:Nat):∀ e ∈ gG L i,e.ok=N:=fun e a=>h e (N2 (H8 a))
def Aj (L:List aL) (i:Nat):(gG L i).length=min 15 (L.length-15*i):=by unfold gG;rw [B2,K5]
def Fa {L:List aL} (h:∀ e ∈ L,e.ok=N) (i:Nat):dU (gG L i)=((dU L).drop (480*i)).take 480:=by
 unfold gG;rw [show 480*i=32*(15*i) by omega,Dh h,show 480=32*15 from rfl,EN fun e a=>h e (N2 a)]
def Jl.sub {f:AF} {L:List aL} (D:Jl f L) (i:Nat):f.sub (480*i) (min 480 (32*L.length-480*i))=dU (gG L i):=by
 rw [Fa D.ok];unfold AF.sub;rw [D.sz];have c:=kK D.ok;apply List.ext_getElem?;intro j
 by_cases a:j<min 480 (32*L.length-480*i)
 .rw [List.getElem?_map,List.getElem?_range J,L6,if_pos J,List.getElem?_drop]
  show Q (f.uq (480*i+j))=_
  rw [D.uq _ J,List.getD,L5 J];rfl
 .rw [N1 (by rw [List.length_map,List.length_range];omega),N1 (by rw [B2,K5];omega)]
def Qh (k:Nat):dU (List.replicate k aL.no)=zs (32*k):=by
 induction k with
 | zero=>rfl
 | succ k a=>
  rw [List.replicate_succ];show aL.no.enc++dU _=_
  rw [a,aL.Nt];unfold zs;rw [List.replicate_append_replicate];congr 1;omega
def Ej {P:List aL} (h:∀ e ∈ P,e.ok=N) (a:P.length<=15):bY 480 (dU P)=dU (placesOf P):=by
 unfold placesOf bY;rw [kT,Qh,List.take_append];have e:=kK h;rw [D8 J];congr 1;unfold zs;rw [List.take_replicate];congr 1;omega
def Sz {w:T} {a:TypeId} {g n:Nat} {l:List UInt8} {F:ai} (c:l.length=n) (h:ag w (pt g (Z (ed l) a (0,0))*F)) (d:n<=1000000):ag w (bs a (W (Q ⟨g,0,U⟩) n n) l*F):=by
 have:=ag.nM (sz:=1) (n:=n) (cap:=n) h (K7 _) (by unfold maxLen;omega) (by rw [fj];omega);rw [bs,c];refine this.to ?_;congr 2;simp only [ed,Nat.mul_one,List.toList_toArray];rw [D8 (by simp;omega)]
end Go.SL
namespace Go.Proofs.Fs
open RowKit SL Proofs.Ba
section
variable {n:Nat} {x:Fx n} {b k id:Nat} {A:Nat->Option AF} {f:AF} {L:List aL} {w:T} {F:ai}
def Q0 (x:Fx n) (b:Nat) (A:Nat->Option AF) (k:Nat) (P:List aL) (F:ai) (w:T) (e:Ending) (a:T):Prop:=
 ∃ u,e = M (.tuple #[u,Y X 0])/\aj w a/\ag a (sl 81 2 u P.length (bG P)*(dx x b A k*F))
def BI (g0:ag w (dx x b A k*F)) (H:A id=Q f) (D:Jl f L) (i:Nat) (m:Nat) (I:m=min 480 (32*L.length-480*i)) (hi:15*i<L.length) :
  Calls S 190 #[fI b n,Y X (id:Int),Y X ((480*i:Nat):Int),Y X (m:Int)] w (Q0 x b A k (gG L i) F w):=by
 refine aF fun q0 u=>?_;have s:=D.sub i;have a:=Ou D.ok i;have o:=Aj L i;have b0:=kK a;have k0:=D.len;have h:m=32*(gG L i).length:=by rw [o];omega
 have j:(gG L i).length<=15:=J
 have l:=Ej a j;rw [<- I] at s;have B:=g0.alloc (cH b n);have dA:=ae ((aj.refl w).alloc (cH b n));have C:=B.ah;have r:=Mu C H (480*i) m;rw [s] at r;have d:=ae r;obtain ⟨P,g⟩:=Nm (gG L i)
 rw [g] at a o b0 h j l d;rw [g] at u;have i0:((480*i:Nat):Int)<=1000000:=J
 obtain ⟨r0,G⟩:=Nm (480*i)
 rw [G] at d ⊢ i0;have HM:=ae h;have c0:=ae l;have t:=ae a;clear I h o hi s b0 l a r C B g G D H k0;unfold fI
 go_in
 go_wp2_with fail
 apply d.o.mono;generalize w.heap.size=sc at *;rintro e c ⟨v,rfl,d2,y⟩;have E:=y.alloc (Z (ed (zs 480)) 5 (0,0));have D3:=ae ((dA.o.trans d2).alloc (Z (ed (zs 480)) 5 (0,0)));obtain ⟨w3,v3,n0,z,d3⟩:=yx (P:=S) (dT:=23) underlying23 Kr0 E (E.ah.oa) 3;rw [c0.o] at z;have l0:=jK t.o;have m0:(placesOf P).length=15:=by unfold placesOf;rw [A2,M1];omega
 have j0:(dU (placesOf P)).length=480:=by rw [ir l0,m0]
 have o0:=Sz j0 z De0;have h0:=BR w3 _ P t.o j _ o0;have e0:=ae h0;have f0:=ae n0;have p0:(Instr.makeSlice 23 (Y X 480) (Y X 480)).run S c = .ok (W (Q ⟨c.heap.size,0,U⟩) 480 480) (c.alloc (Z (ed (zs 480)) 5 (0,0))):=fq 480 J c;have D4:=ae (D3.o.trans d3);obtain ⟨va,vc,rfl⟩:=aC y
 go_wp2_with (refine fD f0.o _ _ rfl rfl rfl rfl rfl ?_)
 apply e0.o.mono;rintro e w4 ⟨x0,rfl,h4,d4⟩;obtain ⟨ua,uc,rfl⟩:=aC h4;have H4:=ae h4;have D5:=ae (D4.o.trans d4);obtain ⟨q,hq⟩:=Nm P.length
 have d0:=ae hq;have s0:(q:Int)*32=(m:Int):=by have:=HM.o;omega
 have u0:(q:Int)<=15:=J
 rw [hq]
 go_wp2_with fail
 refine u.o _ _ ⟨W ua q uc,rfl,D5.o,?_⟩;have h5:=H4.o;rw [d0.o] at h5 ⊢;exact (h5.t00 ((sl 81 2 (W ua q uc) q (bG P)*(dx x b A k*F))*(bs 5 (W (Q ⟨c.heap.size,0,U⟩) 480 480) (dU (placesOf P))*(bs 5 (W va (dU P).length vc) (dU P)*pt sc (cH b n))))).left
end
end Go.Proofs.Fs
namespace Go.SL
open RowKit
def Lz (L:List aL):Nat:=(L.length+14)/15
def km (L:List aL):List (List aL):=(List.range (Lz L)).map (gG L)
def lr (L:List aL):(km L).length=Lz L:=by unfold km;rw [List.length_map,List.length_range]
def Fw {L:List aL} {i:Nat} (h:i<Lz L):(km L)[i]'(by rw [lr];exact h)=gG L i:=by
 unfold km;rw [List.getElem_map,List.getElem_range]
def xm (L:List aL):∀ m,((List.range m).map (gG L)).flatten=L.take (15*m)
 | 0=>Si0
 | m+1=>by
  rw [List.range_succ,D1,J2,xm L m];show _++(gG L m++[])=_
  rw [K1,show 15*(m+1)=15*m+15 by omega,List.take_add]
  rfl
def ud (L:List aL):(km L).flatten=L:=by
 unfold km;rw [xm,D8];unfold Lz;omega
end Go.SL
namespace Go.Proofs.Fs
open RowKit SL Proofs.Ba
attribute [local go_sem] Oper.semAt_some
section
variable {n:Nat} {x:Fx n} {b k id:Nat} {A:Nat->Option AF} {f:AF} {L:List aL} {w:T} {F:ai}
def UM (p:List aL × R) (a:Array R):ai:=fact (a=#[p.2,Y X 0])*sl 81 2 p.2 p.1.length (bG p.1)
def ug (x:Fx n) (b:Nat) (A:Nat->Option AF) (k id a d c:Nat) (z:Int):ai:=
 pt a (Z #[Y X z] 3 (0,0))*(pt d (cH b n)*(pt c (Z #[Y X (id:Int)] 3 (0,0))*dx x b A k))
def Vz (c:List (List aL × R)->ai) (L:List aL) (d:ai) (w0:T) (u:R) (wr:T):Prop:=
 ∃ (i:Nat) (a:List (List aL × R)),i<=Lz L/\u = Y X ((480*i:Nat):Int)/\a.map A3=(km L).take i/\aj w0 wr/\ag wr (c a*d)
def Ao (l0:Nat) (hf:A id=Q f) (D:Jl f L) (d j g:Nat) :
  fF Fence.wide l0 S 189 #[az d,az j,az g] (ug x b A k id d j g ((32*L.length:Nat):Int)) UM (fun c=>c.map A3=km L) (fun c=>c.map A3 <+: km L):=by
 intro lp l Ax G w0 w hY hs h;have o0:=D.len;obtain ⟨z,E⟩:=Nm (32*L.length)
 have hw:=fun w F h i m y hi=>BI (w:=w) (F:=F) (x:=x) (b:=b) (k:=k) h hf D i m y hi;rw [E] at hw;have HW:=ae hw;have P:=ae E;rw [E] at h ⊢;have q0:(z:Int)<=122880:=J
 have f0:=ae h;refine callsIn_of_wp func189 rfl trivial ?_ rfl;simp only [ntmps189,H7,D9,D7,H6,H5,H2,H1,J7,J4,D6,J3]
 gi_wp2_with fail
 gi_loopw [5] (fun u wr=>Vz l L (ug x b A k id d j g (z:Int)*G) w0 u wr) (fun u _=>480*Lz L-(intOf u).toNat)
 case atStart=>exact ⟨0,[],H9 _,rfl,rfl,hs,f0.o⟩
 case round=>
  obtain ⟨i,c,hi,rfl,r,d0,b0⟩:=hrel;have o:ag wr (pt d (Z #[Y X (z:Int)] 3 (0,0))*(pt j (cH b n)*(pt g (Z #[Y X (id:Int)] 3 (0,0))*(dx x b A k*(l c*G))))):=b0.to (by unfold ug;ac_rfl);have c0:=o.cell 0;have c1:=o.ah.cell 0;have c2:=o.ah.cell 1;have c3:=o.au.cell 0;have p0:Lz L=(L.length+14)/15:=rfl
  by_cases v:i<Lz L
  .obtain ⟨a,q⟩:=Nm (480*i)
   have k0:=P.o;have m0:(a:Int)<(z:Int):=J
   have h0:((480*i:Nat):Int)=(a:Int):=by rw [q]
   obtain ⟨m,y⟩:=Nm (min 480 (z-480*i))
   have e0:=HW.o wr _ (o.t00 (dx x b A k*(pt d (Z #[Y X (z:Int)] 3 (0,0))*(pt j (cH b n)*(pt g (Z #[Y X (id:Int)] 3 (0,0))*(l c*G)))))) i m y.symm J;rw [h0] at e0 ⊢;have g0:=ae e0
   have j0:∀ u:R,(c++[(gG L i,u)]).map A3=(km L).take (i+1):=fun u=>by
    rw [D1,r,List.take_succ_eq_append_getElem (by rw [lr];exact v),Fw v];rfl
   have t:=ae j0;have H:=ae q;have I:=ae r;have n0:min (480:Int) ((z:Int)-(a:Int))=(m:Int):=J
   gi_wp2_with fail
   refine kq g0.o ?_;rintro e s ⟨u,rfl,d2,h2⟩
   have hB:ag s (l c*(UM (gG L i,u) #[u,Y X 0]*(ug x b A k id d j g (z:Int)*G))):=by
    have h3:=h2.to (by unfold ug;ac_rfl:_=(sl 81 2 u (gG L i).length (bG (gG L i)))*(l c*(ug x b A k id d j g (z:Int)*G)));have h4:ag s (UM (gG L i,u) #[u,Y X 0]*(l c*(ug x b A k id d j g (z:Int)*G))):=(ag.aq.2 ⟨rfl,h3⟩:ag s (fact _*(_*_))).to (ay _ _ _).symm;exact h4.ah
   obtain ⟨fn,r0,assign,body,hy,hR⟩:=hY c (gG L i,u) #[u,Y X 0] _ s (by show K9 _ _ <+: _;rw [t.o];exact K4 _ _) (d0.trans d2) hB
   gi_wp2
   refine ⟨fun h=>(by cases h),hR.mono ?_⟩;rintro e W' (⟨rfl,B,C⟩|⟨rfl,B,C⟩)
   .gi_wp2
    go_roundw
    case rel=>exact ⟨i+1,c++[(gG L i,u)],v,by have:=H.o;go_num,t.o u,B,C⟩
    case measure=>have:=H.o;simp [intOf];omega
   .gi_wp2
    refine bodyPost_ret (results_none rfl _ _ _) rfl ?_;exact ⟨⟨_,rfl⟩,B,.inr ⟨_,by show K9 _ _ <+: _;rw [t.o];exact K4 _ _,C⟩⟩
  .obtain rfl:i=Lz L:=J
   have k0:=P.o;have i0:¬ ((480*Lz L:Nat):Int)<(z:Int):=J
   obtain ⟨a,q⟩:=Nm (480*Lz L)
   rw [q] at i0 ⊢;rw [D8 (by rw [lr];exact K7 _)] at r;have HS:=ae b0;have I:=ae r
   gi_wp2
   go_end0
   exact ⟨⟨_,rfl⟩,d0,.inl ⟨_,I.o,HS.o⟩⟩
end
section
variable {n:Nat} {x:Fx n} {b k id:Nat} {A:Nat->Option AF} {f:AF} {L:List aL} {w:T} {F:ai}
abbrev ny:Array R:=#[Y X 0,Y X 0,Y X 0,Y X 0,Y X 0,Y X 0,Y X 0,Y X 0,Y X 0,Y X 0,Y X 0,Y X 0,Y X 0,Y X 0,Y X 0,Y X 0,Y X 0,Y X 0,Y X 0,Y X 0]
def TP (d:R) (id z:Int) (a n:Nat) (w:T) (e:Ending) (c:T):Prop:=
 e = M (.func (.func 189) #[] #[az (w.heap.size+2),az w.heap.size,az (w.heap.size+1)]) /\
  c=((w.alloc (cH a n)).alloc (Z #[Y X id] 3 (0,0))).alloc (Z #[Y X z] 3 (0,0))
def zf (w:T) (b n:Nat) (id z:Int):Calls S 139 #[fI b n,Y X id,Y X z] w (TP (fI b n) id z b n w):=by
 unfold fI
 go_in
 go_wp2
 go_ret
 exact ⟨rfl,rfl⟩
def Cd {L:List aL} {a:List (List aL × R)} (h:a.map A3 <+: km L):(a.map A3).flatten.length<=L.length:=by
 obtain ⟨t,c⟩:=h;have:=congrArg List.flatten c;rw [J2,ud] at this;rw [<- this,A2];omega
def VU (c:Nat) (a:List (List aL × R)):ai:=ex fun v=>pt c (Z #[v] 71 (0,0))*sl 81 2 v (a.map A3).flatten.length (bG (a.map A3).flatten)
def Ij (p:List aL × R) (t:Array R):Array R:=(((t.setIfInBounds 28 p.2).setIfInBounds 29 (Y X 0)).setIfInBounds 9 p.2).setIfInBounds 10 (Y X 0)
def pN {w:T} {c:Array R} {a b:Nat} {v e:R} {F:ai} (i:c[4]?=Q (az a)) (j:c[5]?=Q (az b)) (h:ag w (pt a (Z #[v] 71 (0,0))*(pt b (Z #[e] 31 (0,0))*F))) :
  (results Tryz.f77 c).run S w = .ok (.tuple #[v,e]) w:=by
 have d:=h.cell 0;have g:=h.ah.cell 0;simp [results,Tryz.results77,i,j,asAddr,az,go_sem,d,g]
def jc (h:ag w (dx x b A k*F)) (hf:A id=Q f) (l0:Jl f L) :
  Calls S 77 #[fI b n,Y X (id:Int)] w (Q0 x b A k L F w):=by
 have hA:=(((h.alloc (cH b n)).alloc (Z #[W U 0 0] 71 (0,0))).alloc (Z #[Y X 0] 31 (0,0)))
 have dA:=(((aj.refl w).alloc (cH b n)).alloc (Z #[W U 0 0] 71 (0,0))).alloc (Z #[Y X 0] 31 (0,0));simp only [L8] at hA;have D:=ae l0;have HF:=ae hf;clear h l0 hf;unfold fI;refine (callsIn_wide (n:=9)).1 ?_;refine callsIn_of_wp_marks func77 rfl trivial ?_ rfl;simp only [ntmps77,H7,D9,D7,H6,H5,H2,H1,J7,J4,D6,J3];have cA:=hA.au.cell 0;have cB:=hA.au.cell 1;simp at cA cB;refine wpIn_wide.2 ?_
 go_wp2_with fail
 generalize w.heap.size+1+1=s at *;generalize w.heap.size+1=r at *;generalize w.heap.size=sc at *;have hB:=hA.t00 (dx x b A k*(pt sc (cH b n)*(pt r (Z #[W U 0 0] 71 (0,0))*(pt s (Z #[Y X 0] 31 (0,0))*F))));apply (DM hB HF.o).mono;rintro e c ⟨y,rfl,T0,V0,Z0,D0,d2,h2⟩;have hX:(ints y.l).size=20:=by rw [er,Nd.cells T0]
 have z:=h2.alloc (Z ny 66 (0,0));have Hz:=ae z.heap;have j0:=z.setRow (cs':=ints y.l);have B:=ae (((dA.trans d2).alloc (Z ny 66 (0,0))).setRow c.heap.size (ints y.l));have p0:Hid ((ints y.l).all (·.oneCell')=N):=by simp [RowKit.Hid,ints,Value.oneCell']
 have o0:Hid ((prog.info? 66).map (·.size)=Q (ints y.l).size):=by show _=_;rw [hX];exact bC
 have HX:=ae hX;have n0:((c.alloc (Z ny 66 (0,0))).setRow c.heap.size (ints y.l)).cell? ⟨c.heap.size,0,U⟩=Q (Y X 2):=by rw [<- D.o.kd,<- V0];exact j0.cell 0
 have n2:((c.alloc (Z ny 66 (0,0))).setRow c.heap.size (ints y.l)).cell? ⟨c.heap.size,2,U⟩=Q (Y X ((32*L.length:Nat):Int)):=by rw [<- D.o.sz,<- D0];exact j0.cell 2
 have q0:=ae (j0.t00 (pt c.heap.size (Z (ints y.l) 66 (0,0))*(dx x b A k*(pt sc (cH b n)*(pt r (Z #[W U 0 0] 71 (0,0))*(pt s (Z #[Y X 0] 31 (0,0))*F))))));have G0:=ae D0;unfold ny at *
 go_upto_region 7 with (refine wpList_store_row (by exact rfl) 66 (.tmp 6) (.tmp 15) (by exact rfl) c.heap.size (ints y.l) (by exact rfl) (by exact rfl) 66 _ (by with_reducible exact Hz.o) o0.o (by rw [HX.o];rfl) p0.o ?_)
 clear Hz o0 HX p0;have u0:(((c.alloc (Z #[Y X 0,Y X 0,Y X 0,Y X 0,Y X 0,Y X 0,Y X 0,Y X 0,Y X 0,Y X 0,Y X 0,Y X 0,Y X 0,Y X 0,Y X 0,Y X 0,Y X 0,Y X 0,Y X 0,Y X 0] 66 (0,0))).setRow c.heap.size (ints y.l))).heap.size=c.heap.size+1:=by simp [World.setRow]
 generalize ((c.alloc (Z #[Y X 0,Y X 0,Y X 0,Y X 0,Y X 0,Y X 0,Y X 0,Y X 0,Y X 0,Y X 0,Y X 0,Y X 0,Y X 0,Y X 0,Y X 0,Y X 0,Y X 0,Y X 0,Y X 0,Y X 0] 66 (0,0))).setRow c.heap.size (ints y.l))=w3 at *;generalize c.heap.size=nb at *;have u:=q0.o.alloc (Z #[W U 0 0] 71 (0,0));have D3:=B.o.alloc (Z #[W U 0 0] 71 (0,0));rw [u0] at u;clear u0 q0 B n0 n2;generalize w3.alloc (Z #[W U 0 0] 71 (0,0))=a at *;generalize nb+1=j at *;have c0:=u.aA.cell 0;have c1:=u.aA.cell 1;have n2:a.cell? ⟨nb,2,U⟩=Q (Y X ((32*L.length:Nat):Int)):=by rw [<- D.o.sz,<- G0.o];exact u.ah.cell 2
 have k0:=zf a b n id ((32*L.length:Nat):Int);obtain ⟨g0,I⟩:=Nm (((32*L.length:Nat):Int))
 rw [I] at n2 k0;have HZ:=ae I;have m0:=ae k0;clear I k0
 go_wp2_with fail
 apply m0.o.mono;rintro e w5 ⟨rfl,rfl⟩;have z:=((u.alloc (cH b n)).alloc (Z #[Y X (id:Int)] 3 (0,0))).alloc (Z #[Y X g0] 3 (0,0));have D5:=((D3.alloc (cH b n)).alloc (Z #[Y X (id:Int)] 3 (0,0))).alloc (Z #[Y X g0] 3 (0,0));simp only [L8] at z;clear u D3 m0 c0 c1 n2
 go_wp2_with fail
 have hF:ag (((a.alloc (cH b n)).alloc (Z #[Y X (id:Int)] 3 (0,0))).alloc (Z #[Y X g0] 3 (0,0))) (VU j []*(ug x b A k id (a.heap.size+2) a.heap.size (a.heap.size+1) ((32*L.length:Nat):Int)*(pt r (Z #[W U 0 0] 71 (0,0))*(pt s (Z #[Y X 0] 31 (0,0))*F)))):=by
  refine ag.aw.2 ⟨W U 0 0,?_⟩;have t:=(z.eU 81 2)
  rw [HZ.o];have E:=t.t00 ((pt nb (Z (ints y.l) 66 (0,0))*pt sc (cH b n))*(pt j (Z #[W U 0 0] 71 (0,0))*(sl 81 2 (W U 0 0) 0 []*(pt (a.heap.size+1+1) (Z #[Y X g0] 3 (0,0))*(pt a.heap.size (cH b n)*(pt (a.heap.size+1) (Z #[Y X (id:Int)] 3 (0,0))*(dx x b A k*(pt r (Z #[W U 0 0] 71 (0,0))*(pt s (Z #[Y X 0] 31 (0,0))*F)))))))));exact E.right.to (by unfold ug;show _=_*sl _ 2 _ 0 []*_;ac_rfl)
 clear z;refine (wpIn_wide (n:=9)).1 ?_
 refine qP (w0:=w) rfl De0 (gf:=189) (lb:=#[az (a.heap.size+2),az a.heap.size,az (a.heap.size+1)]) rfl trivial (enters func189 Kr0 rfl)
  (Ao (x:=x) (b:=b) (k:=k) (id:=id) (A:=A) _ HF.o D.o (a.heap.size+2) a.heap.size (a.heap.size+1)) Ij (VU j) (fun l p=>VU j l*sl 81 2 p.2 p.1.length (bG p.1)) _ ?hps D5 hF ?assign ?body ?done
 case hps=>
  intro p vs C o h;unfold UM at h;obtain ⟨rfl,_⟩:=ag.aq.1 (h.to (ay _ _ _))
  rfl
 case assign=>
  intro lp e0 l p vs C o W0 _ G H hK;have m:=H.ah;unfold UM at m;obtain ⟨rfl,i⟩:=ag.aq.1 (m.to (ay _ _ _));clear H m
  gi_wp2
  exact hK _ G (i.u00)
 case body=>
  intro lp e0 l p C o hp G H;have r0:=Cd hp;have Y0:=D.o.len;obtain ⟨P,b0⟩:=p;rw [D1,J2] at r0;have e1:((l.map A3).flatten++(K9 A3 [(P,b0)]).flatten)=(l.map A3).flatten++P:=Si0
  rw [e1,A2] at r0;have H0:ag o (VU j l*(sl 81 2 b0 P.length (bG P)*(pt lp (.loop e0)*C))):=H.u00;obtain ⟨v,m⟩:=ag.aw.1 H0;have i:ag o (sl 81 2 v (l.map A3).flatten.length (bG (l.map A3).flatten)*(pt j (Z #[v] 71 (0,0))*(sl 81 2 b0 P.length (bG P)*(pt lp (.loop e0)*C)))):=m.u00;obtain ⟨i0,hi,I,R0,N0⟩:=info_parts xU;have hR:=i.au.oa;have c0:o.cell? ⟨j,0,U⟩=Q v:=i.ah.cell 0;obtain ⟨v',w',s0,d0,S0⟩:=ag.append (P:=S) (ty:=71) underlying71 hi I R0 N0 rfl i hR (GU P) (by unfold maxLen;omega) J;obtain ⟨d,g,rfl⟩:=aC d0;have c1:w'.cell? ⟨j,0,U⟩=Q v:=d0.ah.cell 0;have f1:=d0.ah.frozen 0;have x0:=d0.ah.setCell 0 (W d ((l.map A3).flatten.length+P.length) g);obtain ⟨q,hq⟩:=Nm ((l.map A3).flatten)
  rw [hq] at s0 x0;have L0:=ae x0;have K0:=ae s0;have F0:=ae hq;have h0:=ae ((G.trans S0).setCell ⟨j,0,U⟩ (W d (q.length+P.length) g));simp only [Ij,List.setIfInBounds_toArray,List.set_cons_succ,List.set_cons_zero]
  gi_wp2_with (gi_at_builtin;refine dw K0.o _ _ rfl rfl rfl rfl rfl ?_)
  refine ⟨?_,?_⟩
  .exact h0.o
  .refine ag.aw.2 ⟨W d (q.length+P.length) g,?_⟩
   have e:(K9 A3 (l++[(P,b0)])).flatten=q++P:=by rw [D1,J2,F0.o];simp
   rw [e,A2,mj];have t:=L0.o;exact (t.t00 (sl 81 2 b0 P.length (bG P)*(pt j (Z #[W d (q.length+P.length) g] 71 (0,0))*sl 81 2 (W d (q.length+P.length) g) (q.length+P.length) (bG q++bG P)*(pt lp (.loop e0)*C)))).right
 case done=>
  intro B ys o hS G H;obtain ⟨v,m⟩:=ag.aw.1 H;have e:(ys.map A3).flatten=L:=by rw [hS,ud]
  rw [e] at m;have i:ag o (pt B (.deferred (Q []))*(pt j (Z #[v] 71 (0,0))*(pt r (Z #[W U 0 0] 71 (0,0))*(pt s (Z #[Y X 0] 31 (0,0))*(sl 81 2 v L.length (bG L)*(ug x b A k id (a.heap.size+2) a.heap.size (a.heap.size+1) ((32*L.length:Nat):Int)*F)))))):=m.u00;obtain ⟨d,g,rfl⟩:=aC i.aJ;have c0:=i.ah.cell 0;have z0:=i.au.cell 0;have f0:=i.au.frozen 0;have f1:=i.aA.frozen 0;have H3:=i.au.setCell 0 (W d L.length g);have a1:=H3.aA.cell 0;have X0:=H3.aA.frozen 0;have H4:=ae (H3.aA.setCell 0 (Y X 0));have h0:=ae ((G.setCell ⟨r,0,U⟩ (W d L.length g)).setCell ⟨s,0,U⟩ (Y X 0));clear H m i H3 hF e D5
  go_wp2_with fail
  have t:=H4.o;have E:=t.t00 (pt B (.deferred (Q []))*(pt r (Z #[W d L.length g] 71 (0,0))*(pt s (Z #[Y X 0] 31 (0,0))*(sl 81 2 (W d L.length g) L.length (bG L)*(ug x b A k id (a.heap.size+2) a.heap.size (a.heap.size+1) ((32*L.length:Nat):Int)*(F*pt j (Z #[W d L.length g] 71 (0,0))))))));have hK:=E.heap;have h8:=(E.putObj (.deferred U)).right;clear t E;refine ⟨Si0,.inl ⟨_,_,rfl,run_takeDeferred hK,?_⟩⟩;refine ⟨_,pN rfl rfl h8,⟨W d L.length g,rfl,h0.o.putObj _ _,?_⟩⟩;have h9:=h8.right.right;unfold ug at h9;exact (h9.t00 ((sl 81 2 (W d L.length g) L.length (bG L)*(dx x b A k*F))*(pt j (Z #[W d L.length g] 71 (0,0))*(pt (a.heap.size+2) (Z #[Y X ((32*L.length:Nat):Int)] 3 (0,0))*(pt a.heap.size (cH b n)*pt (a.heap.size+1) (Z #[Y X (id:Int)] 3 (0,0))))))).left
end
end Go.Proofs.Fs
namespace Go.SL
open RowKit
def iE (L:List aL) (nm:List UInt8):Option Nat:=L.findIdx? fun e=>decide (e.nm=nm)
def wZ (L:List aL) (nm:List UInt8):Int:=match iE L nm with|some i=>(i:Int)|none=>-1
def KL {L:List aL} {nm:List UInt8} {i:Nat} (d:i<L.length) (h:(L[i]).nm=nm) (c:∀ j (a:j<i),(L[j]'Om0).nm≠nm):wZ L nm=(i:Int):=by
 have:iE L nm=Q i:=by
  unfold iE;rw [List.findIdx?_eq_some_iff_getElem];exact ⟨d,decide_eq_true h,fun j a=>by simpa using c j a⟩
 unfold wZ;rw [this]
def NO {L:List aL} {nm:List UInt8} (h:∀ e ∈ L,e.nm≠nm):wZ L nm=-1:=by
 have:iE L nm=U:=by
  unfold iE;rw [List.findIdx?_eq_none_iff];exact fun e a=>decide_eq_false (h e a)
 unfold wZ;rw [this]
def uy (a b:List UInt8):((str a).toList == (str b).toList)=decide (a=b):=by
 rw [Lib.toList_data,Lib.toList_data,B1,beq_iff_eq,decide_eq_true_iff];exact Iff.rfl
end Go.SL
namespace Go.Proofs.Fs
open RowKit SL Proofs.Ba
def Uh (b:Bool) (w:T) (e:Ending) (a:T):Prop:=e = M (O b)/\ag a (whole w)/\aj w a
def Ey (w:T) (e:aL) (a:Nat) (nm:List UInt8) (h:w.cell? ⟨a,0,U⟩=Q (V (str nm))) :
  Calls S 213 #[.agg #[Y X (e.nd:Int),V (str e.nm)],.pointer (Q ⟨a,0,U⟩)] w (Uh (decide (e.nm=nm)) w):=by
 refine aF fun i c=>?_;have g:=ae ((ag.whole w).alloc (Z #[Y X (e.nd:Int),V (str e.nm)] 81 (0,0)));have d:=ae ((aj.refl w).alloc (Z #[Y X (e.nd:Int),V (str e.nm)] 81 (0,0)));have j:=bW w (Z #[Y X (e.nd:Int),V (str e.nm)] 81 (0,0)) _ _ h;have l:=uy e.nm nm
 go_in
 go_wp2_with fail
 exact c.o _ _ ⟨Si0,g.o.right,d.o⟩
def TF (L:List aL) (nm:List UInt8) (w0:T) (F:ai) (u:R) (wr:T):Prop:=
 ∃ k:Nat,k<=L.length/\u = Y X (k:Int)/\(∀ j (a:j<L.length),j<k->(L[j]).nm≠nm)/\aj w0 wr/\ag wr F
def oD {w:T} {v:R} {L:List aL} {F:ai} (h:ag w (sl 81 2 v L.length (bG L)*F)) {k:Nat} (o:k<L.length) :
  ∃ g c,v = W (Q ⟨g,0,U⟩) L.length c/\w.cell? ⟨g,k*2,U⟩=Q (Y X ((L[k]).nd:Int))/\w.cell? ⟨g,k*2+1,U⟩=Q (V (str (L[k]).nm))/\L.length<=c/\c<=9223372036854775807:=by
 rcases h.dq with ⟨_,r,_⟩|⟨g,i,q,rfl,m,h4,h5,a,d⟩
 .omega
 .obtain ⟨j,l⟩:=JC o
  refine ⟨g,i,rfl,?_,?_,m,by unfold maxLen at h4;omega⟩
  .rw [d.cell,<- j,<- a,L6,if_pos J,O4]
  .rw [d.cell,<- l,<- a,L6,if_pos J,O4]
def UZ (z:Int) (F:ai) (w:T) (e:Ending) (a:T):Prop:=e = M (Y X z)/\ag a F/\aj w a
def DL (w:T) (v:R) (L:List aL) (l:Nat) (nm:List UInt8) (F:ai) (hl:L.length<=3840) (h:ag w (sl 81 2 v L.length (bG L)*(pt l (Z #[V (str nm)] 9 (0,0))*F))) :
  Calls S 212 #[v,.func (.func 213) #[] #[.pointer (Q ⟨l,0,U⟩)]] w (UZ (wZ L nm) (sl 81 2 v L.length (bG L)*(pt l (Z #[V (str nm)] 9 (0,0))*F)) w):=by
 refine aF fun d0 D=>?_;obtain ⟨va,P,rfl⟩:=aC h;have H:=ae h;obtain ⟨m,I⟩:=Nm L.length
 have a:=ae I;rw [I]
 go_in
 go_wp2_with fail
 go_loopw [8] (fun u wr=>TF L nm w (sl 81 2 (W va L.length P) L.length (bG L)*(pt l (Z #[V (str nm)] 9 (0,0))*F)) u wr) (fun u _=>m-(intOf u).toNat)
 case atStart=>exact ⟨0,H9 _,rfl,fun j d h0=>absurd h0 (Nat.not_lt_zero _),aj.refl w,H.o⟩
 case round=>
  obtain ⟨k,hk,rfl,b0,C,B⟩:=hrel;rw [a.o] at hk;have s:=ae B;have q:=ae b0
  by_cases f0:k<m
  .have g0:(k:Int)<(m:Int):=J
   have G:k<L.length:=by have:=a.o;omega
   obtain ⟨e0,c,e,e1,e2,k1,k2⟩:=oD B G;obtain ⟨rfl,-,rfl⟩:=e;have cn:=B.ah.cell 0;have i:=Ey wr L[k] l nm cn;generalize hx:L[k]=x at *;have E:=ae hx;have i0:(m:Int)<=(P:Int):=by have:=a.o;omega
   by_cases g:x.nm=nm
   .rw [decide_eq_true g] at i
    have Hp:=ae i;have r:=ae g;clear i g
    go_wp2_with fail
    apply Hp.o.mono;rintro e w2 ⟨rfl,z,y⟩;have h3:=z.cM s.o;have hv:=KL G (by rw [E.o];exact r.o) fun j d=>q.o j J d;have t:=ae hv;have o:=ae h3
    go_wp2_with fail
    exact D.o _ _ ⟨by rw [t.o];try (first|rfl|simp),o.o,C.trans y⟩
   .rw [decide_eq_false g] at i
    have Hp:=ae i;have r:=ae g
    go_wp2_with fail
    apply Hp.o.mono;rintro e w2 ⟨rfl,z,y⟩;have o:=ae (z.cM s.o)
    go_wp2_with fail
    go_roundw
    case rel=>exact ⟨k+1,by rw [a.o];omega,by go_num,fun j d c0=>by
     rcases Nat.lt_succ_iff_lt_or_eq.1 c0 with h|rfl
     .exact q.o j d h
     .rw [E.o];exact r.o,C.trans y,o.o⟩
    case measure=>simp [intOf];omega
  .obtain rfl:k=m:=J
   have hv:wZ L nm=-1:=NO fun e he=>by
    obtain ⟨j,d,rfl⟩:=K8 he;exact q.o j d (by have:=a.o;omega)
   have t:=ae hv
   go_wp2_with fail
   exact D.o _ _ ⟨by rw [t.o];try (first|rfl|simp),by have:=s.o;rwa [a.o] at this ⊢,C⟩
def qd (v:R) (L:List aL) (nm:List UInt8) (F:ai) (w:T) (e:Ending) (a:T):Prop:=e = M (Y X (wZ L nm))/\ag a (sl 81 2 v L.length (bG L)*F)/\aj w a
def dS (w:T) (v:R) (L:List aL) (nm:List UInt8) (F:ai) (o:L.length<=3840) (h:ag w (sl 81 2 v L.length (bG L)*F)) :
  Calls S 160 #[v,V (str nm)] w (qd v L nm F w):=by
 refine aF fun q c=>?_;have l:=(h.alloc (Z #[V (str nm)] 9 (0,0))).ah;have i:=ae ((aj.refl w).alloc (Z #[V (str nm)] 9 (0,0)));have m:=DL _ v L _ nm F o l;have d:=ae m
 go_in
 go_wp2_with fail
 apply d.o.mono;rintro e r ⟨rfl,j,g⟩;have a:=ae j
 exact Zz (c.o _ _ ⟨rfl,a.o.iD,i.o.trans g⟩)
end Go.Proofs.Fs
