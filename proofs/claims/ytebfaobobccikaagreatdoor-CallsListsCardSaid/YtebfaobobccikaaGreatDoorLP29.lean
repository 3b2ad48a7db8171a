/- Steps. -/
import Derived.Test.YtebfaobobccikaaGreatDoorLP26
import Derived.Test.YtebfaobobccikaaGreatDoorLP11
set_option linter.all false
set_option maxRecDepth 99999
set_option maxHeartbeats 0
open Go.SL
open Go.Value renaming int->V,slice->X,string->Y
open Go.Obj renaming cells->Z
open Go.Proofs.Tryz renaming prog->U
open Option renaming some->T,none->W
open Go.Proofs.Tryz
open List renaming length_cons->A1,prefix_append->D1,all_append->E1,eq_nil_of_length_eq_zero->H1,append_toArray->M1,length_singleton->N1
open Nat renaming le_refl->B1
open Array renaming replicate_succ->K1,replicate_zero->L1
namespace Go.SL
open RowKit
variable {r:List UInt8}
def E7 (r:List UInt8):List UInt8:=(r.drop 1).take ((r.drop 1).findIdx (· == 47))
def sQ (r:List UInt8):List UInt8:=(r.drop 1).drop ((r.drop 1).findIdx (· == 47))
theorem zY (h:r≠[]):(sQ r).length<r.length:=by
 unfold sQ;have:0<r.length:=List.length_pos_iff.2 h;simp only [List.length_drop];omega
def dz:Nat->List UInt8->List (List UInt8)
 | 0,_=>[]
 | f+1,r=>if r=[] then [] else E7 r :: dz f (sQ r)
theorem kO:∀ (f:Nat) (r:List UInt8),(dz f r).length<=f
 | 0,_=>B1 _
 | f+1,r=>by
  unfold dz
  split
  .exact Nat.zero_le _
  .have:=kO f (sQ r);rw [A1];omega
theorem lW (f:Nat):dz f []=[]:=by cases f <;> rfl
theorem nI {f:Nat} (h:r≠[]):dz (f+1) r=E7 r :: dz f (sQ r):=if_neg h
theorem Bz:∀ (f g:Nat) (r:List UInt8),r.length<=f->r.length<=g->dz f r=dz g r:=by
 intro f
 induction f with
 | zero=>
  intro g r h _;have:r=[]:=H1 (by omega);subst this;rw [lW,lW]
 | succ f b=>
  intro g r c d
  by_cases a:r=[]
  .rw [a,lW,lW]
  .cases g with
   | zero=>exact absurd (H1 (by omega)) a
   | succ g=>
    have:=zY a;rw [nI a,nI a,b g (sQ r) (by omega) (by omega)]
def bA (p:List UInt8):Option (List (List UInt8)):=
 if 1000<p.length\/p.getD 0 0≠47 then W else if p=[47] then T [] else if (dz p.length p).all cM=true then T (dz p.length p) else W
theorem vY (c:UInt8):∀ l:List UInt8,(if Lib.indexByte l c<0 then (l.length:Int) else Lib.indexByte l c)=(l.findIdx (· == c):Nat)
 | []=>rfl
 | b :: l=>by
  have a:=vY c l;have f:=Lib.indexByte_ge l c;unfold Lib.indexByte;rw [List.findIdx_cons]
  cases e:b == c with
  | true=>simp
  | false=>
   simp only [Bool.false_eq_true,if_false,cond_false,A1]
   by_cases h:Lib.indexByte l c=-1
   .rw [h] at a ⊢
    simp only [BEq.rfl,if_true];simp at a ⊢;omega
   .have d:(Lib.indexByte l c == -1)=false:=by simpa using h
    rw [d];simp only [Bool.false_eq_true,if_false];rw [if_neg (by omega)] at a ⊢;omega
def strs (l:List (List UInt8)):List Value:=l.map fun x=>Y (str x)
theorem LD (l:List UInt8) (k:Nat):(str l).extract 0 k=str (l.take k):=by
 apply ByteArray.ext;simp [str]
theorem MH (l:List UInt8) (k:Nat):(str l).extract k l.length=str (l.drop k):=by
 apply ByteArray.ext;simp [str];exact List.take_of_length_le (by simp)
end Go.SL
namespace Go.Proofs.Cl
open RowKit SL Proofs.Nn Proofs.Ba Proofs.Fs
theorem vi (l:List UInt8) (k:Nat) (a:k<=l.length) (w:World):(Instr.slice 9 (Y (str l)) (T (V .i64 (k:Int))) W W).run U w = .ok (Y (str (l.drop k))) w:=by
 rw [<- MH];simp [Instr.slice,Instr.sliceBounds,Instr.sliceBound,run_underlying underlying9,go_sem,iG,a,Result.andThen]
theorem LP (l:List UInt8) (k:Nat) (a:k<=l.length) (w:World):(Instr.slice 9 (Y (str l)) W (T (V .i64 (k:Int))) W).run U w = .ok (Y (str (l.take k))) w:=by
 rw [<- LD];simp [Instr.slice,Instr.sliceBounds,Instr.sliceBound,run_underlying underlying9,go_sem,iG,a,Result.andThen]
attribute [local go_sem] Oper.semAt_some
def Tf (p:List UInt8) (a:Array Value):ai:=fact (a=#[Y (str p)])
def wH (a:Nat) (p:List UInt8):ai:=pt a (Z #[Y (str p)] 9 (0,0))
def PS (b:List (List UInt8)->ai) (p:List UInt8) (c:ai) (w0:World) (u:Value) (wr:World):Prop:=
 ∃ (r:List UInt8) (a:List (List UInt8)),r.length<=p.length/\u = Y (str r)/\dz p.length p=a++dz r.length r/\aj w0 wr/\ag wr (b a*c)
def C8:Value->Nat
 | Y s=>s.size
 | _=>0
theorem zj (r:List UInt8):((str r).toList == [])=decide (r=[]):=by
 have:=tR r [];rw [show (str []).toList=[] by rw [Lib.toList_data];rfl] at this;exact this
theorem Dp (l0:Nat) (p:List UInt8) (g:Nat) :
  fW Fence.wide l0 U 189 #[az g] (wH g p) Tf (fun c=>c=dz p.length p) (fun c=>c <+: dz p.length p):=by
 intro lp j Ax G w0 w hY hs h;have c0:=h.ah.cell 0;refine callsIn_of_wp func189 rfl trivial ?_ rfl;simp only [ntmps189,List.size_toArray,A1,List.length_nil,Nat.reduceAdd,Nat.reduceSub,K1,L1,List.push_toArray,M1,List.nil_append,List.cons_append]
 gi_wp2_with fail
 gi_loopw [3] (fun u wr=>PS j p (wH g p*G) w0 u wr) (fun u _=>C8 u)
 case atStart=>exact ⟨p,[],B1 _,rfl,rfl,hs,h⟩
 case round=>
  obtain ⟨r,c,m0,rfl,M,L,K⟩:=hrel
  by_cases i:r=[]
  .subst i
   have j0:((str []).toList == [])=true:=zj [];have N:Hid (c=dz p.length p):=by show _=_;rw [M];simp [dz]
   have v:=ae K
   gi_wp2_with fail
   go_end0
   exact ⟨⟨_,rfl⟩,L,.inl ⟨_,N.out,v.out⟩⟩
  .have j0:((str r).toList == [])=false:=by rw [zj];exact decide_eq_false i
   have d0:=List.length_pos_iff.2 i;obtain ⟨t,q⟩:∃ t,r.drop 1=t:=⟨_,rfl⟩
   have h1:∀ w,(Instr.slice 9 (Y (str r)) (T (V .i64 1)) W W).run U w = .ok (Y (str t)) w:=by rw [<- q];exact vi r 1 d0
   obtain ⟨m,o⟩:∃ m,t.findIdx (· == 47)=m:=⟨_,rfl⟩
   have I:m<=t.length:=by rw [<- o];exact List.findIdx_le_length
   have g0:dz r.length r=t.take m :: dz (t.drop m).length (t.drop m):=by
    obtain ⟨k,hk⟩:∃ k,r.length=k+1:=⟨r.length-1,by omega⟩
    have e0:=zY i;rw [hk,nI i];have x:E7 r=t.take m:=by unfold E7;rw [q,o]
    have E:sQ r=t.drop m:=by unfold sQ;rw [q,o]
    rw [E] at e0;rw [x,E,Bz k (t.drop m).length (t.drop m) (by omega) (B1 _)]
   have h0:dz p.length p=(c++[t.take m])++dz (t.drop m).length (t.drop m):=by rw [M,g0];simp
   have i0:(t.drop m).length<r.length:=by rw [<- q];simp;omega
   have h2:=LP t m I;have h3:=vi t m I;have y:=Tryz.strings_IndexByte (str t) 47;have Q:(47:Int).toNat.toUInt8=(47:UInt8):=rfl;have x:(str t).data.toList=t:=rfl;rw [Q,x] at y;have n:=vY 47 t;obtain ⟨z,H⟩:∃ z,Lib.indexByte t 47=z:=⟨_,rfl⟩
   rw [H,o] at n;rw [H] at y;have O:=ae y;have l:=ae h0;have D:=ae i0;have v:=ae K
   gi_wp2_with fail
   refine Ba.lz (O.out _) ?_;rintro e A ⟨rfl,rfl⟩;have k0:=iG t;have R:∀ (s:World),aj w0 s->ag s (j (c++[t.take m])*(wH g p*G))->PS j p (wH g p*G) w0 (Y (str (t.drop m))) s:=fun s a b=>⟨_,_,by have:=D.out;omega,rfl,l.out,a,b⟩
   have B:=ae R
   obtain ⟨fn,n0,assign,body,hy,F⟩:=hY c (t.take m) #[Y (str (t.take m))] _ A (by rw [l.out];exact D1 _ _) L (by
    have S:ag A (Tf (t.take m) #[Y (str (t.take m))]*(j c*(wH g p*G))):=(ag.au.2 ⟨rfl,v.out⟩:ag A (fact _*_))
    exact S.ah)
   have f0:C8 (Y (str (t.drop m)))<C8 (Y (str r)):=by
    show (str _).size<(str _).size
    rw [iG,iG];exact D.out
   have C:=ae f0
   by_cases J:z<0
   .rw [if_pos J] at n
    have b0:t.length=m:=by omega
    rw [b0] at k0
    gi_wp2_with fail
    refine ⟨fun h=>(by cases h),F.mono ?_⟩;rintro e P (⟨rfl,d,f⟩|⟨rfl,d,f⟩)
    .gi_wp2_with fail
     go_roundw
     case rel=>exact B.out _ d f
     case measure=>exact C.out
    .gi_wp2_with fail
     refine bodyPost_ret (results_none rfl _ _ _) rfl ?_;exact ⟨⟨_,rfl⟩,d,.inr ⟨_,by rw [l.out];exact D1 _ _,f⟩⟩
   .rw [if_neg J] at n
    subst n
    gi_wp2_with fail
    refine ⟨fun h=>(by cases h),F.mono ?_⟩;rintro e P (⟨rfl,d,f⟩|⟨rfl,d,f⟩)
    .gi_wp2_with fail
     go_roundw
     case rel=>exact B.out _ d f
     case measure=>exact C.out
    .gi_wp2_with fail
     refine bodyPost_ret (results_none rfl _ _ _) rfl ?_;exact ⟨⟨_,rfl⟩,d,.inr ⟨_,by rw [l.out];exact D1 _ _,f⟩⟩
theorem Eb (w:World) (p:List UInt8):Calls U 139 #[Y (str p)] w fun e a=>e = .returned (.func (.func 189) #[] #[az w.heap.size])/\a=w.alloc (Z #[Y (str p)] 9 (0,0)):=by
 go_enter func139,ntmps139
 go_wp2
 go_ret
 exact ⟨rfl,rfl⟩
def ei (v:Value) (l:List (List UInt8)):ai:=sl 9 1 v l.length (strs l)
def CV (p:List UInt8) (w:World) (e:Ending) (a:World):Prop:=
 ∃ v,e = .returned (.tuple #[v,V .i64 (if (bA p).isSome=true then 0 else 1)])/\aj w a/\ag a (ei v ((bA p).getD [])*whole w)
theorem kN {w:World} {c:Array Value} {a b:Nat} {v e:Value} {F:ai} (g:c[2]?=T (az a)) (i:c[3]?=T (az b)) (h:ag w (pt a (Z #[v] 31 (0,0))*(pt b (Z #[e] 28 (0,0))*F))) :
  (results Tryz.f79 c).run U w = .ok (.tuple #[v,e]) w:=by
 have d:=h.cell 0;have f:=h.ah.cell 0;simp [results,Tryz.results79,g,i,asAddr,az,go_sem,d,f]
def U0 (a:Nat) (b:List (List UInt8)):ai:=ex fun v=>pt a (Z #[v] 31 (0,0))*ei v b
def Cs (b c d:Nat) (a:List (List UInt8)):ai:=fact (a.all cM=true)*(U0 b a*(pt c (Z #[X W 0 0] 31 (0,0))*pt d (Z #[V .i64 0] 28 (0,0))))
def R5 (a b:Nat) (p:List UInt8) (c:Code):ai:=fact (c = .ret/\(dz p.length p).all cM=false)*(pt a (Z #[X W 0 0] 31 (0,0))*pt b (Z #[V .i64 1] 28 (0,0)))
theorem qD:(prog.info? 9).map (fun i=>(i.zero,i.size,i.bytes))=T (T (.string ⟨#[]⟩),1,16):=by kernel_rfl
theorem xj (w:World) (p:List UInt8):Calls U 79 #[Y (str p)] w (CV p w):=by
 refine aJ fun N0 HQ=>?_
 have l0:∀ c:Int,∀ S,S=(w.alloc (Z #[X W 0 0] 31 (0,0))).alloc (Z #[V .i64 c] 28 (0,0))->∀ g0:Array Value,g0[2]?=T (az w.heap.size)->g0[3]?=T (az (w.heap.size+1))->c=(if (bA p).isSome=true then 0 else 1)->(bA p).getD []=[] ->
   ∃ v,(results Tryz.f79 g0).run U S = .ok v S/\N0 (.returned v) S:=by
  intro c S hw g0 t2 t3 hc he;have D:=((ag.whole w).alloc (Z #[X W 0 0] 31 (0,0))).alloc (Z #[V .i64 c] 28 (0,0));have dA:=((aj.refl w).alloc (Z #[X W 0 0] 31 (0,0))).alloc (Z #[V .i64 c] 28 (0,0));rw [World.size_alloc] at D;subst hw;refine ⟨_,kN t2 t3 D.ah,HQ.out _ _ ⟨X W 0 0,by rw [hc],dA,?_⟩⟩;rw [he];exact (D.right.right).eQ 9 1
 have Fin:=ae l0;clear l0;have p0:=iG p;obtain ⟨m,hm⟩:∃ m,p.length=m:=⟨_,rfl⟩
 rw [hm] at p0;have K:=ae hm;clear hm;have N:=zj p
 have C:((str p).toList == [47])=decide (p=[47]):=by
  have:=tR p [47];rw [show (str [47]).toList=[47] by rw [Lib.toList_data];rfl] at this;exact this
 refine (callsIn_wide (n:=9)).1 ?_;refine callsIn_of_wp_marks func79 rfl trivial ?_ rfl;simp only [ntmps79,List.size_toArray,A1,List.length_nil,Nat.reduceAdd,Nat.reduceSub,K1,L1,List.push_toArray,M1,List.nil_append,List.cons_append];refine wpIn_wide.2 ?_
 by_cases h1:(1000:Int)<(m:Int)
 .have hS:bA p=W:=if_pos (.inl (by rw [K.out];omega))
  have e:=ae hS;clear hS N C
  go_wp2_with fail
  exact Fin.out 1 _ rfl _ rfl rfl (by rw [e.out];rfl) (by rw [e.out];rfl)
 by_cases E:p=[]
 .subst E
  have e:Hid (bA []=W):=if_pos (.inr (by decide));have j0:((str []).toList == [])=true:=N;clear N C
  go_wp2_with fail
  exact Fin.out 1 _ rfl _ rfl rfl (by rw [e.out];rfl) (by rw [e.out];rfl)
 have j0:((str p).toList == [])=false:=by rw [N];exact decide_eq_false E
 have X0:0<m:=by rw [<- K.out];exact List.length_pos_iff.2 E
 have h0:∀ u:0<(str p).size,(str p)[0].toNat=(p.getD 0 0).toNat:=fun u=>by
  cases p with
  | nil=>exact absurd rfl E
  | cons k1 l=>rfl
 have j1:=ae E;clear N E
 by_cases F:p.getD 0 0=47
 .have W0:∀ u:0<(str p).size,(str p)[0].toNat=47:=fun u=>by rw [h0 u,F];rfl
  clear h0;have a:=ae F;clear F
  by_cases G:p=[47]
  .have e:Hid (bA p=T []):=by
    show _=_
    unfold bA;rw [if_neg (by rw [K.out];intro h;rcases h with h|h;omega;exact h a.out),if_pos G]
   have k0:((str p).toList == [47])=true:=by rw [C];exact decide_eq_true G
   clear C G
   go_wp2_with fail
   exact Fin.out 0 _ rfl _ rfl rfl (by rw [e.out];rfl) (by rw [e.out];rfl)
  .have e:Hid (bA p=if (dz p.length p).all cM=true then T (dz p.length p) else W):=by
    show _=_
    unfold bA;rw [if_neg (by rw [K.out];intro h;rcases h with h|h;omega;exact h a.out),if_neg G]
   have k0:((str p).toList == [47])=false:=by rw [C];exact decide_eq_false G
   have D:=(((ag.whole w).alloc (Z #[X W 0 0] 31 (0,0))).alloc (Z #[V .i64 0] 28 (0,0))).alloc (Z #[X W 0 0] 31 (0,0));have dA:=(((aj.refl w).alloc (Z #[X W 0 0] 31 (0,0))).alloc (Z #[V .i64 0] 28 (0,0))).alloc (Z #[X W 0 0] 31 (0,0));simp only [World.size_alloc] at D;have o0:=Eb (((w.alloc (Z #[X W 0 0] 31 (0,0))).alloc (Z #[V .i64 0] 28 (0,0))).alloc (Z #[X W 0 0] 31 (0,0))) p;clear C G Fin
   go_wp2_with fail
   (with_reducible refine o0.mono ?_)
   rintro b0 w2 ⟨rfl,rfl⟩;clear o0;generalize ((w.alloc (Z #[X W 0 0] 31 (0,0))).alloc (Z #[V .i64 0] 28 (0,0))).alloc (Z #[X W 0 0] 31 (0,0))=w3 at *;generalize w.heap.size+1+1=f at *;generalize w.heap.size+1=i at *;generalize w.heap.size=g at *;have hB:=D.alloc (Z #[Y (str p)] 9 (0,0));have dB:=dA.alloc (Z #[Y (str p)] 9 (0,0))
   go_wp2_with fail
   generalize e1:w3.alloc (Z #[Y (str p)] 9 (0,0))=w4 at *;generalize w3.heap.size=J at *;rename_i L0 z
   have h5:ag w4 (Cs f g i []*(wH J p*whole w)):=by
    refine (ag.au.2 ⟨rfl,?_⟩:ag w4 (fact _*_)).to (by unfold Cs;exact (ay _ _ _).symm);refine (ag.ax.2 ⟨X W 0 0,(hB.eQ 9 1).to ?_⟩:ag w4 (U0 f []*_)).to (ay _ _ _).symm;unfold wH ei;show sl _ 1 _ 0 []*_=_*sl _ 1 _ 0 []*_
    ac_rfl
   have Hh:=ae z;have D0:Hid (m<=1000):=by show m<=1000;omega
   clear hB D dA e1 W0 j0 k0 p0 h1 X0 z;refine (wpIn_wide (n:=9)).1 ?_
   refine me (C:=fun _=>True) (w0:=w) rfl (by decide) (gf:=189) (lb:=#[az J]) rfl trivial (enters func189 (by kernel_rfl) rfl)
    (fun l u0 Ax x0 w0 w _=>Dp _ p J l u0 Ax x0 w0 w) (fun x r0=>(r0.setIfInBounds 22 (Y (str x))).setIfInBounds 5 (Y (str x))) (Cs f g i) (fun _=>trivial) (fun c _=>R5 g i p c) (fun b x=>Cs f g i b) (whole w) ?hps dB h5 ?assign ?body ?done ?stop
   case hps=>
    intro x vs A d h;unfold Tf at h;obtain ⟨rfl,_⟩:=ag.au.1 h
    rfl
   case assign=>
    intro I r b x vs A d L0 _ s H z;have n:ag d (Tf x vs*(Cs f g i b*(pt I (.loop r)*A))):=H.ah;unfold Tf at n;obtain ⟨rfl,o⟩:=ag.au.1 n;clear H n
    gi_wp2
    exact z _ s o
   case body=>
    intro I r b x A d hp s H;unfold Cs at H;obtain ⟨n0,n⟩:=ag.au.1 (H.to (ay _ _ _));obtain ⟨v,o⟩:=ag.ax.1 (n.to (ay _ _ _));have a:ag d (ei v b*(pt f (Z #[v] 31 (0,0))*(pt g (Z #[X W 0 0] 31 (0,0))*(pt i (Z #[V .i64 0] 28 (0,0))*(pt I (.loop r)*A))))):=o.to (by ac_rfl);clear H n o
    have d0:(dz p.length p).all cM=true->cM x=true:=fun h=>by
     obtain ⟨r0,ht⟩:=hp;rw [<- ht] at h;rw [E1,E1] at h;simp only [Bool.and_eq_true,List.all_cons,List.all_nil,and_true] at h;exact h.1.2
    have Y0:b.length<1000000:=by
     have hl:=hp.length_le;rw [List.length_append,N1] at hl;have n1:=kO p.length p;have:=K.out;have:=D0.out;omega
    have P:=pT d x;have c0:d.cell? ⟨f,0,W⟩=T v:=a.ah.cell 0
    by_cases u:cM x=true
    .rw [u] at P
     have m0:=a.alloc (Z #[Y (str x)] 9 (0,0))
     have hR:oG (d.alloc (Z #[Y (str x)] 9 (0,0))) 1 (X (T ⟨d.heap.size,0,W⟩) 1 1) 1 [Y (str x)]:=
      ⟨rfl,.inr ⟨_,_,rfl,fun g1 i1 hu=>by
       rw [Addr.add_lit,Nat.zero_add];exact (m0.cell g1).trans (by simpa using hu)⟩⟩
     have S0:ag (d.alloc (Z #[Y (str x)] 9 (0,0))) (sl 9 1 v b.length (strs b)*(pt f (Z #[v] 31 (0,0))*(pt g (Z #[X W 0 0] 31 (0,0))*(pt i (Z #[V .i64 0] 28 (0,0))*(pt d.heap.size (Z #[Y (str x)] 9 (0,0))*(pt I (.loop r)*A)))))):=m0.to (by unfold ei;ac_rfl);obtain ⟨i0,hi,hz,b1,V0⟩:=info_parts qD;obtain ⟨v',w',a1,e0,d1⟩:=ag.append (P:=U) (ty:=31) underlying31 hi hz b1 V0 rfl S0 hR (by intro i1 hu;rw [List.mem_singleton.1 hu];rfl) (by unfold maxLen;omega) (by omega);obtain ⟨j,k,rfl⟩:=aE e0;have l1:w'.cell? ⟨f,0,W⟩=T v:=e0.ah.cell 0;have m1:=e0.ah.frozen 0;have c1:=e0.ah.setCell 0 (X j (b.length+1) k);have K0:=ae c1;have H0:=ae a1;have G0:=ae n0;have Hx:=ae u;have B:=ae (((s.alloc (Z #[Y (str x)] 9 (0,0))).trans d1).setCell ⟨f,0,W⟩ (X j (b.length+1) k));have L:=ae P
     gi_wp2_with fail
     refine rU L.out ?_;rintro b0 w2 ⟨rfl,rfl⟩;clear L
     gi_wp2_with (gi_at_builtin;refine dj H0.out _ _ rfl rfl rfl rfl rfl ?_)
     refine ⟨B.out,?_⟩;unfold Cs;refine (ag.au.2 ⟨by rw [E1,G0.out];simp [Hx.out],?_⟩:ag _ (fact _*_)).to (ay _ _ _).symm;refine (ag.ax.2 ⟨X j (b.length+1) k,?_⟩:ag _ (U0 f (b++[x])*_)).to (ay _ _ _).symm;have y:=K0.out;have b0:strs b++[Y (str x)]=strs (b++[x]):=by unfold strs;rw [List.map_append];rfl
     rw [b0] at y;unfold ei;rw [List.length_append,N1];exact (y.to (by ac_rfl:_=pt d.heap.size (Z #[Y (str x)] 9 (0,0))*(pt f (Z #[X j (b.length+1) k] 31 (0,0))*sl 9 1 (X j (b.length+1) k) (b.length+1) (strs (b++[x]))*(pt g (Z #[X W 0 0] 31 (0,0))*(pt i (Z #[V .i64 0] 28 (0,0))*(pt I (.loop r)*A)))))).right.to (by ac_rfl)
    .have q0:cM x=false:=by simpa using u
     rw [q0] at P;have Q:(dz p.length p).all cM=false:=by grind
     have z0:=a.aw.cell 0;have z1:=a.aD.cell 0;have f0:=a.aw.frozen 0;have f1:=a.aD.frozen 0;have t:=a.aw.setCell 0 (X W 0 0);have s0:=t.aD.cell 0;have R0:=t.aD.frozen 0;have H5:=ae (t.aD.setCell 0 (V .i64 1));have B:=ae ((s.setCell ⟨g,0,W⟩ (X W 0 0)).setCell ⟨i,0,W⟩ (V .i64 1));have F0:=ae Q;have L:=ae P;simp at z0 z1 s0;clear a t s Q d0 hp P n0 u q0 Y0
     gi_wp2_with fail
     refine rU L.out ?_;rintro b0 w2 ⟨rfl,rfl⟩;clear L
     gi_wp2_with fail
     refine ⟨B.out,?_⟩;have y:=H5.out;unfold R5;refine (ag.au.2 ⟨⟨rfl,F0.out⟩,?_⟩:ag _ (fact _*_)).to (ay _ _ _).symm;exact (y.to (by unfold ei;ac_rfl:_=(pt f (Z #[v] 31 (0,0))*ei v b)*(pt g (Z #[X W 0 0] 31 (0,0))*pt i (Z #[V .i64 1] 28 (0,0))*(pt I (.loop r)*A)))).right.to (by ac_rfl)
   case done=>
    intro D2 ys d hS s H;subst hS;unfold Cs at H;obtain ⟨d0,n⟩:=ag.au.1 (H.to (ay _ _ _));obtain ⟨v,o⟩:=ag.ax.1 (n.to (ay _ _ _));have R:bA p=T (dz p.length p):=by rw [e.out,if_pos d0]
    have M:=ae R;generalize dz p.length p=l at *;have a:ag d (pt D2 (.deferred (T []))*(pt f (Z #[v] 31 (0,0))*(pt g (Z #[X W 0 0] 31 (0,0))*(pt i (Z #[V .i64 0] 28 (0,0))*(sl 9 1 v l.length (strs l)*(wH J p*whole w)))))):=o.to (by unfold ei;ac_rfl);obtain ⟨j,k,rfl⟩:=aE a.aM;have c0:d.cell? ⟨f,0,W⟩=T (X j l.length k):=a.ah.cell 0;have z0:d.cell? ⟨g,0,W⟩=T (X W 0 0):=a.aw.cell 0;have z1:d.cell? ⟨i,0,W⟩=T (V .i64 0):=a.aD.cell 0;have f0:=a.aw.frozen 0;have f1:=a.aD.frozen 0;have t:=a.aw.setCell 0 (X j l.length k);have s0:=t.aD.cell 0;have R0:=t.aD.frozen 0;have H5:=ae (t.aD.setCell 0 (V .i64 0));have B:=ae ((s.setCell ⟨g,0,W⟩ (X j l.length k)).setCell ⟨i,0,W⟩ (V .i64 0));clear H n o a t d0 R e dB h5 s;refine Hh.out _ _ ?_;clear Hh
    go_wp2_with fail
    have y:=H5.out;simp only [List.setIfInBounds_toArray,List.set_cons_zero] at y;have h7:=y.to (by ac_rfl:_=pt D2 (.deferred (T []))*(pt g (Z #[X j l.length k] 31 (0,0))*(pt i (Z #[V .i64 0] 28 (0,0))*((sl 9 1 (X j l.length k) l.length (strs l)*whole w)*(wH J p*pt f (Z #[X j l.length k] 31 (0,0)))))));have z:=h7.heap;have O:=(h7.putObj (.deferred W)).right;clear y h7;refine ⟨by simp,.inl ⟨_,_,rfl,run_takeDeferred z,?_⟩⟩;refine ⟨_,kN rfl rfl O,HQ.out _ _ ⟨X j l.length k,by rw [M.out];rfl,B.out.putObj _ _,?_⟩⟩;rw [M.out];exact O.right.right.left
   case stop=>
    intro D2 c ys d T0 s H;unfold R5 at H;obtain ⟨⟨rfl,Q⟩,n⟩:=ag.au.1 (H.to (ay _ _ _));have R:bA p=W:=by rw [e.out,if_neg (by rw [Q];decide)]
    have o:ag d (pt D2 (.deferred (T []))*(pt g (Z #[X W 0 0] 31 (0,0))*(pt i (Z #[V .i64 1] 28 (0,0))*(whole w*wH J p)))):=n.to (by ac_rfl);have M:=ae R;have B:=ae s;have z:=o.heap;have O:=ae (o.putObj (.deferred W)).right;clear H n o Q R e dB h5 s T0
    gi_wp2
    refine ⟨by simp,.inl ⟨_,_,rfl,run_takeDeferred z,?_⟩⟩;refine ⟨_,kN rfl rfl O.out,HQ.out _ _ ⟨X W 0 0,by rw [M.out];rfl,B.out.putObj _ _,?_⟩⟩;rw [M.out];exact O.out.right.right.left.eQ 9 1
 .have e:Hid (bA p=W):=if_pos (.inr F)
  obtain ⟨q,hq⟩:∃ q,(p.getD 0 0).toNat=q:=⟨_,rfl⟩
  rw [hq] at h0;have Z0:¬ q=47:=fun h=>F (UInt8.toNat_inj.1 (by rw [hq,h];rfl));have o1:(((q:Nat):Int) != 47)=true:=by simpa using (show ¬ (q:Int)=47 by omega)
  clear hq Z0;clear F C
  go_wp2_with fail
  exact Fin.out 1 _ rfl _ rfl rfl (by rw [e.out];rfl) (by rw [e.out];rfl)
end Go.Proofs.Cl
