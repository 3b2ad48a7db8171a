/- Steps. -/
import Derived.Test.YtebfaobobccikaaGreatDoorSP26
import Derived.Test.YtebfaobobccikaaGreatDoorSP11
set_option linter.all false
set_option maxRecDepth 99999
set_option maxHeartbeats 0
open Go.SL
open Go.Value renaming int->V,slice->X,string->Y
open Go.Obj renaming cells->Z
open Go.Proofs.Tryz renaming prog->U
open Option renaming some->T,none->W
open Go.Proofs.Tryz
open List renaming length_cons->A1,prefix_append->E1,all_append->H1,eq_nil_of_length_eq_zero->K1,append_toArray->N1,length_singleton->O1
open Nat renaming le_refl->D1
open Array renaming replicate_succ->L1,replicate_zero->M1
namespace Go.SL
open RowKit
variable {r:List UInt8}
def F5 (r:List UInt8):List UInt8:=(r.drop 1).take ((r.drop 1).findIdx (· == 47))
def uv (r:List UInt8):List UInt8:=(r.drop 1).drop ((r.drop 1).findIdx (· == 47))
theorem BG (h:r≠[]):(uv r).length<r.length:=by
 unfold uv;have:0<r.length:=List.length_pos_iff.2 h;simp only [List.length_drop];omega
def dP:Nat->List UInt8->List (List UInt8)
 | 0,_=>[]
 | f+1,r=>if r=[] then [] else F5 r :: dP f (uv r)
theorem lv:∀ (f:Nat) (r:List UInt8),(dP f r).length<=f
 | 0,_=>D1 _
 | f+1,r=>by
  unfold dP
  split
  .exact Nat.zero_le _
  .have:=lv f (uv r);rw [A1];omega
theorem mM (f:Nat):dP f []=[]:=by cases f <;> rfl
theorem nW {f:Nat} (h:r≠[]):dP (f+1) r=F5 r :: dP f (uv r):=if_neg h
theorem By:∀ (f g:Nat) (r:List UInt8),r.length<=f->r.length<=g->dP f r=dP g r:=by
 intro f
 induction f with
 | zero=>
  intro g r h _;have:r=[]:=K1 (by omega);subst this;rw [mM,mM]
 | succ f b=>
  intro g r c d
  by_cases a:r=[]
  .rw [a,mM,mM]
  .cases g with
   | zero=>exact absurd (K1 (by omega)) a
   | succ g=>
    have:=BG a;rw [nW a,nW a,b g (uv r) (by omega) (by omega)]
def aU (p:List UInt8):Option (List (List UInt8)):=
 if 1000<p.length\/p.getD 0 0≠47 then W else if p=[47] then T [] else if (dP p.length p).all cL=true then T (dP p.length p) else W
theorem vN (c:UInt8):∀ l:List UInt8,(if Lib.indexByte l c<0 then (l.length:Int) else Lib.indexByte l c)=(l.findIdx (· == c):Nat)
 | []=>rfl
 | b :: l=>by
  have a:=vN c l;have f:=Lib.indexByte_ge l c;unfold Lib.indexByte;rw [List.findIdx_cons]
  cases e:b == c with
  | true=>simp
  | false=>
   simp only [Bool.false_eq_true,if_false,cond_false,A1]
   by_cases h:Lib.indexByte l c=-1
   .rw [h] at a ⊢
    simp only [BEq.rfl,if_true];simp at a ⊢;omega
   .have d:(Lib.indexByte l c == -1)=false:=by simpa using h
    rw [d];simp only [Bool.false_eq_true,if_false];rw [if_neg (by omega)] at a ⊢;omega
def strs (l:List (List UInt8)):List Value:=l.map fun x=>Y (str x)
theorem Nx (l:List UInt8) (k:Nat):(str l).extract 0 k=str (l.take k):=by
 apply ByteArray.ext;simp [str]
theorem OG (l:List UInt8) (k:Nat):(str l).extract k l.length=str (l.drop k):=by
 apply ByteArray.ext;simp [str];exact List.take_of_length_le (by simp)
end Go.SL
namespace Go.Proofs.Cl
open RowKit SL Proofs.Nn Proofs.Ba Proofs.Fs
theorem xl (l:List UInt8) (k:Nat) (a:k<=l.length) (w:World):(Instr.slice 9 (Y (str l)) (T (V .i64 (k:Int))) W W).run U w = .ok (Y (str (l.drop k))) w:=by
 rw [<- OG];simp [Instr.slice,Instr.sliceBounds,Instr.sliceBound,run_underlying underlying9,go_sem,iL,a,Result.andThen]
theorem LB (l:List UInt8) (k:Nat) (a:k<=l.length) (w:World):(Instr.slice 9 (Y (str l)) W (T (V .i64 (k:Int))) W).run U w = .ok (Y (str (l.take k))) w:=by
 rw [<- Nx];simp [Instr.slice,Instr.sliceBounds,Instr.sliceBound,run_underlying underlying9,go_sem,iL,a,Result.andThen]
attribute [local go_sem] Oper.semAt_some
def U5 (p:List UInt8) (a:Array Value):ai:=fact (a=#[Y (str p)])
def xM (a:Nat) (p:List UInt8):ai:=pt a (Z #[Y (str p)] 9 (0,0))
def Rz (b:List (List UInt8)->ai) (p:List UInt8) (c:ai) (w0:World) (u:Value) (wr:World):Prop:=
 ∃ (r:List UInt8) (a:List (List UInt8)),r.length<=p.length/\u = Y (str r)/\dP p.length p=a++dP r.length r/\aj w0 wr/\ag wr (b a*c)
def FD:Value->Nat
 | Y s=>s.size
 | _=>0
theorem Ao (r:List UInt8):((str r).toList == [])=decide (r=[]):=by
 have:=uI r [];rw [show (str []).toList=[] by rw [Lib.toList_data];rfl] at this;exact this
theorem EM (m0:Nat) (p:List UInt8) (g:Nat) :
  fJ Fence.wide m0 U 189 #[az g] (xM g p) U5 (fun c=>c=dP p.length p) (fun c=>c <+: dP p.length p):=by
 intro lp j Ax G w0 w hY hs h;have c0:=h.ah.cell 0;refine callsIn_of_wp func189 rfl trivial ?_ rfl;simp only [ntmps189,List.size_toArray,A1,List.length_nil,Nat.reduceAdd,Nat.reduceSub,L1,M1,List.push_toArray,N1,List.nil_append,List.cons_append]
 gi_wp2_with fail
 gi_loopw [3] (fun u wr=>Rz j p (xM g p*G) w0 u wr) (fun u _=>FD u)
 case atStart=>exact ⟨p,[],D1 _,rfl,rfl,hs,h⟩
 case round=>
  obtain ⟨r,c,n0,rfl,M,L,K⟩:=hrel
  by_cases i:r=[]
  .subst i
   have k0:((str []).toList == [])=true:=Ao [];have N:Hid (c=dP p.length p):=by show _=_;rw [M];simp [dP]
   have v:=ae K
   gi_wp2_with fail
   go_end0
   exact ⟨⟨_,rfl⟩,L,.inl ⟨_,N.out,v.out⟩⟩
  .have k0:((str r).toList == [])=false:=by rw [Ao];exact decide_eq_false i
   have d0:=List.length_pos_iff.2 i;obtain ⟨t,q⟩:∃ t,r.drop 1=t:=⟨_,rfl⟩
   have h1:∀ w,(Instr.slice 9 (Y (str r)) (T (V .i64 1)) W W).run U w = .ok (Y (str t)) w:=by rw [<- q];exact xl r 1 d0
   obtain ⟨m,o⟩:∃ m,t.findIdx (· == 47)=m:=⟨_,rfl⟩
   have I:m<=t.length:=by rw [<- o];exact List.findIdx_le_length
   have g0:dP r.length r=t.take m :: dP (t.drop m).length (t.drop m):=by
    obtain ⟨k,hk⟩:∃ k,r.length=k+1:=⟨r.length-1,by omega⟩
    have e0:=BG i;rw [hk,nW i];have x:F5 r=t.take m:=by unfold F5;rw [q,o]
    have E:uv r=t.drop m:=by unfold uv;rw [q,o]
    rw [E] at e0;rw [x,E,By k (t.drop m).length (t.drop m) (by omega) (D1 _)]
   have h0:dP p.length p=(c++[t.take m])++dP (t.drop m).length (t.drop m):=by rw [M,g0];simp
   have i0:(t.drop m).length<r.length:=by rw [<- q];simp;omega
   have h2:=LB t m I;have h3:=xl t m I;have y:=Tryz.strings_IndexByte (str t) 47;have Q:(47:Int).toNat.toUInt8=(47:UInt8):=rfl;have x:(str t).data.toList=t:=rfl;rw [Q,x] at y;have n:=vN 47 t;obtain ⟨z,H⟩:∃ z,Lib.indexByte t 47=z:=⟨_,rfl⟩
   rw [H,o] at n;rw [H] at y;have O:=ae y;have l:=ae h0;have D:=ae i0;have v:=ae K
   gi_wp2_with fail
   refine Ba.kx (O.out _) ?_;rintro e A ⟨rfl,rfl⟩;have l0:=iL t;have R:∀ (s:World),aj w0 s->ag s (j (c++[t.take m])*(xM g p*G))->Rz j p (xM g p*G) w0 (Y (str (t.drop m))) s:=fun s a b=>⟨_,_,by have:=D.out;omega,rfl,l.out,a,b⟩
   have B:=ae R
   obtain ⟨fn,o0,assign,body,hy,F⟩:=hY c (t.take m) #[Y (str (t.take m))] _ A (by rw [l.out];exact E1 _ _) L (by
    have S:ag A (U5 (t.take m) #[Y (str (t.take m))]*(j c*(xM g p*G))):=(ag.aq.2 ⟨rfl,v.out⟩:ag A (fact _*_))
    exact S.ah)
   have f0:FD (Y (str (t.drop m)))<FD (Y (str r)):=by
    show (str _).size<(str _).size
    rw [iL,iL];exact D.out
   have C:=ae f0
   by_cases J:z<0
   .rw [if_pos J] at n
    have b0:t.length=m:=by omega
    rw [b0] at l0
    gi_wp2_with fail
    refine ⟨fun h=>(by cases h),F.mono ?_⟩;rintro e P (⟨rfl,d,f⟩|⟨rfl,d,f⟩)
    .gi_wp2_with fail
     go_roundw
     case rel=>exact B.out _ d f
     case measure=>exact C.out
    .gi_wp2_with fail
     refine bodyPost_ret (results_none rfl _ _ _) rfl ?_;exact ⟨⟨_,rfl⟩,d,.inr ⟨_,by rw [l.out];exact E1 _ _,f⟩⟩
   .rw [if_neg J] at n
    subst n
    gi_wp2_with fail
    refine ⟨fun h=>(by cases h),F.mono ?_⟩;rintro e P (⟨rfl,d,f⟩|⟨rfl,d,f⟩)
    .gi_wp2_with fail
     go_roundw
     case rel=>exact B.out _ d f
     case measure=>exact C.out
    .gi_wp2_with fail
     refine bodyPost_ret (results_none rfl _ _ _) rfl ?_;exact ⟨⟨_,rfl⟩,d,.inr ⟨_,by rw [l.out];exact E1 _ _,f⟩⟩
theorem Ez (w:World) (p:List UInt8):Calls U 139 #[Y (str p)] w fun e a=>e = .returned (.func (.func 189) #[] #[az w.heap.size])/\a=w.alloc (Z #[Y (str p)] 9 (0,0)):=by
 go_enter func139,ntmps139
 go_wp2
 go_ret
 exact ⟨rfl,rfl⟩
def dh (v:Value) (l:List (List UInt8)):ai:=sl 9 1 v l.length (strs l)
def FK (p:List UInt8) (w:World) (e:Ending) (a:World):Prop:=
 ∃ v,e = .returned (.tuple #[v,V .i64 (if (aU p).isSome=true then 0 else 1)])/\aj w a/\ag a (dh v ((aU p).getD [])*whole w)
theorem lC {w:World} {c:Array Value} {a b:Nat} {v e:Value} {F:ai} (g:c[2]?=T (az a)) (i:c[3]?=T (az b)) (h:ag w (pt a (Z #[v] 31 (0,0))*(pt b (Z #[e] 28 (0,0))*F))) :
  (results Tryz.f79 c).run U w = .ok (.tuple #[v,e]) w:=by
 have d:=h.cell 0;have f:=h.ah.cell 0;simp [results,Tryz.results79,g,i,asAddr,az,go_sem,d,f]
def Wt (a:Nat) (b:List (List UInt8)):ai:=ex fun v=>pt a (Z #[v] 31 (0,0))*dh v b
def Co (b c d:Nat) (a:List (List UInt8)):ai:=fact (a.all cL=true)*(Wt b a*(pt c (Z #[X W 0 0] 31 (0,0))*pt d (Z #[V .i64 0] 28 (0,0))))
def RX (a b:Nat) (p:List UInt8) (c:Code):ai:=fact (c = .ret/\(dP p.length p).all cL=false)*(pt a (Z #[X W 0 0] 31 (0,0))*pt b (Z #[V .i64 1] 28 (0,0)))
theorem rH:(prog.info? 9).map (fun i=>(i.zero,i.size,i.bytes))=T (T (.string ⟨#[]⟩),1,16):=by kernel_rfl
theorem xZ (w:World) (p:List UInt8):Calls U 79 #[Y (str p)] w (FK p w):=by
 refine aH fun R0 HQ=>?_
 have m0:∀ c:Int,∀ S,S=(w.alloc (Z #[X W 0 0] 31 (0,0))).alloc (Z #[V .i64 c] 28 (0,0))->∀ g0:Array Value,g0[2]?=T (az w.heap.size)->g0[3]?=T (az (w.heap.size+1))->c=(if (aU p).isSome=true then 0 else 1)->(aU p).getD []=[] ->
   ∃ v,(results Tryz.f79 g0).run U S = .ok v S/\R0 (.returned v) S:=by
  intro c S hw g0 t2 t3 hc he;have D:=((ag.whole w).alloc (Z #[X W 0 0] 31 (0,0))).alloc (Z #[V .i64 c] 28 (0,0));have dA:=((aj.refl w).alloc (Z #[X W 0 0] 31 (0,0))).alloc (Z #[V .i64 c] 28 (0,0));rw [World.size_alloc] at D;subst hw;refine ⟨_,lC t2 t3 D.ah,HQ.out _ _ ⟨X W 0 0,by rw [hc],dA,?_⟩⟩;rw [he];exact (D.right.right).fq 9 1
 have Fin:=ae m0;clear m0;have q0:=iL p;obtain ⟨m,hm⟩:∃ m,p.length=m:=⟨_,rfl⟩
 rw [hm] at q0;have K:=ae hm;clear hm;have N:=Ao p
 have C:((str p).toList == [47])=decide (p=[47]):=by
  have:=uI p [47];rw [show (str [47]).toList=[47] by rw [Lib.toList_data];rfl] at this;exact this
 refine (callsIn_wide (n:=9)).1 ?_;refine callsIn_of_wp_marks func79 rfl trivial ?_ rfl;simp only [ntmps79,List.size_toArray,A1,List.length_nil,Nat.reduceAdd,Nat.reduceSub,L1,M1,List.push_toArray,N1,List.nil_append,List.cons_append];refine wpIn_wide.2 ?_
 by_cases h1:(1000:Int)<(m:Int)
 .have hS:aU p=W:=if_pos (.inl (by rw [K.out];omega))
  have e:=ae hS;clear hS N C
  go_wp2_with fail
  exact Fin.out 1 _ rfl _ rfl rfl (by rw [e.out];rfl) (by rw [e.out];rfl)
 by_cases E:p=[]
 .subst E
  have e:Hid (aU []=W):=if_pos (.inr (by decide));have k0:((str []).toList == [])=true:=N;clear N C
  go_wp2_with fail
  exact Fin.out 1 _ rfl _ rfl rfl (by rw [e.out];rfl) (by rw [e.out];rfl)
 have k0:((str p).toList == [])=false:=by rw [N];exact decide_eq_false E
 have Y0:0<m:=by rw [<- K.out];exact List.length_pos_iff.2 E
 have h0:∀ u:0<(str p).size,(str p)[0].toNat=(p.getD 0 0).toNat:=fun u=>by
  cases p with
  | nil=>exact absurd rfl E
  | cons l1 l=>rfl
 have k1:=ae E;clear N E
 by_cases F:p.getD 0 0=47
 .have X0:∀ u:0<(str p).size,(str p)[0].toNat=47:=fun u=>by rw [h0 u,F];rfl
  clear h0;have a:=ae F;clear F
  by_cases G:p=[47]
  .have e:Hid (aU p=T []):=by
    show _=_
    unfold aU;rw [if_neg (by rw [K.out];intro h;rcases h with h|h;omega;exact h a.out),if_pos G]
   have l0:((str p).toList == [47])=true:=by rw [C];exact decide_eq_true G
   clear C G
   go_wp2_with fail
   exact Fin.out 0 _ rfl _ rfl rfl (by rw [e.out];rfl) (by rw [e.out];rfl)
  .have e:Hid (aU p=if (dP p.length p).all cL=true then T (dP p.length p) else W):=by
    show _=_
    unfold aU;rw [if_neg (by rw [K.out];intro h;rcases h with h|h;omega;exact h a.out),if_neg G]
   have l0:((str p).toList == [47])=false:=by rw [C];exact decide_eq_false G
   have D:=(((ag.whole w).alloc (Z #[X W 0 0] 31 (0,0))).alloc (Z #[V .i64 0] 28 (0,0))).alloc (Z #[X W 0 0] 31 (0,0));have dA:=(((aj.refl w).alloc (Z #[X W 0 0] 31 (0,0))).alloc (Z #[V .i64 0] 28 (0,0))).alloc (Z #[X W 0 0] 31 (0,0));simp only [World.size_alloc] at D;have p0:=Ez (((w.alloc (Z #[X W 0 0] 31 (0,0))).alloc (Z #[V .i64 0] 28 (0,0))).alloc (Z #[X W 0 0] 31 (0,0))) p;clear C G Fin
   go_wp2_with fail
   (with_reducible refine p0.mono ?_)
   rintro b0 w2 ⟨rfl,rfl⟩;clear p0;generalize ((w.alloc (Z #[X W 0 0] 31 (0,0))).alloc (Z #[V .i64 0] 28 (0,0))).alloc (Z #[X W 0 0] 31 (0,0))=w3 at *;generalize w.heap.size+1+1=f at *;generalize w.heap.size+1=i at *;generalize w.heap.size=g at *;have hB:=D.alloc (Z #[Y (str p)] 9 (0,0));have dB:=dA.alloc (Z #[Y (str p)] 9 (0,0))
   go_wp2_with fail
   generalize g1:w3.alloc (Z #[Y (str p)] 9 (0,0))=w4 at *;generalize w3.heap.size=J at *;rename_i N0 z
   have h5:ag w4 (Co f g i []*(xM J p*whole w)):=by
    refine (ag.aq.2 ⟨rfl,?_⟩:ag w4 (fact _*_)).to (by unfold Co;exact (ax _ _ _).symm);refine (ag.aw.2 ⟨X W 0 0,(hB.fq 9 1).to ?_⟩:ag w4 (Wt f []*_)).to (ax _ _ _).symm;unfold xM dh;show sl _ 1 _ 0 []*_=_*sl _ 1 _ 0 []*_
    ac_rfl
   have Hh:=ae z;have F0:Hid (m<=1000):=by show m<=1000;omega
   clear hB D dA g1 X0 k0 l0 q0 h1 Y0 z;refine (wpIn_wide (n:=9)).1 ?_
   refine mH (C:=fun _=>True) (w0:=w) rfl (by decide) (gf:=189) (lb:=#[az J]) rfl trivial (enters func189 (by kernel_rfl) rfl)
    (fun l x0 Ax D0 w0 w _=>EM _ p J l x0 Ax D0 w0 w) (fun x s0=>(s0.setIfInBounds 22 (Y (str x))).setIfInBounds 5 (Y (str x))) (Co f g i) (fun _=>trivial) (fun c _=>RX g i p c) (fun b x=>Co f g i b) (whole w) ?hps dB h5 ?assign ?body ?done ?stop
   case hps=>
    intro x vs A d h;unfold U5 at h;obtain ⟨rfl,_⟩:=ag.aq.1 h
    rfl
   case assign=>
    intro I r b x vs A d N0 _ s H z;have n:ag d (U5 x vs*(Co f g i b*(pt I (.loop r)*A))):=H.ah;unfold U5 at n;obtain ⟨rfl,o⟩:=ag.aq.1 n;clear H n
    gi_wp2
    exact z _ s o
   case body=>
    intro I r b x A d hp s H;unfold Co at H;obtain ⟨o0,n⟩:=ag.aq.1 (H.to (ax _ _ _));obtain ⟨v,o⟩:=ag.aw.1 (n.to (ax _ _ _));have a:ag d (dh v b*(pt f (Z #[v] 31 (0,0))*(pt g (Z #[X W 0 0] 31 (0,0))*(pt i (Z #[V .i64 0] 28 (0,0))*(pt I (.loop r)*A))))):=o.to (by ac_rfl);clear H n o
    have d0:(dP p.length p).all cL=true->cL x=true:=fun h=>by
     obtain ⟨s0,ht⟩:=hp;rw [<- ht] at h;rw [H1,H1] at h;simp only [Bool.and_eq_true,List.all_cons,List.all_nil,and_true] at h;exact h.1.2
    have Z0:b.length<1000000:=by
     have hl:=hp.length_le;rw [List.length_append,O1] at hl;have o1:=lv p.length p;have:=K.out;have:=F0.out;omega
    have P:=rP d x;have c0:d.cell? ⟨f,0,W⟩=T v:=a.ah.cell 0
    by_cases u:cL x=true
    .rw [u] at P
     have n0:=a.alloc (Z #[Y (str x)] 9 (0,0))
     have hR:pP (d.alloc (Z #[Y (str x)] 9 (0,0))) 1 (X (T ⟨d.heap.size,0,W⟩) 1 1) 1 [Y (str x)]:=
      ⟨rfl,.inr ⟨_,_,rfl,fun i1 j1 hu=>by
       rw [Addr.add_lit,Nat.zero_add];exact (n0.cell i1).trans (by simpa using hu)⟩⟩
     have T0:ag (d.alloc (Z #[Y (str x)] 9 (0,0))) (sl 9 1 v b.length (strs b)*(pt f (Z #[v] 31 (0,0))*(pt g (Z #[X W 0 0] 31 (0,0))*(pt i (Z #[V .i64 0] 28 (0,0))*(pt d.heap.size (Z #[Y (str x)] 9 (0,0))*(pt I (.loop r)*A)))))):=n0.to (by unfold dh;ac_rfl);obtain ⟨i0,hi,hz,c1,W0⟩:=info_parts rH;obtain ⟨v',w',b1,e0,e1⟩:=ag.append (P:=U) (ty:=31) underlying31 hi hz c1 W0 rfl T0 hR (by intro j1 hu;rw [List.mem_singleton.1 hu];rfl) (by unfold maxLen;omega) (by omega);obtain ⟨j,k,rfl⟩:=aF e0;have m1:w'.cell? ⟨f,0,W⟩=T v:=e0.ah.cell 0;have n1:=e0.ah.frozen 0;have d1:=e0.ah.setCell 0 (X j (b.length+1) k);have L0:=ae d1;have K0:=ae b1;have H0:=ae o0;have Hx:=ae u;have B:=ae (((s.alloc (Z #[Y (str x)] 9 (0,0))).trans e1).setCell ⟨f,0,W⟩ (X j (b.length+1) k));have L:=ae P
     gi_wp2_with fail
     refine sH L.out ?_;rintro b0 w2 ⟨rfl,rfl⟩;clear L
     gi_wp2_with (gi_at_builtin;refine dF K0.out _ _ rfl rfl rfl rfl rfl ?_)
     refine ⟨B.out,?_⟩;unfold Co;refine (ag.aq.2 ⟨by rw [H1,H0.out];simp [Hx.out],?_⟩:ag _ (fact _*_)).to (ax _ _ _).symm;refine (ag.aw.2 ⟨X j (b.length+1) k,?_⟩:ag _ (Wt f (b++[x])*_)).to (ax _ _ _).symm;have y:=L0.out;have b0:strs b++[Y (str x)]=strs (b++[x]):=by unfold strs;rw [List.map_append];rfl
     rw [b0] at y;unfold dh;rw [List.length_append,O1];exact (y.to (by ac_rfl:_=pt d.heap.size (Z #[Y (str x)] 9 (0,0))*(pt f (Z #[X j (b.length+1) k] 31 (0,0))*sl 9 1 (X j (b.length+1) k) (b.length+1) (strs (b++[x]))*(pt g (Z #[X W 0 0] 31 (0,0))*(pt i (Z #[V .i64 0] 28 (0,0))*(pt I (.loop r)*A)))))).right.to (by ac_rfl)
    .have r0:cL x=false:=by simpa using u
     rw [r0] at P;have Q:(dP p.length p).all cL=false:=by grind
     have z0:=a.au.cell 0;have z1:=a.aA.cell 0;have f0:=a.au.frozen 0;have f1:=a.aA.frozen 0;have t:=a.au.setCell 0 (X W 0 0);have u0:=t.aA.cell 0;have S0:=t.aA.frozen 0;have H5:=ae (t.aA.setCell 0 (V .i64 1));have B:=ae ((s.setCell ⟨g,0,W⟩ (X W 0 0)).setCell ⟨i,0,W⟩ (V .i64 1));have G0:=ae Q;have L:=ae P;simp at z0 z1 u0;clear a t s Q d0 hp P o0 u r0 Z0
     gi_wp2_with fail
     refine sH L.out ?_;rintro b0 w2 ⟨rfl,rfl⟩;clear L
     gi_wp2_with fail
     refine ⟨B.out,?_⟩;have y:=H5.out;unfold RX;refine (ag.aq.2 ⟨⟨rfl,G0.out⟩,?_⟩:ag _ (fact _*_)).to (ax _ _ _).symm;exact (y.to (by unfold dh;ac_rfl:_=(pt f (Z #[v] 31 (0,0))*dh v b)*(pt g (Z #[X W 0 0] 31 (0,0))*pt i (Z #[V .i64 1] 28 (0,0))*(pt I (.loop r)*A)))).right.to (by ac_rfl)
   case done=>
    intro D2 ys d hS s H;subst hS;unfold Co at H;obtain ⟨d0,n⟩:=ag.aq.1 (H.to (ax _ _ _));obtain ⟨v,o⟩:=ag.aw.1 (n.to (ax _ _ _));have R:aU p=T (dP p.length p):=by rw [e.out,if_pos d0]
    have M:=ae R;generalize dP p.length p=l at *;have a:ag d (pt D2 (.deferred (T []))*(pt f (Z #[v] 31 (0,0))*(pt g (Z #[X W 0 0] 31 (0,0))*(pt i (Z #[V .i64 0] 28 (0,0))*(sl 9 1 v l.length (strs l)*(xM J p*whole w)))))):=o.to (by unfold dh;ac_rfl);obtain ⟨j,k,rfl⟩:=aF a.aM;have c0:d.cell? ⟨f,0,W⟩=T (X j l.length k):=a.ah.cell 0;have z0:d.cell? ⟨g,0,W⟩=T (X W 0 0):=a.au.cell 0;have z1:d.cell? ⟨i,0,W⟩=T (V .i64 0):=a.aA.cell 0;have f0:=a.au.frozen 0;have f1:=a.aA.frozen 0;have t:=a.au.setCell 0 (X j l.length k);have u0:=t.aA.cell 0;have S0:=t.aA.frozen 0;have H5:=ae (t.aA.setCell 0 (V .i64 0));have B:=ae ((s.setCell ⟨g,0,W⟩ (X j l.length k)).setCell ⟨i,0,W⟩ (V .i64 0));clear H n o a t d0 R e dB h5 s;refine Hh.out _ _ ?_;clear Hh
    go_wp2_with fail
    have y:=H5.out;simp only [List.setIfInBounds_toArray,List.set_cons_zero] at y;have h7:=y.to (by ac_rfl:_=pt D2 (.deferred (T []))*(pt g (Z #[X j l.length k] 31 (0,0))*(pt i (Z #[V .i64 0] 28 (0,0))*((sl 9 1 (X j l.length k) l.length (strs l)*whole w)*(xM J p*pt f (Z #[X j l.length k] 31 (0,0)))))));have z:=h7.heap;have O:=(h7.putObj (.deferred W)).right;clear y h7;refine ⟨by simp,.inl ⟨_,_,rfl,run_takeDeferred z,?_⟩⟩;refine ⟨_,lC rfl rfl O,HQ.out _ _ ⟨X j l.length k,by rw [M.out];rfl,B.out.putObj _ _,?_⟩⟩;rw [M.out];exact O.right.right.left
   case stop=>
    intro D2 c ys d V0 s H;unfold RX at H;obtain ⟨⟨rfl,Q⟩,n⟩:=ag.aq.1 (H.to (ax _ _ _));have R:aU p=W:=by rw [e.out,if_neg (by rw [Q];decide)]
    have o:ag d (pt D2 (.deferred (T []))*(pt g (Z #[X W 0 0] 31 (0,0))*(pt i (Z #[V .i64 1] 28 (0,0))*(whole w*xM J p)))):=n.to (by ac_rfl);have M:=ae R;have B:=ae s;have z:=o.heap;have O:=ae (o.putObj (.deferred W)).right;clear H n o Q R e dB h5 s V0
    gi_wp2
    refine ⟨by simp,.inl ⟨_,_,rfl,run_takeDeferred z,?_⟩⟩;refine ⟨_,lC rfl rfl O.out,HQ.out _ _ ⟨X W 0 0,by rw [M.out];rfl,B.out.putObj _ _,?_⟩⟩;rw [M.out];exact O.out.right.right.left.fq 9 1
 .have e:Hid (aU p=W):=if_pos (.inr F)
  obtain ⟨q,hq⟩:∃ q,(p.getD 0 0).toNat=q:=⟨_,rfl⟩
  rw [hq] at h0;have a1:¬ q=47:=fun h=>F (UInt8.toNat_inj.1 (by rw [hq,h];rfl));have p1:(((q:Nat):Int) != 47)=true:=by simpa using (show ¬ (q:Int)=47 by omega)
  clear hq a1;clear F C
  go_wp2_with fail
  exact Fin.out 1 _ rfl _ rfl rfl (by rw [e.out];rfl) (by rw [e.out];rfl)
end Go.Proofs.Cl
