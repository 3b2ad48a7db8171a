/- Steps. -/
import Derived.Test.YtiomanbgcfjblaaGreatDoorLP35
import Derived.Test.YtiomanbgcfjblaaGreatDoorLP11
set_option linter.all false
set_option maxRecDepth 99999
set_option maxHeartbeats 0
open Go.SL
open Go.Value renaming int->V,slice->X,string->Y
open Go.IntKind renaming i64->U
open Go.Obj renaming cells->Z
open Go.Proofs.Tryz renaming prog->T
open Option renaming some->S,none->W
open Go.Proofs.Tryz
open List renaming length_cons->A1,prefix_append->D9,all_append->D8,eq_nil_of_length_eq_zero->D7,append_toArray->D4,length_singleton->D3
open Nat renaming le_refl->B3
open Array renaming replicate_succ->D6,replicate_zero->D5
namespace Go.SL
open RowKit
variable {r:List UInt8}
def Gu (r:List UInt8):List UInt8:=(r.drop 1).take ((r.drop 1).findIdx (· == 47))
def tT (r:List UInt8):List UInt8:=(r.drop 1).drop ((r.drop 1).findIdx (· == 47))
def B5 (h:r≠[]):(tT r).length<r.length:=by
 unfold tT;have:0<r.length:=List.length_pos_iff.2 h;simp only [List.length_drop];omega
def dw:Nat->List UInt8->List (List UInt8)
 | 0,_=>[]
 | f+1,r=>if r=[] then [] else Gu r :: dw f (tT r)
def lP:∀ (f:Nat) (r:List UInt8),(dw f r).length<=f
 | 0,_=>B3 _
 | f+1,r=>by
  unfold dw
  split
  .exact Nat.zero_le _
  .have:=lP f (tT r);rw [A1];omega
def mN (f:Nat):dw f []=[]:=by cases f <;> rfl
def nU {f:Nat} (h:r≠[]):dw (f+1) r=Gu r :: dw f (tT r):=if_neg h
def DE:∀ (f g:Nat) (r:List UInt8),r.length<=f->r.length<=g->dw f r=dw g r:=by
 intro f
 induction f with
 | zero=>
  intro g r h _;have:r=[]:=D7 Om0;subst this;rw [mN,mN]
 | succ f b=>
  intro g r c d
  by_cases a:r=[]
  .rw [a,mN,mN]
  .cases g with
   | zero=>exact absurd (D7 Om0) a
   | succ g=>
    have:=B5 a;rw [nU a,nU a,b g (tT r) Om0 Om0]
def aW (p:List UInt8):Option (List (List UInt8)):=
 if 1000<p.length\/p.getD 0 0≠47 then W else if p=[47] then S [] else if (dw p.length p).all cG=true then S (dw p.length p) else W
def xm (c:UInt8):∀ l:List UInt8,(if Lib.indexByte l c<0 then (l.length:Int) else Lib.indexByte l c)=(l.findIdx (· == c):Nat)
 | []=>rfl
 | b :: l=>by
  have a:=xm c l;have f:=Lib.indexByte_ge l c;unfold Lib.indexByte;rw [List.findIdx_cons]
  cases e:b == c with
  | true=>simp
  | false=>
   simp only [Bool.false_eq_true,if_false,cond_false,A1]
   by_cases h:Lib.indexByte l c=-1
   .rw [h] at a ⊢
    simp only [BEq.rfl,if_true];simp at a ⊢;omega
   .have d:(Lib.indexByte l c == -1)=false:=by simpa using h
    rw [d];simp only [Bool.false_eq_true,if_false];rw [if_neg Om0] at a ⊢;omega
def strs (l:List (List UInt8)):List Value:=l.map fun x=>Y (str x)
def Mm (l:List UInt8) (k:Nat):(str l).extract 0 k=str (l.take k):=by
 apply ByteArray.ext;simp [str]
def NS (l:List UInt8) (k:Nat):(str l).extract k l.length=str (l.drop k):=by
 apply ByteArray.ext;simp [str];exact List.take_of_length_le Si0
end Go.SL
namespace Go.Proofs.Cl
open RowKit SL Proofs.Nn Proofs.Ba Proofs.Fs
def wO (l:List UInt8) (k:Nat) (a:k<=l.length) (w:World):(Instr.slice 9 (Y (str l)) (S (V U (k:Int))) W W).run T w = .ok (Y (str (l.drop k))) w:=by
 rw [<- NS];simp [Instr.slice,Instr.sliceBounds,Instr.sliceBound,run_underlying underlying9,go_sem,iV,a,Result.andThen]
def OC (l:List UInt8) (k:Nat) (a:k<=l.length) (w:World):(Instr.slice 9 (Y (str l)) W (S (V U (k:Int))) W).run T w = .ok (Y (str (l.take k))) w:=by
 rw [<- Mm];simp [Instr.slice,Instr.sliceBounds,Instr.sliceBound,run_underlying underlying9,go_sem,iV,a,Result.andThen]
attribute [local go_sem] Oper.semAt_some
def Wu (p:List UInt8) (a:Array Value):ai:=fact (a=#[Y (str p)])
def yd (a:Nat) (p:List UInt8):ai:=pt a (Z #[Y (str p)] 9 (0,0))
def Sx (b:List (List UInt8)->ai) (p:List UInt8) (c:ai) (w0:World) (u:Value) (wr:World):Prop:=
 ∃ (r:List UInt8) (a:List (List UInt8)),r.length<=p.length/\u = Y (str r)/\dw p.length p=a++dw r.length r/\ak w0 wr/\ah wr (b a*c)
def FM:Value->Nat
 | Y s=>s.size
 | _=>0
def AI (r:List UInt8):((str r).toList == [])=decide (r=[]):=by
 have:=uI r [];rw [show (str []).toList=[] by rw [Lib.toList_data];rfl] at this;exact this
def EF (m0:Nat) (p:List UInt8) (g:Nat) :
  dU Fence.wide m0 T 246 #[ax g] (yd g p) Wu (fun c=>c=dw p.length p) (fun c=>c <+: dw p.length p):=by
 intro lp j Ax G w0 w R hs h;have c0:=h.aj.cell 0;refine callsIn_of_wp func246 rfl trivial ?_ rfl;simp only [ntmps246,List.size_toArray,A1,List.length_nil,Nat.reduceAdd,Nat.reduceSub,D6,D5,List.push_toArray,D4,List.nil_append,List.cons_append]
 gi_wp2_with fail
 gi_loopw [3] (fun u wr=>Sx j p (yd g p*G) w0 u wr) (fun u _=>FM u)
 case atStart=>exact ⟨p,[],B3 _,rfl,rfl,hs,h⟩
 case round=>
  obtain ⟨r,c,n0,rfl,L,K,J⟩:=hrel
  by_cases i:r=[]
  .subst i
   have k0:((str []).toList == [])=true:=AI [];have M:Hid (c=dw p.length p):=by show _=_;rw [L];simp [dw]
   have v:=ae J
   gi_wp2_with fail
   go_end0
   exact ⟨⟨_,rfl⟩,K,.inl ⟨_,M.o,v.o⟩⟩
  .have k0:((str r).toList == [])=false:=by rw [AI];exact decide_eq_false i
   have d0:=List.length_pos_iff.2 i;obtain ⟨t,q⟩:=Nm (r.drop 1)
   have h1:∀ w,(Instr.slice 9 (Y (str r)) (S (V U 1)) W W).run T w = .ok (Y (str t)) w:=by rw [<- q];exact wO r 1 d0
   obtain ⟨m,o⟩:=Nm (t.findIdx (· == 47))
   have H:m<=t.length:=by rw [<- o];exact List.findIdx_le_length
   have g0:dw r.length r=t.take m :: dw (t.drop m).length (t.drop m):=by
    obtain ⟨k,hk⟩:∃ k,r.length=k+1:=⟨r.length-1,Om0⟩
    have e0:=B5 i;rw [hk,nU i];have x:Gu r=t.take m:=by unfold Gu;rw [q,o]
    have D:tT r=t.drop m:=by unfold tT;rw [q,o]
    rw [D] at e0;rw [x,D,DE k (t.drop m).length (t.drop m) Om0 (B3 _)]
   have h0:dw p.length p=(c++[t.take m])++dw (t.drop m).length (t.drop m):=by rw [L,g0];simp
   have i0:(t.drop m).length<r.length:=by rw [<- q];simp;omega
   have h2:=OC t m H;have h3:=wO t m H;have y:=Tryz.strings_IndexByte (str t) 47;have P:(47:Int).toNat.toUInt8=(47:UInt8):=rfl;have x:(str t).data.toList=t:=rfl;rw [P,x] at y;have n:=xm 47 t;obtain ⟨ix,F⟩:=Nm (Lib.indexByte t 47)
   rw [F,o] at n;rw [F] at y;have N:=ae y;have l:=ae h0;have C:=ae i0;have v:=ae J
   gi_wp2_with fail
   refine Ba.mh (N.o _) ?_;rintro e z ⟨rfl,rfl⟩;have l0:=iV t;have Q:∀ (s:World),ak w0 s->ah s (j (c++[t.take m])*(yd g p*G))->Sx j p (yd g p*G) w0 (Y (str (t.drop m))) s:=fun s a b=>⟨_,_,by have:=C.o;omega,rfl,l.o,a,b⟩
   have A:=ae Q
   obtain ⟨fn,o0,assign,body,hy,E⟩:=R c (t.take m) #[Y (str (t.take m))] _ z (by rw [l.o];exact D9 _ _) K (by
    have h4:ah z (Wu (t.take m) #[Y (str (t.take m))]*(j c*(yd g p*G))):=(ah.ao.2 ⟨rfl,v.o⟩:ah z (fact _*_))
    exact h4.aj)
   have f0:FM (Y (str (t.drop m)))<FM (Y (str r)):=by
    show (str _).size<(str _).size
    rw [iV,iV];exact C.o
   have B:=ae f0
   by_cases I:ix<0
   .rw [if_pos I] at n
    have b0:t.length=m:=Om0
    rw [b0] at l0
    gi_wp2_with fail
    refine ⟨fun h=>(by cases h),E.mono ?_⟩;rintro e O (⟨rfl,d,f⟩|⟨rfl,d,f⟩)
    .gi_wp2_with fail
     go_roundw
     case rel=>exact A.o _ d f
     case measure=>exact B.o
    .gi_wp2_with fail
     refine bodyPost_ret (results_none rfl _ _ _) rfl ?_;exact ⟨⟨_,rfl⟩,d,.inr ⟨_,by rw [l.o];exact D9 _ _,f⟩⟩
   .rw [if_neg I] at n
    subst n
    gi_wp2_with fail
    refine ⟨fun h=>(by cases h),E.mono ?_⟩;rintro e O (⟨rfl,d,f⟩|⟨rfl,d,f⟩)
    .gi_wp2_with fail
     go_roundw
     case rel=>exact A.o _ d f
     case measure=>exact B.o
    .gi_wp2_with fail
     refine bodyPost_ret (results_none rfl _ _ _) rfl ?_;exact ⟨⟨_,rfl⟩,d,.inr ⟨_,by rw [l.o];exact D9 _ _,f⟩⟩
def F2 (w:World) (p:List UInt8):Calls T 175 #[Y (str p)] w fun e a=>e = .returned (.func (.func 246) #[] #[ax w.heap.size])/\a=w.alloc (Z #[Y (str p)] 9 (0,0)):=by
 go_in
 go_wp2
 go_ret
 exact ⟨rfl,rfl⟩
def fu (v:Value) (l:List (List UInt8)):ai:=sl 9 1 v l.length (strs l)
def EG (p:List UInt8) (w:World) (e:Ending) (a:World):Prop:=
 ∃ v,e = .returned (.tuple #[v,V U (if (aW p).isSome=true then 0 else 1)])/\ak w a/\ah a (fu v ((aW p).getD [])*whole w)
def lG {w:World} {c:Array Value} {a b:Nat} {v e:Value} {F:ai} (g:c[2]?=S (ax a)) (i:c[3]?=S (ax b)) (h:ah w (pt a (Z #[v] 37 (0,0))*(pt b (Z #[e] 31 (0,0))*F))) :
  (results Tryz.f97 c).run T w = .ok (.tuple #[v,e]) w:=by
 have d:=h.cell 0;have f:=h.aj.cell 0;simp [results,Tryz.results97,g,i,asAddr,ax,go_sem,d,f]
def XU (a:Nat) (b:List (List UInt8)):ai:=ex fun v=>pt a (Z #[v] 37 (0,0))*fu v b
def Dc (b c d:Nat) (a:List (List UInt8)):ai:=fact (a.all cG=true)*(XU b a*(pt c (Z #[X W 0 0] 37 (0,0))*pt d (Z #[V U 0] 31 (0,0))))
def UX (a b:Nat) (p:List UInt8) (c:Code):ai:=fact (c = .ret/\(dw p.length p).all cG=false)*(pt a (Z #[X W 0 0] 37 (0,0))*pt b (Z #[V U 1] 31 (0,0)))
def rn:(prog.info? 9).map (fun i=>(i.zero,i.size,i.bytes))=S (S (.string ⟨#[]⟩),1,16):=Kr0
def zf (w:World) (p:List UInt8):Calls T 97 #[Y (str p)] w (EG p w):=by
 refine aK fun T0 HQ=>?_
 have o0:∀ c:Int,∀ P,P=(w.alloc (Z #[X W 0 0] 37 (0,0))).alloc (Z #[V U c] 31 (0,0))->∀ h0:Array Value,h0[2]?=S (ax w.heap.size)->h0[3]?=S (ax (w.heap.size+1))->c=(if (aW p).isSome=true then 0 else 1)->(aW p).getD []=[] ->
   ∃ v,(results Tryz.f97 h0).run T P = .ok v P/\T0 (.returned v) P:=by
  intro c P hw h0 t2 t3 hc he;have B:=((ah.whole w).alloc (Z #[X W 0 0] 37 (0,0))).alloc (Z #[V U c] 31 (0,0));have R:=((ak.refl w).alloc (Z #[X W 0 0] 37 (0,0))).alloc (Z #[V U c] 31 (0,0));rw [World.size_alloc] at B;subst hw;refine ⟨_,lG t2 t3 B.aj,HQ.o _ _ ⟨X W 0 0,by rw [hc],R,?_⟩⟩;rw [he];exact (B.right.right).dR 9 1
 have Fin:=ae o0;clear o0;have s0:=iV p;obtain ⟨g0,hm⟩:=Nm p.length
 rw [hm] at s0;have G:=ae hm;clear hm;have K:=AI p
 have A:((str p).toList == [47])=decide (p=[47]):=by
  have:=uI p [47];rw [show (str [47]).toList=[47] by rw [Lib.toList_data];rfl] at this;exact this
 refine (callsIn_wide (n:=9)).1 ?_;refine callsIn_of_wp_marks func97 rfl trivial ?_ rfl;simp only [ntmps97,List.size_toArray,A1,List.length_nil,Nat.reduceAdd,Nat.reduceSub,D6,D5,List.push_toArray,D4,List.nil_append,List.cons_append];refine wpIn_wide.2 ?_
 by_cases h1:(1000:Int)<(g0:Int)
 .have hS:aW p=W:=if_pos (.inl (by rw [G.o];omega))
  have e:=ae hS;clear hS K A
  go_wp2_with fail
  exact Fin.o 1 _ rfl _ rfl rfl (by rw [e.o];rfl) (by rw [e.o];rfl)
 by_cases C:p=[]
 .subst C
  have e:Hid (aW []=W):=if_pos (.inr De0);have m0:((str []).toList == [])=true:=K;clear K A
  go_wp2_with fail
  exact Fin.o 1 _ rfl _ rfl rfl (by rw [e.o];rfl) (by rw [e.o];rfl)
 have m0:((str p).toList == [])=false:=by rw [K];exact decide_eq_false C
 have b1:0<g0:=by rw [<- G.o];exact List.length_pos_iff.2 C
 have k0:∀ s:0<(str p).size,(str p)[0].toNat=(p.getD 0 0).toNat:=fun s=>by
  cases p with
  | nil=>exact absurd rfl C
  | cons o1 l=>rfl
 have n1:=ae C;clear K C
 by_cases D:p.getD 0 0=47
 .have a1:∀ s:0<(str p).size,(str p)[0].toNat=47:=fun s=>by rw [k0 s,D];rfl
  clear k0;have a:=ae D;clear D
  by_cases h4:p=[47]
  .have e:Hid (aW p=S []):=by
    show _=_
    unfold aW;rw [if_neg (by rw [G.o];intro h;rcases h with h|h;omega;exact h a.o),if_pos h4]
   have n0:((str p).toList == [47])=true:=by rw [A];exact decide_eq_true h4
   clear A h4
   go_wp2_with fail
   exact Fin.o 0 _ rfl _ rfl rfl (by rw [e.o];rfl) (by rw [e.o];rfl)
  .have e:Hid (aW p=if (dw p.length p).all cG=true then S (dw p.length p) else W):=by
    show _=_
    unfold aW;rw [if_neg (by rw [G.o];intro h;rcases h with h|h;omega;exact h a.o),if_neg h4]
   have n0:((str p).toList == [47])=false:=by rw [A];exact decide_eq_false h4
   have B:=(((ah.whole w).alloc (Z #[X W 0 0] 37 (0,0))).alloc (Z #[V U 0] 31 (0,0))).alloc (Z #[X W 0 0] 37 (0,0));have R:=(((ak.refl w).alloc (Z #[X W 0 0] 37 (0,0))).alloc (Z #[V U 0] 31 (0,0))).alloc (Z #[X W 0 0] 37 (0,0));simp only [World.size_alloc] at B;have r0:=F2 (((w.alloc (Z #[X W 0 0] 37 (0,0))).alloc (Z #[V U 0] 31 (0,0))).alloc (Z #[X W 0 0] 37 (0,0))) p;clear A h4 Fin
   go_wp2_with fail
   (with_reducible apply r0.mono)
   rintro b0 w2 ⟨rfl,rfl⟩;clear r0;generalize ((w.alloc (Z #[X W 0 0] 37 (0,0))).alloc (Z #[V U 0] 31 (0,0))).alloc (Z #[X W 0 0] 37 (0,0))=w3 at *;generalize w.heap.size+1+1=f at *;generalize w.heap.size+1=i at *;generalize w.heap.size=g at *;have hB:=B.alloc (Z #[Y (str p)] 9 (0,0));have dB:=R.alloc (Z #[Y (str p)] 9 (0,0))
   go_wp2_with fail
   generalize k1:w3.alloc (Z #[Y (str p)] 9 (0,0))=w4 at *;generalize w3.heap.size=F at *;rename_i S0 u
   have h5:ah w4 (Dc f g i []*(yd F p*whole w)):=by
    refine (ah.ao.2 ⟨rfl,?_⟩:ah w4 (fact _*_)).to (by unfold Dc;exact (ar _ _ _).symm);refine (ah.aq.2 ⟨X W 0 0,(hB.dR 9 1).to ?_⟩:ah w4 (XU f []*_)).to (ar _ _ _).symm;unfold yd fu;show sl _ 1 _ 0 []*_=_*sl _ 1 _ 0 []*_
    ac_rfl
   have Hh:=ae u;have H0:Hid (g0<=1000):=by show g0<=1000;omega
   clear hB B R k1 a1 m0 n0 s0 h1 b1 u;refine (wpIn_wide (n:=9)).1 ?_
   refine na (C:=fun _=>True) (w0:=w) rfl De0 (gf:=246) (lb:=#[ax F]) rfl trivial (enters func246 Kr0 rfl)
    (fun l F0 Ax G0 w0 w _=>EF _ p F l F0 Ax G0 w0 w) (fun x x0=>(x0.setIfInBounds 22 (Y (str x))).setIfInBounds 5 (Y (str x))) (Dc f g i) (fun _=>trivial) (fun c _=>UX g i p c) (fun b x=>Dc f g i b) (whole w) ?hps dB h5 ?assign ?body ?done ?stop
   case hps=>
    intro x vs y d h;unfold Wu at h;obtain ⟨rfl,_⟩:=ah.ao.1 h
    rfl
   case assign=>
    intro E r b x vs y d S0 _ o H u;have m:ah d (Wu x vs*(Dc f g i b*(pt E (.loop r)*y))):=H.aj;unfold Wu at m;obtain ⟨rfl,n⟩:=ah.ao.1 m;clear H m
    gi_wp2
    exact u _ o n
   case body=>
    intro E r b x y d hp o H;unfold Dc at H;obtain ⟨q0,m⟩:=ah.ao.1 (H.to (ar _ _ _));obtain ⟨v,n⟩:=ah.aq.1 (m.to (ar _ _ _));have a:ah d (fu v b*(pt f (Z #[v] 37 (0,0))*(pt g (Z #[X W 0 0] 37 (0,0))*(pt i (Z #[V U 0] 31 (0,0))*(pt E (.loop r)*y))))):=n.u00;clear H m n
    have d0:(dw p.length p).all cG=true->cG x=true:=fun h=>by
     obtain ⟨x0,ht⟩:=hp;rw [<- ht] at h;rw [D8,D8] at h;simp only [Bool.and_eq_true,List.all_cons,List.all_nil,and_true] at h;exact h.1.2
    have c1:b.length<1000000:=by
     have hl:=hp.length_le;rw [List.length_append,D3] at hl;have r1:=lP p.length p;have:=G.o;have:=H0.o;omega
    have M:=rH d x;have c0:d.cell? ⟨f,0,W⟩=S v:=a.aj.cell 0
    by_cases s:cG x=true
    .rw [s] at M
     have p0:=a.alloc (Z #[Y (str x)] 9 (0,0))
     have hR:nt (d.alloc (Z #[Y (str x)] 9 (0,0))) 1 (X (S ⟨d.heap.size,0,W⟩) 1 1) 1 [Y (str x)]:=
      ⟨rfl,.inr ⟨_,_,rfl,fun l1 m1 hu=>by
       rw [Addr.add_lit,Nat.zero_add];exact (p0.cell l1).trans (by simpa using hu)⟩⟩
     have W0:ah (d.alloc (Z #[Y (str x)] 9 (0,0))) (sl 9 1 v b.length (strs b)*(pt f (Z #[v] 37 (0,0))*(pt g (Z #[X W 0 0] 37 (0,0))*(pt i (Z #[V U 0] 31 (0,0))*(pt d.heap.size (Z #[Y (str x)] 9 (0,0))*(pt E (.loop r)*y)))))):=p0.to (by unfold fu;ac_rfl);obtain ⟨i0,hi,hz,g1,Z0⟩:=info_parts rn;obtain ⟨v',w',e1,e0,j1⟩:=ah.append (P:=T) (ty:=37) underlying37 hi hz g1 Z0 rfl W0 hR (by intro m1 hu;rw [List.mem_singleton.1 hu];rfl) (by unfold maxLen;omega) Om0;obtain ⟨j,k,rfl⟩:=az e0;have p1:w'.cell? ⟨f,0,W⟩=S v:=e0.aj.cell 0;have q1:=e0.aj.frozen 0;have i1:=e0.aj.setCell 0 (X j (b.length+1) k);have R0:=ae i1;have N0:=ae e1;have L0:=ae q0;have Hx:=ae s;have z:=ae (((o.alloc (Z #[Y (str x)] 9 (0,0))).trans j1).setCell ⟨f,0,W⟩ (X j (b.length+1) k));have I:=ae M
     gi_wp2_with fail
     refine sF I.o ?_;rintro b0 w2 ⟨rfl,rfl⟩;clear I
     gi_wp2_with (gi_at_builtin;refine cm N0.o _ _ rfl rfl rfl rfl rfl ?_)
     refine ⟨z.o,?_⟩;unfold Dc;refine (ah.ao.2 ⟨by rw [D8,L0.o];simp [Hx.o],?_⟩:ah _ (fact _*_)).to (ar _ _ _).symm;refine (ah.aq.2 ⟨X j (b.length+1) k,?_⟩:ah _ (XU f (b++[x])*_)).to (ar _ _ _).symm;have t:=R0.o;have b0:strs b++[Y (str x)]=strs (b++[x]):=by unfold strs;rw [List.map_append];rfl
     rw [b0] at t;unfold fu;rw [List.length_append,D3];exact (t.t00 (pt d.heap.size (Z #[Y (str x)] 9 (0,0))*(pt f (Z #[X j (b.length+1) k] 37 (0,0))*sl 9 1 (X j (b.length+1) k) (b.length+1) (strs (b++[x]))*(pt g (Z #[X W 0 0] 37 (0,0))*(pt i (Z #[V U 0] 31 (0,0))*(pt E (.loop r)*y)))))).right.u00
    .have u0:cG x=false:=by simpa using s
     rw [u0] at M;have N:(dw p.length p).all cG=false:=Gr0
     have z0:=a.au.cell 0;have z1:=a.aC.cell 0;have f0:=a.au.frozen 0;have f1:=a.aC.frozen 0;have q:=a.au.setCell 0 (X W 0 0);have D0:=q.aC.cell 0;have V0:=q.aC.frozen 0;have H5:=ae (q.aC.setCell 0 (V U 1));have z:=ae ((o.setCell ⟨g,0,W⟩ (X W 0 0)).setCell ⟨i,0,W⟩ (V U 1));have K0:=ae N;have I:=ae M;simp at z0 z1 D0;clear a q o N d0 hp M q0 s u0 c1
     gi_wp2_with fail
     refine sF I.o ?_;rintro b0 w2 ⟨rfl,rfl⟩;clear I
     gi_wp2_with fail
     refine ⟨z.o,?_⟩;have t:=H5.o;unfold UX;refine (ah.ao.2 ⟨⟨rfl,K0.o⟩,?_⟩:ah _ (fact _*_)).to (ar _ _ _).symm;exact (t.to (by unfold fu;ac_rfl:_=(pt f (Z #[v] 37 (0,0))*fu v b)*(pt g (Z #[X W 0 0] 37 (0,0))*pt i (Z #[V U 1] 31 (0,0))*(pt E (.loop r)*y)))).right.u00
   case done=>
    intro Q ys d hS o H;subst hS;unfold Dc at H;obtain ⟨d0,m⟩:=ah.ao.1 (H.to (ar _ _ _));obtain ⟨v,n⟩:=ah.aq.1 (m.to (ar _ _ _));have O:aW p=S (dw p.length p):=by rw [e.o,if_pos d0]
    have J:=ae O;generalize dw p.length p=l at *;have a:ah d (pt Q (.deferred (S []))*(pt f (Z #[v] 37 (0,0))*(pt g (Z #[X W 0 0] 37 (0,0))*(pt i (Z #[V U 0] 31 (0,0))*(sl 9 1 v l.length (strs l)*(yd F p*whole w)))))):=n.to (by unfold fu;ac_rfl);obtain ⟨j,k,rfl⟩:=az a.aI;have c0:d.cell? ⟨f,0,W⟩=S (X j l.length k):=a.aj.cell 0;have z0:d.cell? ⟨g,0,W⟩=S (X W 0 0):=a.au.cell 0;have z1:d.cell? ⟨i,0,W⟩=S (V U 0):=a.aC.cell 0;have f0:=a.au.frozen 0;have f1:=a.aC.frozen 0;have q:=a.au.setCell 0 (X j l.length k);have D0:=q.aC.cell 0;have V0:=q.aC.frozen 0;have H5:=ae (q.aC.setCell 0 (V U 0));have z:=ae ((o.setCell ⟨g,0,W⟩ (X j l.length k)).setCell ⟨i,0,W⟩ (V U 0));clear H m n a q d0 O e dB h5 o;refine Hh.o _ _ ?_;clear Hh
    go_wp2_with fail
    have t:=H5.o;simp only [List.setIfInBounds_toArray,List.set_cons_zero] at t;have h7:=t.t00 (pt Q (.deferred (S []))*(pt g (Z #[X j l.length k] 37 (0,0))*(pt i (Z #[V U 0] 31 (0,0))*((sl 9 1 (X j l.length k) l.length (strs l)*whole w)*(yd F p*pt f (Z #[X j l.length k] 37 (0,0)))))));have u:=h7.heap;have L:=(h7.putObj (.deferred W)).right;clear t h7;refine ⟨Si0,.inl ⟨_,_,rfl,run_takeDeferred u,?_⟩⟩;refine ⟨_,lG rfl rfl L,HQ.o _ _ ⟨X j l.length k,by rw [J.o];rfl,z.o.putObj _ _,?_⟩⟩;rw [J.o];exact L.right.right.left
   case stop=>
    intro Q c ys d Y0 o H;unfold UX at H;obtain ⟨⟨rfl,N⟩,m⟩:=ah.ao.1 (H.to (ar _ _ _));have O:aW p=W:=by rw [e.o,if_neg (by rw [N];decide)]
    have n:ah d (pt Q (.deferred (S []))*(pt g (Z #[X W 0 0] 37 (0,0))*(pt i (Z #[V U 1] 31 (0,0))*(whole w*yd F p)))):=m.u00;have J:=ae O;have z:=ae o;have u:=n.heap;have L:=ae (n.putObj (.deferred W)).right;clear H m n N O e dB h5 o Y0
    gi_wp2
    refine ⟨Si0,.inl ⟨_,_,rfl,run_takeDeferred u,?_⟩⟩;refine ⟨_,lG rfl rfl L.o,HQ.o _ _ ⟨X W 0 0,by rw [J.o];rfl,z.o.putObj _ _,?_⟩⟩;rw [J.o];exact L.o.right.right.left.dR 9 1
 .have e:Hid (aW p=W):=if_pos (.inr D)
  obtain ⟨l0,hq⟩:=Nm ((p.getD 0 0).toNat)
  rw [hq] at k0;have d1:¬ l0=47:=fun h=>D (UInt8.toNat_inj.1 (by rw [hq,h];rfl));have s1:(((l0:Nat):Int) != 47)=true:=by simpa using (show ¬ (l0:Int)=47 by omega)
  clear hq d1;clear D A
  go_wp2_with fail
  exact Fin.o 1 _ rfl _ rfl rfl (by rw [e.o];rfl) (by rw [e.o];rfl)
end Go.Proofs.Cl
