/- Steps. -/
import Derived.Test.YtdickhgiahcnaaaGreatDoorNP28
import Derived.Test.YtdickhgiahcnaaaGreatDoorNP11
set_option linter.all false
set_option maxRecDepth 99999
set_option maxHeartbeats 0
open Go.SL
open Go.Value renaming int->V,slice->X,string->Y
open Go.IntKind renaming i64->U
open Go.Obj renaming cells->Z
open Go.Proofs.Tryz renaming prog->T
open Option renaming some->S,none->W
open Go.Proofs.Tryz
open List renaming length_cons->A3,prefix_append->A1,all_append->B3,eq_nil_of_length_eq_zero->B2,append_toArray->D8,length_singleton->D7
open Nat renaming le_refl->A2
open Array renaming replicate_succ->B1,replicate_zero->D9
namespace Go.SL
open RowKit
variable {r:List UInt8}
def F6 (r:List UInt8):List UInt8:=(r.drop 1).take ((r.drop 1).findIdx (· == 47))
def tE (r:List UInt8):List UInt8:=(r.drop 1).drop ((r.drop 1).findIdx (· == 47))
def AK (h:r≠[]):(tE r).length<r.length:=by
 unfold tE;have:0<r.length:=List.length_pos_iff.2 h;simp only [List.length_drop];omega
def dI:Nat->List UInt8->List (List UInt8)
 | 0,_=>[]
 | f+1,r=>if r=[] then [] else F6 r :: dI f (tE r)
def lD:∀ (f:Nat) (r:List UInt8),(dI f r).length<=f
 | 0,_=>A2 _
 | f+1,r=>by
  unfold dI
  split
  .exact Nat.zero_le _
  .have:=lD f (tE r);rw [A3];omega
def mN (f:Nat):dI f []=[]:=by cases f <;> rfl
def ot {f:Nat} (h:r≠[]):dI (f+1) r=F6 r :: dI f (tE r):=if_neg h
def C0:∀ (f g:Nat) (r:List UInt8),r.length<=f->r.length<=g->dI f r=dI g r:=by
 intro f
 induction f with
 | zero=>
  intro g r h _;have:r=[]:=B2 Om0;subst this;rw [mN,mN]
 | succ f b=>
  intro g r c d
  by_cases a:r=[]
  .rw [a,mN,mN]
  .cases g with
   | zero=>exact absurd (B2 Om0) a
   | succ g=>
    have:=AK a;rw [ot a,ot a,b g (tE r) Om0 Om0]
def bh (p:List UInt8):Option (List (List UInt8)):=
 if 1000<p.length\/p.getD 0 0≠47 then W else if p=[47] then S [] else if (dI p.length p).all cK=true then S (dI p.length p) else W
def vd (c:UInt8):∀ l:List UInt8,(if Lib.indexByte l c<0 then (l.length:Int) else Lib.indexByte l c)=(l.findIdx (· == c):Nat)
 | []=>rfl
 | b :: l=>by
  have a:=vd c l;have f:=Lib.indexByte_ge l c;unfold Lib.indexByte;rw [List.findIdx_cons]
  cases e:b == c with
  | true=>simp
  | false=>
   simp only [Bool.false_eq_true,if_false,cond_false,A3]
   by_cases h:Lib.indexByte l c=-1
   .rw [h] at a ⊢
    simp only [BEq.rfl,if_true];simp at a ⊢;omega
   .have d:(Lib.indexByte l c == -1)=false:=by simpa using h
    rw [d];simp only [Bool.false_eq_true,if_false];rw [if_neg Om0] at a ⊢;omega
def strs (l:List (List UInt8)):List Value:=l.map fun x=>Y (str x)
def NH (l:List UInt8) (k:Nat):(str l).extract 0 k=str (l.take k):=by
 apply ByteArray.ext;simp [str]
def Mm (l:List UInt8) (k:Nat):(str l).extract k l.length=str (l.drop k):=by
 apply ByteArray.ext;simp [str];exact List.take_of_length_le Si0
end Go.SL
namespace Go.Proofs.Cl
open RowKit SL Proofs.Nn Proofs.Ba Proofs.Fs
def wF (l:List UInt8) (k:Nat) (a:k<=l.length) (w:World):(Instr.slice 9 (Y (str l)) (S (V U (k:Int))) W W).run T w = .ok (Y (str (l.drop k))) w:=by
 rw [<- Mm];simp [Instr.slice,Instr.sliceBounds,Instr.sliceBound,run_underlying underlying9,go_sem,iH,a,Result.andThen]
def MA (l:List UInt8) (k:Nat) (a:k<=l.length) (w:World):(Instr.slice 9 (Y (str l)) W (S (V U (k:Int))) W).run T w = .ok (Y (str (l.take k))) w:=by
 rw [<- NH];simp [Instr.slice,Instr.sliceBounds,Instr.sliceBound,run_underlying underlying9,go_sem,iH,a,Result.andThen]
attribute [local go_sem] Oper.semAt_some
def U5 (p:List UInt8) (a:Array Value):ai:=fact (a=#[Y (str p)])
def xx (a:Nat) (p:List UInt8):ai:=pt a (Z #[Y (str p)] 9 (0,0))
def Q4 (b:List (List UInt8)->ai) (p:List UInt8) (c:ai) (w0:World) (u:Value) (wr:World):Prop:=
 ∃ (r:List UInt8) (a:List (List UInt8)),r.length<=p.length/\u = Y (str r)/\dI p.length p=a++dI r.length r/\aj w0 wr/\ag wr (b a*c)
def EH:Value->Nat
 | Y s=>s.size
 | _=>0
def zq (r:List UInt8):((str r).toList == [])=decide (r=[]):=by
 have:=uy r [];rw [show (str []).toList=[] by rw [Lib.toList_data];rfl] at this;exact this
def EI (l0:Nat) (p:List UInt8) (g:Nat) :
  fF Fence.wide l0 T 187 #[az g] (xx g p) U5 (fun c=>c=dI p.length p) (fun c=>c <+: dI p.length p):=by
 intro lp j Ax G w0 w R hs h;have c0:=h.ah.cell 0;refine callsIn_of_wp func187 rfl trivial ?_ rfl;simp only [ntmps187,List.size_toArray,A3,List.length_nil,Nat.reduceAdd,Nat.reduceSub,B1,D9,List.push_toArray,D8,List.nil_append,List.cons_append]
 gi_wp2_with fail
 gi_loopw [3] (fun u wr=>Q4 j p (xx g p*G) w0 u wr) (fun u _=>EH u)
 case atStart=>exact ⟨p,[],A2 _,rfl,rfl,hs,h⟩
 case round=>
  obtain ⟨r,c,m0,rfl,L,K,J⟩:=hrel
  by_cases i:r=[]
  .subst i
   have j0:((str []).toList == [])=true:=zq [];have M:Hid (c=dI p.length p):=by show _=_;rw [L];simp [dI]
   have v:=ae J
   gi_wp2_with fail
   go_end0
   exact ⟨⟨_,rfl⟩,K,.inl ⟨_,M.o,v.o⟩⟩
  .have j0:((str r).toList == [])=false:=by rw [zq];exact decide_eq_false i
   have d0:=List.length_pos_iff.2 i;obtain ⟨t,q⟩:=Nm (r.drop 1)
   have h1:∀ w,(Instr.slice 9 (Y (str r)) (S (V U 1)) W W).run T w = .ok (Y (str t)) w:=by rw [<- q];exact wF r 1 d0
   obtain ⟨m,o⟩:=Nm (t.findIdx (· == 47))
   have H:m<=t.length:=by rw [<- o];exact List.findIdx_le_length
   have g0:dI r.length r=t.take m :: dI (t.drop m).length (t.drop m):=by
    obtain ⟨k,hk⟩:∃ k,r.length=k+1:=⟨r.length-1,Om0⟩
    have e0:=AK i;rw [hk,ot i];have x:F6 r=t.take m:=by unfold F6;rw [q,o]
    have D:tE r=t.drop m:=by unfold tE;rw [q,o]
    rw [D] at e0;rw [x,D,C0 k (t.drop m).length (t.drop m) Om0 (A2 _)]
   have h0:dI p.length p=(c++[t.take m])++dI (t.drop m).length (t.drop m):=by rw [L,g0];simp
   have i0:(t.drop m).length<r.length:=by rw [<- q];simp;omega
   have h2:=MA t m H;have h3:=wF t m H;have y:=Tryz.strings_IndexByte (str t) 47;have P:(47:Int).toNat.toUInt8=(47:UInt8):=rfl;have x:(str t).data.toList=t:=rfl;rw [P,x] at y;have n:=vd 47 t;obtain ⟨ix,F⟩:=Nm (Lib.indexByte t 47)
   rw [F,o] at n;rw [F] at y;have N:=ae y;have l:=ae h0;have C:=ae i0;have v:=ae J
   gi_wp2_with fail
   refine Ba.kq (N.o _) ?_;rintro e z ⟨rfl,rfl⟩;have k0:=iH t;have Q:∀ (s:World),aj w0 s->ag s (j (c++[t.take m])*(xx g p*G))->Q4 j p (xx g p*G) w0 (Y (str (t.drop m))) s:=fun s a b=>⟨_,_,by have:=C.o;omega,rfl,l.o,a,b⟩
   have A:=ae Q
   obtain ⟨fn,n0,assign,body,hy,E⟩:=R c (t.take m) #[Y (str (t.take m))] _ z (by rw [l.o];exact A1 _ _) K (by
    have h4:ag z (U5 (t.take m) #[Y (str (t.take m))]*(j c*(xx g p*G))):=(ag.aq.2 ⟨rfl,v.o⟩:ag z (fact _*_))
    exact h4.ah)
   have f0:EH (Y (str (t.drop m)))<EH (Y (str r)):=by
    show (str _).size<(str _).size
    rw [iH,iH];exact C.o
   have B:=ae f0
   by_cases I:ix<0
   .rw [if_pos I] at n
    have b0:t.length=m:=Om0
    rw [b0] at k0
    gi_wp2_with fail
    refine ⟨fun h=>(by cases h),E.mono ?_⟩;rintro e O (⟨rfl,d,f⟩|⟨rfl,d,f⟩)
    .gi_wp2_with fail
     go_roundw
     case rel=>exact A.o _ d f
     case measure=>exact B.o
    .gi_wp2_with fail
     refine bodyPost_ret (results_none rfl _ _ _) rfl ?_;exact ⟨⟨_,rfl⟩,d,.inr ⟨_,by rw [l.o];exact A1 _ _,f⟩⟩
   .rw [if_neg I] at n
    subst n
    gi_wp2_with fail
    refine ⟨fun h=>(by cases h),E.mono ?_⟩;rintro e O (⟨rfl,d,f⟩|⟨rfl,d,f⟩)
    .gi_wp2_with fail
     go_roundw
     case rel=>exact A.o _ d f
     case measure=>exact B.o
    .gi_wp2_with fail
     refine bodyPost_ret (results_none rfl _ _ _) rfl ?_;exact ⟨⟨_,rfl⟩,d,.inr ⟨_,by rw [l.o];exact A1 _ _,f⟩⟩
def ED (w:World) (p:List UInt8):Calls T 137 #[Y (str p)] w fun e a=>e = .returned (.func (.func 187) #[] #[az w.heap.size])/\a=w.alloc (Z #[Y (str p)] 9 (0,0)):=by
 go_in
 go_wp2
 go_ret
 exact ⟨rfl,rfl⟩
def bR (v:Value) (l:List (List UInt8)):ai:=sl 9 1 v l.length (strs l)
def Dw (p:List UInt8) (w:World) (e:Ending) (a:World):Prop:=
 ∃ v,e = .returned (.tuple #[v,V U (if (bh p).isSome=true then 0 else 1)])/\aj w a/\ag a (bR v ((bh p).getD [])*whole w)
def lC {w:World} {c:Array Value} {a b:Nat} {v e:Value} {F:ai} (g:c[2]?=S (az a)) (i:c[3]?=S (az b)) (h:ag w (pt a (Z #[v] 37 (0,0))*(pt b (Z #[e] 31 (0,0))*F))) :
  (results Tryz.f76 c).run T w = .ok (.tuple #[v,e]) w:=by
 have d:=h.cell 0;have f:=h.ah.cell 0;simp [results,Tryz.results76,g,i,asAddr,az,go_sem,d,f]
def We (a:Nat) (b:List (List UInt8)):ai:=ex fun v=>pt a (Z #[v] 37 (0,0))*bR v b
def CN (b c d:Nat) (a:List (List UInt8)):ai:=fact (a.all cK=true)*(We b a*(pt c (Z #[X W 0 0] 37 (0,0))*pt d (Z #[V U 0] 31 (0,0))))
def SM (a b:Nat) (p:List UInt8) (c:Code):ai:=fact (c = .ret/\(dI p.length p).all cK=false)*(pt a (Z #[X W 0 0] 37 (0,0))*pt b (Z #[V U 1] 31 (0,0)))
def rD:(prog.info? 9).map (fun i=>(i.zero,i.size,i.bytes))=S (S (.string ⟨#[]⟩),1,16):=Kr0
def yq (w:World) (p:List UInt8):Calls T 76 #[Y (str p)] w (Dw p w):=by
 refine aF fun S0 HQ=>?_
 have n0:∀ c:Int,∀ P,P=(w.alloc (Z #[X W 0 0] 37 (0,0))).alloc (Z #[V U c] 31 (0,0))->∀ h0:Array Value,h0[2]?=S (az w.heap.size)->h0[3]?=S (az (w.heap.size+1))->c=(if (bh p).isSome=true then 0 else 1)->(bh p).getD []=[] ->
   ∃ v,(results Tryz.f76 h0).run T P = .ok v P/\S0 (.returned v) P:=by
  intro c P hw h0 t2 t3 hc he;have B:=((ag.whole w).alloc (Z #[X W 0 0] 37 (0,0))).alloc (Z #[V U c] 31 (0,0));have R:=((aj.refl w).alloc (Z #[X W 0 0] 37 (0,0))).alloc (Z #[V U c] 31 (0,0));rw [World.size_alloc] at B;subst hw;refine ⟨_,lC t2 t3 B.ah,HQ.o _ _ ⟨X W 0 0,by rw [hc],R,?_⟩⟩;rw [he];exact (B.right.right).eU 9 1
 have Fin:=ae n0;clear n0;have r0:=iH p;obtain ⟨g0,hm⟩:=Nm p.length
 rw [hm] at r0;have G:=ae hm;clear hm;have K:=zq p
 have A:((str p).toList == [47])=decide (p=[47]):=by
  have:=uy p [47];rw [show (str [47]).toList=[47] by rw [Lib.toList_data];rfl] at this;exact this
 refine (callsIn_wide (n:=9)).1 ?_;refine callsIn_of_wp_marks func76 rfl trivial ?_ rfl;simp only [ntmps76,List.size_toArray,A3,List.length_nil,Nat.reduceAdd,Nat.reduceSub,B1,D9,List.push_toArray,D8,List.nil_append,List.cons_append];refine wpIn_wide.2 ?_
 by_cases h1:(1000:Int)<(g0:Int)
 .have hS:bh p=W:=if_pos (.inl (by rw [G.o];omega))
  have e:=ae hS;clear hS K A
  go_wp2_with fail
  exact Fin.o 1 _ rfl _ rfl rfl (by rw [e.o];rfl) (by rw [e.o];rfl)
 by_cases C:p=[]
 .subst C
  have e:Hid (bh []=W):=if_pos (.inr De0);have l0:((str []).toList == [])=true:=K;clear K A
  go_wp2_with fail
  exact Fin.o 1 _ rfl _ rfl rfl (by rw [e.o];rfl) (by rw [e.o];rfl)
 have l0:((str p).toList == [])=false:=by rw [K];exact decide_eq_false C
 have Z0:0<g0:=by rw [<- G.o];exact List.length_pos_iff.2 C
 have j0:∀ s:0<(str p).size,(str p)[0].toNat=(p.getD 0 0).toNat:=fun s=>by
  cases p with
  | nil=>exact absurd rfl C
  | cons m1 l=>rfl
 have l1:=ae C;clear K C
 by_cases D:p.getD 0 0=47
 .have Y0:∀ s:0<(str p).size,(str p)[0].toNat=47:=fun s=>by rw [j0 s,D];rfl
  clear j0;have a:=ae D;clear D
  by_cases h4:p=[47]
  .have e:Hid (bh p=S []):=by
    show _=_
    unfold bh;rw [if_neg (by rw [G.o];intro h;rcases h with h|h;omega;exact h a.o),if_pos h4]
   have m0:((str p).toList == [47])=true:=by rw [A];exact decide_eq_true h4
   clear A h4
   go_wp2_with fail
   exact Fin.o 0 _ rfl _ rfl rfl (by rw [e.o];rfl) (by rw [e.o];rfl)
  .have e:Hid (bh p=if (dI p.length p).all cK=true then S (dI p.length p) else W):=by
    show _=_
    unfold bh;rw [if_neg (by rw [G.o];intro h;rcases h with h|h;omega;exact h a.o),if_neg h4]
   have m0:((str p).toList == [47])=false:=by rw [A];exact decide_eq_false h4
   have B:=(((ag.whole w).alloc (Z #[X W 0 0] 37 (0,0))).alloc (Z #[V U 0] 31 (0,0))).alloc (Z #[X W 0 0] 37 (0,0));have R:=(((aj.refl w).alloc (Z #[X W 0 0] 37 (0,0))).alloc (Z #[V U 0] 31 (0,0))).alloc (Z #[X W 0 0] 37 (0,0));simp only [World.size_alloc] at B;have q0:=ED (((w.alloc (Z #[X W 0 0] 37 (0,0))).alloc (Z #[V U 0] 31 (0,0))).alloc (Z #[X W 0 0] 37 (0,0))) p;clear A h4 Fin
   go_wp2_with fail
   (with_reducible apply q0.mono)
   rintro b0 w2 ⟨rfl,rfl⟩;clear q0;generalize ((w.alloc (Z #[X W 0 0] 37 (0,0))).alloc (Z #[V U 0] 31 (0,0))).alloc (Z #[X W 0 0] 37 (0,0))=w3 at *;generalize w.heap.size+1+1=f at *;generalize w.heap.size+1=i at *;generalize w.heap.size=g at *;have hB:=B.alloc (Z #[Y (str p)] 9 (0,0));have dB:=R.alloc (Z #[Y (str p)] 9 (0,0))
   go_wp2_with fail
   generalize i1:w3.alloc (Z #[Y (str p)] 9 (0,0))=w4 at *;generalize w3.heap.size=F at *;rename_i R0 u
   have h5:ag w4 (CN f g i []*(xx F p*whole w)):=by
    refine (ag.aq.2 ⟨rfl,?_⟩:ag w4 (fact _*_)).to (by unfold CN;exact (ay _ _ _).symm);refine (ag.aw.2 ⟨X W 0 0,(hB.eU 9 1).to ?_⟩:ag w4 (We f []*_)).to (ay _ _ _).symm;unfold xx bR;show sl _ 1 _ 0 []*_=_*sl _ 1 _ 0 []*_
    ac_rfl
   have Hh:=ae u;have G0:Hid (g0<=1000):=by show g0<=1000;omega
   clear hB B R i1 Y0 l0 m0 r0 h1 Z0 u;refine (wpIn_wide (n:=9)).1 ?_
   refine mm (C:=fun _=>True) (w0:=w) rfl De0 (gf:=187) (lb:=#[az F]) rfl trivial (enters func187 Kr0 rfl)
    (fun l D0 Ax F0 w0 w _=>EI _ p F l D0 Ax F0 w0 w) (fun x u0=>(u0.setIfInBounds 22 (Y (str x))).setIfInBounds 5 (Y (str x))) (CN f g i) (fun _=>trivial) (fun c _=>SM g i p c) (fun b x=>CN f g i b) (whole w) ?hps dB h5 ?assign ?body ?done ?stop
   case hps=>
    intro x vs y d h;unfold U5 at h;obtain ⟨rfl,_⟩:=ag.aq.1 h
    rfl
   case assign=>
    intro E r b x vs y d R0 _ o H u;have m:ag d (U5 x vs*(CN f g i b*(pt E (.loop r)*y))):=H.ah;unfold U5 at m;obtain ⟨rfl,n⟩:=ag.aq.1 m;clear H m
    gi_wp2
    exact u _ o n
   case body=>
    intro E r b x y d hp o H;unfold CN at H;obtain ⟨p0,m⟩:=ag.aq.1 (H.to (ay _ _ _));obtain ⟨v,n⟩:=ag.aw.1 (m.to (ay _ _ _));have a:ag d (bR v b*(pt f (Z #[v] 37 (0,0))*(pt g (Z #[X W 0 0] 37 (0,0))*(pt i (Z #[V U 0] 31 (0,0))*(pt E (.loop r)*y))))):=n.u00;clear H m n
    have d0:(dI p.length p).all cK=true->cK x=true:=fun h=>by
     obtain ⟨u0,ht⟩:=hp;rw [<- ht] at h;rw [B3,B3] at h;simp only [Bool.and_eq_true,List.all_cons,List.all_nil,and_true] at h;exact h.1.2
    have a1:b.length<1000000:=by
     have hl:=hp.length_le;rw [List.length_append,D7] at hl;have p1:=lD p.length p;have:=G.o;have:=G0.o;omega
    have M:=qG d x;have c0:d.cell? ⟨f,0,W⟩=S v:=a.ah.cell 0
    by_cases s:cK x=true
    .rw [s] at M
     have o0:=a.alloc (Z #[Y (str x)] 9 (0,0))
     have hR:pC (d.alloc (Z #[Y (str x)] 9 (0,0))) 1 (X (S ⟨d.heap.size,0,W⟩) 1 1) 1 [Y (str x)]:=
      ⟨rfl,.inr ⟨_,_,rfl,fun j1 k1 hu=>by
       rw [Addr.add_lit,Nat.zero_add];exact (o0.cell j1).trans (by simpa using hu)⟩⟩
     have V0:ag (d.alloc (Z #[Y (str x)] 9 (0,0))) (sl 9 1 v b.length (strs b)*(pt f (Z #[v] 37 (0,0))*(pt g (Z #[X W 0 0] 37 (0,0))*(pt i (Z #[V U 0] 31 (0,0))*(pt d.heap.size (Z #[Y (str x)] 9 (0,0))*(pt E (.loop r)*y)))))):=o0.to (by unfold bR;ac_rfl);obtain ⟨i0,hi,hz,d1,X0⟩:=info_parts rD;obtain ⟨v',w',c1,e0,g1⟩:=ag.append (P:=T) (ty:=37) underlying37 hi hz d1 X0 rfl V0 hR (by intro k1 hu;rw [List.mem_singleton.1 hu];rfl) (by unfold maxLen;omega) Om0;obtain ⟨j,k,rfl⟩:=aC e0;have n1:w'.cell? ⟨f,0,W⟩=S v:=e0.ah.cell 0;have o1:=e0.ah.frozen 0;have e1:=e0.ah.setCell 0 (X j (b.length+1) k);have N0:=ae e1;have L0:=ae c1;have K0:=ae p0;have Hx:=ae s;have z:=ae (((o.alloc (Z #[Y (str x)] 9 (0,0))).trans g1).setCell ⟨f,0,W⟩ (X j (b.length+1) k));have I:=ae M
     gi_wp2_with fail
     refine sy I.o ?_;rintro b0 w2 ⟨rfl,rfl⟩;clear I
     gi_wp2_with (gi_at_builtin;refine dw L0.o _ _ rfl rfl rfl rfl rfl ?_)
     refine ⟨z.o,?_⟩;unfold CN;refine (ag.aq.2 ⟨by rw [B3,K0.o];simp [Hx.o],?_⟩:ag _ (fact _*_)).to (ay _ _ _).symm;refine (ag.aw.2 ⟨X j (b.length+1) k,?_⟩:ag _ (We f (b++[x])*_)).to (ay _ _ _).symm;have t:=N0.o;have b0:strs b++[Y (str x)]=strs (b++[x]):=by unfold strs;rw [List.map_append];rfl
     rw [b0] at t;unfold bR;rw [List.length_append,D7];exact (t.t00 (pt d.heap.size (Z #[Y (str x)] 9 (0,0))*(pt f (Z #[X j (b.length+1) k] 37 (0,0))*sl 9 1 (X j (b.length+1) k) (b.length+1) (strs (b++[x]))*(pt g (Z #[X W 0 0] 37 (0,0))*(pt i (Z #[V U 0] 31 (0,0))*(pt E (.loop r)*y)))))).right.u00
    .have s0:cK x=false:=by simpa using s
     rw [s0] at M;have N:(dI p.length p).all cK=false:=Gr0
     have z0:=a.au.cell 0;have z1:=a.aA.cell 0;have f0:=a.au.frozen 0;have f1:=a.aA.frozen 0;have q:=a.au.setCell 0 (X W 0 0);have x0:=q.aA.cell 0;have T0:=q.aA.frozen 0;have H5:=ae (q.aA.setCell 0 (V U 1));have z:=ae ((o.setCell ⟨g,0,W⟩ (X W 0 0)).setCell ⟨i,0,W⟩ (V U 1));have H0:=ae N;have I:=ae M;simp at z0 z1 x0;clear a q o N d0 hp M p0 s s0 a1
     gi_wp2_with fail
     refine sy I.o ?_;rintro b0 w2 ⟨rfl,rfl⟩;clear I
     gi_wp2_with fail
     refine ⟨z.o,?_⟩;have t:=H5.o;unfold SM;refine (ag.aq.2 ⟨⟨rfl,H0.o⟩,?_⟩:ag _ (fact _*_)).to (ay _ _ _).symm;exact (t.to (by unfold bR;ac_rfl:_=(pt f (Z #[v] 37 (0,0))*bR v b)*(pt g (Z #[X W 0 0] 37 (0,0))*pt i (Z #[V U 1] 31 (0,0))*(pt E (.loop r)*y)))).right.u00
   case done=>
    intro Q ys d hS o H;subst hS;unfold CN at H;obtain ⟨d0,m⟩:=ag.aq.1 (H.to (ay _ _ _));obtain ⟨v,n⟩:=ag.aw.1 (m.to (ay _ _ _));have O:bh p=S (dI p.length p):=by rw [e.o,if_pos d0]
    have J:=ae O;generalize dI p.length p=l at *;have a:ag d (pt Q (.deferred (S []))*(pt f (Z #[v] 37 (0,0))*(pt g (Z #[X W 0 0] 37 (0,0))*(pt i (Z #[V U 0] 31 (0,0))*(sl 9 1 v l.length (strs l)*(xx F p*whole w)))))):=n.to (by unfold bR;ac_rfl);obtain ⟨j,k,rfl⟩:=aC a.aJ;have c0:d.cell? ⟨f,0,W⟩=S (X j l.length k):=a.ah.cell 0;have z0:d.cell? ⟨g,0,W⟩=S (X W 0 0):=a.au.cell 0;have z1:d.cell? ⟨i,0,W⟩=S (V U 0):=a.aA.cell 0;have f0:=a.au.frozen 0;have f1:=a.aA.frozen 0;have q:=a.au.setCell 0 (X j l.length k);have x0:=q.aA.cell 0;have T0:=q.aA.frozen 0;have H5:=ae (q.aA.setCell 0 (V U 0));have z:=ae ((o.setCell ⟨g,0,W⟩ (X j l.length k)).setCell ⟨i,0,W⟩ (V U 0));clear H m n a q d0 O e dB h5 o;refine Hh.o _ _ ?_;clear Hh
    go_wp2_with fail
    have t:=H5.o;simp only [List.setIfInBounds_toArray,List.set_cons_zero] at t;have h7:=t.t00 (pt Q (.deferred (S []))*(pt g (Z #[X j l.length k] 37 (0,0))*(pt i (Z #[V U 0] 31 (0,0))*((sl 9 1 (X j l.length k) l.length (strs l)*whole w)*(xx F p*pt f (Z #[X j l.length k] 37 (0,0)))))));have u:=h7.heap;have L:=(h7.putObj (.deferred W)).right;clear t h7;refine ⟨Si0,.inl ⟨_,_,rfl,run_takeDeferred u,?_⟩⟩;refine ⟨_,lC rfl rfl L,HQ.o _ _ ⟨X j l.length k,by rw [J.o];rfl,z.o.putObj _ _,?_⟩⟩;rw [J.o];exact L.right.right.left
   case stop=>
    intro Q c ys d W0 o H;unfold SM at H;obtain ⟨⟨rfl,N⟩,m⟩:=ag.aq.1 (H.to (ay _ _ _));have O:bh p=W:=by rw [e.o,if_neg (by rw [N];decide)]
    have n:ag d (pt Q (.deferred (S []))*(pt g (Z #[X W 0 0] 37 (0,0))*(pt i (Z #[V U 1] 31 (0,0))*(whole w*xx F p)))):=m.u00;have J:=ae O;have z:=ae o;have u:=n.heap;have L:=ae (n.putObj (.deferred W)).right;clear H m n N O e dB h5 o W0
    gi_wp2
    refine ⟨Si0,.inl ⟨_,_,rfl,run_takeDeferred u,?_⟩⟩;refine ⟨_,lC rfl rfl L.o,HQ.o _ _ ⟨X W 0 0,by rw [J.o];rfl,z.o.putObj _ _,?_⟩⟩;rw [J.o];exact L.o.right.right.left.eU 9 1
 .have e:Hid (bh p=W):=if_pos (.inr D)
  obtain ⟨k0,hq⟩:=Nm ((p.getD 0 0).toNat)
  rw [hq] at j0;have b1:¬ k0=47:=fun h=>D (UInt8.toNat_inj.1 (by rw [hq,h];rfl));have q1:(((k0:Nat):Int) != 47)=true:=by simpa using (show ¬ (k0:Int)=47 by omega)
  clear hq b1;clear D A
  go_wp2_with fail
  exact Fin.o 1 _ rfl _ rfl rfl (by rw [e.o];rfl) (by rw [e.o];rfl)
end Go.Proofs.Cl
