/- Steps. -/
import Derived.Test.YtiomanbgcfjblaaGreatDoorLP15
import Derived.Test.YtiomanbgcfjblaaGreatDoorLP16
import Derived.Sort.Walk13a
set_option linter.all false
set_option maxRecDepth 99999
set_option maxHeartbeats 0
open Go.SL
open Go.Value renaming int->Z,slice->W
open Go.IntKind renaming i64->U,u64->T
open Go.Obj renaming cells->Y
open Go.Ending renaming returned->Q
open Go renaming World->S,Value->O
open Go.Proofs.Tryz renaming prog->X
open Option renaming some->V,none->R
open Go.Proofs.Tryz
open Go.Value renaming int->B3
open Prod renaming fst->D9
open List renaming length_nil->D8,size_toArray->D7,length_cons->D5,push_toArray->E3,append_toArray->E2,nil_append->E1,cons_append->G3,length_append->H7,map_nil->H5,setIfInBounds_toArray->H4,set_cons_zero->H3,take_length->H1,length_mergeSort->J7,take_succ_eq_append_getElem->J5,getElem?_eq_getElem->J4
open Nat renaming reduceAdd->D4,reduceSub->D3,zero_le->H9,mul_one->H8
open Array renaming replicate_succ->E5,replicate_zero->E4
namespace Go.Proofs.Nn
open RowKit SL Go.Sort
def IT (g:Nat) (d:Array Int) (k:Int) (a:Nat) (b:List O) (w:S) (F:ai) (h:ah w (uA g d b*F)) (m:d.size<=12) (i:d.size<=a) :
  Calls X 337 #[W (V ⟨g,0,R⟩) d.size a,Z U 0,Z U (d.size:Int),Z U k] w (Mk g (insertionSort ltInt d 0 d.size) b F w):=by
 have o:(d.size:Int)<=12:=Om0
 have c:=xU g d 0 d.size a b w F h (H9 _) (Nat.le_refl _) Om0 i;have f:Calls X 358 #[W (V ⟨g,0,R⟩) d.size a,Z U 0,Z U (d.size:Int)] w (Mk g (insertionSort ltInt d 0 d.size) b F w):=c;clear c h;generalize p:(d.size:Int)=n at *
 go_in
 go_wp2_with fail
 go_loopw [1,2,3,8,9] (fun u1 u2 u3 u8 u9 wr=>u1 = Z U 0/\u2 = Z U n/\wr=w) (fun _ _ _ _ _ _=>0)
 case atStart=>exact ⟨rfl,rfl,rfl⟩
 case round=>
  obtain ⟨rfl,rfl,rfl⟩:=hrel
  go_wp2_with (go_at_call 358;apply f.mono;rintro e q ⟨rfl,j,l⟩)
  (try simp only [Exit.inBlock,Exit.then])
  refine bodyPost_ret (results_none rfl _ _ _) rfl ?_;exact ⟨rfl,j,l⟩
def iQ (l:List Int):List O:=l.map (B3 .u32)
def fS (l:List Int):List Int:=l.mergeSort fun x y=>decide (x<=y)
def DB (n:Nat) (b:n<=1000000000) (w:S):Calls X 331 #[Z T (n:Int)] w fun e a=>e = Q (Z U ((bitsLen n:Nat):Int))/\a=w:=by
 have h:=Tryz.bits_Len (n:Int) w Om0 Om0
 rwa [Int.toNat_natCast,bitLen_eq _ Om0] at h
def QT (w:S):Calls X 358 #[W R 0 0,Z U 0,Z U 0] w fun e a=>e = Q (.tuple #[])/\a=w:=by
 go_in
 go_wp2_with fail
 go_loopw [6] (fun u wr=>u = Z U 1/\wr=w) (fun _ _=>0)
 case atStart=>exact ⟨rfl,rfl⟩
 case round=>
  obtain ⟨rfl,rfl⟩:=hrel
  go_wp2_with fail
  (try go_end0)
  exact ⟨rfl,rfl⟩
def QI (w:S):Calls X 337 #[W R 0 0,Z U 0,Z U 0,Z U 0] w fun e b=>e = Q (.tuple #[])/\b=w:=by
 have a:=QT
 go_in
 go_wp2_with fail
 go_loopw [1,2,3,8,9] (fun u1 u2 u3 u8 u9 wr=>u1 = Z U 0/\u2 = Z U 0/\wr=w) (fun _ _ _ _ _ _=>0)
 case atStart=>exact ⟨rfl,rfl,rfl⟩
 case round=>
  obtain ⟨rfl,rfl,rfl⟩:=hrel
  go_wp2_with (go_at_call 358;apply (a _).mono;rintro e c ⟨rfl,rfl⟩)
  (try simp only [Exit.inBlock,Exit.then])
  refine bodyPost_ret (results_none rfl _ _ _) rfl ?_;exact ⟨rfl,rfl⟩
def QN (g:Nat) (d:Array Int) (cap:Nat) (a:List O) (w:S) (F:ai) (h:ah w (uA g d a*F)) (l:d.size<=12) (j:d.size<=cap) :
  Calls X 310 #[W (V ⟨g,0,R⟩) d.size cap] w (Mk g (sort ltInt d) a F w):=by
 have n:bitsLen d.size<=62:=(bitsLen_le_iff d.size 62).2 Om0;have b:=IT g d (bitsLen d.size:Int) cap a w F h l j;rw [show insertionSort ltInt d 0 d.size=sort ltInt d from (pdq_small Om0).symm] at b;have k:Calls X 337 #[W (V ⟨g,0,R⟩) d.size cap,Z U 0,Z U (d.size:Int),Z U (bitsLen d.size:Int)] w (Mk g (sort ltInt d) a F w):=b;have i:=DB d.size Om0 w;have o:(d.size:Int)<=12:=Om0
 clear b
 go_in
 go_wp2_with (first
  | (go_at_call 331;apply i.mono;rintro e m ⟨rfl,rfl⟩)
  | (go_at_call 337;apply k.mono;rintro e m ⟨rfl,c,f⟩))
 (try go_end0)
 exact ⟨rfl,c,f⟩
def Oq (w:S):Calls X 310 #[W R 0 0] w fun e a=>e = Q (.tuple #[])/\a=w:=by
 have c:=QI w;have b:Calls X 331 #[Z T 0] w fun e a=>e = Q (Z U 0)/\a=w:=DB 0 Om0 w
 go_in
 go_wp2_with (first
  | (go_at_call 331;apply b.mono;rintro e a ⟨rfl,rfl⟩)
  | (go_at_call 337;apply c.mono;rintro e a ⟨rfl,rfl⟩))
 (try go_end0)
 exact ⟨rfl,rfl⟩
def LA (v:O) (zs:List Int) (w:S) (b:ai) (h:ah w (sl 170 1 v zs.length (iQ zs)*b)) (t:zs.length<=12) :
  Calls X 310 #[v] w fun e c=>e = Q (.tuple #[])/\ah c (sl 170 1 v zs.length (iQ (fS zs))*b)/\ak w c:=by
 rcases h.cH with ⟨rfl,n,_,f⟩|⟨g,i,a,rfl,j,h4,h5,k,f⟩
 .obtain rfl:zs=[]:=List.length_eq_zero_iff.1 n
  apply (Oq w).mono;rintro e c ⟨rfl,rfl⟩;have m:iQ (fS [])=[]:=by simp [fS,iQ]
  rw [m];exact ⟨rfl,f.dR 170 1,ak.refl _⟩
 .have r:a=((zs.toArray).toList.map (B3 .u32)++a.toList.drop zs.length).toArray:=by
   have p:a.toList.take zs.length=zs.map (B3 .u32):=by rw [H8] at k;exact k
   show a=(zs.map (B3 .u32)++a.toList.drop zs.length).toArray
   rw [<- p,List.take_append_drop]
  have u:ah w (uA g zs.toArray (a.toList.drop zs.length)*b):=by
   have:=f;rw [r] at this;simpa [uA] using this
  have s:(sort ltInt zs.toArray).toList=fS zs:=sortInt zs;have l:(fS zs).length=zs.length:=J7 zs;apply (QN g zs.toArray i _ w b u t j).mono;rintro e c ⟨rfl,d,o⟩;refine ⟨rfl,?_,o⟩;unfold uA at d;rw [s] at d;have q:=d.nz (T:=170) (n:=zs.length) (cap:=i) (sz:=1) j h4 (by simp only [D7,H7,List.length_map,List.length_drop,l,Array.length_toList,h5];omega);refine q.to ?_;congr 2;simp only [H8];rw [<- l];show ((fS zs).map (B3 .u32)++_).take _=_
  rw [List.take_left' Si0]
  rfl
end Go.Proofs.Nn
namespace Go.Proofs.Nn
open RowKit SL
attribute [local go_sem] Oper.semAt_some
variable {gf:Nat} {lb:Array O} {It:ai}
def wy (x:Int) (a:Array O):ai:=fact (a=#[Z .u32 x])
def ah.wy {w:S} {a:ai} (x:Int) (h:ah w a):ah w (wy x #[Z .u32 x]*a):=ah.ao.2 ⟨rfl,h⟩
def mz (b r c:Nat) (o:Obj) (M:SU.KV) (A:List Int->ai) (G:ai) (w0:S) (k:Nat) (wr:S):Prop:=
 ∃ D a,M.length<=D.length+k/\SU.Iter b o M D a/\ak w0 wr/\ah wr (pt r a*(pt b o*(pt c (Y #[.map (V b)] 320 (0,0))*(A (D.map D9)*G))))
def qP (M:SU.KV):List Int:=M.map D9
def AO (M:SU.KV) (a:List Int):Prop:=a.Nodup/\∀ x ∈ a,x ∈ qP M
theorem EL (n:Nat) (bx b:Nat) (M:SU.KV) :
  dU Fence.wide n prog 311 #[.pointer (some ⟨bx,0,none⟩)] (pt bx (.cells #[.map (some b)] 320 (0,0))*SU.mp b M)
   wy (fun ys=>ys.Perm (qP M)) (AO M):=by
 intro l A Ax G w0 w hY hs h0;obtain ⟨o,hm,hb,hS⟩:=ah.zI (F:=pt bx (.cells #[.map (some b)] 320 (0,0))*(A []*G)) (h0.to (by ac_rfl));obtain ⟨it,hrg,hit⟩:=SU.ju (P:=prog) underlying320 hb hm;have hcell:=hS.aj.cell 0;have hfr:=hS.aj.frozen 0;have hA:=hS.alloc it;have hs1:ak w0 (w.alloc it):=hs.alloc _;generalize w.alloc it=w1 at hA hrg hs1;have H:=ae h0;clear h0;refine callsIn_of_wp func311 rfl trivial ?_ rfl;simp only [ntmps311,D7,D5,D8,D4,D3,E5,E4,E3,E2,E1,G3]
 gi_wp2
 gi_loopw [] (fun wr=>∃ k,mz b w.heap.size bx o M A G w0 k wr) (fun wr=>leastOf (fun k=>mz b w.heap.size bx o M A G w0 k wr))
 case atStart=>exact ⟨M.length,[],it,by simp,hit,hs1,hA⟩
 case round=>
  obtain ⟨hk,hmin⟩:=leastOf_spec hrel;have hgk:leastOf (fun k=>mz b w.heap.size bx o M A G w0 k wr)=leastOf (fun k=>mz b w.heap.size bx o M A G w0 k wr):=rfl;generalize leastOf (fun k=>mz b w.heap.size bx o M A G w0 k wr)=gk at hk hmin ⊢;obtain ⟨D,it',hlen,hit',hside,hsat⟩:=hk;clear hgk hrg hcell hfr hrel hmin;have hbr:wr.heap[b]?=some o:=hsat.aj.heap;rcases hsat.WA (P:=prog) hbr hit' with ⟨hperm,hnx⟩|⟨p,it2,w2,hp,hpD,hnx,hsat2,hit2,hside2,hb2,hen⟩
  .have Hp:=ae hperm;clear hperm
   gi_wp2
   go_end0
   refine ⟨⟨_,rfl⟩,hside,.inl ⟨D.map D9,Hp.out.map _,?_⟩⟩;have:=hsat.right;exact (ah.G4 this hm).to (by ac_rfl)
  .have hnd:=SU.fh hit2
   have hSp:AO M (D.map D9++[p.1]):=⟨by simpa using hnd.1,fun x hx=>by
    have:x ∈ (D++[p]).map D9:=by simpa using hx
    obtain ⟨q,hq,rfl⟩:=List.mem_map.1 this;exact List.mem_map.2 ⟨q,hnd.2 q hq,rfl⟩⟩
   have hle:=SU.uS hit2;rw [H7,List.length_singleton] at hle
   obtain ⟨fn,tmps,assign,body,hy,hR⟩:=hY (D.map D9) p.1 #[.int .u32 p.1] (pt w.heap.size it2*(pt b o*(pt bx (.cells #[.map (some b)] 320 (0,0))*G))) w2 hSp (hside.trans hside2)
    ((ah.wy p.1 hsat2).to (by ac_rfl))
   have K:=ae hlen;have K2:=ae hle;have K3:=ae hm;clear hlen hle hm hb hb2 hbr hY
   gi_wp2
   refine ⟨fun h=>(by cases h),hR.mono ?_⟩;rintro e W' (⟨rfl,hs3,hsat3⟩|⟨rfl,hs3,hsat3⟩)
   .have hrel':mz b w.heap.size bx o M A G w0 (gk-1) W':=
     ⟨D++[p],it2,by have:=K.out;simp;omega,hit2,hs3,by rw [List.map_append];exact hsat3.to (by simp only [List.map_cons,H5];ac_rfl)⟩
    gi_wp2
    go_roundw
    case rel=>exact ⟨_,hrel'⟩
    case measure=>exact Nat.lt_of_le_of_lt ((leastOf_spec ⟨_,hrel'⟩).2 _ hrel') (by have:=K.out;have:=K2.out;omega)
   .gi_wp2
    refine bodyPost_ret (results_none rfl _ _ _) rfl ?_;refine ⟨⟨_,rfl⟩,hs3,.inr ⟨_,hSp,?_⟩⟩;exact (ah.G4 (hsat3.to (by ac_rfl:_=pt b o*(pt w.heap.size it2*(Ax (D.map D9++[p.1])*(pt bx (.cells #[.map (some b)] 320 (0,0))*G))))) K3.out).aj.right.to (by ac_rfl)
def Jc:(prog.info? 170).map (fun i=>(i.zero,i.size,i.bytes))=V (V (Z .u32 0),1,4):=Kr0
def Tt (c G:ai) (d:List Int->Prop) (w0:S) (e:Ending) (b:S):Prop:=
 ∃ v a,d a/\e = Q v/\ah b (sl 170 1 v a.length (iQ a)*(c*G))/\ak w0 b
def Em (b:Nat) (a:List Int):ai:=ex fun v=>pt b (Y #[v] 325 (0,0))*sl 170 1 v a.length (iQ a)
def xr {o p:List Int->Prop} (L:∀ u w,(callFunc gf u).run X w = .ok (.enter gf u) w)
  (e0:∀ n,dU Fence.wide n X gf lb It wy o p) (N:Nat) (hN:N<=1000000000) (b0:∀ b,p b->b.length<=N) (w w0:S) (G:ai) (hs:ak w0 w) (M:ah w (It*G)) :
  Calls X 336 #[W R 0 0,.func (.func gf) #[] lb] w (Tt It G o w0):=by
 obtain ⟨i0,A,I,C,z⟩:=info_parts Jc;refine (callsIn_wide (n:=9)).1 ?_;refine callsIn_of_wp_marks func336 rfl trivial ?_ rfl;simp only [ntmps336,D7,D5,D8,D4,D3,E5,E4,E3,E2,E1,G3]
 gi_wp2
 have f:=M.alloc (Y #[W R 0 0] 325 (0,0));have E:=hs.alloc (Y #[W R 0 0] 325 (0,0))
 have F:ah (w.alloc (Y #[W R 0 0] 325 (0,0))) (Em w.heap.size []*(It*G)):=
  ah.aq.2 ⟨W R 0 0,(f.dR 170 1).to (by simp only [iQ,H5,D8];ac_rfl)⟩
 generalize w.alloc (Y #[W R 0 0] 325 (0,0))=w1 at F E ⊢;clear f
 refine ji (w0:=w0) rfl De0 (gf:=gf) (lb:=lb) rfl trivial L (e0 _) (Em w.heap.size) (fun _ _=>fact False)
  (fun e x q=>fact (q={ tmps:=#[W R 0 0,.func (.func gf) #[] lb,.pointer (V ⟨w.heap.size,0,R⟩),undef,W R 0 0,Z .u32 x,.func (.func gf) #[] lb,Z .u32 x,undef,undef,undef,undef,undef],defers:=[] })*Em w.heap.size e) G ?hps E F ?assign ?body ?done ?stop
 case hps=>
  intro x vs i a h;obtain ⟨rfl,_⟩:=ah.ao.1 h
  rfl
 case assign=>
  intro l r e x vs i a l0 _ g H m;obtain ⟨rfl,j⟩:=ah.ao.1 (H.to (aE _ _ _));clear H
  gi_wp2
  exact m _ _ g ((ah.ao.2 ⟨rfl,j⟩:ah a (fact _*_)).to (ar _ _ _).symm)
 case body=>
  intro l r e x q i a hp g H;obtain ⟨rfl,j⟩:=ah.ao.1 (H.to (ar _ _ _));clear H;obtain ⟨v,H⟩:=ah.aq.1 j;clear j;have f0:e.length+1<=1000000000:=by have:=b0 _ hp;simp at this;omega
  have d:ah a (pt w.heap.size (Y #[v] 325 (0,0))*(sl 170 1 v e.length (iQ e)*(pt l (.loop r)*i))):=H.to (ar _ _ _);have c0:=d.cell 0;have d0:=d.frozen 0;have f:=d.alloc (Y #[Z .u32 x] 170 (0,0))
  have y:nt (a.alloc (Y #[Z .u32 x] 170 (0,0))) 1 (W (V ⟨a.heap.size,0,R⟩) 1 1) 1 [Z .u32 x]:=
   ⟨rfl,.inr ⟨_,_,rfl,fun k0 o0 hu=>by
    rw [Addr.add_lit,Nat.zero_add];exact (f.cell k0).trans (by simpa using hu)⟩⟩
  obtain ⟨v',w',B,k,h0⟩:=ah.append (P:=X) (ty:=325) (F:=pt w.heap.size (Y #[v] 325 (0,0))*(pt l (.loop r)*i)) underlying325 A I C z rfl (f.right.u00) y (by simp [Value.oneCell']) (by unfold maxLen;omega) Om0;obtain ⟨s,t,rfl⟩:=az k;have m0:=k.aj.cell 0;have n0:=k.aj.frozen 0;have g0:=k.aj.setCell 0 (W s (e.length+1) t);clear f y A I C z H d f0;have K:=ae B;clear B
  gi_wp2_with (gi_at_builtin;refine cm K.o _ _ rfl rfl rfl rfl rfl ?_)
  refine ⟨(g.alloc _).trans h0 |>.setCell _ _,ah.aq.2 ⟨W s (e.length+1) t,g0.to ?_⟩⟩;simp only [iQ,List.map_append,H7,List.map_cons,H5,D5,D8];simp only [H4,H3]
  ac_rfl
 case done=>
  intro D b a P g H;obtain ⟨v,H⟩:=ah.aq.1 H;have m:a.heap[D]?=V (.deferred (V [])):=(H.t00 (pt D (.deferred (V []))*(pt w.heap.size (Y #[v] 325 (0,0))*sl 170 1 v b.length (iQ b)*(It*G)))).heap;have d:ah a (pt w.heap.size (Y #[v] 325 (0,0))*(sl 170 1 v b.length (iQ b)*(It*(pt D (.deferred (V []))*G)))):=H.to (ar _ _ _);have c0:=d.cell 0;have d0:=d.frozen 0;have J:ah a (pt D (.deferred (V []))*(sl 170 1 v b.length (iQ b)*(It*G))):=d.right.u00
  gi_wp2
  refine ⟨Si0,.inl ⟨_,_,rfl,run_takeDeferred m,?_⟩⟩;exact ⟨_,results_tmp rfl _ _ _,v,b,P,rfl,(J.putObj _).right,g.putObj _ _⟩
 case stop=>
  intro D c b a _ _ H;exact (ah.ao.1 H).1.elim
def AW {b c:List Int->Prop} (f:∀ d w,(callFunc gf d).run X w = .ok (.enter gf d) w)
  (j:∀ n,dU Fence.wide n X gf lb It wy b c) (N:Nat) (h:N<=1000000000) (i:∀ a,c a->a.length<=N) (w w0:S) (G:ai) (m:ak w0 w) (g:ah w (It*G)) :
  Calls X 309 #[.func (.func gf) #[] lb] w (Tt It G b w0):=by
 have l:=xr f j N h i w w0 G m g;clear j i g h f
 go_in
 go_wp2_with fail
 apply l.mono;rintro e p ⟨v,a,k,rfl,H,o⟩
 go_wp2
 go_ret
 exact ⟨v,a,k,rfl,H,o⟩
def O6 (c G:ai) (d:List Int->Prop) (w0:S) (e:Ending) (b:S):Prop:=
 ∃ v a,d a/\e = Q v/\ah b (sl 170 1 v a.length (iQ (fS a))*(c*G))/\ak w0 b
def DG {b c:List Int->Prop} (f:∀ d w,(callFunc gf d).run X w = .ok (.enter gf d) w)
  (k:∀ n,dU Fence.wide n X gf lb It wy b c) (N:Nat) (t:N<=12) (h:∀ a,c a->a.length<=N) (m:∀ a,b a->a.length<=N) (w w0:S) (G:ai) (p:ak w0 w) (g:ah w (It*G)) :
  Calls X 266 #[.func (.func gf) #[] lb] w (O6 It G b w0):=by
 have j:=AW f k N Om0 h w w0 G p g;clear k h g f
 go_in
 go_wp2_with fail
 apply j.mono;rintro e s ⟨v,a,i,rfl,H,q⟩;have o:a.length<=12:=by have:=m _ i;omega
 clear j
 go_wp2_with fail
 apply (LA v a s _ H o).mono;rintro e u ⟨rfl,l,r⟩;clear H
 go_wp2
 go_ret
 exact ⟨v,a,i,rfl,l,q.trans r⟩
end Go.Proofs.Nn
namespace Go.SL
open RowKit
def LM {b:Type} (a:List b) (k:Nat) (h:k<a.length):a.reverse.take (a.length-(k+1))++[a[k]]=a.reverse.take (a.length-k):=by
 have e:a.length-k=(a.length-(k+1))+1:=Om0
 rw [e,J5 (by simp;omega)];congr 2;rw [List.getElem_reverse];congr 1;omega
def idx (l:List Int):List (Int × Int):=(List.range l.length).map fun i:Nat=>((i:Int),l.getD i 0)
def Gd (l:List Int):(idx l).length=l.length:=by simp [idx]
def QB (l:List Int) (k:Nat) (h:k<(idx l).length):(idx l)[k]=((k:Int),l.getD k 0):=by simp [idx]
abbrev Ms:=List (Int × Int)
def Dz (M:Ms):SU.KV:=M.map fun p=>(p.1,Z T p.2)
def dD (M:Ms) (x:dS):Ms:=
 match SU.aA M x.1.ep with
 | none=>SU.dM M x.1.ep x.1.st
 | some s=>if x.1.st<s then SU.dM M x.1.ep x.1.st else M
def dy (L:List dS):Ms:=L.foldl dD []
def pR (s:Ms × Int) (y:Int × Int):Ms × Int:=(SU.dM s.1 y.2 s.2,min s.2 ((SU.aA s.1 y.2).getD 0))
def jh:Int:=18446744073709551615
def MV (K:List Int) (M:Ms):Ms × Int:=(idx K).reverse.foldl pR (M,jh)
def lz (M:Ms) (x:dS):Bool:=decide (x.1.sq<(SU.aA M x.1.ep).getD 0)
def AG (M:Ms) (x:Int):(SU.aA (Dz M) x)=(SU.aA M x).map (B3 T):=SU.gR (B3 T) M x
def GG (M:Ms) (x v:Int):SU.dM (Dz M) x (Z T v)=Dz (SU.dM M x v):=SU.sd (B3 T) M x v
end Go.SL
namespace Go.Proofs.Nn
open RowKit SL
attribute [local go_sem] Oper.semAt_some
variable {K:List Int}
def Ri (c:Nat) (w:S) (e:Ending) (a:S):Prop:=e = Q (.func (.func 311) #[] #[.pointer (V ⟨w.heap.size,0,R⟩)])/\a=w.alloc (Y #[.map (V c)] 320 (0,0))
def DY (w:S) (c:Nat):Calls X 267 #[.map (V c)] w (Ri c w):=by
 go_in
 go_wp2
 go_ret
 exact ⟨rfl,rfl⟩
def UN (v:O) (w:S) (e:Ending) (a:S):Prop:=e = Q (.func (.func 308) #[] #[.pointer (V ⟨w.heap.size,0,R⟩)])/\a=w.alloc (Y #[v] 325 (0,0))
def II (w:S) (a:Option Addr) (n c:Nat):Calls X 265 #[W a n c] w (UN (W a n c) w):=by
 go_in
 go_wp2
 go_ret
 exact ⟨rfl,rfl⟩
def lM (a:Nat) (v:O) (K:List Int):ai:=pt a (Y #[v] 325 (0,0))*sl 170 1 v K.length (iQ K)
def yX (z:Int × Int) (a:Array O):ai:=fact (a=#[Z U z.1,Z .u32 z.2])
def Gt (A:List (Int × Int)->ai) (a:List (Int × Int)) (b:ai) (w0:S) (i:O) (wr:S):Prop:=
 ∃ k:Nat,k<=a.length/\i = Z U ((k:Int)-1)/\ak w0 wr/\ah wr (A (a.reverse.take (a.length-k))*b)
def Mg {w:S} {v:O} {F:ai} (h:ah w (sl 170 1 v K.length (iQ K)*F)) {k:Nat} (a:k<K.length) :
  ∃ g c,v = W (V ⟨g,0,R⟩) K.length c/\w.cell? ⟨g,k,R⟩=V (Z .u32 (K.getD k 0)):=by
 rcases h.cH with ⟨_,j,_⟩|⟨g,b,i,rfl,l,h4,h5,d,f⟩
 .omega
 .refine ⟨g,b,rfl,?_⟩
  rw [f.cell];have e:=congrArg (·[k]?) d;simp only [List.getElem?_take,H8,a,if_true,iQ,List.getElem?_map,Array.getElem?_toList] at e;rw [e,J4 a,List.getD,J4 a];rfl
def KF (n:Nat) (b:Nat) (v:O) (K:List Int) (hK:K.length<=1000000) :
  dU Fence.wide n X 308 #[.pointer (V ⟨b,0,R⟩)] (lM b v K) yX (fun r=>r=(idx K).reverse) (fun r=>r <+: (idx K).reverse):=by
 intro l A Ax G w0 w L hs j;have a:ah w (pt b (Y #[v] 325 (0,0))*(sl 170 1 v K.length (iQ K)*(A []*G))):=j.to (by unfold lM;ac_rfl);have y:=a.cell 0;obtain ⟨e,wc,rfl⟩:=az a.right;have hn:(K.length:Int)<=1000000:=Om0
 have m:=Gd K;have F:ah w (A ((idx K).reverse.take ((idx K).length-(idx K).length))*(lM b (W e K.length wc) K*G)):=by rw [Nat.sub_self,List.take_zero];exact j
 have I:=ae m;have H:Gt A (idx K) (lM b (W e K.length wc) K*G) w0 (Z U ((K.length:Int)-1)) w:=⟨(idx K).length,Nat.le_refl _,by rw [m],hs,F⟩
 have u:=ae H;clear a m F H;refine callsIn_of_wp func308 rfl trivial ?_ rfl;simp only [ntmps308,D7,D5,D8,D4,D3,E5,E4,E3,E2,E1,G3]
 gi_wp2
 gi_loopw [3] (fun i wr=>Gt A (idx K) (lM b (W e K.length wc) K*G) w0 i wr) (fun i _=>(intOf i+1).toNat)
 case atStart=>exact u.o
 case round=>
  clear u j y;obtain ⟨k,o,rfl,E,d⟩:=hrel;have a:ah wr (pt b (Y #[W e K.length wc] 325 (0,0))*(sl 170 1 (W e K.length wc) K.length (iQ K)*(A ((idx K).reverse.take ((idx K).length-k))*G))):=d.to (by unfold lM;ac_rfl);have y:wr.cell? ⟨b,0,R⟩=V (W e K.length wc):=a.cell 0
  match k,o,d,a with
  | 0,_,d,a=>
   have B:(idx K).reverse.take ((idx K).length-0)=(idx K).reverse:=by rw [Nat.sub_zero,<- List.length_reverse,H1]
   rw [B] at d;clear a B
   gi_wp2
   go_end0
   exact ⟨⟨_,rfl⟩,E,.inl ⟨_,rfl,d⟩⟩
  | k+1,o,d,a=>
   have P:k<K.length:=by rw [<- I.o];omega
   have d0:(0:Int)<=(k:Int):=Om0
   have c0:(k:Int)<(K.length:Int):=Om0
   have C:(((k+1:Nat):Int)-1)=(k:Int):=Om0
   obtain ⟨g,c,N,M⟩:=Mg a.right P;cases N
   have f:=LM (idx K) k o;rw [QB] at f;have s:=ae f;generalize K.getD k 0=z at M f s;have D:(idx K).reverse.take ((idx K).length-(k+1))++[((k:Int),z)] <+: (idx K).reverse:=by rw [f];exact List.take_prefix _ _
   have t:=ae D
   have x:ah wr (A ((idx K).reverse.take ((idx K).length-(k+1)))*(yX ((k:Int),z) #[Z U (k:Int),Z .u32 z]*(lM b (W (V ⟨g,0,R⟩) K.length wc) K*G))):=
    (ah.ao.2 ⟨rfl,d⟩:ah wr (fact _*_)).to (by unfold yX;ac_rfl)
   obtain ⟨fn,e0,assign,body,hy,J⟩:=L _ ((k:Int),z) #[Z U (k:Int),Z .u32 z] _ wr t.o E x;clear x d a f D;rw [C];clear C
   gi_wp2
   refine ⟨fun h=>(by cases h),J.mono ?_⟩;rintro b0 W' (⟨rfl,p,q⟩|⟨rfl,p,q⟩)
   .gi_wp2
    go_roundw
    case rel=>exact ⟨k,Om0,rfl,p,by rw [<- s.o];exact q⟩
    case measure=>simp [intOf]
   .gi_wp2
    refine bodyPost_ret (results_none rfl _ _ _) rfl ?_;exact ⟨⟨_,rfl⟩,p,.inr ⟨_,t.o,q⟩⟩
def wQ (l:List Int):(fS l).length=l.length:=J7 ..
def rk (l:List Int):(fS l).Perm l:=List.mergeSort_perm ..
def yk {a b:List Int} (h:a.Perm b):fS a=fS b:=by
 have d:∀ l:List Int,(fS l).Pairwise fun x y=>decide (x<=y)=true:=fun l=>List.pairwise_mergeSort (le:=fun x y=>decide (x<=y)) (fun a b c e f=>by simp at *;omega) (fun a b=>by simp;omega) l;exact List.Perm.eq_of_pairwise (le:=fun x y=>decide (x<=y)=true) (fun a b _ _ e f=>by simp at *;omega) (d a) (d b) ((rk a).trans (h.trans (rk b).symm))
def kW (L:List dS):List Int:=fS ((dy L).map D9)
def cQ (L:List dS):List dS:=L.filter (lz (MV (kW L) (dy L)).1)
def Vr (L:List dS) (w:S) (e:Ending) (a:S):Prop:=
 ∃ v,e = Q v/\ah a (sl 252 8 v L.length (gS L)*whole w)/\ak w a
def Rw (b a:Nat) (L:List dS) (w:S) (u:O) (wr:S):Prop:=
 ∃ k:Nat,k<=L.length/\u = Z U (k:Int)/\ah wr (pt b (Y #[.map (V a)] 320 (0,0))*(SU.mp a (Dz ((L.take k).foldl dD []))*whole w))/\ak w wr
def CW (c a d:Nat) (M:Ms) (b:List (Int × Int)):ai:=
 pt c (Y #[.map (V a)] 320 (0,0))*(SU.mp a (Dz (b.foldl pR (M,jh)).1)*pt d (Y #[Z T (b.foldl pR (M,jh)).2] 171 (0,0)))
def Ww (x:Int × Int) (t:Array O):Array O:=((t.setIfInBounds 51 (Z U x.1)).setIfInBounds 52 (Z .u32 x.2)).setIfInBounds 10 (Z .u32 x.2)
def Qw (b a:Nat) (M:Ms) (L:List dS) (D:Nat) (w:S) (u12 u64:O) (wr:S):Prop:=
 ∃ k:Nat,k<=L.length/\u64 = Z U (k:Int)/\ah wr (sl 252 8 u12 ((L.take k).filter (lz M)).length (gS ((L.take k).filter (lz M)))*(pt b (Y #[.map (V a)] 320 (0,0))*(SU.mp a (Dz M)*(pt D (.deferred (V []))*whole w))))/\ak w wr
def LI (w:S):(Instr.makeMap 320 R).run X w = .ok (.map (V w.heap.size)) (w.alloc (.map #[] 0)):=by
 simp [Instr.makeMap,run_underlying underlying320]
def IG (w:S) (v:O) (L:List dS) (h:yo w v L) (g1:∀ x ∈ L,x.1.ok=true/\x.1.Fit) (hl:L.length<=1000000) (s1:(dy L).length<=12) :
    Calls X 194 #[v] w (Vr (cQ L) w):=by
  have A1:(L.length:Int)<=1000000:=Om0
  have H0:=ae h;have y1:=ae g1;obtain ⟨T0,c,rfl⟩:=h.shape;have u1:=LI w;have h1:=(((ah.whole w).alloc (.map #[] 0)).G4 (SU.isMap_empty)).alloc (Y #[.map (V w.heap.size)] 320 (0,0));have d1:=((ak.refl w).alloc (.map #[] 0)).alloc (Y #[.map (V w.heap.size)] 320 (0,0));rw [World.size_alloc] at h1;clear h g1;refine (callsIn_wide (n:=9)).1 ?_;refine callsIn_of_wp_marks func194 rfl trivial ?_ rfl;simp only [ntmps194,D7,D5,D8,D4,D3,E5,E4,E3,E2,E1,G3]
  gi_wp2_with fail
  generalize (w.alloc (.map #[] 0)).alloc (Y #[.map (V w.heap.size)] 320 (0,0))=w1 at h1 d1 ⊢;generalize w.heap.size+1=d at h1 ⊢;generalize w.heap.size=a at h1 ⊢;clear u1
  gi_loopw [18] (fun k0 wr=>Rw d a L w k0 wr) (fun k0 _=>L.length-(intOf k0).toNat)
  case atStart=>exact ⟨0,H9 _,rfl,h1,d1⟩
  case round=>
    clear h1 d1;obtain ⟨k,hk,rfl,b,N⟩:=hrel;have D:yo wr (W T0 L.length c) L:=H0.o.aH (b.t00 ((pt d _*SU.mp a _)*whole w))
    by_cases d0:k<L.length
    · have t1:(k:Int)<(L.length:Int):=Om0
      obtain ⟨r1,x1,c',hv,t,p,ht,c0,c1,c2,c3,c4,c5,c6,c7⟩:=jV D d0;cases hv
      have y:=ie dD [] L d0;rw [ht] at y;generalize (L.take k).foldl dD []=M at b y;have f:=b.alloc (Y #[Z .u32 t.ep,Z T t.st,Z T t.sq,Z T t.fl,Z U t.ix,Z U t.ct,Z U t.id,Z U (p:Int)] 252 (0,0));have F:=N.alloc (Y #[Z .u32 t.ep,Z T t.st,Z T t.sq,Z T t.fl,Z U t.ix,Z U t.ct,Z U t.id,Z U (p:Int)] 252 (0,0));obtain ⟨w5,k1⟩:=Nm (wr.alloc (Y #[Z .u32 t.ep,Z T t.st,Z T t.sq,Z T t.fl,Z U t.ix,Z U t.ct,Z U t.id,Z U (p:Int)] 252 (0,0)))
      rw [k1] at f F;have q:=ah.Am (P:=X) underlying320 underlying170 (z:=Z T 0) Kr0 f.au t.ep true;obtain ⟨w6,i0,A,C,ce⟩:=ah.ve (P:=X) underlying320 underlying170 f.au t.ep (Z T t.st);rw [AG] at q;rw [GG] at A;have k3:w5.cell? ⟨d,0,R⟩=V (.map (V a)):=f.aj.cell 0;have e0:w5.cell? ⟨wr.heap.size,0,R⟩=V (Z .u32 t.ep):=f.cell 0;have e1:w5.cell? ⟨wr.heap.size,1,R⟩=V (Z T t.st):=f.cell 1;have j1:=F.trans C;have H6:=ae A;have HA:=ae f;have m:=ae y;have S0:=ae i0;have L0:=ae j1;have p1:=ae F;clear D ht A f y ce i0 b e0 e1 F j1 C;subst k1
      cases E:SU.aA M t.ep with
      | none=>
        rw [E] at q;have g:(L.take (k+1)).foldl dD []=SU.dM M t.ep t.st:=by rw [m.o];simp only [dD,E]
        have z:=ae g;simp only [if_true,Option.map_none,Option.getD_none,Option.isSome_none] at q;have i0:=S0.o;clear g m E
        gi_wp2_with fail
        go_roundw
        case rel=>exact ⟨k+1,Om0,by go_num,by rw [z.o];exact (H6.o.t00 (pt wr.heap.size _*(pt d _*(SU.mp a _*whole w)))).right,L0.o⟩
        case measure=>simp [intOf];omega
      | some K0=>
        rw [E] at q;simp only [if_true,Option.map_some,Option.getD_some,Option.isSome_some] at q
        by_cases hs:t.st<K0
        · have g:(L.take (k+1)).foldl dD []=SU.dM M t.ep t.st:=by rw [m.o];simp only [dD,E,if_pos hs]
          have z:=ae g;have i0:=S0.o;clear g m E
          gi_wp2_with fail
          go_roundw
          case rel=>exact ⟨k+1,Om0,by go_num,by rw [z.o];exact (H6.o.t00 (pt wr.heap.size _*(pt d _*(SU.mp a _*whole w)))).right,L0.o⟩
          case measure=>simp [intOf];omega
        · have g:(L.take (k+1)).foldl dD []=M:=by rw [m.o];simp only [dD,E,if_neg hs]
          have z:=ae g;clear g m E
          gi_wp2_with fail
          go_roundw
          case rel=>exact ⟨k+1,Om0,by go_num,by rw [z.o];exact HA.o.right,p1.o⟩
          case measure=>simp [intOf];omega
    · obtain rfl:k=L.length:=Om0
      rw [H1] at b;have hM:L.foldl dD []=dy L:=rfl;rw [hM] at b;have p0:(dy L).length<=12:=s1;generalize o0:dy L=M at b p0;have k3:wr.cell? ⟨d,0,R⟩=V (.map (V a)):=b.cell 0;have h2:=b.alloc (Y #[Z T 18446744073709551615] 171 (0,0));have d2:=N.alloc (Y #[Z T 18446744073709551615] 171 (0,0));have v1:(wr.alloc (Y #[Z T 18446744073709551615] 171 (0,0))).cell? ⟨d,0,R⟩=V (.map (V a)):=h2.aj.cell 0;clear b N hM
      gi_wp2_with fail
      generalize wr.alloc (Y #[Z T 18446744073709551615] 171 (0,0))=w2 at *;generalize wr.heap.size=o at *;refine lq (DY _ a) ?_;rintro b0 w3 ⟨rfl,rfl⟩;have h3:=h2.alloc (Y #[.map (V a)] 320 (0,0));have d3:=d2.alloc (Y #[.map (V a)] 320 (0,0));have f1:(Dz M).map D9=M.map D9:=by simp [Dz]
      have m0:Hid (∀ s:List Int,s.Perm (qP (Dz M))->s.length<=12):=fun s h=>by rw [h.length_eq];simpa [qP,Dz] using p0
      have R0:Hid (∀ s:List Int,AO (Dz M) s->s.length<=12):=fun s h=>Nat.le_trans (SU.kC h.1 h.2) (by simpa [qP,Dz] using p0);clear h2 d2 k3 v1 d0 hk
      gi_wp2_with fail
      generalize w2.alloc (Y #[.map (V a)] 320 (0,0))=w3 at *;refine lq (DG (enters func311 Kr0 rfl) (fun n=>EL n w2.heap.size a (Dz M)) 12 De0 R0.o m0.o _ _ (pt o (Y #[Z T 18446744073709551615] 171 (0,0))*(pt d (Y #[.map (V a)] 320 (0,0))*whole w)) (ak.refl _) (h3.u00)) ?_;rintro b0 w4 ⟨v,s,D0,rfl,h4,d4⟩
      have q0:fS s=kW L:=by
        unfold kW;rw [o0,<- f1];exact yk D0
      have x0:s.length=(kW L).length:=by rw [<- q0,wQ]
      have W0:(kW L).length<=1000000:=by rw [<- x0];have:=m0.o _ D0;omega
      rw [q0,x0] at h4;generalize hK:kW L=K at *;obtain ⟨G,I,rfl⟩:=az h4;have d5:=d3.trans d4;have HK:=ae hK;have m1:=ae W0;have HM:=ae o0;clear h3 d3 d4 D0 q0 x0 f1 hK W0 o0 m0 R0
      gi_wp2_with fail
      refine lq (II _ _ _ _) ?_;rintro b0 w5 ⟨rfl,rfl⟩;have h5:=h4.alloc (Y #[W G K.length I] 325 (0,0));have C:=d5.alloc (Y #[W G K.length I] 325 (0,0))
      gi_wp2_with fail
      generalize w4.alloc (Y #[W G K.length I] 325 (0,0))=w5 at *
      have A:ah w5 (CW d a o M []*(lM w4.heap.size (W G K.length I) K*whole w)):=by
        have:=(h5.t00 (pt w2.heap.size (Y #[.map (V a)] 320 (0,0))*((pt d (Y #[.map (V a)] 320 (0,0))*(SU.mp a (Dz M)*pt o (Y #[Z T 18446744073709551615] 171 (0,0))))*((pt w4.heap.size (Y #[W G K.length I] 325 (0,0))*sl 170 1 (W G K.length I) K.length (iQ K))*whole w)))).right;unfold CW lM;exact this
      clear h5 h4 d5
      refine rY (w0:=w) rfl De0 (gf:=308) (lb:=#[.pointer (V ⟨w4.heap.size,0,R⟩)]) rfl trivial (enters func308 Kr0 rfl)
        (KF _ w4.heap.size (W G K.length I) K m1.o) Ww (CW d a o M) (fun P x=>CW d a o M P) _ ?hps C A ?assign ?body ?done
      case hps=>
        intro x vs Fr B h;unfold yX at h;obtain ⟨rfl,_⟩:=ah.ao.1 h
        rfl
      case assign=>
        intro l G0 P x vs Fr B K _ J H hK;have j:ah B (yX x vs*(CW d a o M P*(pt l (.loop G0)*Fr))):=H.aj;unfold yX at j;obtain ⟨rfl,H2⟩:=ah.ao.1 j;clear H j
        gi_wp2
        exact hK _ J H2
      case body=>
        intro l G0 P x Fr B hp J H;obtain ⟨F0,i⟩:=x;have nh:(P++[(F0,i)]).foldl pR (M,jh)=pR (P.foldl pR (M,jh)) (F0,i):=by rw [List.foldl_append];rfl
        unfold CW at H;generalize P.foldl pR (M,jh)=K0 at H nh;obtain ⟨u,r⟩:=K0;dsimp only at H;have n1:=ae nh;clear nh;have j:ah B (SU.mp a (Dz u)*(pt d (Y #[.map (V a)] 320 (0,0))*(pt o (Y #[Z T r] 171 (0,0))*(pt l (.loop G0)*Fr)))):=H.u00;have q:=ah.Am (P:=X) underlying320 underlying170 (z:=Z T 0) Kr0 j i false;rw [AG] at q;have f0:((SU.aA u i).map (B3 T)).getD (Z T 0) = Z T ((SU.aA u i).getD 0):=by cases SU.aA u i <;> rfl
        simp only [Bool.false_eq_true,if_false,f0] at q;obtain ⟨w6,i0,g0,V0,ce⟩:=ah.ve (P:=X) underlying320 underlying170 j i (Z T r);rw [GG] at g0;have k3:B.cell? ⟨d,0,R⟩=V (.map (V a)):=j.aj.cell 0;have k8:B.cell? ⟨o,0,R⟩=V (Z T r):=j.au.cell 0;have D1:w6.cell? ⟨o,0,R⟩=V (Z T r):=g0.au.cell 0;have z1:w6.frozen? ⟨o,0,R⟩=false:=g0.au.frozen 0;have Z0:pR (u,r) (F0,i)=(SU.dM u i r,min r ((SU.aA u i).getD 0)):=rfl;have r0:=g0.au.setCell 0 (Z T (min r ((SU.aA u i).getD 0)));simp only [H4,H3] at r0;have n0:=ae r0;have l0:=ae Z0;have Hd:=ae ((J.trans V0).setCell ⟨o,0,R⟩ (Z T (min r ((SU.aA u i).getD 0))));clear H j r0 Z0 g0 ce V0 J f0;generalize (SU.aA u i).getD 0=st at *;simp only [Ww,H4,List.set_cons_succ,H3]
        gi_wp2
        all_goals
          first
            | (have b0:min r st=st:=Om0
               rw [b0] at n0 l0 Hd)
            | (have b0:min r st=r:=Om0
               rw [b0] at n0 l0 Hd)
            | skip
          refine ⟨Hd.o,?_⟩;unfold CW;rw [n1.o,l0.o];exact n0.o.u00
      case done=>
        intro D2 s B hS J H;subst hS;have Y0:((idx K).reverse.foldl pR (M,jh)).1=(MV K M).1:=rfl;unfold CW at H;rw [Y0] at H;have a1:cQ L=L.filter (lz (MV K M).1):=by unfold cQ;rw [HK.o,HM.o]
        have N0:=ae a1;clear Y0 a1;generalize (MV K M).1=e at H N0
        have j:ah B (pt d (Y #[.map (V a)] 320 (0,0))*(SU.mp a (Dz e)*(pt D2 (.deferred (V []))*whole w))):=
          (H.t00 ((pt o (Y #[Z T ((idx K).reverse.foldl pR (M,jh)).2] 171 (0,0))*lM w4.heap.size (W G K.length I) K)*(pt d (Y #[.map (V a)] 320 (0,0))*(SU.mp a (Dz e)*(pt D2 (.deferred (V []))*whole w))))).right
        clear H A C D
        gi_wp2
        gi_loopw [12,64] (fun u12 u64 wr=>Qw d a e L D2 w u12 u64 wr) (fun _ k0 _=>L.length-(intOf k0).toNat)
        case atStart=>exact ⟨0,H9 _,rfl,j.dR _ _,J⟩
        case round=>
          clear j J;obtain ⟨k,hk,rfl,b,N⟩:=hrel;have D:yo wr (W T0 L.length c) L:=H0.o.aH (b.t00 ((sl 252 8 u12 _ _*(pt d _*(SU.mp a _*pt D2 _)))*whole w))
          by_cases d0:k<L.length
          · have t1:(k:Int)<(L.length:Int):=Om0
            obtain ⟨r1,x1,c',hv,t,p,ht,c0,c1,c2,c3,c4,c5,c6,c7⟩:=jV D d0;cases hv
            have y:(L.take (k+1)).filter (lz e)=(L.take k).filter (lz e)++(if lz e (t,p)=true then [(t,p)] else []):=by
              rw [J5 d0,List.filter_append,ht];congr 1;cases h:lz e (t,p) <;> simp [h]
            have b1:((L.take k).filter (lz e)).length<=1000000:=Nat.le_trans (List.length_filter_le _ _) (by simp;omega);generalize (L.take k).filter (lz e)=L1 at b y b1;obtain ⟨ua,uc,rfl⟩:=az b;have f:=b.alloc (Y #[Z .u32 t.ep,Z T t.st,Z T t.sq,Z T t.fl,Z U t.ix,Z U t.ct,Z U t.id,Z U (p:Int)] 252 (0,0));have F:=N.alloc (Y #[Z .u32 t.ep,Z T t.st,Z T t.sq,Z T t.fl,Z U t.ix,Z U t.ct,Z U t.id,Z U (p:Int)] 252 (0,0));have q:=ah.Am (P:=X) underlying320 underlying170 (z:=Z T 0) Kr0 f.aC t.ep false;rw [AG] at q;have f0:((SU.aA e t.ep).map (B3 T)).getD (Z T 0) = Z T ((SU.aA e t.ep).getD 0):=by cases SU.aA e t.ep <;> rfl
            simp only [Bool.false_eq_true,if_false,f0] at q;have k3:=f.au.cell 0;simp only [List.getElem?_toArray,List.getElem?_cons_zero] at k3;have u0:lz e (t,p)=decide (t.sq<(SU.aA e t.ep).getD 0):=rfl;rw [u0] at y;have m:=ae y;generalize (SU.aA e t.ep).getD 0=s0 at q m
            by_cases i1:t.sq<s0
            · obtain ⟨xa,xc,w6,h0,A,C⟩:=qV f.aj (t,p) b1
              unfold Km at h0;dsimp only at h0;rw [World.size_alloc] at h0;have g:(L.take (k+1)).filter (lz e)=L1++[(t,p)]:=by rw [m.o,if_pos (by simpa using i1)]
              have z:=ae g;have o1:=ae h0;have H6:=ae A;have D6:=ae (F.trans C);clear y g h0 A C f F D ht m u0 f0 b
              gi_wp2_with (gi_at_builtin;refine cm o1.o _ _ rfl rfl rfl rfl rfl ?_)
              go_roundw
              case rel=>exact ⟨k+1,Om0,by go_num,by rw [z.o];exact H6.o.fT,D6.o⟩
              case measure=>simp [intOf];omega
            · have g:(L.take (k+1)).filter (lz e)=L1:=by rw [m.o,if_neg (by simpa using i1),List.append_nil]
              have z:=ae g;have HA:=ae f.right;clear y g f D ht m u0 f0 b
              gi_wp2
              go_roundw
              case rel=>exact ⟨k+1,Om0,by go_num,by rw [z.o];exact HA.o,F⟩
              case measure=>simp [intOf];omega
          · obtain rfl:k=L.length:=Om0
            rw [H1,<- N0.o] at b;obtain ⟨xa,xc,rfl⟩:=az b;have hK:wr.heap[D2]?=V (.deferred (V [])):=b.aC.heap;have q1:=(b.aC.putObj (.deferred R)).right;have l1:=N.putObj D2 (.deferred R);clear b N D
            gi_wp2
            refine ⟨Si0,.inl ⟨_,_,rfl,run_takeDeferred hK,?_⟩⟩;exact ⟨_,results_tmp rfl _ _ _,W xa (cQ L).length xc,rfl,q1.fT.fT,l1⟩
end Go.Proofs.Nn
