/- Steps. -/
import Derived.Test.YtebfaobobccikaaGreatDoorSP15
import Derived.Test.YtebfaobobccikaaGreatDoorSP8
import Derived.Test.YtebfaobobccikaaGreatDoorSP4
import Derived.TacticsInMore
import Derived.LoopNIn
import Derived.LoopIn
set_option linter.all false
set_option maxRecDepth 99999
set_option maxHeartbeats 0
open Go.SL
open Go.Value renaming int->O,slice->Y,pointer->V
open Go.Obj renaming cells->Z
open Go.Ending renaming returned->Z'
open Go renaming World->W,Value->U
open Go.Proofs.Tryz renaming prog->X
open Option renaming some->R,none->Q
open Go.Proofs.Tryz
open Prod renaming fst->A1
open Go.Value renaming int->D1
open List renaming size_toArray->E1,length_nil->K1,length_map->L1,length_cons->M1,length_append->N1,push_toArray->U1,append_toArray->V1,nil_append->W1,cons_append->Y1,map_map->Z1,getElem?_map->D2,getElem?_eq_getElem->E2,map_append->N2,map_nil->O2
open Nat renaming reduceAdd->O1,reduceSub->R1,mul_one->L2,zero_add->M2
open Array renaming replicate_succ->S1,replicate_zero->T1,getElem?_toList->J2,getElem?_modify->P2
namespace Go.Proofs.Ba
open RowKit SL Go.Sort
def iV (l:List Int):List U:=l.map (D1 .i64)
theorem wN (d:List Int) (c:Array U) (h:d.length<=c.size) :
  putCells (D1 .i64) 0 d.toArray c=(iV d++c.toList.drop d.length).toArray:=by
 apply Array.ext_getElem?;intro k;simp only [putCells,Array.getElem?_mapIdx,iV,List.getElem?_toArray,List.getElem?_append,L1,D2,List.getElem?_drop,E1]
 by_cases a:k<d.length
 .rw [if_pos a,Array.getElem?_eq_getElem (by omega),E2 a]
  simp [a]
 .rw [if_neg a,show d.length+(k-d.length)=k by omega]
  cases b:c[k]? with
  | none=>simp [<- J2] at b ⊢;omega
  | some x=>
   simp only [Option.map_some];rw [if_neg (by omega),<- b];simp
theorem ag.putRow {w:W} {b:Nat} {c:Array U} {T:TypeId} {i:Nat × Nat} {g:ai} (h:ag w (pt b (Z c T i)*g)) (d:List Int) (n:Nat) (f:Array Obj) (l:d.length<=c.size) :
  ag (grow (putRow (D1 .i64) (Go.Sort.ahead w n) b 0 d.toArray) f) (pt b (Z (iV d++c.toList.drop d.length).toArray T i)*g)/\aj w (grow (putRow (D1 .i64) (Go.Sort.ahead w n) b 0 d.toArray) f):=by
 have m:∀ k,k<w.heap.size->(grow (Go.Sort.putRow (D1 .i64) (Go.Sort.ahead w n) b 0 d.toArray) f).heap[k]?=(Go.Sort.putRow (D1 .i64) (Go.Sort.ahead w n) b 0 d.toArray).heap[k]?:=fun k a=>by
  rw [show (grow (Go.Sort.putRow (D1 .i64) (Go.Sort.ahead w n) b 0 d.toArray) f).heap=(Go.Sort.putRow (D1 .i64) (Go.Sort.ahead w n) b 0 d.toArray).heap++f from rfl];exact Array.getElem?_append_left (by rw [size_putRow];exact a)
 have j:ag (Go.Sort.putRow (D1 .i64) (Go.Sort.ahead w n) b 0 d.toArray) (pt b (Z (iV d++c.toList.drop d.length).toArray T i)*g):=by
  refine h.fK ?_ fun k a=>?_
  .show (w.heap.modify b _)[b]?=_
   rw [P2,if_pos rfl,h.heap,<- wN d c l]
   rfl
  .show (w.heap.modify b _)[k]?=_
   rw [P2,if_neg (fun e=>a e.symm)]
 refine ⟨j.carry fun k o a=>?_,⟨rfl,rfl,rfl,by rw [size_grow,size_putRow];exact Nat.le_add_right _ _⟩⟩;have:=(Array.getElem?_eq_some_iff.1 a).1;rw [size_putRow] at this;rw [m k this];exact a
theorem KX (v:U) (zs:List Int) (w:W) (d:ai) (h:ag w (sl 3 1 v zs.length (iV zs)*d)) (t:zs.length<4611686018427387904) :
  Calls X 236 #[v] w fun e c=>e = Z' (.tuple #[])/\ag c (sl 3 1 v zs.length (iV (sorted zs))*d)/\aj w c:=by
 rcases h.dm with ⟨rfl,r,x,a⟩|⟨g,f,k,rfl,l,m,i,o,a⟩
 .obtain rfl:zs=[]:=List.eq_nil_of_length_eq_zero r
  refine (Tryz.slices_Sort_int_none _ _ _).mono ?_;rintro e c ⟨rfl,rfl⟩;exact ⟨rfl,by simpa [sorted] using h,aj.refl _⟩
 .have p:∀ j,j<zs.length->k[j]?=R (O .i64 zs[j]!):=fun j b=>by
   have e:=congrArg (·[j]?) o;simp only [iV,List.getElem?_take,L2,b,if_true,D2,J2] at e;rw [e,E2 b];simp [b]
  refine (Tryz.slices_Sort_int g 0 f zs w (fun j b=>?_) a.lt t).mono ?_
  .have q:j<zs.length:=by simpa using b
   refine ⟨?_,a.frozen _⟩;rw [a.cell,M2,p j q];simp
  .rintro e c ⟨rfl,n,u,rfl⟩
   obtain ⟨H,s⟩:=ag.putRow a (sorted zs) n u (by rw [eW,i];omega);refine ⟨rfl,?_,s⟩
   have:=ag.oa (sz:=1) (n:=zs.length) (cap:=f) H l m (by
    simp only [E1,N1,iV,L1,eW,List.length_drop,Array.length_toList,i];omega)
   refine this.to ?_;congr 2;rw [L2];exact List.take_left' (by rw [iV,L1,eW])
end Go.Proofs.Ba
namespace Go.Proofs.Ba
open RowKit SL
attribute [local go_sem] Oper.semAt_some
variable {gf:Nat} {lb:Array U} {It:ai} {S Sp:List Int->Prop}
def E8 (x:Int) (a:Array U):ai:=fact (a=#[O .i64 x])
theorem ag.E8 {w:W} {a:ai} (x:Int) (h:ag w a):ag w (E8 x #[O .i64 x]*a):=ag.aq.2 ⟨rfl,h⟩
def uP (b r c:Nat) (o:Obj) (M:KV) (A:List Int->ai) (G:ai) (w0:W) (k:Nat) (wr:W):Prop:=
 ∃ D a,M.length<=D.length+k/\Iter b o M D a/\aj w0 wr/\ag wr (pt r a*(pt b o*(pt c (Z #[.map (R b)] 172 (0,0))*(A (D.map A1)*G))))
def tA (M:KV):List Int:=M.map A1
def partOf (M:KV) (a:List Int):Prop:=a.Nodup/\∀ x ∈ a,x ∈ tA M
theorem Je (n:Nat) (bx b:Nat) (M:KV) :
  fJ Fence.wide n prog 237 #[.pointer (some ⟨bx,0,none⟩)] (pt bx (.cells #[.map (some b)] 172 (0,0))*mp b M)
   E8 (fun ys=>ys.Perm (tA M)) (partOf M):=by
 intro l A Ax G w0 w hY hs h0;obtain ⟨o,hm,hb,hS⟩:=ag.oq (F:=pt bx (.cells #[.map (some b)] 172 (0,0))*(A []*G)) (h0.to (by ac_rfl));obtain ⟨it,hrg,hit⟩:=lB (P:=prog) underlying172 hb hm;have hcell:=hS.ah.cell 0;have hA:=hS.alloc it;have hs1:aj w0 (w.alloc it):=hs.alloc _;refine callsIn_of_wp func237 rfl trivial ?_ rfl;simp only [ntmps237,E1,M1,K1,O1,R1,S1,T1,U1,V1,W1,Y1]
 gi_wp2
 gi_loopw [] (fun wr=>∃ k,uP b w.heap.size bx o M A G w0 k wr) (fun wr=>leastOf (fun k=>uP b w.heap.size bx o M A G w0 k wr))
 case atStart=>exact ⟨M.length,[],it,by simp,hit,hs1,hA⟩
 case round=>
  obtain ⟨hk,hmin⟩:=leastOf_spec hrel;generalize leastOf (fun k=>uP b w.heap.size bx o M A G w0 k wr)=gk at hk hmin ⊢;obtain ⟨D,it',hlen,hit',hside,hsat⟩:=hk;have hbr:=hsat.ah.heap;rcases hsat.next (P:=prog) hbr hit' with ⟨hperm,hnx⟩|⟨p,it2,w2,hp,hpD,hnx,hsat2,hit2,hside2,hb2,hen⟩
  .have Hp:=ae hperm;clear hperm
   gi_wp2
   go_end0
   refine ⟨⟨_,rfl⟩,hside,.inl ⟨D.map A1,Hp.out.map _,?_⟩⟩;have:=hsat.right;exact (ag.uy this hm).to (by ac_rfl)
  .have hnd:=mX hit2
   have hSp:partOf M (D.map A1++[p.1]):=⟨by simpa using hnd.1,fun x hx=>by
    have:x ∈ (D++[p]).map A1:=by simpa using hx
    obtain ⟨q,hq,rfl⟩:=List.mem_map.1 this;exact List.mem_map.2 ⟨q,hnd.2 q hq,rfl⟩⟩
   have hle:=Al hit2;rw [N1,List.length_singleton] at hle
   obtain ⟨fn,tmps,assign,body,hy,hR⟩:=hY (D.map A1) p.1 #[.int .i64 p.1] (pt w.heap.size it2*(pt b o*(pt bx (.cells #[.map (some b)] 172 (0,0))*G))) w2 hSp (hside.trans hside2)
    ((ag.E8 p.1 hsat2).to (by ac_rfl))
   have K:=ae hlen;have K2:=ae hle;have K3:=ae hm
   gi_wp2
   refine ⟨fun h=>(by cases h),hR.mono ?_⟩;rintro e W' (⟨rfl,hs3,hsat3⟩|⟨rfl,hs3,hsat3⟩)
   .have hrel':uP b w.heap.size bx o M A G w0 (gk-1) W':=
     ⟨D++[p],it2,by have:=K.out;simp;omega,hit2,hs3,by rw [N2];exact hsat3.to (by simp only [List.map_cons,O2];ac_rfl)⟩
    gi_wp2
    go_roundw
    case rel=>exact ⟨_,hrel'⟩
    case measure=>exact Nat.lt_of_le_of_lt ((leastOf_spec ⟨_,hrel'⟩).2 _ hrel') (by have:=K.out;have:=K2.out;omega)
   .gi_wp2
    refine bodyPost_ret (results_none rfl _ _ _) rfl ?_;refine ⟨⟨_,rfl⟩,hs3,.inr ⟨_,hSp,?_⟩⟩;exact (ag.uy (hsat3.to (by ac_rfl:_=pt b o*(pt w.heap.size it2*(Ax (D.map A1++[p.1])*(pt bx (.cells #[.map (some b)] 172 (0,0))*G))))) K3.out).ah.right.to (by ac_rfl)
theorem wU:(prog.info? 3).map (fun i=>(i.zero,i.size,i.bytes))=R (R (O .i64 0),1,8):=by kernel_rfl
def UA (c G:ai) (S:List Int->Prop) (w0:W) (e:Ending) (b:W):Prop:=
 ∃ v a,S a/\e = Z' v/\ag b (sl 3 1 v a.length (iV a)*(c*G))/\aj w0 b
def MU (b:Nat) (a:List Int):ai:=ex fun v=>pt b (Z #[v] 104 (0,0))*sl 3 1 v a.length (iV a)
theorem xC (u:∀ q w,(callFunc gf q).run X w = .ok (.enter gf q) w)
  (J:∀ n,fJ Fence.wide n X gf lb It E8 S Sp) (N:Nat) (hN:N<=1000000000) (B:∀ a,Sp a->a.length<=N) (w w0:W) (G:ai) (M:aj w0 w) (y:ag w (It*G)) :
  Calls X 262 #[Y Q 0 0,.func (.func gf) #[] lb] w (UA It G S w0):=by
 obtain ⟨i0,I,hz,P,C⟩:=info_parts wU;refine (callsIn_wide (n:=9)).1 ?_;refine callsIn_of_wp_marks func262 rfl trivial ?_ rfl;simp only [ntmps262,E1,M1,K1,O1,R1,S1,T1,U1,V1,W1,Y1]
 gi_wp2
 have f:=y.alloc (Z #[Y Q 0 0] 104 (0,0));have T:=M.alloc (Z #[Y Q 0 0] 104 (0,0))
 have d0:ag (w.alloc (Z #[Y Q 0 0] 104 (0,0))) (MU w.heap.size []*(It*G)):=
  ag.aw.2 ⟨Y Q 0 0,(f.fq 3 1).to (by simp only [iV,O2,K1];ac_rfl)⟩
 refine ku (w0:=w0) rfl (by decide) (gf:=gf) (lb:=lb) rfl trivial u (J _) (MU w.heap.size) (fun _ _=>fact False)
  (fun d x m=>fact (m={ tmps:=#[Y Q 0 0,.func (.func gf) #[] lb,V (R ⟨w.heap.size,0,Q⟩),undef,Y Q 0 0,O .i64 x,.func (.func gf) #[] lb,O .i64 x,undef,undef,undef,undef,undef],defers:=[] })*MU w.heap.size d) G ?hps T d0 ?assign ?body ?done ?stop
 case hps=>
  intro x vs i b h;obtain ⟨rfl,_⟩:=ag.aq.1 h
  rfl
 case assign=>
  intro l r d x vs i b f0 _ e H k;obtain ⟨rfl,j⟩:=ag.aq.1 (H.to (aI _ _ _))
  gi_wp2
  exact k _ _ e ((ag.aq.2 ⟨rfl,j⟩:ag b (fact _*_)).to (ax _ _ _).symm)
 case body=>
  intro l r d x m i b K e H;obtain ⟨rfl,j⟩:=ag.aq.1 (H.to (ax _ _ _));obtain ⟨v,H⟩:=ag.aw.1 j;have l0:d.length+1<=1000000000:=by have:=B _ K;simp at this;omega
  have c:=H.to (ax _ _ _);have E:=c.cell 0;have F:=c.frozen 0;have f:=c.alloc (Z #[O .i64 x] 3 (0,0))
  have z:pP (b.alloc (Z #[O .i64 x] 3 (0,0))) 1 (Y (R ⟨b.heap.size,0,Q⟩) 1 1) 1 [O .i64 x]:=
   ⟨rfl,.inr ⟨_,_,rfl,fun e0 m0 hu=>by
    rw [Addr.add_lit,M2];exact (f.cell e0).trans (by simpa using hu)⟩⟩
  obtain ⟨v',w',L,g,c0⟩:=ag.append (P:=X) (ty:=104) (F:=pt w.heap.size (Z #[v] 104 (0,0))*(pt l (.loop r)*i)) underlying104 I hz P C rfl (f.right.to (by ac_rfl)) z (by simp [Value.oneCell']) (by unfold maxLen;omega) (by omega);obtain ⟨o,p,rfl⟩:=aF g;have h0:=g.ah.cell 0;have k0:=g.ah.frozen 0;have b0:=g.ah.setCell 0 (Y o (d.length+1) p);have t:=ae L
  gi_wp2_with (gi_at_builtin;refine dF t.out _ _ rfl rfl rfl rfl rfl ?_)
  refine ⟨(e.alloc _).trans c0 |>.setCell _ _,ag.aw.2 ⟨Y o (d.length+1) p,b0.to ?_⟩⟩;simp only [iV,N2,N1,List.map_cons,O2,M1,K1]
  ac_rfl
 case done=>
  intro D a b A e H;obtain ⟨v,H⟩:=ag.aw.1 H;have k:=(H.to (by ac_rfl:_=pt D (.deferred (R []))*(pt w.heap.size (Z #[v] 104 (0,0))*sl 3 1 v a.length (iV a)*(It*G)))).heap;have c:=H.to (ax _ _ _);have E:=c.cell 0;have F:=c.frozen 0;have s:ag b (pt D (.deferred (R []))*(sl 3 1 v a.length (iV a)*(It*G))):=c.right.to (by ac_rfl)
  gi_wp2
  refine ⟨by simp,.inl ⟨_,_,rfl,run_takeDeferred k,?_⟩⟩;exact ⟨_,results_tmp rfl _ _ _,v,a,A,rfl,(s.putObj _).right,e.putObj _ _⟩
 case stop=>
  intro D g0 a b _ _ H;exact (ag.aq.1 H).1.elim
theorem Cy (c:∀ b w,(callFunc gf b).run X w = .ok (.enter gf b) w)
  (j:∀ n,fJ Fence.wide n X gf lb It E8 S Sp) (N:Nat) (f:N<=1000000000) (h:∀ a,Sp a->a.length<=N) (w w0:W) (G:ai) (k:aj w0 w) (d:ag w (It*G)) :
  Calls X 235 #[.func (.func gf) #[] lb] w (UA It G S w0):=by
 have i:=xC c j N f h w w0 G k d
 go_enter func235,ntmps235
 go_wp2_with fail
 refine i.mono ?_;rintro e m ⟨v,a,g,rfl,H,l⟩
 go_wp2
 go_ret
 exact ⟨v,a,g,rfl,H,l⟩
def zB (b G:ai) (S:List Int->Prop) (w0:W) (e:Ending) (w':W):Prop:=
 ∃ v a,S a/\e = Z' v/\ag w' (sl 3 1 v a.length (iV (sorted a))*(b*G))/\aj w0 w'
theorem DV (f:∀ b w,(callFunc gf b).run X w = .ok (.enter gf b) w)
  (l:∀ n,fJ Fence.wide n X gf lb It E8 S Sp) (N:Nat) (h:N<=1000000000) (j:∀ a,Sp a->a.length<=N) (i:∀ a,S a->a.length<=N) (w w0:W) (G:ai) (o:aj w0 w) (g:ag w (It*G)) :
  Calls X 186 #[.func (.func gf) #[] lb] w (zB It G S w0):=by
 have k:=Cy f l N h j w w0 G o g
 go_enter func186,ntmps186
 go_wp2_with fail
 refine k.mono ?_;rintro e r ⟨v,a,c,rfl,H,p⟩;have m:a.length<4611686018427387904:=by have:=i _ c;omega
 go_wp2_with fail
 refine (KX v a r _ H m).mono ?_;rintro e s ⟨rfl,d,q⟩
 go_wp2
 go_ret
 exact ⟨v,a,c,rfl,d,p.trans q⟩
theorem kx {P:Program} {f:FuncId} {w:W} {a b:Ending->W->Prop} {n m:Nat} (h:Calls P f lb w a) (c:∀ e w,a e w->b e w) :
  Fence.wide.fn f/\(Fence.wide.depth.isSome=true->1<=m)/\CallsIn Fence.wide n P f lb w b:=⟨trivial,fun h=>(by cases h),(callsIn_wide.2 h).mono c⟩
def O6 (x:Int × List UInt8) (b:Array U):ai:=ex fun a=>fact (b=#[O .i64 x.1,a])*bs 5 a x.2
theorem ag.O6 {w:W} {b:ai} {a:U} (x:Int × List UInt8) (h:ag w (bs 5 a x.2*b)):ag w (O6 x #[O .i64 x.1,a]*b):=
 ag.aw.2 ⟨a,(ag.aq.2 ⟨rfl,h⟩:ag w (fact _*_)).to (ax _ _ _).symm⟩
def TK (c:Nat) (w:W) (e:Ending) (a:W):Prop:=e = Z' (.func (.func 237) #[] #[V (R ⟨w.heap.size,0,Q⟩)])/\a=w.alloc (Z #[.map (R c)] 172 (0,0))
theorem Ic (w:W) (c:Nat):Calls X 187 #[.map (R c)] w (TK c w):=by
 go_enter func187,ntmps187
 go_wp2
 go_ret
 exact ⟨rfl,rfl⟩
def VI (p:Option Addr) (w:W) (e:Ending) (a:W):Prop:=e = Z' (.func (.func 184) #[] #[V (R ⟨w.heap.size,0,Q⟩)])/\a=w.alloc (Z #[.pointer p] 70 (0,0))
theorem wT (w:W) (p:Option Addr):Calls X 138 #[.pointer p] w (VI p w):=by
 go_enter func138,ntmps138
 go_wp2
 go_ret
 exact ⟨rfl,rfl⟩
def qo (S:Hp) (c b:Nat) (rd:U) (d:Int) (a D:CB):ai:=
 pt c (Z #[V (R ⟨b,0,Q⟩)] 70 (0,0))*(aB 176 5 S b rd d a D*ak S)
def TU (A:List (Int × List UInt8)->ai) (b:CB) (v:U) (a:List Int) (c:ai) (w0:W) (i:U) (wr:W):Prop:=
 ∃ k:Nat,k<=a.length/\i = O .i64 k/\aj w0 wr/\ag wr (A ((iF b).take k)*(sl 3 1 v a.length (iV a)*c))
theorem MY (a:CB) (k:Nat) (h:k<(sorted (a.map A1)).length) :
  (iF a).take k++[((sorted (a.map A1))[k],(aP a (sorted (a.map A1))[k]).getD [])]=(iF a).take (k+1):=by
 have b:k<(iF a).length:=by simpa [iF] using h
 rw [List.take_succ_eq_append_getElem b];simp [iF]
theorem Mk (n:Nat) (S:Hp) (m b:Nat) (rd:U) (o:Int) (a D:CB) (hW:a.length<=1000000) :
  fJ Fence.wide n X 184 #[V (R ⟨m,0,Q⟩)] (qo S m b rd o a D) O6 (fun f=>f=iF a) (fun f=>f <+: iF a):=by
 intro l A Ax G w0 w hY hs t;have H:ag w (aB 176 5 S b rd o a D*(ak S*(pt m (Z #[V (R ⟨b,0,Q⟩)] 70 (0,0))*(A []*G)))):=t.to (by unfold qo;ac_rfl);have F0:=H.au.cell 0;obtain ⟨x,N⟩:=H.eI;have G0:w.cell? ⟨b,2,Q⟩=R x.wv:=N.cell 2;obtain ⟨s,z1,z2,z3,y,_⟩:=(N.to (by ac_rfl:_=aT 5 S x.wv x.ws a*(ak S*(pt b (Z (x.cells rd o) 176 (0,0))*(aT 5 S x.tv x.ts D*(fL x.av*(pt m (Z #[V (R ⟨b,0,Q⟩)] 70 (0,0))*(A []*G)))))))).mq;clear H N;have r0:=ae y;clear y;refine callsIn_of_wp func184 rfl trivial ?_ rfl;simp only [ntmps184,E1,M1,K1,O1,R1,S1,T1,U1,V1,W1,Y1]
 gi_wp2_with fail
 refine kx (mI w x.wv _ r0.out) ?_;rintro e C ⟨c,j,rfl,K,l0,xA⟩;have H1:=l0.under t;clear F0 G0 t l0
 gi_wp2_with fail
 refine kx (Ic C c) ?_;rintro e w2 ⟨rfl,rfl⟩;have H2:=H1.alloc (Z #[.map (R c)] 172 (0,0))
 have J:j.length<=1000000:=by
  have e1:=K.length_eq;have e2:=z1.length_eq;simp only [L1] at e1 e2;omega
 have E:Hid (∀ f:List Int,f.Perm (tA j)->f.length<=1000000):=fun f h=>by rw [h.length_eq];simpa [tA] using J
 have q0:Hid (∀ f:List Int,partOf j f->f.length<=1000000):=fun f h=>Nat.le_trans (vT h.1 h.2) (by simpa [tA] using J);have q:(a.map A1).Perm (s.map A1):=by have:=(z1.map A1).symm;rwa [Z1] at this
 have N0:(tA j).Perm (s.map A1):=by have:=K.map A1;rwa [Z1] at this
 clear H1 J
 gi_wp2_with fail
 refine kx (DV (enters_of func237 (by kernel_rfl) rfl) (fun n=>Je n C.heap.size c j) 1000000 (by decide) q0.out E.out _ _ (A []*(qo S m b rd o a D*G)) (aj.refl _) (H2.to (by ac_rfl))) ?_;rintro e w3 ⟨v,f,W0,rfl,r,d3⟩;have d4:aj w0 w3:=((hs.trans xA).alloc _).trans d3;have h0:sorted f=sorted (a.map A1):=AI (W0.trans (N0.trans q.symm));rw [h0,show f.length=(sorted (a.map A1)).length by rw [<- h0,eW]] at r;have B:=aF r;obtain ⟨T,vc,rfl⟩:=B;have e0:=MY a;have k0:∀ k ∈ sorted (a.map A1),k ∈ s.map A1:=fun k hk=>q.mem_iff.1 ((sorted_perm _).mem_iff.1 hk);have I:(iF a).length=(sorted (a.map A1)).length:=by simp [iF]
 generalize sorted (a.map A1)=d at r e0 k0 I ⊢;have E:Hid (d.length<=1000000):=by show d.length<=_;rw [<- I];simp only [iF,L1,eW];exact hW
 have o0:=ae e0;have p0:=ae k0;have n0:=ae I;have u0:=ae z3;have d0:=ae z2;have s0:=ae z1;have c0:=ae K;generalize hX:pt C.heap.size (Z #[.map (R c)] 172 (0,0))*mp c j=X1 at r;have H4:ag w3 (A ((iF a).take 0)*(sl 3 1 (Y T d.length vc) d.length (iV d)*(X1*(qo S m b rd o a D*G)))):=r.to (by simp only [List.take_zero];ac_rfl)
 gi_wp2
 gi_loopw [16] (fun i wr=>TU A a (Y T d.length vc) d (X1*(qo S m b rd o a D*G)) w0 i wr) (fun i _=>d.length-(intOf i).toNat)
 case atStart=>exact ⟨0,Nat.zero_le _,rfl,d4,H4⟩
 case round=>
  obtain ⟨k,hk,rfl,m0,p⟩:=hrel;have B:=p.ah.oI
  by_cases u:k<d.length
  .obtain ⟨_,hh⟩:=B
   obtain ⟨g,V0,H0⟩:∃ g,T=R ⟨g,0,Q⟩/\wr.cell? ⟨g,k,Q⟩=R (O .i64 d[k]):=by
    rcases p.ah.dm with ⟨_,t,_,_⟩|⟨g,X0,Y0,he,h3,h4,h5,h6,hF⟩
    .omega
    .cases he
     refine ⟨g,rfl,?_⟩;rw [hF.cell];have e:=congrArg (·[k]?) h6;simp only [iV,List.getElem?_take,L2,u,if_true,D2,J2] at e;rw [e,E2 u];rfl
   subst V0
   obtain ⟨z,q⟩:∃ z,aP s d[k]=R z:=by
    match hq:aP s d[k] with
    | some z=>exact ⟨z,rfl⟩
    | none=>exact absurd (p0.out _ (List.getElem_mem u)) (gE.1 hq)
   have hV:=u0.out _ (oK q)
   have x0:aP a d[k]=R z.2:=by
    rw [<- ph s0.out (by rw [Z1];exact d0.out),kN (fun z:U × List UInt8=>z.2),q];rfl
   have hM:aP j d[k]=R z.1:=by
    rw [ph c0.out ((c0.out.map _).nodup_iff.2 (by rw [Z1];exact d0.out)),kN (fun z:U × List UInt8=>z.1),q];rfl
   have hS:ag wr (mp c j*(ak S*(A ((iF a).take k)*(sl 3 1 (Y (R ⟨g,0,Q⟩) d.length vc) d.length (iV d)*(pt C.heap.size (Z #[.map (R c)] 172 (0,0))*(pt m (Z #[V (R ⟨b,0,Q⟩)] 70 (0,0))*(aB 176 5 S b rd o a D*G))))))):=
    p.to (by rw [<- hX];unfold qo;ac_rfl)
   have i0:=(hS.lookup (P:=X) underlying172 underlying3 (gq wr) d[k] false)
   rw [hM] at i0;have y:=hV.rd hS.ah;have Hr:=ae y;have D0:Hid (z.2.length<=1000000000):=Nat.le_trans hV.1 (by decide);have f0:(iF a).take k++[(d[k],z.2)]=(iF a).take (k+1):=by rw [<- o0.out k u,x0];rfl
   have b0:=ae f0;have R0:(iF a).take k++[(d[k],z.2)] <+: iF a:=by rw [f0];exact List.take_prefix _ _
   have F:=ae R0;have Z0:=E.out;generalize d[k]=P at H0 i0 b0 F
   gi_wp2_with fail
   refine kx (kh wr z.1 z.2 Hr.out D0) ?_;rintro e w4 ⟨v1,rfl,S0,K0⟩;have H5:=S0.under p;obtain ⟨fn,a1,assign,body,hy,hR⟩:=hY _ (P,z.2) #[O .i64 P,v1] _ w4 F.out (m0.trans K0) (ag.O6 (P,z.2) H5).ah
   gi_wp2
   refine ⟨fun h=>(by cases h),hR.mono ?_⟩;rintro e W' (⟨rfl,L,M⟩|⟨rfl,L,M⟩)
   .gi_wp2
    go_roundw
    case rel=>exact ⟨k+1,by omega,by go_num,L,by rw [<- b0.out];exact M⟩
    case measure=>simp [intOf];omega
   .gi_wp2
    refine bodyPost_ret (results_none rfl _ _ _) rfl ?_;exact ⟨⟨_,rfl⟩,L,.inr ⟨_,F.out,M.iJ.iJ⟩⟩
  .have L0:k=d.length:=by omega
   subst L0;have g0:(iF a).take d.length=iF a:=by rw [<- n0.out];exact List.take_length
   rw [g0] at p;have T0:=p.iJ.iJ;clear B p g0
   gi_wp2
   go_end0
   exact ⟨⟨_,rfl⟩,m0,.inl ⟨_,rfl,T0⟩⟩
end Go.Proofs.Ba
namespace Go.SL
open RowKit
variable {w:W} {S S2:Hp} {F:ai} {T TW:TypeId} {v:U} {L:CB}
theorem ag.BS (h:ag w (ak S*(ak S2*F))):ag w (ak (join S S2)*F)/\Ext S (join S S2)/\Ext S2 (join S S2):=by
 obtain ⟨m,a,c,o,rfl,⟨g,i,rfl,f,j,rfl⟩,d,rfl⟩:=h;obtain ⟨l,n⟩:=gC.1 d;refine ⟨⟨join (join c g) i,by rw [join_assoc];exact a,join c g,i,rfl,f,eR.2 ⟨n,j⟩,rfl⟩,fun k x b=>by simp [join,b],fun k x b=>?_⟩;rcases l k with e|e
 .simp [join,e,b]
 .rw [b] at e;cases e
theorem ag.Ki {e:Bool} (h:ag w (aT T S v e L*F)):∀ p ∈ L,small p.2:=by
 obtain ⟨k,a,j,l,⟨i,g,m,z3,z4⟩,f,d,rfl⟩:=h;intro p b;obtain ⟨z,c,rfl⟩:=List.mem_map.1 (g.mem_iff.2 b);exact (z3 z c).1
def ri (a:List (Int × U × List UInt8)):List U:=a.flatMap fun z=>[O .i64 z.1,z.2.1]
def gW (TW T:TypeId) (S:Hp) (v:U) (L:CB):ai:=ex fun a:List (Int × U × List UInt8)=>
 fact (a.map (fun z=>(z.1,z.2.2))=L/\∀ z ∈ a,qS T S z.2.1 z.2.2)*sl TW 2 v L.length (ri a)
theorem ag.mU (h:ag w (gW TW T S v L*F)) :
  ∃ a:List (Int × U × List UInt8),a.map (fun z=>(z.1,z.2.2))=L/\(∀ z ∈ a,qS T S z.2.1 z.2.2)/\ag w (sl TW 2 v L.length (ri a)*F):=by
 obtain ⟨a,h⟩:=ag.aw.1 h;obtain ⟨⟨b,c⟩,d⟩:=ag.aq.1 (h.to (ax _ _ _));exact ⟨a,b,c,d⟩
theorem ag.qK (a:List (Int × U × List UInt8)) (b:a.map (fun z=>(z.1,z.2.2))=L) (c:∀ z ∈ a,qS T S z.2.1 z.2.2)
  (h:ag w (sl TW 2 v L.length (ri a)*F)):ag w (gW TW T S v L*F):=
 ag.aw.2 ⟨a,(ag.aq.2 ⟨⟨b,c⟩,h⟩:ag w (fact _*_)).to (ax _ _ _).symm⟩
theorem ag.vd (h:ag w (gW TW T S v L*F)) (e:Ext S S2):ag w (gW TW T S2 v L*F):=by
 obtain ⟨a,b,c,d⟩:=h.mU;exact ag.qK a b (fun z f=>(c z f).mono e) d
end Go.SL
namespace Go.Proofs.Ba
open RowKit SL
attribute [local go_sem] Oper.semAt_some
theorem ni {P:Program} {f:FuncId} {c:Array U} {w:W} {a b:Ending->W->Prop} {n:Nat} (h:Calls P f c w a) (d:∀ e w,a e w->b e w) :
  Fence.wide.fn f/\CallsIn Fence.wide n P f c w b:=⟨trivial,(callsIn_wide.2 h).mono d⟩
theorem EL:(prog.info? 188).map (fun i=>(i.zero,i.size,i.bytes))=R (R (.agg #[O .i64 0,Y Q 0 0]),2,32):=by kernel_rfl
def VP (S:Hp) (b:Nat) (rd:U) (f:Int) (c D:CB) (F:ai) (w:W) (e:Ending) (d:W):Prop:=
 ∃ a v,Ext S a/\e = Z' v/\ag d (gW 188 5 a v (iF c)*(aB 176 5 a b rd f c D*(ak a*F)))/\aj w d
def Gg (a:Nat) (b:CB):ai:=ex fun p:Hp × U=>pt a (Z #[p.2] 125 (0,0))*(gW 188 5 p.1 p.2 b*ak p.1)
theorem JF {a:CB} (h:∀ p ∈ a,small p.2):∀ p ∈ iF a,small p.2:=by
 intro p c;obtain ⟨k,_,rfl⟩:=List.mem_map.1 c
 match b:aP a k with
 | none=>simp [small]
 | some l=>exact h _ (oK b)
def UO (a b d:Nat) (e:CB) (x:Int × List UInt8) (c:Act):ai:=ex fun dv=>
 fact (c={ tmps:=#[V (R ⟨b,0,Q⟩),undef,Y Q 0 0,V (R ⟨a,0,Q⟩),O .i64 x.1,dv,V (R ⟨b,0,Q⟩),.func (.func 184) #[] #[V (R ⟨d,0,Q⟩)],O .i64 x.1,dv,undef,undef,undef,undef,undef,undef,undef],defers:=[] })*(bs 5 dv x.2*Gg a e)
theorem Oe (w:W) (S:Hp) (b:Nat) (rd:U) (n:Int) (a D:CB) (F:ai) (hW:a.length<=1000000)
  (h:ag w (aB 176 5 S b rd n a D*(ak S*F))) :
  Calls X 78 #[V (R ⟨b,0,Q⟩)] w (VP S b rd n a D F w):=by
 obtain ⟨i0,hi,i,p0,l0⟩:=info_parts EL;have s0:∀ D0 ∈ a,small D0.2:=by obtain ⟨x,C⟩:=h.eI;exact C.ah.Ki
 have k0:=JF s0;refine (callsIn_wide (n:=9)).1 ?_;refine callsIn_of_wp_marks func78 rfl trivial ?_ rfl;simp only [ntmps78,E1,M1,K1,O1,R1,S1,T1,U1,V1,W1,Y1];have J:=h.alloc (Z #[Y Q 0 0] 125 (0,0));have P:=(aj.refl w).alloc (Z #[Y Q 0 0] 125 (0,0))
 gi_wp2_with fail
 generalize w.alloc (Z #[Y Q 0 0] 125 (0,0))=g at J P ⊢;refine ni (wT g _) ?_;rintro L0 w2 ⟨rfl,rfl⟩;have L:=J.alloc (Z #[V (R ⟨b,0,Q⟩)] 70 (0,0));have T:=P.alloc (Z #[V (R ⟨b,0,Q⟩)] 70 (0,0))
 gi_wp2_with fail
 generalize g.alloc (Z #[V (R ⟨b,0,Q⟩)] 70 (0,0))=w2 at L T ⊢
 have u0:ag w2 (Gg w.heap.size []*(qo S g.heap.size b rd n a D*F)):=
  ag.aw.2 ⟨(fun _=>Q,Y Q 0 0),by
   have h1:=(L.zZ.fq 188 2)
   have h2:=ag.qK (T:=5) (S:=fun _=>Q) (L:=[]) [] rfl (by simp) h1;exact h2.to (by unfold qo;ac_rfl)⟩
 refine ku (w0:=w) rfl (by decide) (gf:=184) (lb:=#[V (R ⟨g.heap.size,0,Q⟩)]) rfl trivial (enters_of func184 (by kernel_rfl) rfl)
  (Mk _ S g.heap.size b rd n a D hW) (Gg w.heap.size) (fun _ _=>fact False) (UO w.heap.size b g.heap.size) F ?hps T u0 ?assign ?body ?done ?stop
 case hps=>
  intro x vs o a h;obtain ⟨m,h⟩:=ag.aw.1 h;obtain ⟨rfl,_⟩:=ag.aq.1 (h.to (ax _ _ _))
  rfl
 case assign=>
  intro l r e x vs o a G0 _ s H B;obtain ⟨m,p⟩:=ag.aw.1 (H.to (aI _ _ _));obtain ⟨rfl,d⟩:=ag.aq.1 (p.to (ax _ _ _))
  gi_wp2
  exact B _ _ s (ag.aw.2 ⟨m,(ag.aq.2 ⟨rfl,d⟩:ag a (fact _*_)).to (by ac_rfl)⟩)
 case body=>
  intro l r e x a' o q N s H;obtain ⟨m,p⟩:=ag.aw.1 H;obtain ⟨rfl,d⟩:=ag.aq.1 (p.to (ax _ _ _));have C:x ∈ iF a:=by obtain ⟨V0,ht⟩:=N;rw [<- ht];simp
  have T0:e.length+1<=1000000:=by
   have:=N.length_le;simp [iF,eW] at this;omega
  obtain ⟨⟨f,v⟩,H3⟩:=ag.aw.1 (d.to (by ac_rfl:_=Gg w.heap.size e*(bs 5 m x.2*(pt l (.loop r)*o))));obtain ⟨y,hE,M,H4⟩:=ag.zv (S:=f) (T:=5) (v:=m) (l:=x.2) (F:=pt w.heap.size (Z #[v] 125 (0,0))*(gW 188 5 f v e*(pt l (.loop r)*o))) (H3.to (by ac_rfl)) (k0 x C);obtain ⟨G,f0,g0,u⟩:=(ag.vd (H4.to (by ac_rfl:_=gW 188 5 f v e*(ak y*(pt w.heap.size (Z #[v] 125 (0,0))*(pt l (.loop r)*o))))) hE).mU
  obtain ⟨j,k,rfl⟩:∃ j k,m = Y j x.2.length k:=by
   rcases M.2 with ⟨rfl,h0⟩|⟨N0,H0,K0,rfl,_⟩
   .exact ⟨_,_,by rw [h0];rfl⟩
   .exact ⟨_,_,rfl⟩
  have m0:=u.au.cell 0;have n0:=u.au.frozen 0;have K:=u.alloc (Z #[O .i64 x.1,Y j x.2.length k] 188 (0,0))
  have hR:pP (q.alloc (Z #[O .i64 x.1,Y j x.2.length k] 188 (0,0))) 2 (Y (R ⟨q.heap.size,0,Q⟩) 1 1) 1 [O .i64 x.1,Y j x.2.length k]:=
   ⟨rfl,.inr ⟨_,_,rfl,fun x0 W0 hu=>by
    rw [Addr.add_lit,M2];exact (K.cell x0).trans (by simpa using hu)⟩⟩
  obtain ⟨v',w',o0,t,r0⟩:=ag.append (P:=X) (ty:=125) underlying125 hi i p0 l0 rfl K.right hR (by simp [Value.oneCell']) (by unfold maxLen;omega) (by omega);obtain ⟨z,A,rfl⟩:=aF t;have R0:=t.au.cell 0;have S0:=t.au.frozen 0;have q0:=t.au.setCell 0 (Y z (e.length+1) A);have d0:=ae o0;have HV:=ae M;have b0:=ae f0;have c0:=ae g0
  gi_wp2_with (gi_at_builtin;refine dF d0.out _ _ rfl rfl rfl rfl rfl ?_)
  refine ⟨(s.alloc _).trans r0 |>.setCell _ _,ag.aw.2 ⟨(y,Y z (e.length+1) A),?_⟩⟩
  have h6:=ag.qK (TW:=188) (T:=5) (S:=y) (v:=Y z (e.length+1) A) (L:=e++[x]) (G++[(x.1,Y j x.2.length k,x.2)]) (by rw [N2,b0.out];rfl)
   (fun F0 i=>by
    rcases List.mem_append.1 i with i|i
    .exact (c0.out F0 i)
    .rw [List.mem_singleton.1 i];exact HV.out)
   (q0.ah.to (by rw [N1,ri,ri,List.flatMap_append];rfl))
  exact h6.to (by simp only [List.setIfInBounds_toArray,List.set_cons_zero];ac_rfl)
 case done=>
  intro E ys q hS s H;subst hS;obtain ⟨⟨f,v⟩,p⟩:=ag.aw.1 H;have d:ag q (pt w.heap.size (Z #[v] 125 (0,0))*(pt E (.deferred (R []))*(gW 188 5 f v (iF a)*(ak f*(qo S g.heap.size b rd n a D*F))))):=p.to (by ac_rfl);have m0:=d.cell 0;have n0:=d.frozen 0;have B:=d.ah.heap;have HD:=(d.right.putObj (.deferred Q)).right
  obtain ⟨va,vc,rfl⟩:∃ e0 c,v = Y e0 (iF a).length c:=by
   obtain ⟨G,_,_,h⟩:=d.right.right.mU;exact aF h
  gi_wp2
  refine ⟨by simp,.inl ⟨_,_,rfl,run_takeDeferred B,?_⟩⟩;obtain ⟨h3,I,e2⟩:=(HD.to (by unfold qo;ac_rfl:_=ak S*(ak f*(gW 188 5 f (Y va (iF a).length vc) (iF a)*(pt g.heap.size (Z #[V (R ⟨b,0,Q⟩)] 70 (0,0))*(aB 176 5 S b rd n a D*F)))))).BS;have h4:=(h3.ah.vd e2).aA.fO (dZ I);exact ⟨_,results_tmp rfl _ _ _,_,_,I,rfl,(h4.lq).to (by ac_rfl),s.putObj _ _⟩
 case stop=>
  intro E c ys q _ _ H;exact (ag.aq.1 H).1.elim
end Go.Proofs.Ba
