/- Steps. -/
import Derived.Test.YtebfaobobccikaaGreatDoorLP15
import Derived.Test.YtebfaobobccikaaGreatDoorLP8
import Derived.Test.YtebfaobobccikaaGreatDoorLP4
import Derived.TacticsInMore
import Derived.LoopNIn
import Derived.LoopIn
set_option linter.all false
set_option maxRecDepth 99999
set_option maxHeartbeats 0
open Go.SL
open Go.Value renaming int->O,slice->Y,pointer->V
open Go.Obj renaming cells->Z
open Go.Ending renaming returned->Z'
open Go renaming World->W,Value->U
open Go.Proofs.Tryz renaming prog->X
open Option renaming some->R,none->Q
open Go.Proofs.Tryz
open Prod renaming fst->A1
open Go.Value renaming int->B1
open List renaming size_toArray->D1,length_nil->E1,length_map->K1,length_cons->L1,length_append->M1,push_toArray->T1,append_toArray->U1,nil_append->V1,cons_append->W1,map_map->Y1,getElem?_map->Z1,getElem?_eq_getElem->A2,map_append->J2,map_nil->L2
open Nat renaming reduceAdd->N1,reduceSub->O1,mul_one->D2,zero_add->E2
open Array renaming replicate_succ->R1,replicate_zero->S1,getElem?_toList->B2,getElem?_modify->M2
namespace Go.Proofs.Ba
open RowKit SL Go.Sort
def iJ (l:List Int):List U:=l.map (B1 .i64)
theorem vU (d:List Int) (c:Array U) (h:d.length<=c.size) :
  putCells (B1 .i64) 0 d.toArray c=(iJ d++c.toList.drop d.length).toArray:=by
 apply Array.ext_getElem?;intro k;simp only [putCells,Array.getElem?_mapIdx,iJ,List.getElem?_toArray,List.getElem?_append,K1,Z1,List.getElem?_drop,D1]
 by_cases a:k<d.length
 .rw [if_pos a,Array.getElem?_eq_getElem (by omega),A2 a]
  simp [a]
 .rw [if_neg a,show d.length+(k-d.length)=k by omega]
  cases b:c[k]? with
  | none=>simp [<- B2] at b ⊢;omega
  | some x=>
   simp only [Option.map_some];rw [if_neg (by omega),<- b];simp
theorem ag.putRow {w:W} {b:Nat} {c:Array U} {T:TypeId} {i:Nat × Nat} {g:ai} (h:ag w (pt b (Z c T i)*g)) (d:List Int) (n:Nat) (f:Array Obj) (l:d.length<=c.size) :
  ag (grow (putRow (B1 .i64) (Go.Sort.ahead w n) b 0 d.toArray) f) (pt b (Z (iJ d++c.toList.drop d.length).toArray T i)*g)/\aj w (grow (putRow (B1 .i64) (Go.Sort.ahead w n) b 0 d.toArray) f):=by
 have m:∀ k,k<w.heap.size->(grow (Go.Sort.putRow (B1 .i64) (Go.Sort.ahead w n) b 0 d.toArray) f).heap[k]?=(Go.Sort.putRow (B1 .i64) (Go.Sort.ahead w n) b 0 d.toArray).heap[k]?:=fun k a=>by
  rw [show (grow (Go.Sort.putRow (B1 .i64) (Go.Sort.ahead w n) b 0 d.toArray) f).heap=(Go.Sort.putRow (B1 .i64) (Go.Sort.ahead w n) b 0 d.toArray).heap++f from rfl];exact Array.getElem?_append_left (by rw [size_putRow];exact a)
 have j:ag (Go.Sort.putRow (B1 .i64) (Go.Sort.ahead w n) b 0 d.toArray) (pt b (Z (iJ d++c.toList.drop d.length).toArray T i)*g):=by
  refine h.fw ?_ fun k a=>?_
  .show (w.heap.modify b _)[b]?=_
   rw [M2,if_pos rfl,h.heap,<- vU d c l]
   rfl
  .show (w.heap.modify b _)[k]?=_
   rw [M2,if_neg (fun e=>a e.symm)]
 refine ⟨j.carry fun k o a=>?_,⟨rfl,rfl,rfl,by rw [size_grow,size_putRow];exact Nat.le_add_right _ _⟩⟩;have:=(Array.getElem?_eq_some_iff.1 a).1;rw [size_putRow] at this;rw [m k this];exact a
theorem Nr (v:U) (zs:List Int) (w:W) (d:ai) (h:ag w (sl 3 1 v zs.length (iJ zs)*d)) (t:zs.length<4611686018427387904) :
  Calls X 236 #[v] w fun e c=>e = Z' (.tuple #[])/\ag c (sl 3 1 v zs.length (iJ (sorted zs))*d)/\aj w c:=by
 rcases h.cW with ⟨rfl,r,x,a⟩|⟨g,f,k,rfl,l,m,i,o,a⟩
 .obtain rfl:zs=[]:=List.eq_nil_of_length_eq_zero r
  refine (Tryz.slices_Sort_int_none _ _ _).mono ?_;rintro e c ⟨rfl,rfl⟩;exact ⟨rfl,by simpa [sorted] using h,aj.refl _⟩
 .have p:∀ j,j<zs.length->k[j]?=R (O .i64 zs[j]!):=fun j b=>by
   have e:=congrArg (·[j]?) o;simp only [iJ,List.getElem?_take,D2,b,if_true,Z1,B2] at e;rw [e,A2 b];simp [b]
  refine (Tryz.slices_Sort_int g 0 f zs w (fun j b=>?_) a.lt t).mono ?_
  .have q:j<zs.length:=by simpa using b
   refine ⟨?_,a.frozen _⟩;rw [a.cell,E2,p j q];simp
  .rintro e c ⟨rfl,n,u,rfl⟩
   obtain ⟨H,s⟩:=ag.putRow a (sorted zs) n u (by rw [eI,i];omega);refine ⟨rfl,?_,s⟩
   have:=ag.nj (sz:=1) (n:=zs.length) (cap:=f) H l m (by
    simp only [D1,M1,iJ,K1,eI,List.length_drop,Array.length_toList,i];omega)
   refine this.to ?_;congr 2;rw [D2];exact List.take_left' (by rw [iJ,K1,eI])
end Go.Proofs.Ba
namespace Go.Proofs.Ba
open RowKit SL
attribute [local go_sem] Oper.semAt_some
variable {gf:Nat} {lb:Array U} {It:ai} {S Sp:List Int->Prop}
def Dq (x:Int) (a:Array U):ai:=fact (a=#[O .i64 x])
theorem ag.Dq {w:W} {a:ai} (x:Int) (h:ag w a):ag w (Dq x #[O .i64 x]*a):=ag.au.2 ⟨rfl,h⟩
def tP (b r c:Nat) (o:Obj) (M:KV) (A:List Int->ai) (G:ai) (w0:W) (k:Nat) (wr:W):Prop:=
 ∃ D a,M.length<=D.length+k/\Iter b o M D a/\aj w0 wr/\ag wr (pt r a*(pt b o*(pt c (Z #[.map (R b)] 172 (0,0))*(A (D.map A1)*G))))
def sF (M:KV):List Int:=M.map A1
def partOf (M:KV) (a:List Int):Prop:=a.Nodup/\∀ x ∈ a,x ∈ sF M
theorem Iw (n:Nat) (bx b:Nat) (M:KV) :
  fW Fence.wide n prog 237 #[.pointer (some ⟨bx,0,none⟩)] (pt bx (.cells #[.map (some b)] 172 (0,0))*mp b M)
   Dq (fun ys=>ys.Perm (sF M)) (partOf M):=by
 intro l A Ax G w0 w hY hs h0;obtain ⟨o,hm,hb,hS⟩:=ag.mY (F:=pt bx (.cells #[.map (some b)] 172 (0,0))*(A []*G)) (h0.to (by ac_rfl));obtain ⟨it,hrg,hit⟩:=kW (P:=prog) underlying172 hb hm;have hcell:=hS.ah.cell 0;have hA:=hS.alloc it;have hs1:aj w0 (w.alloc it):=hs.alloc _;refine callsIn_of_wp func237 rfl trivial ?_ rfl;simp only [ntmps237,D1,L1,E1,N1,O1,R1,S1,T1,U1,V1,W1]
 gi_wp2
 gi_loopw [] (fun wr=>∃ k,tP b w.heap.size bx o M A G w0 k wr) (fun wr=>leastOf (fun k=>tP b w.heap.size bx o M A G w0 k wr))
 case atStart=>exact ⟨M.length,[],it,by simp,hit,hs1,hA⟩
 case round=>
  obtain ⟨hk,hmin⟩:=leastOf_spec hrel;generalize leastOf (fun k=>tP b w.heap.size bx o M A G w0 k wr)=gk at hk hmin ⊢;obtain ⟨D,it',hlen,hit',hside,hsat⟩:=hk;have hbr:=hsat.ah.heap;rcases hsat.next (P:=prog) hbr hit' with ⟨hperm,hnx⟩|⟨p,it2,w2,hp,hpD,hnx,hsat2,hit2,hside2,hb2,hen⟩
  .have Hp:=ae hperm;clear hperm
   gi_wp2
   go_end0
   refine ⟨⟨_,rfl⟩,hside,.inl ⟨D.map A1,Hp.out.map _,?_⟩⟩;have:=hsat.right;exact (ag.tD this hm).to (by ac_rfl)
  .have hnd:=mf hit2
   have hSp:partOf M (D.map A1++[p.1]):=⟨by simpa using hnd.1,fun x hx=>by
    have:x ∈ (D++[p]).map A1:=by simpa using hx
    obtain ⟨q,hq,rfl⟩:=List.mem_map.1 this;exact List.mem_map.2 ⟨q,hnd.2 q hq,rfl⟩⟩
   have hle:=zJ hit2;rw [M1,List.length_singleton] at hle
   obtain ⟨fn,tmps,assign,body,hy,hR⟩:=hY (D.map A1) p.1 #[.int .i64 p.1] (pt w.heap.size it2*(pt b o*(pt bx (.cells #[.map (some b)] 172 (0,0))*G))) w2 hSp (hside.trans hside2)
    ((ag.Dq p.1 hsat2).to (by ac_rfl))
   have K:=ae hlen;have K2:=ae hle;have K3:=ae hm
   gi_wp2
   refine ⟨fun h=>(by cases h),hR.mono ?_⟩;rintro e W' (⟨rfl,hs3,hsat3⟩|⟨rfl,hs3,hsat3⟩)
   .have hrel':tP b w.heap.size bx o M A G w0 (gk-1) W':=
     ⟨D++[p],it2,by have:=K.out;simp;omega,hit2,hs3,by rw [J2];exact hsat3.to (by simp only [List.map_cons,L2];ac_rfl)⟩
    gi_wp2
    go_roundw
    case rel=>exact ⟨_,hrel'⟩
    case measure=>exact Nat.lt_of_le_of_lt ((leastOf_spec ⟨_,hrel'⟩).2 _ hrel') (by have:=K.out;have:=K2.out;omega)
   .gi_wp2
    refine bodyPost_ret (results_none rfl _ _ _) rfl ?_;refine ⟨⟨_,rfl⟩,hs3,.inr ⟨_,hSp,?_⟩⟩;exact (ag.tD (hsat3.to (by ac_rfl:_=pt b o*(pt w.heap.size it2*(Ax (D.map A1++[p.1])*(pt bx (.cells #[.map (some b)] 172 (0,0))*G))))) K3.out).ah.right.to (by ac_rfl)
theorem um:(prog.info? 3).map (fun i=>(i.zero,i.size,i.bytes))=R (R (O .i64 0),1,8):=by kernel_rfl
def Un (c G:ai) (S:List Int->Prop) (w0:W) (e:Ending) (b:W):Prop:=
 ∃ v a,S a/\e = Z' v/\ag b (sl 3 1 v a.length (iJ a)*(c*G))/\aj w0 b
def Lo (b:Nat) (a:List Int):ai:=ex fun v=>pt b (Z #[v] 104 (0,0))*sl 3 1 v a.length (iJ a)
theorem wO (u:∀ q w,(callFunc gf q).run X w = .ok (.enter gf q) w)
  (J:∀ n,fW Fence.wide n X gf lb It Dq S Sp) (N:Nat) (hN:N<=1000000000) (B:∀ a,Sp a->a.length<=N) (w w0:W) (G:ai) (M:aj w0 w) (y:ag w (It*G)) :
  Calls X 262 #[Y Q 0 0,.func (.func gf) #[] lb] w (Un It G S w0):=by
 obtain ⟨i0,I,hz,P,C⟩:=info_parts um;refine (callsIn_wide (n:=9)).1 ?_;refine callsIn_of_wp_marks func262 rfl trivial ?_ rfl;simp only [ntmps262,D1,L1,E1,N1,O1,R1,S1,T1,U1,V1,W1]
 gi_wp2
 have f:=y.alloc (Z #[Y Q 0 0] 104 (0,0));have T:=M.alloc (Z #[Y Q 0 0] 104 (0,0))
 have d0:ag (w.alloc (Z #[Y Q 0 0] 104 (0,0))) (Lo w.heap.size []*(It*G)):=
  ag.ax.2 ⟨Y Q 0 0,(f.eQ 3 1).to (by simp only [iJ,L2,E1];ac_rfl)⟩
 refine jY (w0:=w0) rfl (by decide) (gf:=gf) (lb:=lb) rfl trivial u (J _) (Lo w.heap.size) (fun _ _=>fact False)
  (fun d x m=>fact (m={ tmps:=#[Y Q 0 0,.func (.func gf) #[] lb,V (R ⟨w.heap.size,0,Q⟩),undef,Y Q 0 0,O .i64 x,.func (.func gf) #[] lb,O .i64 x,undef,undef,undef,undef,undef],defers:=[] })*Lo w.heap.size d) G ?hps T d0 ?assign ?body ?done ?stop
 case hps=>
  intro x vs i b h;obtain ⟨rfl,_⟩:=ag.au.1 h
  rfl
 case assign=>
  intro l r d x vs i b f0 _ e H k;obtain ⟨rfl,j⟩:=ag.au.1 (H.to (aG _ _ _))
  gi_wp2
  exact k _ _ e ((ag.au.2 ⟨rfl,j⟩:ag b (fact _*_)).to (ay _ _ _).symm)
 case body=>
  intro l r d x m i b K e H;obtain ⟨rfl,j⟩:=ag.au.1 (H.to (ay _ _ _));obtain ⟨v,H⟩:=ag.ax.1 j;have k0:d.length+1<=1000000000:=by have:=B _ K;simp at this;omega
  have c:=H.to (ay _ _ _);have E:=c.cell 0;have F:=c.frozen 0;have f:=c.alloc (Z #[O .i64 x] 3 (0,0))
  have z:oG (b.alloc (Z #[O .i64 x] 3 (0,0))) 1 (Y (R ⟨b.heap.size,0,Q⟩) 1 1) 1 [O .i64 x]:=
   ⟨rfl,.inr ⟨_,_,rfl,fun e0 l0 hu=>by
    rw [Addr.add_lit,E2];exact (f.cell e0).trans (by simpa using hu)⟩⟩
  obtain ⟨v',w',L,g,c0⟩:=ag.append (P:=X) (ty:=104) (F:=pt w.heap.size (Z #[v] 104 (0,0))*(pt l (.loop r)*i)) underlying104 I hz P C rfl (f.right.to (by ac_rfl)) z (by simp [Value.oneCell']) (by unfold maxLen;omega) (by omega);obtain ⟨o,p,rfl⟩:=aE g;have h0:=g.ah.cell 0;have j0:=g.ah.frozen 0;have b0:=g.ah.setCell 0 (Y o (d.length+1) p);have t:=ae L
  gi_wp2_with (gi_at_builtin;refine dj t.out _ _ rfl rfl rfl rfl rfl ?_)
  refine ⟨(e.alloc _).trans c0 |>.setCell _ _,ag.ax.2 ⟨Y o (d.length+1) p,b0.to ?_⟩⟩;simp only [iJ,J2,M1,List.map_cons,L2,L1,E1]
  ac_rfl
 case done=>
  intro D a b A e H;obtain ⟨v,H⟩:=ag.ax.1 H;have k:=(H.to (by ac_rfl:_=pt D (.deferred (R []))*(pt w.heap.size (Z #[v] 104 (0,0))*sl 3 1 v a.length (iJ a)*(It*G)))).heap;have c:=H.to (ay _ _ _);have E:=c.cell 0;have F:=c.frozen 0;have s:ag b (pt D (.deferred (R []))*(sl 3 1 v a.length (iJ a)*(It*G))):=c.right.to (by ac_rfl)
  gi_wp2
  refine ⟨by simp,.inl ⟨_,_,rfl,run_takeDeferred k,?_⟩⟩;exact ⟨_,results_tmp rfl _ _ _,v,a,A,rfl,(s.putObj _).right,e.putObj _ _⟩
 case stop=>
  intro D g0 a b _ _ H;exact (ag.au.1 H).1.elim
theorem AJ (c:∀ b w,(callFunc gf b).run X w = .ok (.enter gf b) w)
  (j:∀ n,fW Fence.wide n X gf lb It Dq S Sp) (N:Nat) (f:N<=1000000000) (h:∀ a,Sp a->a.length<=N) (w w0:W) (G:ai) (k:aj w0 w) (d:ag w (It*G)) :
  Calls X 235 #[.func (.func gf) #[] lb] w (Un It G S w0):=by
 have i:=wO c j N f h w w0 G k d
 go_enter func235,ntmps235
 go_wp2_with fail
 refine i.mono ?_;rintro e m ⟨v,a,g,rfl,H,l⟩
 go_wp2
 go_ret
 exact ⟨v,a,g,rfl,H,l⟩
def lZ (b G:ai) (S:List Int->Prop) (w0:W) (e:Ending) (w':W):Prop:=
 ∃ v a,S a/\e = Z' v/\ag w' (sl 3 1 v a.length (iJ (sorted a))*(b*G))/\aj w0 w'
theorem CN (f:∀ b w,(callFunc gf b).run X w = .ok (.enter gf b) w)
  (l:∀ n,fW Fence.wide n X gf lb It Dq S Sp) (N:Nat) (h:N<=1000000000) (j:∀ a,Sp a->a.length<=N) (i:∀ a,S a->a.length<=N) (w w0:W) (G:ai) (o:aj w0 w) (g:ag w (It*G)) :
  Calls X 186 #[.func (.func gf) #[] lb] w (lZ It G S w0):=by
 have k:=AJ f l N h j w w0 G o g
 go_enter func186,ntmps186
 go_wp2_with fail
 refine k.mono ?_;rintro e r ⟨v,a,c,rfl,H,p⟩;have m:a.length<4611686018427387904:=by have:=i _ c;omega
 go_wp2_with fail
 refine (Nr v a r _ H m).mono ?_;rintro e s ⟨rfl,d,q⟩
 go_wp2
 go_ret
 exact ⟨v,a,c,rfl,d,p.trans q⟩
theorem lz {P:Program} {f:FuncId} {w:W} {a b:Ending->W->Prop} {n m:Nat} (h:Calls P f lb w a) (c:∀ e w,a e w->b e w) :
  Fence.wide.fn f/\(Fence.wide.depth.isSome=true->1<=m)/\CallsIn Fence.wide n P f lb w b:=⟨trivial,fun h=>(by cases h),(callsIn_wide.2 h).mono c⟩
def NJ (x:Int × List UInt8) (b:Array U):ai:=ex fun a=>fact (b=#[O .i64 x.1,a])*bs 5 a x.2
theorem ag.NJ {w:W} {b:ai} {a:U} (x:Int × List UInt8) (h:ag w (bs 5 a x.2*b)):ag w (NJ x #[O .i64 x.1,a]*b):=
 ag.ax.2 ⟨a,(ag.au.2 ⟨rfl,h⟩:ag w (fact _*_)).to (ay _ _ _).symm⟩
def RE (c:Nat) (w:W) (e:Ending) (a:W):Prop:=e = Z' (.func (.func 237) #[] #[V (R ⟨w.heap.size,0,Q⟩)])/\a=w.alloc (Z #[.map (R c)] 172 (0,0))
theorem Ij (w:W) (c:Nat):Calls X 187 #[.map (R c)] w (RE c w):=by
 go_enter func187,ntmps187
 go_wp2
 go_ret
 exact ⟨rfl,rfl⟩
def Sv (p:Option Addr) (w:W) (e:Ending) (a:W):Prop:=e = Z' (.func (.func 184) #[] #[V (R ⟨w.heap.size,0,Q⟩)])/\a=w.alloc (Z #[.pointer p] 70 (0,0))
theorem KX (w:W) (p:Option Addr):Calls X 138 #[.pointer p] w (Sv p w):=by
 go_enter func138,ntmps138
 go_wp2
 go_ret
 exact ⟨rfl,rfl⟩
def oT (S:Hp) (c b:Nat) (rd:U) (d:Int) (a D:CB):ai:=
 pt c (Z #[V (R ⟨b,0,Q⟩)] 70 (0,0))*(aB 176 5 S b rd d a D*aq S)
def Q1 (A:List (Int × List UInt8)->ai) (b:CB) (v:U) (a:List Int) (c:ai) (w0:W) (i:U) (wr:W):Prop:=
 ∃ k:Nat,k<=a.length/\i = O .i64 k/\aj w0 wr/\ag wr (A ((iq b).take k)*(sl 3 1 v a.length (iJ a)*c))
theorem LX (a:CB) (k:Nat) (h:k<(sorted (a.map A1)).length) :
  (iq a).take k++[((sorted (a.map A1))[k],(aP a (sorted (a.map A1))[k]).getD [])]=(iq a).take (k+1):=by
 have b:k<(iq a).length:=by simpa [iq] using h
 rw [List.take_succ_eq_append_getElem b];simp [iq]
theorem KY (n:Nat) (S:Hp) (m b:Nat) (rd:U) (o:Int) (a D:CB) (hW:a.length<=1000000) :
  fW Fence.wide n X 184 #[V (R ⟨m,0,Q⟩)] (oT S m b rd o a D) NJ (fun f=>f=iq a) (fun f=>f <+: iq a):=by
 intro l A Ax G w0 w hY hs t;have H:ag w (aB 176 5 S b rd o a D*(aq S*(pt m (Z #[V (R ⟨b,0,Q⟩)] 70 (0,0))*(A []*G)))):=t.to (by unfold oT;ac_rfl);have D0:=H.aw.cell 0;obtain ⟨x,N⟩:=H.eh;have F0:w.cell? ⟨b,2,Q⟩=R x.wv:=N.cell 2;obtain ⟨s,z1,z2,z3,y,_⟩:=(N.to (by ac_rfl:_=aQ 5 S x.wv x.ws a*(aq S*(pt b (Z (x.cells rd o) 176 (0,0))*(aQ 5 S x.tv x.ts D*(fy x.av*(pt m (Z #[V (R ⟨b,0,Q⟩)] 70 (0,0))*(A []*G)))))))).lv;clear H N;have q0:=ae y;clear y;refine callsIn_of_wp func184 rfl trivial ?_ rfl;simp only [ntmps184,D1,L1,E1,N1,O1,R1,S1,T1,U1,V1,W1]
 gi_wp2_with fail
 refine lz (l9 w x.wv _ q0.out) ?_;rintro e C ⟨c,j,rfl,K,k0,zR⟩;have H1:=k0.under t;clear D0 F0 t k0
 gi_wp2_with fail
 refine lz (Ij C c) ?_;rintro e w2 ⟨rfl,rfl⟩;have H2:=H1.alloc (Z #[.map (R c)] 172 (0,0))
 have J:j.length<=1000000:=by
  have e1:=K.length_eq;have e2:=z1.length_eq;simp only [K1] at e1 e2;omega
 have E:Hid (∀ f:List Int,f.Perm (sF j)->f.length<=1000000):=fun f h=>by rw [h.length_eq];simpa [sF] using J
 have p0:Hid (∀ f:List Int,partOf j f->f.length<=1000000):=fun f h=>Nat.le_trans (vN h.1 h.2) (by simpa [sF] using J);have q:(a.map A1).Perm (s.map A1):=by have:=(z1.map A1).symm;rwa [Y1] at this
 have L0:(sF j).Perm (s.map A1):=by have:=K.map A1;rwa [Y1] at this
 clear H1 J
 gi_wp2_with fail
 refine lz (CN (enters_of func237 (by kernel_rfl) rfl) (fun n=>Iw n C.heap.size c j) 1000000 (by decide) p0.out E.out _ _ (A []*(oT S m b rd o a D*G)) (aj.refl _) (H2.to (by ac_rfl))) ?_;rintro e w3 ⟨v,f,V0,rfl,r,d3⟩;have d4:aj w0 w3:=((hs.trans zR).alloc _).trans d3;have h0:sorted f=sorted (a.map A1):=yR (V0.trans (L0.trans q.symm));rw [h0,show f.length=(sorted (a.map A1)).length by rw [<- h0,eI]] at r;have B:=aE r;obtain ⟨T,vc,rfl⟩:=B;have e0:=LX a;have j0:∀ k ∈ sorted (a.map A1),k ∈ s.map A1:=fun k hk=>q.mem_iff.1 ((sorted_perm _).mem_iff.1 hk);have I:(iq a).length=(sorted (a.map A1)).length:=by simp [iq]
 generalize sorted (a.map A1)=d at r e0 j0 I ⊢;have E:Hid (d.length<=1000000):=by show d.length<=_;rw [<- I];simp only [iq,K1,eI];exact hW
 have n0:=ae e0;have o0:=ae j0;have m0:=ae I;have s0:=ae z3;have d0:=ae z2;have r0:=ae z1;have c0:=ae K;generalize hX:pt C.heap.size (Z #[.map (R c)] 172 (0,0))*mp c j=X1 at r;have H4:ag w3 (A ((iq a).take 0)*(sl 3 1 (Y T d.length vc) d.length (iJ d)*(X1*(oT S m b rd o a D*G)))):=r.to (by simp only [List.take_zero];ac_rfl)
 gi_wp2
 gi_loopw [16] (fun i wr=>Q1 A a (Y T d.length vc) d (X1*(oT S m b rd o a D*G)) w0 i wr) (fun i _=>d.length-(intOf i).toNat)
 case atStart=>exact ⟨0,Nat.zero_le _,rfl,d4,H4⟩
 case round=>
  obtain ⟨k,hk,rfl,l0,p⟩:=hrel;have B:=p.ah.oD
  by_cases u:k<d.length
  .obtain ⟨_,hh⟩:=B
   obtain ⟨g,T0,G0⟩:∃ g,T=R ⟨g,0,Q⟩/\wr.cell? ⟨g,k,Q⟩=R (O .i64 d[k]):=by
    rcases p.ah.cW with ⟨_,t,_,_⟩|⟨g,W0,X0,he,h3,h4,h5,h6,hF⟩
    .omega
    .cases he
     refine ⟨g,rfl,?_⟩;rw [hF.cell];have e:=congrArg (·[k]?) h6;simp only [iJ,List.getElem?_take,D2,u,if_true,Z1,B2] at e;rw [e,A2 u];rfl
   subst T0
   obtain ⟨z,q⟩:∃ z,aP s d[k]=R z:=by
    match hq:aP s d[k] with
    | some z=>exact ⟨z,rfl⟩
    | none=>exact absurd (o0.out _ (List.getElem_mem u)) (gn.1 hq)
   have hV:=s0.out _ (nh q)
   have u0:aP a d[k]=R z.2:=by
    rw [<- nW r0.out (by rw [Y1];exact d0.out),j7 (fun z:U × List UInt8=>z.2),q];rfl
   have hM:aP j d[k]=R z.1:=by
    rw [nW c0.out ((c0.out.map _).nodup_iff.2 (by rw [Y1];exact d0.out)),j7 (fun z:U × List UInt8=>z.1),q];rfl
   have hS:ag wr (mp c j*(aq S*(A ((iq a).take k)*(sl 3 1 (Y (R ⟨g,0,Q⟩) d.length vc) d.length (iJ d)*(pt C.heap.size (Z #[.map (R c)] 172 (0,0))*(pt m (Z #[V (R ⟨b,0,Q⟩)] 70 (0,0))*(aB 176 5 S b rd o a D*G))))))):=
    p.to (by rw [<- hX];unfold oT;ac_rfl)
   have i0:=(hS.lookup (P:=X) underlying172 underlying3 (fX wr) d[k] false)
   rw [hM] at i0;have y:=hV.rd hS.ah;have Hr:=ae y;have x0:Hid (z.2.length<=1000000000):=Nat.le_trans hV.1 (by decide);have f0:(iq a).take k++[(d[k],z.2)]=(iq a).take (k+1):=by rw [<- n0.out k u,u0];rfl
   have b0:=ae f0;have N0:(iq a).take k++[(d[k],z.2)] <+: iq a:=by rw [f0];exact List.take_prefix _ _
   have F:=ae N0;have Y0:=E.out;generalize d[k]=P at G0 i0 b0 F
   gi_wp2_with fail
   refine lz (jN wr z.1 z.2 Hr.out x0) ?_;rintro e w4 ⟨v1,rfl,R0,H0⟩;have H5:=R0.under p;obtain ⟨fn,Z0,assign,body,hy,hR⟩:=hY _ (P,z.2) #[O .i64 P,v1] _ w4 F.out (l0.trans H0) (ag.NJ (P,z.2) H5).ah
   gi_wp2
   refine ⟨fun h=>(by cases h),hR.mono ?_⟩;rintro e W' (⟨rfl,L,M⟩|⟨rfl,L,M⟩)
   .gi_wp2
    go_roundw
    case rel=>exact ⟨k+1,by omega,by go_num,L,by rw [<- b0.out];exact M⟩
    case measure=>simp [intOf];omega
   .gi_wp2
    refine bodyPost_ret (results_none rfl _ _ _) rfl ?_;exact ⟨⟨_,rfl⟩,L,.inr ⟨_,F.out,M.iC.iC⟩⟩
  .have K0:k=d.length:=by omega
   subst K0;have g0:(iq a).take d.length=iq a:=by rw [<- m0.out];exact List.take_length
   rw [g0] at p;have S0:=p.iC.iC;clear B p g0
   gi_wp2
   go_end0
   exact ⟨⟨_,rfl⟩,l0,.inl ⟨_,rfl,S0⟩⟩
end Go.Proofs.Ba
namespace Go.SL
open RowKit
variable {w:W} {S S2:Hp} {F:ai} {T TW:TypeId} {v:U} {L:CB}
theorem ag.AE (h:ag w (aq S*(aq S2*F))):ag w (aq (join S S2)*F)/\Ext S (join S S2)/\Ext S2 (join S S2):=by
 obtain ⟨m,a,c,o,rfl,⟨g,i,rfl,f,j,rfl⟩,d,rfl⟩:=h;obtain ⟨l,n⟩:=gr.1 d;refine ⟨⟨join (join c g) i,by rw [join_assoc];exact a,join c g,i,rfl,f,eA.2 ⟨n,j⟩,rfl⟩,fun k x b=>by simp [join,b],fun k x b=>?_⟩;rcases l k with e|e
 .simp [join,e,b]
 .rw [b] at e;cases e
theorem ag.Il {e:Bool} (h:ag w (aQ T S v e L*F)):∀ p ∈ L,small p.2:=by
 obtain ⟨k,a,j,l,⟨i,g,m,z3,z4⟩,f,d,rfl⟩:=h;intro p b;obtain ⟨z,c,rfl⟩:=List.mem_map.1 (g.mem_iff.2 b);exact (z3 z c).1
def qM (a:List (Int × U × List UInt8)):List U:=a.flatMap fun z=>[O .i64 z.1,z.2.1]
def gI (TW T:TypeId) (S:Hp) (v:U) (L:CB):ai:=ex fun a:List (Int × U × List UInt8)=>
 fact (a.map (fun z=>(z.1,z.2.2))=L/\∀ z ∈ a,ru T S z.2.1 z.2.2)*sl TW 2 v L.length (qM a)
theorem ag.lQ (h:ag w (gI TW T S v L*F)) :
  ∃ a:List (Int × U × List UInt8),a.map (fun z=>(z.1,z.2.2))=L/\(∀ z ∈ a,ru T S z.2.1 z.2.2)/\ag w (sl TW 2 v L.length (qM a)*F):=by
 obtain ⟨a,h⟩:=ag.ax.1 h;obtain ⟨⟨b,c⟩,d⟩:=ag.au.1 (h.to (ay _ _ _));exact ⟨a,b,c,d⟩
theorem ag.pk (a:List (Int × U × List UInt8)) (b:a.map (fun z=>(z.1,z.2.2))=L) (c:∀ z ∈ a,ru T S z.2.1 z.2.2)
  (h:ag w (sl TW 2 v L.length (qM a)*F)):ag w (gI TW T S v L*F):=
 ag.ax.2 ⟨a,(ag.au.2 ⟨⟨b,c⟩,h⟩:ag w (fact _*_)).to (ay _ _ _).symm⟩
theorem ag.uv (h:ag w (gI TW T S v L*F)) (e:Ext S S2):ag w (gI TW T S2 v L*F):=by
 obtain ⟨a,b,c,d⟩:=h.lQ;exact ag.pk a b (fun z f=>(c z f).mono e) d
end Go.SL
namespace Go.Proofs.Ba
open RowKit SL
attribute [local go_sem] Oper.semAt_some
theorem nG {P:Program} {f:FuncId} {c:Array U} {w:W} {a b:Ending->W->Prop} {n:Nat} (h:Calls P f c w a) (d:∀ e w,a e w->b e w) :
  Fence.wide.fn f/\CallsIn Fence.wide n P f c w b:=⟨trivial,(callsIn_wide.2 h).mono d⟩
theorem De:(prog.info? 188).map (fun i=>(i.zero,i.size,i.bytes))=R (R (.agg #[O .i64 0,Y Q 0 0]),2,32):=by kernel_rfl
def Tn (S:Hp) (b:Nat) (rd:U) (f:Int) (c D:CB) (F:ai) (w:W) (e:Ending) (d:W):Prop:=
 ∃ a v,Ext S a/\e = Z' v/\ag d (gI 188 5 a v (iq c)*(aB 176 5 a b rd f c D*(aq a*F)))/\aj w d
def Fi (a:Nat) (b:CB):ai:=ex fun p:Hp × U=>pt a (Z #[p.2] 125 (0,0))*(gI 188 5 p.1 p.2 b*aq p.1)
theorem GM {a:CB} (h:∀ p ∈ a,small p.2):∀ p ∈ iq a,small p.2:=by
 intro p c;obtain ⟨k,_,rfl⟩:=List.mem_map.1 c
 match b:aP a k with
 | none=>simp [small]
 | some l=>exact h _ (nh b)
def TA (a b d:Nat) (e:CB) (x:Int × List UInt8) (c:Act):ai:=ex fun dv=>
 fact (c={ tmps:=#[V (R ⟨b,0,Q⟩),undef,Y Q 0 0,V (R ⟨a,0,Q⟩),O .i64 x.1,dv,V (R ⟨b,0,Q⟩),.func (.func 184) #[] #[V (R ⟨d,0,Q⟩)],O .i64 x.1,dv,undef,undef,undef,undef,undef,undef,undef],defers:=[] })*(bs 5 dv x.2*Fi a e)
theorem JI (w:W) (S:Hp) (b:Nat) (rd:U) (n:Int) (a D:CB) (F:ai) (hW:a.length<=1000000)
  (h:ag w (aB 176 5 S b rd n a D*(aq S*F))) :
  Calls X 78 #[V (R ⟨b,0,Q⟩)] w (Tn S b rd n a D F w):=by
 obtain ⟨i0,hi,i,o0,k0⟩:=info_parts De;have r0:∀ x0 ∈ a,small x0.2:=by obtain ⟨x,C⟩:=h.eh;exact C.ah.Il
 have j0:=GM r0;refine (callsIn_wide (n:=9)).1 ?_;refine callsIn_of_wp_marks func78 rfl trivial ?_ rfl;simp only [ntmps78,D1,L1,E1,N1,O1,R1,S1,T1,U1,V1,W1];have J:=h.alloc (Z #[Y Q 0 0] 125 (0,0));have P:=(aj.refl w).alloc (Z #[Y Q 0 0] 125 (0,0))
 gi_wp2_with fail
 generalize w.alloc (Z #[Y Q 0 0] 125 (0,0))=g at J P ⊢;refine nG (KX g _) ?_;rintro K0 w2 ⟨rfl,rfl⟩;have L:=J.alloc (Z #[V (R ⟨b,0,Q⟩)] 70 (0,0));have T:=P.alloc (Z #[V (R ⟨b,0,Q⟩)] 70 (0,0))
 gi_wp2_with fail
 generalize g.alloc (Z #[V (R ⟨b,0,Q⟩)] 70 (0,0))=w2 at L T ⊢
 have s0:ag w2 (Fi w.heap.size []*(oT S g.heap.size b rd n a D*F)):=
  ag.ax.2 ⟨(fun _=>Q,Y Q 0 0),by
   have h1:=(L.zH.eQ 188 2)
   have h2:=ag.pk (T:=5) (S:=fun _=>Q) (L:=[]) [] rfl (by simp) h1;exact h2.to (by unfold oT;ac_rfl)⟩
 refine jY (w0:=w) rfl (by decide) (gf:=184) (lb:=#[V (R ⟨g.heap.size,0,Q⟩)]) rfl trivial (enters_of func184 (by kernel_rfl) rfl)
  (KY _ S g.heap.size b rd n a D hW) (Fi w.heap.size) (fun _ _=>fact False) (TA w.heap.size b g.heap.size) F ?hps T s0 ?assign ?body ?done ?stop
 case hps=>
  intro x vs o a h;obtain ⟨m,h⟩:=ag.ax.1 h;obtain ⟨rfl,_⟩:=ag.au.1 (h.to (ay _ _ _))
  rfl
 case assign=>
  intro l r e x vs o a F0 _ s H B;obtain ⟨m,p⟩:=ag.ax.1 (H.to (aG _ _ _));obtain ⟨rfl,d⟩:=ag.au.1 (p.to (ay _ _ _))
  gi_wp2
  exact B _ _ s (ag.ax.2 ⟨m,(ag.au.2 ⟨rfl,d⟩:ag a (fact _*_)).to (by ac_rfl)⟩)
 case body=>
  intro l r e x a' o q N s H;obtain ⟨m,p⟩:=ag.ax.1 H;obtain ⟨rfl,d⟩:=ag.au.1 (p.to (ay _ _ _));have C:x ∈ iq a:=by obtain ⟨T0,ht⟩:=N;rw [<- ht];simp
  have S0:e.length+1<=1000000:=by
   have:=N.length_le;simp [iq,eI] at this;omega
  obtain ⟨⟨f,v⟩,H3⟩:=ag.ax.1 (d.to (by ac_rfl:_=Fi w.heap.size e*(bs 5 m x.2*(pt l (.loop r)*o))));obtain ⟨y,hE,M,H4⟩:=ag.yS (S:=f) (T:=5) (v:=m) (l:=x.2) (F:=pt w.heap.size (Z #[v] 125 (0,0))*(gI 188 5 f v e*(pt l (.loop r)*o))) (H3.to (by ac_rfl)) (j0 x C);obtain ⟨G,f0,g0,u⟩:=(ag.uv (H4.to (by ac_rfl:_=gI 188 5 f v e*(aq y*(pt w.heap.size (Z #[v] 125 (0,0))*(pt l (.loop r)*o))))) hE).lQ
  obtain ⟨j,k,rfl⟩:∃ j k,m = Y j x.2.length k:=by
   rcases M.2 with ⟨rfl,h0⟩|⟨L0,G0,H0,rfl,_⟩
   .exact ⟨_,_,by rw [h0];rfl⟩
   .exact ⟨_,_,rfl⟩
  have l0:=u.aw.cell 0;have m0:=u.aw.frozen 0;have K:=u.alloc (Z #[O .i64 x.1,Y j x.2.length k] 188 (0,0))
  have hR:oG (q.alloc (Z #[O .i64 x.1,Y j x.2.length k] 188 (0,0))) 2 (Y (R ⟨q.heap.size,0,Q⟩) 1 1) 1 [O .i64 x.1,Y j x.2.length k]:=
   ⟨rfl,.inr ⟨_,_,rfl,fun u0 V0 hu=>by
    rw [Addr.add_lit,E2];exact (K.cell u0).trans (by simpa using hu)⟩⟩
  obtain ⟨v',w',n0,t,q0⟩:=ag.append (P:=X) (ty:=125) underlying125 hi i o0 k0 rfl K.right hR (by simp [Value.oneCell']) (by unfold maxLen;omega) (by omega);obtain ⟨z,A,rfl⟩:=aE t;have N0:=t.aw.cell 0;have R0:=t.aw.frozen 0;have p0:=t.aw.setCell 0 (Y z (e.length+1) A);have d0:=ae n0;have HV:=ae M;have b0:=ae f0;have c0:=ae g0
  gi_wp2_with (gi_at_builtin;refine dj d0.out _ _ rfl rfl rfl rfl rfl ?_)
  refine ⟨(s.alloc _).trans q0 |>.setCell _ _,ag.ax.2 ⟨(y,Y z (e.length+1) A),?_⟩⟩
  have h6:=ag.pk (TW:=188) (T:=5) (S:=y) (v:=Y z (e.length+1) A) (L:=e++[x]) (G++[(x.1,Y j x.2.length k,x.2)]) (by rw [J2,b0.out];rfl)
   (fun D0 i=>by
    rcases List.mem_append.1 i with i|i
    .exact (c0.out D0 i)
    .rw [List.mem_singleton.1 i];exact HV.out)
   (p0.ah.to (by rw [M1,qM,qM,List.flatMap_append];rfl))
  exact h6.to (by simp only [List.setIfInBounds_toArray,List.set_cons_zero];ac_rfl)
 case done=>
  intro E ys q hS s H;subst hS;obtain ⟨⟨f,v⟩,p⟩:=ag.ax.1 H;have d:ag q (pt w.heap.size (Z #[v] 125 (0,0))*(pt E (.deferred (R []))*(gI 188 5 f v (iq a)*(aq f*(oT S g.heap.size b rd n a D*F))))):=p.to (by ac_rfl);have l0:=d.cell 0;have m0:=d.frozen 0;have B:=d.ah.heap;have HD:=(d.right.putObj (.deferred Q)).right
  obtain ⟨va,vc,rfl⟩:∃ e0 c,v = Y e0 (iq a).length c:=by
   obtain ⟨G,_,_,h⟩:=d.right.right.lQ;exact aE h
  gi_wp2
  refine ⟨by simp,.inl ⟨_,_,rfl,run_takeDeferred B,?_⟩⟩;obtain ⟨h3,I,e2⟩:=(HD.to (by unfold oT;ac_rfl:_=aq S*(aq f*(gI 188 5 f (Y va (iq a).length vc) (iq a)*(pt g.heap.size (Z #[V (R ⟨b,0,Q⟩)] 70 (0,0))*(aB 176 5 S b rd n a D*F)))))).AE;have h4:=(h3.ah.uv e2).aD.fp (dG I);exact ⟨_,results_tmp rfl _ _ _,_,_,I,rfl,(h4.kD).to (by ac_rfl),s.putObj _ _⟩
 case stop=>
  intro E c ys q _ _ H;exact (ag.au.1 H).1.elim
end Go.Proofs.Ba
