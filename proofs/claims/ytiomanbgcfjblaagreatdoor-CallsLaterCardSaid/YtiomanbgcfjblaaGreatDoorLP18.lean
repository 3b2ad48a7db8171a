/- Steps. -/
import Derived.Test.YtiomanbgcfjblaaGreatDoorLP16
import Derived.Test.YtiomanbgcfjblaaGreatDoorLP8
import Derived.Test.YtiomanbgcfjblaaGreatDoorLP4
import Derived.TacticsInMore
import Derived.LoopNIn
import Derived.LoopIn
set_option linter.all false
set_option maxRecDepth 99999
set_option maxHeartbeats 0
open Go.SL
open Go.Value renaming int->N,slice->Y,pointer->V
open Go.IntKind renaming i64->O
open Go.Obj renaming cells->Z
open Go.Ending renaming returned->Z'
open Go renaming World->W,Value->U
open Go.Proofs.Tryz renaming prog->X
open Option renaming some->R,none->Q
open Go.Proofs.Tryz
open Prod renaming fst->A1
open Go.Value renaming int->B3
open List renaming size_toArray->D9,length_nil->D8,length_map->D7,length_cons->D6,length_append->D5,push_toArray->E5,append_toArray->E4,nil_append->E3,cons_append->E2,map_map->E1,getElem?_map->G3,getElem?_eq_getElem->H9,map_append->J7,map_nil->J5
open Nat renaming reduceAdd->D4,reduceSub->D3,mul_one->H7,zero_add->H6
open Array renaming replicate_succ->D2,replicate_zero->D1,getElem?_toList->H8,getElem?_modify->J4
namespace Go.Proofs.Ba
open RowKit SL Go.Sort
def ja (l:List Int):List U:=l.map (B3 O)
def vm (d:List Int) (c:Array U) (h:d.length<=c.size) :
  putCells (B3 O) 0 d.toArray c=(ja d++c.toList.drop d.length).toArray:=by
 apply Array.ext_getElem?;intro k;simp only [putCells,Array.getElem?_mapIdx,ja,List.getElem?_toArray,List.getElem?_append,D7,G3,List.getElem?_drop,D9]
 by_cases a:k<d.length
 .rw [if_pos a,Array.getElem?_eq_getElem Om0,H9 a]
  simp [a]
 .rw [if_neg a,show d.length+(k-d.length)=k by omega]
  cases b:c[k]? with
  | none=>simp [<- H8] at b ⊢;omega
  | some x=>
   simp only [Option.map_some];rw [if_neg Om0,<- b];simp
def ah.putRow {w:W} {b:Nat} {c:Array U} {T:TypeId} {i:Nat × Nat} {g:ai} (h:ah w (pt b (Z c T i)*g)) (d:List Int) (n:Nat) (f:Array Obj) (l:d.length<=c.size) :
  ah (grow (putRow (B3 O) (Go.Sort.ahead w n) b 0 d.toArray) f) (pt b (Z (ja d++c.toList.drop d.length).toArray T i)*g)/\ak w (grow (putRow (B3 O) (Go.Sort.ahead w n) b 0 d.toArray) f):=by
 have m:∀ k,k<w.heap.size->(grow (Go.Sort.putRow (B3 O) (Go.Sort.ahead w n) b 0 d.toArray) f).heap[k]?=(Go.Sort.putRow (B3 O) (Go.Sort.ahead w n) b 0 d.toArray).heap[k]?:=fun k a=>by
  rw [show (grow (Go.Sort.putRow (B3 O) (Go.Sort.ahead w n) b 0 d.toArray) f).heap=(Go.Sort.putRow (B3 O) (Go.Sort.ahead w n) b 0 d.toArray).heap++f from rfl];exact Array.getElem?_append_left (by rw [size_putRow];exact a)
 have j:ah (Go.Sort.putRow (B3 O) (Go.Sort.ahead w n) b 0 d.toArray) (pt b (Z (ja d++c.toList.drop d.length).toArray T i)*g):=by
  refine h.dM ?_ fun k a=>?_
  .show (w.heap.modify b _)[b]?=_
   rw [J4,if_pos rfl,h.heap,<- vm d c l]
   rfl
  .show (w.heap.modify b _)[k]?=_
   rw [J4,if_neg (fun e=>a e.symm)]
 refine ⟨j.carry fun k o a=>?_,⟨rfl,rfl,rfl,by rw [size_grow,size_putRow];exact Nat.le_add_right _ _⟩⟩;have:=(Array.getElem?_eq_some_iff.1 a).1;rw [size_putRow] at this;rw [m k this];exact a
def O9 (v:U) (zs:List Int) (w:W) (d:ai) (h:ah w (sl 3 1 v zs.length (ja zs)*d)) (r:zs.length<4611686018427387904) :
  Calls X 298 #[v] w fun e c=>e = Z' (.tuple #[])/\ah c (sl 3 1 v zs.length (ja (sorted zs))*d)/\ak w c:=by
 rcases h.cH with ⟨rfl,p,t,a⟩|⟨g,f,i,rfl,k,h4,h5,l,a⟩
 .obtain rfl:zs=[]:=List.eq_nil_of_length_eq_zero p
  refine (Tryz.slices_Sort_int_none _ _ _).mono ?_;rintro e c ⟨rfl,rfl⟩;exact ⟨rfl,by simpa [sorted] using h,ak.refl _⟩
 .have m:∀ j,j<zs.length->i[j]?=R (N O zs[j]!):=fun j b=>by
   have e:=congrArg (·[j]?) l;simp only [ja,List.getElem?_take,H7,b,if_true,G3,H8] at e;rw [e,H9 b];simp [b]
  refine (Tryz.slices_Sort_int g 0 f zs w (fun j b=>?_) a.lt r).mono ?_
  .have o:j<zs.length:=by simpa using b
   refine ⟨?_,a.frozen _⟩;rw [a.cell,H6,m j o];simp
  .rintro e c ⟨rfl,n,s,rfl⟩
   obtain ⟨H,q⟩:=ah.putRow a (sorted zs) n s (by rw [eG,h5];omega);refine ⟨rfl,?_,q⟩
   have:=ah.nz (sz:=1) (n:=zs.length) (cap:=f) H k h4 (by
    simp only [D9,D5,ja,D7,eG,List.length_drop,Array.length_toList,h5];omega)
   refine this.to ?_;congr 2;rw [H7];exact List.take_left' (by rw [ja,D7,eG])
end Go.Proofs.Ba
namespace Go.Proofs.Ba
open RowKit SL
attribute [local go_sem] Oper.semAt_some
variable {gf:Nat} {lb:Array U} {It:ai} {S Sp:List Int->Prop}
def E6 (x:Int) (a:Array U):ai:=fact (a=#[N O x])
def ah.E6 {w:W} {a:ai} (x:Int) (h:ah w a):ah w (E6 x #[N O x]*a):=ah.ao.2 ⟨rfl,h⟩
def uL (b r c:Nat) (o:Obj) (M:KV) (A:List Int->ai) (G:ai) (w0:W) (k:Nat) (wr:W):Prop:=
 ∃ D a,M.length<=D.length+k/\Iter b o M D a/\ak w0 wr/\ah wr (pt r a*(pt b o*(pt c (Z #[.map (R b)] 207 (0,0))*(A (D.map A1)*G))))
def sm (M:KV):List Int:=M.map A1
def partOf (M:KV) (a:List Int):Prop:=a.Nodup/\∀ x ∈ a,x ∈ sm M
theorem Kz (n:Nat) (bx b:Nat) (M:KV) :
  dU Fence.wide n prog 299 #[.pointer (some ⟨bx,0,none⟩)] (pt bx (.cells #[.map (some b)] 207 (0,0))*mp b M)
   E6 (fun ys=>ys.Perm (sm M)) (partOf M):=by
 intro l A Ax G w0 w hY hs h0;obtain ⟨o,hm,hb,hS⟩:=ah.qh (F:=pt bx (.cells #[.map (some b)] 207 (0,0))*(A []*G)) (h0.to (by ac_rfl));obtain ⟨it,hrg,hit⟩:=ju (P:=prog) underlying207 hb hm;have hcell:=hS.aj.cell 0;have hA:=hS.alloc it;have hs1:ak w0 (w.alloc it):=hs.alloc _;refine callsIn_of_wp func299 rfl trivial ?_ rfl;simp only [ntmps299,D9,D6,D8,D4,D3,D2,D1,E5,E4,E3,E2]
 gi_wp2
 gi_loopw [] (fun wr=>∃ k,uL b w.heap.size bx o M A G w0 k wr) (fun wr=>leastOf (fun k=>uL b w.heap.size bx o M A G w0 k wr))
 case atStart=>exact ⟨M.length,[],it,by simp,hit,hs1,hA⟩
 case round=>
  obtain ⟨hk,hmin⟩:=leastOf_spec hrel;generalize leastOf (fun k=>uL b w.heap.size bx o M A G w0 k wr)=gk at hk hmin ⊢;obtain ⟨D,it',hlen,hit',hside,hsat⟩:=hk;have hbr:=hsat.aj.heap;rcases hsat.next (P:=prog) hbr hit' with ⟨hperm,hnx⟩|⟨p,it2,w2,hp,hpD,hnx,hsat2,hit2,hside2,hb2,hen⟩
  .have Hp:=ae hperm;clear hperm
   gi_wp2
   go_end0
   refine ⟨⟨_,rfl⟩,hside,.inl ⟨D.map A1,Hp.out.map _,?_⟩⟩;have:=hsat.right;exact (ah.xw this hm).to (by ac_rfl)
  .have hnd:=fh hit2
   have hSp:partOf M (D.map A1++[p.1]):=⟨by simpa using hnd.1,fun x hx=>by
    have:x ∈ (D++[p]).map A1:=by simpa using hx
    obtain ⟨q,hq,rfl⟩:=List.mem_map.1 this;exact List.mem_map.2 ⟨q,hnd.2 q hq,rfl⟩⟩
   have hle:=uS hit2;rw [D5,List.length_singleton] at hle
   obtain ⟨fn,tmps,assign,body,hy,hR⟩:=hY (D.map A1) p.1 #[.int .i64 p.1] (pt w.heap.size it2*(pt b o*(pt bx (.cells #[.map (some b)] 207 (0,0))*G))) w2 hSp (hside.trans hside2)
    ((ah.E6 p.1 hsat2).to (by ac_rfl))
   have K:=ae hlen;have K2:=ae hle;have K3:=ae hm
   gi_wp2
   refine ⟨fun h=>(by cases h),hR.mono ?_⟩;rintro e W' (⟨rfl,hs3,hsat3⟩|⟨rfl,hs3,hsat3⟩)
   .have hrel':uL b w.heap.size bx o M A G w0 (gk-1) W':=
     ⟨D++[p],it2,by have:=K.out;simp;omega,hit2,hs3,by rw [J7];exact hsat3.to (by simp only [List.map_cons,J5];ac_rfl)⟩
    gi_wp2
    go_roundw
    case rel=>exact ⟨_,hrel'⟩
    case measure=>exact Nat.lt_of_le_of_lt ((leastOf_spec ⟨_,hrel'⟩).2 _ hrel') (by have:=K.out;have:=K2.out;omega)
   .gi_wp2
    refine bodyPost_ret (results_none rfl _ _ _) rfl ?_;refine ⟨⟨_,rfl⟩,hs3,.inr ⟨_,hSp,?_⟩⟩;exact (ah.xw (hsat3.to (by ac_rfl:_=pt b o*(pt w.heap.size it2*(Ax (D.map A1++[p.1])*(pt bx (.cells #[.map (some b)] 207 (0,0))*G))))) K3.out).aj.right.to (by ac_rfl)
def xy:(prog.info? 3).map (fun i=>(i.zero,i.size,i.bytes))=R (R (N O 0),1,8):=Kr0
def VY (c G:ai) (S:List Int->Prop) (w0:W) (e:Ending) (b:W):Prop:=
 ∃ v a,S a/\e = Z' v/\ah b (sl 3 1 v a.length (ja a)*(c*G))/\ak w0 b
def MB (b:Nat) (a:List Int):ai:=ex fun v=>pt b (Z #[v] 97 (0,0))*sl 3 1 v a.length (ja a)
def yh (z:∀ t w,(callFunc gf t).run X w = .ok (.enter gf t) w)
  (L:∀ n,dU Fence.wide n X gf lb It E6 S Sp) (o:Nat) (hN:o<=1000000000) (E:∀ a,Sp a->a.length<=o) (w w0:W) (G:ai) (T:ak w0 w) (A:ah w (It*G)) :
  Calls X 329 #[Y Q 0 0,.func (.func gf) #[] lb] w (VY It G S w0):=by
 obtain ⟨i0,K,hz,b0,F⟩:=info_parts xy;refine (callsIn_wide (n:=9)).1 ?_;refine callsIn_of_wp_marks func329 rfl trivial ?_ rfl;simp only [ntmps329,D9,D6,D8,D4,D3,D2,D1,E5,E4,E3,E2]
 gi_wp2
 have g:=A.alloc (Z #[Y Q 0 0] 97 (0,0));have c0:=T.alloc (Z #[Y Q 0 0] 97 (0,0))
 have f0:ah (w.alloc (Z #[Y Q 0 0] 97 (0,0))) (MB w.heap.size []*(It*G)):=
  ah.aq.2 ⟨Y Q 0 0,(g.dR 3 1).to (by simp only [ja,J5,D8];ac_rfl)⟩
 refine ji (w0:=w0) rfl De0 (gf:=gf) (lb:=lb) rfl trivial z (L _) (MB w.heap.size) (fun _ _=>fact False)
  (fun e x p=>fact (p={ tmps:=#[Y Q 0 0,.func (.func gf) #[] lb,V (R ⟨w.heap.size,0,Q⟩),undef,Y Q 0 0,N O x,.func (.func gf) #[] lb,N O x,undef,undef,undef,undef,undef],defers:=[] })*MB w.heap.size e) G ?hps c0 f0 ?assign ?body ?done ?stop
 case hps=>
  intro x vs j b h;obtain ⟨rfl,_⟩:=ah.ao.1 h
  rfl
 case assign=>
  intro l r e x vs j b h0 _ f H m;obtain ⟨rfl,k⟩:=ah.ao.1 (H.to (aE _ _ _))
  gi_wp2
  exact m _ _ f ((ah.ao.2 ⟨rfl,k⟩:ah b (fact _*_)).to (ar _ _ _).symm)
 case body=>
  intro l r e x p j b M f H;obtain ⟨rfl,k⟩:=ah.ao.1 (H.to (ar _ _ _));obtain ⟨v,H⟩:=ah.aq.1 k;have m0:e.length+1<=1000000000:=by have:=E _ M;simp at this;omega
  have d:=H.to (ar _ _ _);have I:=d.cell 0;have J:=d.frozen 0;have g:=d.alloc (Z #[N O x] 3 (0,0))
  have B:nt (b.alloc (Z #[N O x] 3 (0,0))) 1 (Y (R ⟨b.heap.size,0,Q⟩) 1 1) 1 [N O x]:=
   ⟨rfl,.inr ⟨_,_,rfl,fun g0 n0 hu=>by
    rw [Addr.add_lit,H6];exact (g.cell g0).trans (by simpa using hu)⟩⟩
  obtain ⟨v',w',P,i,e0⟩:=ah.append (P:=X) (ty:=97) (F:=pt w.heap.size (Z #[v] 97 (0,0))*(pt l (.loop r)*j)) underlying97 K hz b0 F rfl (g.right.u00) B (by simp [Value.oneCell']) (by unfold maxLen;omega) Om0;obtain ⟨q,s,rfl⟩:=az i;have k0:=i.aj.cell 0;have l0:=i.aj.frozen 0;have d0:=i.aj.setCell 0 (Y q (e.length+1) s);have y:=ae P
  gi_wp2_with (gi_at_builtin;refine cm y.o _ _ rfl rfl rfl rfl rfl ?_)
  refine ⟨(f.alloc _).trans e0 |>.setCell _ _,ah.aq.2 ⟨Y q (e.length+1) s,d0.to ?_⟩⟩;simp only [ja,J7,D5,List.map_cons,J5,D6,D8]
  ac_rfl
 case done=>
  intro D a b C f H;obtain ⟨v,H⟩:=ah.aq.1 H;have m:=(H.t00 (pt D (.deferred (R []))*(pt w.heap.size (Z #[v] 97 (0,0))*sl 3 1 v a.length (ja a)*(It*G)))).heap;have d:=H.to (ar _ _ _);have I:=d.cell 0;have J:=d.frozen 0;have u:ah b (pt D (.deferred (R []))*(sl 3 1 v a.length (ja a)*(It*G))):=d.right.u00
  gi_wp2
  refine ⟨Si0,.inl ⟨_,_,rfl,run_takeDeferred m,?_⟩⟩;exact ⟨_,results_tmp rfl _ _ _,v,a,C,rfl,(u.putObj _).right,f.putObj _ _⟩
 case stop=>
  intro D c a b _ _ H;exact (ah.ao.1 H).1.elim
def Co (d:∀ c w,(callFunc gf c).run X w = .ok (.enter gf c) w)
  (k:∀ n,dU Fence.wide n X gf lb It E6 S Sp) (b:Nat) (g:b<=1000000000) (i:∀ a,Sp a->a.length<=b) (w w0:W) (G:ai) (l:ak w0 w) (f:ah w (It*G)) :
  Calls X 297 #[.func (.func gf) #[] lb] w (VY It G S w0):=by
 have j:=yh d k b g i w w0 G l f
 go_in
 go_wp2_with fail
 apply j.mono;rintro e o ⟨v,a,h,rfl,H,m⟩
 go_wp2
 go_ret
 exact ⟨v,a,h,rfl,H,m⟩
def zX (b G:ai) (S:List Int->Prop) (w0:W) (e:Ending) (w':W):Prop:=
 ∃ v a,S a/\e = Z' v/\ah w' (sl 3 1 v a.length (ja (sorted a))*(b*G))/\ak w0 w'
def EC (g:∀ c w,(callFunc gf c).run X w = .ok (.enter gf c) w)
  (m:∀ n,dU Fence.wide n X gf lb It E6 S Sp) (b:Nat) (i:b<=1000000000) (k:∀ a,Sp a->a.length<=b) (j:∀ a,S a->a.length<=b) (w w0:W) (G:ai) (p:ak w0 w) (h:ah w (It*G)) :
  Calls X 242 #[.func (.func gf) #[] lb] w (zX It G S w0):=by
 have l:=Co g m b i k w w0 G p h
 go_in
 go_wp2_with fail
 apply l.mono;rintro e s ⟨v,a,d,rfl,H,q⟩;have o:a.length<4611686018427387904:=by have:=j _ d;omega
 go_wp2_with fail
 apply (O9 v a s _ H o).mono;rintro e t ⟨rfl,f,r⟩
 go_wp2
 go_ret
 exact ⟨v,a,d,rfl,f,q.trans r⟩
def mh {P:Program} {f:FuncId} {w:W} {a b:Ending->W->Prop} {n m:Nat} (h:Calls P f lb w a) (c:∀ e w,a e w->b e w) :
  Fence.wide.fn f/\(Fence.wide.depth.isSome=true->1<=m)/\CallsIn Fence.wide n P f lb w b:=⟨trivial,fun h=>(by cases h),(callsIn_wide.2 h).mono c⟩
def RX (x:Int × List UInt8) (b:Array U):ai:=ex fun a=>fact (b=#[N O x.1,a])*bs 5 a x.2
def ah.RX {w:W} {b:ai} {a:U} (x:Int × List UInt8) (h:ah w (bs 5 a x.2*b)):ah w (RX x #[N O x.1,a]*b):=
 ah.aq.2 ⟨a,(ah.ao.2 ⟨rfl,h⟩:ah w (fact _*_)).to (ar _ _ _).symm⟩
def UQ (c:Nat) (w:W) (e:Ending) (a:W):Prop:=e = Z' (.func (.func 299) #[] #[V (R ⟨w.heap.size,0,Q⟩)])/\a=w.alloc (Z #[.map (R c)] 207 (0,0))
def JU (w:W) (c:Nat):Calls X 243 #[.map (R c)] w (UQ c w):=by
 go_in
 go_wp2
 go_ret
 exact ⟨rfl,rfl⟩
def VN (p:Option Addr) (w:W) (e:Ending) (a:W):Prop:=e = Z' (.func (.func 240) #[] #[V (R ⟨w.heap.size,0,Q⟩)])/\a=w.alloc (Z #[.pointer p] 83 (0,0))
def Ma (w:W) (p:Option Addr):Calls X 172 #[.pointer p] w (VN p w):=by
 go_in
 go_wp2
 go_ret
 exact ⟨rfl,rfl⟩
def pJ (S:Hp) (c b:Nat) (rd:U) (d:Int) (a D:CB):ai:=
 pt c (Z #[V (R ⟨b,0,Q⟩)] 83 (0,0))*(aR 211 5 S b rd d a D*al S)
def UM (A:List (Int × List UInt8)->ai) (b:CB) (v:U) (a:List Int) (c:ai) (w0:W) (i:U) (wr:W):Prop:=
 ∃ k:Nat,k<=a.length/\i = N O k/\ak w0 wr/\ah wr (A ((iI b).take k)*(sl 3 1 v a.length (ja a)*c))
def Ol (a:CB) (k:Nat) (h:k<(sorted (a.map A1)).length) :
  (iI a).take k++[((sorted (a.map A1))[k],(aA a (sorted (a.map A1))[k]).getD [])]=(iI a).take (k+1):=by
 have b:k<(iI a).length:=by simpa [iI] using h
 rw [List.take_succ_eq_append_getElem b];simp [iI]
def Ou (n:Nat) (S:Hp) (m b:Nat) (rd:U) (o:Int) (a D:CB) (hW:a.length<=1000000) :
  dU Fence.wide n X 240 #[V (R ⟨m,0,Q⟩)] (pJ S m b rd o a D) RX (fun f=>f=iI a) (fun f=>f <+: iI a):=by
 intro l A Ax G w0 w hY hs t;have H:ah w (aR 211 5 S b rd o a D*(al S*(pt m (Z #[V (R ⟨b,0,Q⟩)] 83 (0,0))*(A []*G)))):=t.to (by unfold pJ;ac_rfl);have F0:=H.au.cell 0;obtain ⟨x,P⟩:=H.dZ;have G0:w.cell? ⟨b,2,Q⟩=R x.wv:=P.cell 2;obtain ⟨s,z1,z2,z3,y,_⟩:=(P.t00 (aL 5 S x.wv x.ws a*(al S*(pt b (Z (x.cells rd o) 211 (0,0))*(aL 5 S x.tv x.ts D*(fD x.av*(pt m (Z #[V (R ⟨b,0,Q⟩)] 83 (0,0))*(A []*G)))))))).mi;clear H P;have r0:=ae y;clear y;refine callsIn_of_wp func240 rfl trivial ?_ rfl;simp only [ntmps240,D9,D6,D8,D4,D3,D2,D1,E5,E4,E3,E2]
 gi_wp2_with fail
 refine mh (mR w x.wv _ r0.o) ?_;rintro e C ⟨c,j,rfl,K,l0,xL⟩;have H1:=l0.under t;clear F0 G0 t l0
 gi_wp2_with fail
 refine mh (JU C c) ?_;rintro e w2 ⟨rfl,rfl⟩;have H2:=H1.alloc (Z #[.map (R c)] 207 (0,0))
 have J:j.length<=1000000:=by
  have e1:=K.length_eq;have e2:=z1.length_eq;simp only [D7] at e1 e2;omega
 have E:Hid (∀ f:List Int,f.Perm (sm j)->f.length<=1000000):=fun f h=>by rw [h.length_eq];simpa [sm] using J
 have q0:Hid (∀ f:List Int,partOf j f->f.length<=1000000):=fun f h=>Nat.le_trans (kC h.1 h.2) (by simpa [sm] using J);have q:(a.map A1).Perm (s.map A1):=by have:=(z1.map A1).symm;rwa [E1] at this
 have N0:(sm j).Perm (s.map A1):=by have:=K.map A1;rwa [E1] at this
 clear H1 J
 gi_wp2_with fail
 refine mh (EC (enters_of func299 Kr0 rfl) (fun n=>Kz n C.heap.size c j) 1000000 De0 q0.o E.o _ _ (A []*(pJ S m b rd o a D*G)) (ak.refl _) (H2.u00)) ?_;rintro e w3 ⟨v,f,W0,rfl,r,d3⟩;have d4:ak w0 w3:=((hs.trans xL).alloc _).trans d3;have h0:sorted f=sorted (a.map A1):=z8 (W0.trans (N0.trans q.symm));rw [h0,show f.length=(sorted (a.map A1)).length by rw [<- h0,eG]] at r;have B:=az r;obtain ⟨va,vc,rfl⟩:=B;have e0:=Ol a;have k0:∀ k ∈ sorted (a.map A1),k ∈ s.map A1:=fun k hk=>q.mem_iff.1 ((sorted_perm _).mem_iff.1 hk);have I:(iI a).length=(sorted (a.map A1)).length:=by simp [iI]
 generalize sorted (a.map A1)=d at r e0 k0 I ⊢;have E:Hid (d.length<=1000000):=by show d.length<=_;rw [<- I];simp only [iI,D7,eG];exact hW
 have o0:=ae e0;have p0:=ae k0;have n0:=ae I;have u0:=ae z3;have d0:=ae z2;have s0:=ae z1;have c0:=ae K;generalize hX:pt C.heap.size (Z #[.map (R c)] 207 (0,0))*mp c j=X1 at r;have H4:ah w3 (A ((iI a).take 0)*(sl 3 1 (Y va d.length vc) d.length (ja d)*(X1*(pJ S m b rd o a D*G)))):=r.to (by simp only [List.take_zero];ac_rfl)
 gi_wp2
 gi_loopw [16] (fun i wr=>UM A a (Y va d.length vc) d (X1*(pJ S m b rd o a D*G)) w0 i wr) (fun i _=>d.length-(intOf i).toNat)
 case atStart=>exact ⟨0,Nat.zero_le _,rfl,d4,H4⟩
 case round=>
  obtain ⟨k,hk,rfl,m0,p⟩:=hrel;have B:=p.aj.ny
  by_cases u:k<d.length
  .obtain ⟨_,hh⟩:=B
   obtain ⟨g,V0,H0⟩:∃ g,va=R ⟨g,0,Q⟩/\wr.cell? ⟨g,k,Q⟩=R (N O d[k]):=by
    rcases p.aj.cH with ⟨_,t,_,_⟩|⟨g,Y0,Z0,he,h3,h4,h5,h6,hF⟩
    .omega
    .cases he
     refine ⟨g,rfl,?_⟩;rw [hF.cell];have e:=congrArg (·[k]?) h6;simp only [ja,List.getElem?_take,H7,u,if_true,G3,H8] at e;rw [e,H9 u];rfl
   subst V0
   obtain ⟨z,q⟩:∃ z,aA s d[k]=R z:=by
    match hq:aA s d[k] with
    | some z=>exact ⟨z,rfl⟩
    | none=>exact absurd (p0.o _ (List.getElem_mem u)) (eD.1 hq)
   have hV:=u0.o _ (nH q)
   have x0:aA a d[k]=R z.2:=by
    rw [<- oE s0.o (by rw [E1];exact d0.o),gR (fun z:U × List UInt8=>z.2),q];rfl
   have hM:aA j d[k]=R z.1:=by
    rw [oE c0.o ((c0.o.map _).nodup_iff.2 (by rw [E1];exact d0.o)),gR (fun z:U × List UInt8=>z.1),q];rfl
   have hS:ah wr (mp c j*(al S*(A ((iI a).take k)*(sl 3 1 (Y (R ⟨g,0,Q⟩) d.length vc) d.length (ja d)*(pt C.heap.size (Z #[.map (R c)] 207 (0,0))*(pt m (Z #[V (R ⟨b,0,Q⟩)] 83 (0,0))*(aR 211 5 S b rd o a D*G))))))):=
    p.to (by rw [<- hX];unfold pJ;ac_rfl)
   have i0:=(hS.lookup (P:=X) underlying207 underlying3 (fW wr) d[k] false)
   rw [hM] at i0;have y:=hV.rd hS.aj;have Hr:=ae y;have D0:Hid (z.2.length<=1000000000):=Nat.le_trans hV.1 De0;have f0:(iI a).take k++[(d[k],z.2)]=(iI a).take (k+1):=by rw [<- o0.o k u,x0];rfl
   have b0:=ae f0;have R0:(iI a).take k++[(d[k],z.2)] <+: iI a:=by rw [f0];exact List.take_prefix _ _
   have F:=ae R0;have a1:=E.o;generalize d[k]=T at H0 i0 b0 F
   gi_wp2_with fail
   refine mh (jY wr z.1 z.2 Hr.o D0) ?_;rintro e w4 ⟨v1,rfl,S0,K0⟩;have H5:=S0.under p;obtain ⟨fn,b1,assign,body,hy,hR⟩:=hY _ (T,z.2) #[N O T,v1] _ w4 F.o (m0.trans K0) (ah.RX (T,z.2) H5).aj
   gi_wp2
   refine ⟨fun h=>(by cases h),hR.mono ?_⟩;rintro e W' (⟨rfl,L,M⟩|⟨rfl,L,M⟩)
   .gi_wp2
    go_roundw
    case rel=>exact ⟨k+1,Om0,by go_num,L,by rw [<- b0.o];exact M⟩
    case measure=>simp [intOf];omega
   .gi_wp2
    refine bodyPost_ret (results_none rfl _ _ _) rfl ?_;exact ⟨⟨_,rfl⟩,L,.inr ⟨_,F.o,M.fT.fT⟩⟩
  .have L0:k=d.length:=Om0
   subst L0;have g0:(iI a).take d.length=iI a:=by rw [<- n0.o];exact List.take_length
   rw [g0] at p;have T0:=p.fT.fT;clear B p g0
   gi_wp2
   go_end0
   exact ⟨⟨_,rfl⟩,m0,.inl ⟨_,rfl,T0⟩⟩
end Go.Proofs.Ba
namespace Go.SL
open RowKit
variable {w:W} {S S2:Hp} {F:ai} {T TW:TypeId} {v:U} {L:CB}
def ah.Ca (h:ah w (al S*(al S2*F))):ah w (al (join S S2)*F)/\Ext S (join S S2)/\Ext S2 (join S S2):=by
 obtain ⟨m,a,c,n,rfl,⟨g,h4,rfl,f,i,rfl⟩,d,rfl⟩:=h;obtain ⟨j,l⟩:=gB.1 d;refine ⟨⟨join (join c g) h4,by rw [join_assoc];exact a,join c g,h4,rfl,f,eC.2 ⟨l,i⟩,rfl⟩,fun k x b=>by simp [join,b],fun k x b=>?_⟩;rcases j k with e|e
 .simp [join,e,b]
 .rw [b] at e;cases e
def ah.KN {e:Bool} (h:ah w (aL T S v e L*F)):∀ p ∈ L,small p.2:=by
 obtain ⟨k,a,j,l,⟨i,g,m,z3,z4⟩,f,d,rfl⟩:=h;intro p b;obtain ⟨z,c,rfl⟩:=List.mem_map.1 (g.mem_iff.2 b);exact (z3 z c).1
def rQ (a:List (Int × U × List UInt8)):List U:=a.flatMap fun z=>[N O z.1,z.2.1]
def gX (TW T:TypeId) (S:Hp) (v:U) (L:CB):ai:=ex fun a:List (Int × U × List UInt8)=>
 fact (a.map (fun z=>(z.1,z.2.2))=L/\∀ z ∈ a,qJ T S z.2.1 z.2.2)*sl TW 2 v L.length (rQ a)
def ah.mC (h:ah w (gX TW T S v L*F)) :
  ∃ a:List (Int × U × List UInt8),a.map (fun z=>(z.1,z.2.2))=L/\(∀ z ∈ a,qJ T S z.2.1 z.2.2)/\ah w (sl TW 2 v L.length (rQ a)*F):=by
 obtain ⟨a,h⟩:=ah.aq.1 h;obtain ⟨⟨b,c⟩,d⟩:=ah.ao.1 (h.to (ar _ _ _));exact ⟨a,b,c,d⟩
def ah.qv (a:List (Int × U × List UInt8)) (b:a.map (fun z=>(z.1,z.2.2))=L) (c:∀ z ∈ a,qJ T S z.2.1 z.2.2)
  (h:ah w (sl TW 2 v L.length (rQ a)*F)):ah w (gX TW T S v L*F):=
 ah.aq.2 ⟨a,(ah.ao.2 ⟨⟨b,c⟩,h⟩:ah w (fact _*_)).to (ar _ _ _).symm⟩
def ah.xh (h:ah w (gX TW T S v L*F)) (e:Ext S S2):ah w (gX TW T S2 v L*F):=by
 obtain ⟨a,b,c,d⟩:=h.mC;exact ah.qv a b (fun z f=>(c z f).mono e) d
end Go.SL
namespace Go.Proofs.Ba
open RowKit SL
attribute [local go_sem] Oper.semAt_some
theorem lq {P:Program} {f:FuncId} {c:Array U} {w:W} {a b:Ending->W->Prop} {n:Nat} (h:Calls P f c w a) (d:∀ e w,a e w->b e w) :
  Fence.wide.fn f/\CallsIn Fence.wide n P f c w b:=⟨trivial,(callsIn_wide.2 h).mono d⟩
def Gc:(prog.info? 179).map (fun i=>(i.zero,i.size,i.bytes))=R (R (.agg #[N O 0,Y Q 0 0]),2,32):=Kr0
def V4 (S:Hp) (b:Nat) (rd:U) (f:Int) (c D:CB) (F:ai) (w:W) (e:Ending) (d:W):Prop:=
 ∃ a v,Ext S a/\e = Z' v/\ah d (gX 179 5 a v (iI c)*(aR 211 5 a b rd f c D*(al a*F)))/\ak w d
def G7 (a:Nat) (b:CB):ai:=ex fun p:Hp × U=>pt a (Z #[p.2] 147 (0,0))*(gX 179 5 p.1 p.2 b*al p.1)
def JS {a:CB} (h:∀ p ∈ a,small p.2):∀ p ∈ iI a,small p.2:=by
 intro p c;obtain ⟨k,_,rfl⟩:=List.mem_map.1 c
 match b:aA a k with
 | none=>simp [small]
 | some l=>exact h _ (nH b)
def VX (a b d:Nat) (e:CB) (x:Int × List UInt8) (c:Act):ai:=ex fun dv=>
 fact (c={ tmps:=#[V (R ⟨b,0,Q⟩),undef,Y Q 0 0,V (R ⟨a,0,Q⟩),N O x.1,dv,V (R ⟨b,0,Q⟩),.func (.func 240) #[] #[V (R ⟨d,0,Q⟩)],N O x.1,dv,undef,undef,undef,undef,undef,undef,undef],defers:=[] })*(bs 5 dv x.2*G7 a e)
def PT (w:W) (S:Hp) (b:Nat) (rd:U) (n:Int) (a D:CB) (F:ai) (hW:a.length<=1000000)
  (h:ah w (aR 211 5 S b rd n a D*(al S*F))) :
  Calls X 94 #[V (R ⟨b,0,Q⟩)] w (V4 S b rd n a D F w):=by
 obtain ⟨i0,hi,i,q0,m0⟩:=info_parts Gc;have u0:∀ F0 ∈ a,small F0.2:=by obtain ⟨x,C⟩:=h.dZ;exact C.aj.KN
 have l0:=JS u0;refine (callsIn_wide (n:=9)).1 ?_;refine callsIn_of_wp_marks func94 rfl trivial ?_ rfl;simp only [ntmps94,D9,D6,D8,D4,D3,D2,D1,E5,E4,E3,E2];have J:=h.alloc (Z #[Y Q 0 0] 147 (0,0));have T:=(ak.refl w).alloc (Z #[Y Q 0 0] 147 (0,0))
 gi_wp2_with fail
 generalize w.alloc (Z #[Y Q 0 0] 147 (0,0))=g at J T ⊢;refine lq (Ma g _) ?_;rintro N0 w2 ⟨rfl,rfl⟩;have L:=J.alloc (Z #[V (R ⟨b,0,Q⟩)] 83 (0,0));have b0:=T.alloc (Z #[V (R ⟨b,0,Q⟩)] 83 (0,0))
 gi_wp2_with fail
 generalize g.alloc (Z #[V (R ⟨b,0,Q⟩)] 83 (0,0))=w2 at L b0 ⊢
 have x0:ah w2 (G7 w.heap.size []*(pJ S g.heap.size b rd n a D*F)):=
  ah.aq.2 ⟨(fun _=>Q,Y Q 0 0),by
   have h1:=(L.zY.dR 179 2)
   have h2:=ah.qv (T:=5) (S:=fun _=>Q) (L:=[]) [] rfl Si0 h1;exact h2.to (by unfold pJ;ac_rfl)⟩
 refine ji (w0:=w) rfl De0 (gf:=240) (lb:=#[V (R ⟨g.heap.size,0,Q⟩)]) rfl trivial (enters_of func240 Kr0 rfl)
  (Ou _ S g.heap.size b rd n a D hW) (G7 w.heap.size) (fun _ _=>fact False) (VX w.heap.size b g.heap.size) F ?hps b0 x0 ?assign ?body ?done ?stop
 case hps=>
  intro x vs o a h;obtain ⟨m,h⟩:=ah.aq.1 h;obtain ⟨rfl,_⟩:=ah.ao.1 (h.to (ar _ _ _))
  rfl
 case assign=>
  intro l r e x vs o a H0 _ s H B;obtain ⟨m,p⟩:=ah.aq.1 (H.to (aE _ _ _));obtain ⟨rfl,d⟩:=ah.ao.1 (p.to (ar _ _ _))
  gi_wp2
  exact B _ _ s (ah.aq.2 ⟨m,(ah.ao.2 ⟨rfl,d⟩:ah a (fact _*_)).u00⟩)
 case body=>
  intro l r e x a' o q P s H;obtain ⟨m,p⟩:=ah.aq.1 H;obtain ⟨rfl,d⟩:=ah.ao.1 (p.to (ar _ _ _));have C:x ∈ iI a:=by obtain ⟨W0,ht⟩:=P;rw [<- ht];simp
  have V0:e.length+1<=1000000:=by
   have:=P.length_le;simp [iI,eG] at this;omega
  obtain ⟨⟨f,v⟩,H3⟩:=ah.aq.1 (d.t00 (G7 w.heap.size e*(bs 5 m x.2*(pt l (.loop r)*o))));obtain ⟨y,hE,M,H4⟩:=ah.AS (S:=f) (T:=5) (v:=m) (l:=x.2) (F:=pt w.heap.size (Z #[v] 147 (0,0))*(gX 179 5 f v e*(pt l (.loop r)*o))) (H3.u00) (l0 x C);obtain ⟨G,g0,k0,u⟩:=(ah.xh (H4.t00 (gX 179 5 f v e*(al y*(pt w.heap.size (Z #[v] 147 (0,0))*(pt l (.loop r)*o))))) hE).mC
  obtain ⟨j,k,rfl⟩:∃ j k,m = Y j x.2.length k:=by
   rcases M.2 with ⟨rfl,h0⟩|⟨R0,K0,L0,rfl,_⟩
   .exact ⟨_,_,by rw [h0];rfl⟩
   .exact ⟨_,_,rfl⟩
  have n0:=u.au.cell 0;have o0:=u.au.frozen 0;have K:=u.alloc (Z #[N O x.1,Y j x.2.length k] 179 (0,0))
  have hR:nt (q.alloc (Z #[N O x.1,Y j x.2.length k] 179 (0,0))) 2 (Y (R ⟨q.heap.size,0,Q⟩) 1 1) 1 [N O x.1,Y j x.2.length k]:=
   ⟨rfl,.inr ⟨_,_,rfl,fun D0 Y0 hu=>by
    rw [Addr.add_lit,H6];exact (K.cell D0).trans (by simpa using hu)⟩⟩
  obtain ⟨v',w',p0,t,s0⟩:=ah.append (P:=X) (ty:=147) underlying147 hi i q0 m0 rfl K.right hR (by simp [Value.oneCell']) (by unfold maxLen;omega) Om0;obtain ⟨z,A,rfl⟩:=az t;have S0:=t.au.cell 0;have T0:=t.au.frozen 0;have r0:=t.au.setCell 0 (Y z (e.length+1) A);have e0:=ae p0;have HV:=ae M;have c0:=ae g0;have d0:=ae k0
  gi_wp2_with (gi_at_builtin;refine cm e0.o _ _ rfl rfl rfl rfl rfl ?_)
  refine ⟨(s.alloc _).trans s0 |>.setCell _ _,ah.aq.2 ⟨(y,Y z (e.length+1) A),?_⟩⟩
  have h6:=ah.qv (TW:=179) (T:=5) (S:=y) (v:=Y z (e.length+1) A) (L:=e++[x]) (G++[(x.1,Y j x.2.length k,x.2)]) (by rw [J7,c0.o];rfl)
   (fun G0 i=>by
    rcases List.mem_append.1 i with i|i
    .exact (d0.o G0 i)
    .rw [List.mem_singleton.1 i];exact HV.o)
   (r0.aj.to (by rw [D5,rQ,rQ,List.flatMap_append];rfl))
  exact h6.to (by simp only [List.setIfInBounds_toArray,List.set_cons_zero];ac_rfl)
 case done=>
  intro E ys q hS s H;subst hS;obtain ⟨⟨f,v⟩,p⟩:=ah.aq.1 H;have d:ah q (pt w.heap.size (Z #[v] 147 (0,0))*(pt E (.deferred (R []))*(gX 179 5 f v (iI a)*(al f*(pJ S g.heap.size b rd n a D*F))))):=p.u00;have n0:=d.cell 0;have o0:=d.frozen 0;have B:=d.aj.heap;have HD:=(d.right.putObj (.deferred Q)).right
  obtain ⟨va,vc,rfl⟩:∃ f0 c,v = Y f0 (iI a).length c:=by
   obtain ⟨G,_,_,h⟩:=d.right.right.mC;exact az h
  gi_wp2
  refine ⟨Si0,.inl ⟨_,_,rfl,run_takeDeferred B,?_⟩⟩;obtain ⟨h3,I,e2⟩:=(HD.to (by unfold pJ;ac_rfl:_=al S*(al f*(gX 179 5 f (Y va (iI a).length vc) (iI a)*(pt g.heap.size (Z #[V (R ⟨b,0,Q⟩)] 83 (0,0))*(aR 211 5 S b rd n a D*F)))))).Ca;have h4:=(h3.aj.xh e2).aC.ib (n8 I);exact ⟨_,results_tmp rfl _ _ _,_,_,I,rfl,(h4.lv).u00,s.putObj _ _⟩
 case stop=>
  intro E c ys q _ _ H;exact (ah.ao.1 H).1.elim
end Go.Proofs.Ba
