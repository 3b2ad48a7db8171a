/- Steps. -/
import Derived.Test.YtdickhgiahcnaaaGreatDoorNP15
import Derived.Test.YtdickhgiahcnaaaGreatDoorNP8
import Derived.Test.YtdickhgiahcnaaaGreatDoorNP4
import Derived.TacticsInMore
import Derived.LoopNIn
import Derived.LoopIn
set_option linter.all false
set_option maxRecDepth 99999
set_option maxHeartbeats 0
open Go.SL
open Go.Value renaming int->I,slice->X,pointer->Q
open Go.IntKind renaming i64->N
open Go.Obj renaming cells->Y
open Go.Ending renaming returned->Z'
open Go renaming World->V,Value->R
open Go.Proofs.Tryz renaming prog->U
open Option renaming some->J,none->O
open Go.Proofs.Tryz
open Prod renaming fst->A3
open Go.Value renaming int->A2
open List renaming size_toArray->A1,length_nil->B3,length_map->B2,length_cons->B1,length_append->D9,push_toArray->D4,append_toArray->D3,nil_append->D2,cons_append->D1,map_map->E5,getElem?_map->E2,getElem?_eq_getElem->E1,map_append->H7,map_nil->H6
open Nat renaming reduceAdd->D8,reduceSub->D7,mul_one->H9,zero_add->H8
open Array renaming replicate_succ->D6,replicate_zero->D5,getElem?_toList->G3,getElem?_modify->J7
namespace Go.Proofs.Ba
open RowKit SL Go.Sort
def iL (l:List Int):List R:=l.map (A2 N)
def vz (d:List Int) (c:Array R) (h:d.length<=c.size) :
  putCells (A2 N) 0 d.toArray c=(iL d++c.toList.drop d.length).toArray:=by
 apply Array.ext_getElem?;intro k;simp only [putCells,Array.getElem?_mapIdx,iL,List.getElem?_toArray,List.getElem?_append,B2,E2,List.getElem?_drop,A1]
 by_cases a:k<d.length
 .rw [if_pos a,Array.getElem?_eq_getElem Om0,E1 a]
  simp [a]
 .rw [if_neg a,show d.length+(k-d.length)=k by omega]
  cases b:c[k]? with
  | none=>simp [<- G3] at b ⊢;omega
  | some x=>
   simp only [Option.map_some];rw [if_neg Om0,<- b];simp
def ag.putRow {w:V} {b:Nat} {c:Array R} {T:TypeId} {i:Nat × Nat} {g:ai} (h:ag w (pt b (Y c T i)*g)) (d:List Int) (n:Nat) (f:Array Obj) (l:d.length<=c.size) :
  ag (grow (putRow (A2 N) (Go.Sort.ahead w n) b 0 d.toArray) f) (pt b (Y (iL d++c.toList.drop d.length).toArray T i)*g)/\aj w (grow (putRow (A2 N) (Go.Sort.ahead w n) b 0 d.toArray) f):=by
 have m:∀ k,k<w.heap.size->(grow (Go.Sort.putRow (A2 N) (Go.Sort.ahead w n) b 0 d.toArray) f).heap[k]?=(Go.Sort.putRow (A2 N) (Go.Sort.ahead w n) b 0 d.toArray).heap[k]?:=fun k a=>by
  rw [show (grow (Go.Sort.putRow (A2 N) (Go.Sort.ahead w n) b 0 d.toArray) f).heap=(Go.Sort.putRow (A2 N) (Go.Sort.ahead w n) b 0 d.toArray).heap++f from rfl];exact Array.getElem?_append_left (by rw [size_putRow];exact a)
 have j:ag (Go.Sort.putRow (A2 N) (Go.Sort.ahead w n) b 0 d.toArray) (pt b (Y (iL d++c.toList.drop d.length).toArray T i)*g):=by
  refine h.fC ?_ fun k a=>?_
  .show (w.heap.modify b _)[b]?=_
   rw [J7,if_pos rfl,h.heap,<- vz d c l]
   rfl
  .show (w.heap.modify b _)[k]?=_
   rw [J7,if_neg (fun e=>a e.symm)]
 refine ⟨j.carry fun k o a=>?_,⟨rfl,rfl,rfl,by rw [size_grow,size_putRow];exact Nat.le_add_right _ _⟩⟩;have:=(Array.getElem?_eq_some_iff.1 a).1;rw [size_putRow] at this;rw [m k this];exact a
def NU (v:R) (zs:List Int) (w:V) (d:ai) (h:ag w (sl 3 1 v zs.length (iL zs)*d)) (r:zs.length<4611686018427387904) :
  Calls U 234 #[v] w fun e c=>e = Z' (.tuple #[])/\ag c (sl 3 1 v zs.length (iL (sorted zs))*d)/\aj w c:=by
 rcases h.dq with ⟨rfl,p,t,a⟩|⟨g,f,i,rfl,k,h4,h5,l,a⟩
 .obtain rfl:zs=[]:=List.eq_nil_of_length_eq_zero p
  refine (Tryz.slices_Sort_int_none _ _ _).mono ?_;rintro e c ⟨rfl,rfl⟩;exact ⟨rfl,by simpa [sorted] using h,aj.refl _⟩
 .have m:∀ j,j<zs.length->i[j]?=J (I N zs[j]!):=fun j b=>by
   have e:=congrArg (·[j]?) l;simp only [iL,List.getElem?_take,H9,b,if_true,E2,G3] at e;rw [e,E1 b];simp [b]
  refine (Tryz.slices_Sort_int g 0 f zs w (fun j b=>?_) a.lt r).mono ?_
  .have o:j<zs.length:=by simpa using b
   refine ⟨?_,a.frozen _⟩;rw [a.cell,H8,m j o];simp
  .rintro e c ⟨rfl,n,s,rfl⟩
   obtain ⟨H,q⟩:=ag.putRow a (sorted zs) n s (by rw [eV,h5];omega);refine ⟨rfl,?_,q⟩
   have:=ag.nM (sz:=1) (n:=zs.length) (cap:=f) H k h4 (by
    simp only [A1,D9,iL,B2,eV,List.length_drop,Array.length_toList,h5];omega)
   refine this.to ?_;congr 2;rw [H9];exact List.take_left' (by rw [iL,B2,eV])
end Go.Proofs.Ba
namespace Go.Proofs.Ba
open RowKit SL
attribute [local go_sem] Oper.semAt_some
variable {gf:Nat} {lb:Array R} {It:ai} {S Sp:List Int->Prop}
def DU (x:Int) (a:Array R):ai:=fact (a=#[I N x])
def ag.DU {w:V} {a:ai} (x:Int) (h:ag w a):ag w (DU x #[I N x]*a):=ag.aq.2 ⟨rfl,h⟩
def uv (b r c:Nat) (o:Obj) (M:KV) (A:List Int->ai) (G:ai) (w0:V) (k:Nat) (wr:V):Prop:=
 ∃ D a,M.length<=D.length+k/\Iter b o M D a/\aj w0 wr/\ag wr (pt r a*(pt b o*(pt c (Y #[.map (J b)] 173 (0,0))*(A (D.map A3)*G))))
def tj (M:KV):List Int:=M.map A3
def partOf (M:KV) (a:List Int):Prop:=a.Nodup/\∀ x ∈ a,x ∈ tj M
theorem IY (n:Nat) (bx b:Nat) (M:KV) :
  fF Fence.wide n prog 235 #[.pointer (some ⟨bx,0,none⟩)] (pt bx (.cells #[.map (some b)] 173 (0,0))*mp b M)
   DU (fun ys=>ys.Perm (tj M)) (partOf M):=by
 intro l A Ax G w0 w hY hs h0;obtain ⟨o,hm,hb,hS⟩:=ag.n9 (F:=pt bx (.cells #[.map (some b)] 173 (0,0))*(A []*G)) (h0.to (by ac_rfl));obtain ⟨it,hrg,hit⟩:=lv (P:=prog) underlying173 hb hm;have hcell:=hS.ah.cell 0;have hA:=hS.alloc it;have hs1:aj w0 (w.alloc it):=hs.alloc _;refine callsIn_of_wp func235 rfl trivial ?_ rfl;simp only [ntmps235,A1,B1,B3,D8,D7,D6,D5,D4,D3,D2,D1]
 gi_wp2
 gi_loopw [] (fun wr=>∃ k,uv b w.heap.size bx o M A G w0 k wr) (fun wr=>leastOf (fun k=>uv b w.heap.size bx o M A G w0 k wr))
 case atStart=>exact ⟨M.length,[],it,by simp,hit,hs1,hA⟩
 case round=>
  obtain ⟨hk,hmin⟩:=leastOf_spec hrel;generalize leastOf (fun k=>uv b w.heap.size bx o M A G w0 k wr)=gk at hk hmin ⊢;obtain ⟨D,it',hlen,hit',hside,hsat⟩:=hk;have hbr:=hsat.ah.heap;rcases hsat.next (P:=prog) hbr hit' with ⟨hperm,hnx⟩|⟨p,it2,w2,hp,hpD,hnx,hsat2,hit2,hside2,hb2,hen⟩
  .have Hp:=ae hperm;clear hperm
   gi_wp2
   go_end0
   refine ⟨⟨_,rfl⟩,hside,.inl ⟨D.map A3,Hp.out.map _,?_⟩⟩;have:=hsat.right;exact (ag.ui this hm).to (by ac_rfl)
  .have hnd:=mT hit2
   have hSp:partOf M (D.map A3++[p.1]):=⟨by simpa using hnd.1,fun x hx=>by
    have:x ∈ (D++[p]).map A3:=by simpa using hx
    obtain ⟨q,hq,rfl⟩:=List.mem_map.1 this;exact List.mem_map.2 ⟨q,hnd.2 q hq,rfl⟩⟩
   have hle:=zK hit2;rw [D9,List.length_singleton] at hle
   obtain ⟨fn,tmps,assign,body,hy,hR⟩:=hY (D.map A3) p.1 #[.int .i64 p.1] (pt w.heap.size it2*(pt b o*(pt bx (.cells #[.map (some b)] 173 (0,0))*G))) w2 hSp (hside.trans hside2)
    ((ag.DU p.1 hsat2).to (by ac_rfl))
   have K:=ae hlen;have K2:=ae hle;have K3:=ae hm
   gi_wp2
   refine ⟨fun h=>(by cases h),hR.mono ?_⟩;rintro e W' (⟨rfl,hs3,hsat3⟩|⟨rfl,hs3,hsat3⟩)
   .have hrel':uv b w.heap.size bx o M A G w0 (gk-1) W':=
     ⟨D++[p],it2,by have:=K.out;simp;omega,hit2,hs3,by rw [H7];exact hsat3.to (by simp only [List.map_cons,H6];ac_rfl)⟩
    gi_wp2
    go_roundw
    case rel=>exact ⟨_,hrel'⟩
    case measure=>exact Nat.lt_of_le_of_lt ((leastOf_spec ⟨_,hrel'⟩).2 _ hrel') (by have:=K.out;have:=K2.out;omega)
   .gi_wp2
    refine bodyPost_ret (results_none rfl _ _ _) rfl ?_;refine ⟨⟨_,rfl⟩,hs3,.inr ⟨_,hSp,?_⟩⟩;exact (ag.ui (hsat3.to (by ac_rfl:_=pt b o*(pt w.heap.size it2*(Ax (D.map A3++[p.1])*(pt bx (.cells #[.map (some b)] 173 (0,0))*G))))) K3.out).ah.right.to (by ac_rfl)
def wX:(prog.info? 3).map (fun i=>(i.zero,i.size,i.bytes))=J (J (I N 0),1,8):=Kr0
def Vy (c G:ai) (S:List Int->Prop) (w0:V) (e:Ending) (b:V):Prop:=
 ∃ v a,S a/\e = Z' v/\ag b (sl 3 1 v a.length (iL a)*(c*G))/\aj w0 b
def NA (b:Nat) (a:List Int):ai:=ex fun v=>pt b (Y #[v] 88 (0,0))*sl 3 1 v a.length (iL a)
def xK (y:∀ s w,(callFunc gf s).run U w = .ok (.enter gf s) w)
  (M:∀ n,fF Fence.wide n U gf lb It DU S Sp) (m:Nat) (hN:m<=1000000000) (C:∀ a,Sp a->a.length<=m) (w w0:V) (G:ai) (Z:aj w0 w) (z:ag w (It*G)) :
  Calls U 260 #[X O 0 0,.func (.func gf) #[] lb] w (Vy It G S w0):=by
 obtain ⟨i0,L,hz,b0,E⟩:=info_parts wX;refine (callsIn_wide (n:=9)).1 ?_;refine callsIn_of_wp_marks func260 rfl trivial ?_ rfl;simp only [ntmps260,A1,B1,B3,D8,D7,D6,D5,D4,D3,D2,D1]
 gi_wp2
 have f:=z.alloc (Y #[X O 0 0] 88 (0,0));have c0:=Z.alloc (Y #[X O 0 0] 88 (0,0))
 have f0:ag (w.alloc (Y #[X O 0 0] 88 (0,0))) (NA w.heap.size []*(It*G)):=
  ag.aw.2 ⟨X O 0 0,(f.eU 3 1).to (by simp only [iL,H6,B3];ac_rfl)⟩
 refine kB (w0:=w0) rfl De0 (gf:=gf) (lb:=lb) rfl trivial y (M _) (NA w.heap.size) (fun _ _=>fact False)
  (fun d x o=>fact (o={ tmps:=#[X O 0 0,.func (.func gf) #[] lb,Q (J ⟨w.heap.size,0,O⟩),undef,X O 0 0,I N x,.func (.func gf) #[] lb,I N x,undef,undef,undef,undef,undef],defers:=[] })*NA w.heap.size d) G ?hps c0 f0 ?assign ?body ?done ?stop
 case hps=>
  intro x vs i W h;obtain ⟨rfl,_⟩:=ag.aq.1 h
  rfl
 case assign=>
  intro l r d x vs i W h0 _ e H k;obtain ⟨rfl,j⟩:=ag.aq.1 (H.to (aD _ _ _))
  gi_wp2
  exact k _ _ e ((ag.aq.2 ⟨rfl,j⟩:ag W (fact _*_)).to (ay _ _ _).symm)
 case body=>
  intro l r d x o i W P e H;obtain ⟨rfl,j⟩:=ag.aq.1 (H.to (ay _ _ _));obtain ⟨v,H⟩:=ag.aw.1 j;have l0:d.length+1<=1000000000:=by have:=C _ P;simp at this;omega
  have b:=H.to (ay _ _ _);have F:=b.cell 0;have K:=b.frozen 0;have f:=b.alloc (Y #[I N x] 3 (0,0))
  have A:pC (W.alloc (Y #[I N x] 3 (0,0))) 1 (X (J ⟨W.heap.size,0,O⟩) 1 1) 1 [I N x]:=
   ⟨rfl,.inr ⟨_,_,rfl,fun g0 m0 hu=>by
    rw [Addr.add_lit,H8];exact (f.cell g0).trans (by simpa using hu)⟩⟩
  obtain ⟨v',w',T,g,e0⟩:=ag.append (P:=U) (ty:=88) (F:=pt w.heap.size (Y #[v] 88 (0,0))*(pt l (.loop r)*i)) underlying88 L hz b0 E rfl (f.right.u00) A (by simp [Value.oneCell']) (by unfold maxLen;omega) Om0;obtain ⟨p,q,rfl⟩:=aC g;have j0:=g.ah.cell 0;have k0:=g.ah.frozen 0;have d0:=g.ah.setCell 0 (X p (d.length+1) q);have u:=ae T
  gi_wp2_with (gi_at_builtin;refine dw u.o _ _ rfl rfl rfl rfl rfl ?_)
  refine ⟨(e.alloc _).trans e0 |>.setCell _ _,ag.aw.2 ⟨X p (d.length+1) q,d0.to ?_⟩⟩;simp only [iL,H7,D9,List.map_cons,H6,B1,B3]
  ac_rfl
 case done=>
  intro D a W B e H;obtain ⟨v,H⟩:=ag.aw.1 H;have k:=(H.t00 (pt D (.deferred (J []))*(pt w.heap.size (Y #[v] 88 (0,0))*sl 3 1 v a.length (iL a)*(It*G)))).heap;have b:=H.to (ay _ _ _);have F:=b.cell 0;have K:=b.frozen 0;have t:ag W (pt D (.deferred (J []))*(sl 3 1 v a.length (iL a)*(It*G))):=b.right.u00
  gi_wp2
  refine ⟨Si0,.inl ⟨_,_,rfl,run_takeDeferred k,?_⟩⟩;exact ⟨_,results_tmp rfl _ _ _,v,a,B,rfl,(t.putObj _).right,e.putObj _ _⟩
 case stop=>
  intro D c a W _ _ H;exact (ag.aq.1 H).1.elim
def Ca (d:∀ c w,(callFunc gf c).run U w = .ok (.enter gf c) w)
  (k:∀ n,fF Fence.wide n U gf lb It DU S Sp) (b:Nat) (g:b<=1000000000) (i:∀ a,Sp a->a.length<=b) (w w0:V) (G:ai) (l:aj w0 w) (f:ag w (It*G)) :
  Calls U 233 #[.func (.func gf) #[] lb] w (Vy It G S w0):=by
 have j:=xK d k b g i w w0 G l f
 go_in
 go_wp2_with fail
 apply j.mono;rintro e o ⟨v,a,h,rfl,H,m⟩
 go_wp2
 go_ret
 exact ⟨v,a,h,rfl,H,m⟩
def mO (b G:ai) (S:List Int->Prop) (w0:V) (e:Ending) (w':V):Prop:=
 ∃ v a,S a/\e = Z' v/\ag w' (sl 3 1 v a.length (iL (sorted a))*(b*G))/\aj w0 w'
def Fo (g:∀ c w,(callFunc gf c).run U w = .ok (.enter gf c) w)
  (m:∀ n,fF Fence.wide n U gf lb It DU S Sp) (b:Nat) (i:b<=1000000000) (k:∀ a,Sp a->a.length<=b) (j:∀ a,S a->a.length<=b) (w w0:V) (G:ai) (p:aj w0 w) (h:ag w (It*G)) :
  Calls U 183 #[.func (.func gf) #[] lb] w (mO It G S w0):=by
 have l:=Ca g m b i k w w0 G p h
 go_in
 go_wp2_with fail
 apply l.mono;rintro e s ⟨v,a,d,rfl,H,q⟩;have o:a.length<4611686018427387904:=by have:=j _ d;omega
 go_wp2_with fail
 apply (NU v a s _ H o).mono;rintro e t ⟨rfl,f,r⟩
 go_wp2
 go_ret
 exact ⟨v,a,d,rfl,f,q.trans r⟩
def kq {P:Program} {f:FuncId} {w:V} {a b:Ending->V->Prop} {n m:Nat} (h:Calls P f lb w a) (c:∀ e w,a e w->b e w) :
  Fence.wide.fn f/\(Fence.wide.depth.isSome=true->1<=m)/\CallsIn Fence.wide n P f lb w b:=⟨trivial,fun h=>(by cases h),(callsIn_wide.2 h).mono c⟩
def Qu (x:Int × List UInt8) (b:Array R):ai:=ex fun a=>fact (b=#[I N x.1,a])*bs 5 a x.2
def ag.Qu {w:V} {b:ai} {a:R} (x:Int × List UInt8) (h:ag w (bs 5 a x.2*b)):ag w (Qu x #[I N x.1,a]*b):=
 ag.aw.2 ⟨a,(ag.aq.2 ⟨rfl,h⟩:ag w (fact _*_)).to (ay _ _ _).symm⟩
def Tz (c:Nat) (w:V) (e:Ending) (a:V):Prop:=e = Z' (.func (.func 235) #[] #[Q (J ⟨w.heap.size,0,O⟩)])/\a=w.alloc (Y #[.map (J c)] 173 (0,0))
def J9 (w:V) (c:Nat):Calls U 184 #[.map (J c)] w (Tz c w):=by
 go_in
 go_wp2
 go_ret
 exact ⟨rfl,rfl⟩
def UI (p:Option Addr) (w:V) (e:Ending) (a:V):Prop:=e = Z' (.func (.func 181) #[] #[Q (J ⟨w.heap.size,0,O⟩)])/\a=w.alloc (Y #[.pointer p] 74 (0,0))
def wM (w:V) (p:Option Addr):Calls U 134 #[.pointer p] w (UI p w):=by
 go_in
 go_wp2
 go_ret
 exact ⟨rfl,rfl⟩
def pH (S:Hp) (a b:Nat) (rd:R) (c:Int) (W D:CB):ai:=
 pt a (Y #[Q (J ⟨b,0,O⟩)] 74 (0,0))*(aU 177 5 S b rd c W D*al S)
def Tu (A:List (Int × List UInt8)->ai) (W:CB) (v:R) (a:List Int) (b:ai) (w0:V) (i:R) (wr:V):Prop:=
 ∃ k:Nat,k<=a.length/\i = I N k/\aj w0 wr/\ag wr (A ((iu W).take k)*(sl 3 1 v a.length (iL a)*b))
def KI (W:CB) (k:Nat) (h:k<(sorted (W.map A3)).length) :
  (iu W).take k++[((sorted (W.map A3))[k],(aM W (sorted (W.map A3))[k]).getD [])]=(iu W).take (k+1):=by
 have a:k<(iu W).length:=by simpa [iu] using h
 rw [List.take_succ_eq_append_getElem a];simp [iu]
theorem KD (n:Nat) (S:Hp) (bx b:Nat) (rd:Value) (err:Int) (W D:CB) (hW:W.length<=1000000) :
  fF Fence.wide n prog 181 #[.pointer (some ⟨bx,0,none⟩)] (pH S bx b rd err W D) Qu (fun ys=>ys=iu W) (fun ys=>ys <+: iu W):=by
 intro l A Ax G w0 w hY hs h0;have hB:ag w (aU 177 5 S b rd err W D*(al S*(pt bx (.cells #[.pointer (some ⟨b,0,none⟩)] 74 (0,0))*(A []*G)))):=h0.to (by unfold pH;ac_rfl);have hbx:=hB.au.cell 0;obtain ⟨x,hx⟩:=hB.et;have hc2:w.cell? ⟨b,2,none⟩=some x.wv:=hx.cell 2;obtain ⟨Z,z1,z2,z3,hrd,_⟩:=(hx.to (by ac_rfl:_=aQ 5 S x.wv x.ws W*(al S*(pt b (.cells (x.cells rd err) 177 (0,0))*(aQ 5 S x.tv x.ts D*(fB x.av*(pt bx (.cells #[.pointer (some ⟨b,0,none⟩)] 74 (0,0))*(A []*G)))))))).lM;clear hB hx;have Hrd:=ae hrd;clear hrd;refine callsIn_of_wp func181 rfl trivial ?_ rfl;simp only [ntmps181,A1,B1,B3,D8,D7,D6,D5,D4,D3,D2,D1]
 gi_wp2_with fail
 refine kq (mr w x.wv _ Hrd.out) ?_;rintro e w1 ⟨c,Dm,rfl,hperm,hs1,AD⟩;have H1:=hs1.under h0;clear hbx hc2 h0 hs1
 gi_wp2_with fail
 refine kq (J9 w1 c) ?_;rintro e w2 ⟨rfl,rfl⟩;have H2:=H1.alloc (.cells #[.map (some c)] 173 (0,0))
 have hlen:Dm.length<=1000000:=by
  have e1:=hperm.length_eq;have e2:=z1.length_eq;simp only [B2] at e1 e2;omega
 have Hkl:Hid (∀ ys:List Int,ys.Perm (tj Dm)->ys.length<=1000000):=fun ys h=>by rw [h.length_eq];simpa [tj] using hlen
 have Hpl:Hid (∀ ys:List Int,partOf Dm ys->ys.length<=1000000):=fun ys h=>Nat.le_trans (vQ h.1 h.2) (by simpa [tj] using hlen);have hz:(W.map A3).Perm (Z.map A3):=by have:=(z1.map A3).symm;rwa [E5] at this
 have hkz:(tj Dm).Perm (Z.map A3):=by have:=hperm.map A3;rwa [E5] at this
 clear H1 hlen
 gi_wp2_with fail
 refine kq (Fo (enters_of func235 (by kernel_rfl) rfl) (fun n=>IY n w1.heap.size c Dm) 1000000 (by decide) Hpl.out Hkl.out _ _ (A []*(pH S bx b rd err W D*G)) (aj.refl _) (H2.to (by ac_rfl))) ?_;rintro e w3 ⟨v,ys,hys,rfl,H3,d3⟩;have d4:aj w0 w3:=((hs.trans AD).alloc _).trans d3;have hks:sorted ys=sorted (W.map A3):=Au (hys.trans (hkz.trans hz.symm));rw [hks,show ys.length=(sorted (W.map A3)).length by rw [<- hks,eV]] at H3;have hsl:=aC H3;obtain ⟨va,vc,rfl⟩:=hsl;have hasc:=KI W;have hmem:∀ k ∈ sorted (W.map A3),k ∈ Z.map A3:=fun k hk=>hz.mem_iff.1 ((sorted_perm _).mem_iff.1 hk);have hal:(iu W).length=(sorted (W.map A3)).length:=by simp [iu]
 generalize sorted (W.map A3)=ks at H3 hasc hmem hal ⊢;have Hkl:Hid (ks.length<=1000000):=by show ks.length<=_;rw [<- hal];simp only [iu,B2,eV];exact hW
 have Hasc:=ae hasc;have Hmem:=ae hmem;have Hal:=ae hal;have Hz3:=ae z3;have Hz2:=ae z2;have Hz1:=ae z1;have Hpm:=ae hperm;generalize hX:pt w1.heap.size (.cells #[.map (some c)] 173 (0,0))*mp c Dm=X1 at H3;have H4:ag w3 (A ((iu W).take 0)*(sl 3 1 (.slice va ks.length vc) ks.length (iL ks)*(X1*(pH S bx b rd err W D*G)))):=H3.to (by simp only [List.take_zero];ac_rfl)
 gi_wp2
 gi_loopw [16] (fun i wr=>Tu A W (.slice va ks.length vc) ks (X1*(pH S bx b rd err W D*G)) w0 i wr) (fun i _=>ks.length-(intOf i).toNat)
 case atStart=>exact ⟨0,Nat.zero_le _,rfl,d4,H4⟩
 case round=>
  obtain ⟨k,hk,rfl,hside,hsat⟩:=hrel;have hsl:=hsat.ah.oa
  by_cases hlt:k<ks.length
  .obtain ⟨_,hh⟩:=hsl
   obtain ⟨g,hva,hcell⟩:∃ g,va=some ⟨g,0,none⟩/\wr.cell? ⟨g,k,none⟩=some (.int .i64 ks[k]):=by
    rcases hsat.ah.dq with ⟨_,h0,_,_⟩|⟨g,cap,cur,he,h3,h4,h5,h6,hF⟩
    .omega
    .cases he
     refine ⟨g,rfl,?_⟩;rw [hF.cell];have e:=congrArg (·[k]?) h6;simp only [iL,List.getElem?_take,H9,hlt,if_true,E2,G3] at e;rw [e,E1 hlt];rfl
   subst hva
   obtain ⟨z,hz⟩:∃ z,aM Z ks[k]=some z:=by
    match hq:aM Z ks[k] with
    | some z=>exact ⟨z,rfl⟩
    | none=>exact absurd (Hmem.out _ (List.getElem_mem hlt)) (gr.1 hq)
   have hV:=Hz3.out _ (lO hz)
   have hW2:aM W ks[k]=some z.2:=by
    rw [<- oP Hz1.out (by rw [E5];exact Hz2.out),ku (fun z:Value × List UInt8=>z.2),hz];rfl
   have hM:aM Dm ks[k]=some z.1:=by
    rw [oP Hpm.out ((Hpm.out.map _).nodup_iff.2 (by rw [E5];exact Hz2.out)),ku (fun z:Value × List UInt8=>z.1),hz];rfl
   have hS:ag wr (mp c Dm*(al S*(A ((iu W).take k)*(sl 3 1 (.slice (some ⟨g,0,none⟩) ks.length vc) ks.length (iL ks)*(pt w1.heap.size (.cells #[.map (some c)] 173 (0,0))*(pt bx (.cells #[.pointer (some ⟨b,0,none⟩)] 74 (0,0))*(aU 177 5 S b rd err W D*G))))))):=
    hsat.to (by rw [<- hX];unfold pH;ac_rfl)
   have hlook:=(hS.lookup (P:=prog) underlying173 underlying3 (fV wr) ks[k] false)
   rw [hM] at hlook;have hrd:=hV.rd hS.ah;have Hr:=ae hrd;have hbg:Hid (z.2.length<=1000000000):=Nat.le_trans hV.1 (by decide);have hen:(iu W).take k++[(ks[k],z.2)]=(iu W).take (k+1):=by rw [<- Hasc.out k hlt,hW2];rfl
   have Hen:=ae hen;have hpre:(iu W).take k++[(ks[k],z.2)] <+: iu W:=by rw [hen];exact List.take_prefix _ _
   have Hpre:=ae hpre;have hkl:=Hkl.out;generalize ks[k]=id at hcell hlook Hen Hpre
   gi_wp2_with fail
   refine kq (j3 wr z.1 z.2 Hr.out hbg) ?_;rintro e w4 ⟨v1,rfl,hs4,hd4⟩;have H5:=hs4.under hsat;obtain ⟨fn,tmps,assign,body,hy,hR⟩:=hY _ (id,z.2) #[.int .i64 id,v1] _ w4 Hpre.out (hside.trans hd4) (ag.Qu (id,z.2) H5).ah
   gi_wp2
   refine ⟨fun h=>(by cases h),hR.mono ?_⟩;rintro e W' (⟨rfl,hs5,hsat5⟩|⟨rfl,hs5,hsat5⟩)
   .gi_wp2
    go_roundw
    case rel=>exact ⟨k+1,by omega,by go_num,hs5,by rw [<- Hen.out];exact hsat5⟩
    case measure=>simp [intOf];omega
   .gi_wp2
    refine bodyPost_ret (results_none rfl _ _ _) rfl ?_;exact ⟨⟨_,rfl⟩,hs5,.inr ⟨_,Hpre.out,hsat5.iD.iD⟩⟩
  .have hkn:k=ks.length:=by omega
   subst hkn;have hfin:(iu W).take ks.length=iu W:=by rw [<- Hal.out];exact List.take_length
   rw [hfin] at hsat;have hsat':=hsat.iD.iD;clear hsl hsat hfin
   gi_wp2
   go_end0
   exact ⟨⟨_,rfl⟩,hside,.inl ⟨_,rfl,hsat'⟩⟩
end Go.Proofs.Ba
namespace Go.SL
open RowKit
variable {w:V} {S S2:Hp} {F:ai} {T TW:TypeId} {v:R} {L:CB}
def ag.AJ (h:ag w (al S*(al S2*F))):ag w (al (join S S2)*F)/\Ext S (join S S2)/\Ext S2 (join S S2):=by
 obtain ⟨m,a,c,n,rfl,⟨g,h4,rfl,f,i,rfl⟩,d,rfl⟩:=h;obtain ⟨j,l⟩:=gx.1 d;refine ⟨⟨join (join c g) h4,by rw [join_assoc];exact a,join c g,h4,rfl,f,eK.2 ⟨l,i⟩,rfl⟩,fun k x b=>by simp [join,b],fun k x b=>?_⟩;rcases j k with e|e
 .simp [join,e,b]
 .rw [b] at e;cases e
def ag.Ju {e:Bool} (h:ag w (aQ T S v e L*F)):∀ p ∈ L,small p.2:=by
 obtain ⟨k,a,i,j,⟨Z,g,l,z3,z4⟩,f,d,rfl⟩:=h;intro p b;obtain ⟨z,c,rfl⟩:=List.mem_map.1 (g.mem_iff.2 b);exact (z3 z c).1
def qX (Z:List (Int × R × List UInt8)):List R:=Z.flatMap fun z=>[I N z.1,z.2.1]
def gP (TW T:TypeId) (S:Hp) (v:R) (L:CB):ai:=ex fun Z:List (Int × R × List UInt8)=>
 fact (Z.map (fun z=>(z.1,z.2.2))=L/\∀ z ∈ Z,rC T S z.2.1 z.2.2)*sl TW 2 v L.length (qX Z)
def ag.mS (h:ag w (gP TW T S v L*F)) :
  ∃ Z:List (Int × R × List UInt8),Z.map (fun z=>(z.1,z.2.2))=L/\(∀ z ∈ Z,rC T S z.2.1 z.2.2)/\ag w (sl TW 2 v L.length (qX Z)*F):=by
 obtain ⟨Z,h⟩:=ag.aw.1 h;obtain ⟨⟨a,b⟩,c⟩:=ag.aq.1 (h.to (ay _ _ _));exact ⟨Z,a,b,c⟩
def ag.qj (Z:List (Int × R × List UInt8)) (a:Z.map (fun z=>(z.1,z.2.2))=L) (b:∀ z ∈ Z,rC T S z.2.1 z.2.2)
  (h:ag w (sl TW 2 v L.length (qX Z)*F)):ag w (gP TW T S v L*F):=
 ag.aw.2 ⟨Z,(ag.aq.2 ⟨⟨a,b⟩,h⟩:ag w (fact _*_)).to (ay _ _ _).symm⟩
def ag.vm (h:ag w (gP TW T S v L*F)) (e:Ext S S2):ag w (gP TW T S2 v L*F):=by
 obtain ⟨Z,a,b,c⟩:=h.mS;exact ag.qj Z a (fun z d=>(b z d).mono e) c
end Go.SL
namespace Go.Proofs.Ba
open RowKit SL
attribute [local go_sem] Oper.semAt_some
theorem nk {P:Program} {f:FuncId} {c:Array R} {w:V} {a b:Ending->V->Prop} {n:Nat} (h:Calls P f c w a) (d:∀ e w,a e w->b e w) :
  Fence.wide.fn f/\CallsIn Fence.wide n P f c w b:=⟨trivial,(callsIn_wide.2 h).mono d⟩
def DW:(prog.info? 189).map (fun i=>(i.zero,i.size,i.bytes))=J (J (.agg #[I N 0,X O 0 0]),2,32):=Kr0
def Vx (S:Hp) (b:Nat) (rd:R) (d:Int) (W D:CB) (F:ai) (w:V) (e:Ending) (c:V):Prop:=
 ∃ a v,Ext S a/\e = Z' v/\ag c (gP 189 5 a v (iu W)*(aU 177 5 a b rd d W D*(al a*F)))/\aj w c
def F9 (a:Nat) (b:CB):ai:=ex fun p:Hp × R=>pt a (Y #[p.2] 124 (0,0))*(gP 189 5 p.1 p.2 b*al p.1)
def Ia {W:CB} (h:∀ p ∈ W,small p.2):∀ p ∈ iu W,small p.2:=by
 intro p b;obtain ⟨k,_,rfl⟩:=List.mem_map.1 b
 match a:aM W k with
 | none=>simp [small]
 | some l=>exact h _ (lO a)
def UU (a b d:Nat) (e:CB) (x:Int × List UInt8) (c:Act):ai:=ex fun dv=>
 fact (c={ tmps:=#[Q (J ⟨b,0,O⟩),undef,X O 0 0,Q (J ⟨a,0,O⟩),I N x.1,dv,Q (J ⟨b,0,O⟩),.func (.func 181) #[] #[Q (J ⟨d,0,O⟩)],I N x.1,dv,undef,undef,undef,undef,undef,undef,undef],defers:=[] })*(bs 5 dv x.2*F9 a e)
def M3 (w:V) (S:Hp) (b:Nat) (rd:R) (m:Int) (W D:CB) (F:ai) (hW:W.length<=1000000)
  (h:ag w (aU 177 5 S b rd m W D*(al S*F))) :
  Calls U 73 #[Q (J ⟨b,0,O⟩)] w (Vx S b rd m W D F w):=by
 obtain ⟨i0,hi,g,p0,l0⟩:=info_parts DW;have s0:∀ D0 ∈ W,small D0.2:=by obtain ⟨x,B⟩:=h.et;exact B.ah.Ju
 have k0:=Ia s0;refine (callsIn_wide (n:=9)).1 ?_;refine callsIn_of_wp_marks func73 rfl trivial ?_ rfl;simp only [ntmps73,A1,B1,B3,D8,D7,D6,D5,D4,D3,D2,D1];have G:=h.alloc (Y #[X O 0 0] 124 (0,0));have T:=(aj.refl w).alloc (Y #[X O 0 0] 124 (0,0))
 gi_wp2_with fail
 generalize w.alloc (Y #[X O 0 0] 124 (0,0))=f at G T ⊢;refine nk (wM f _) ?_;rintro L0 w2 ⟨rfl,rfl⟩;have L:=G.alloc (Y #[Q (J ⟨b,0,O⟩)] 74 (0,0));have b0:=T.alloc (Y #[Q (J ⟨b,0,O⟩)] 74 (0,0))
 gi_wp2_with fail
 generalize f.alloc (Y #[Q (J ⟨b,0,O⟩)] 74 (0,0))=w2 at L b0 ⊢
 have u0:ag w2 (F9 w.heap.size []*(pH S f.heap.size b rd m W D*F)):=
  ag.aw.2 ⟨(fun _=>O,X O 0 0),by
   have h1:=(L.zL.eU 189 2)
   have h2:=ag.qj (T:=5) (S:=fun _=>O) (L:=[]) [] rfl Si0 h1;exact h2.to (by unfold pH;ac_rfl)⟩
 refine kB (w0:=w) rfl De0 (gf:=181) (lb:=#[Q (J ⟨f.heap.size,0,O⟩)]) rfl trivial (enters_of func181 Kr0 rfl)
  (KD _ S f.heap.size b rd m W D hW) (F9 w.heap.size) (fun _ _=>fact False) (UU w.heap.size b f.heap.size) F ?hps b0 u0 ?assign ?body ?done ?stop
 case hps=>
  intro x vs n W h;obtain ⟨k,h⟩:=ag.aw.1 h;obtain ⟨rfl,_⟩:=ag.aq.1 (h.to (ay _ _ _))
  rfl
 case assign=>
  intro l r d x vs n W G0 _ q H A;obtain ⟨k,o⟩:=ag.aw.1 (H.to (aD _ _ _));obtain ⟨rfl,a⟩:=ag.aq.1 (o.to (ay _ _ _))
  gi_wp2
  exact A _ _ q (ag.aw.2 ⟨k,(ag.aq.2 ⟨rfl,a⟩:ag W (fact _*_)).u00⟩)
 case body=>
  intro l r d x a' n p P q H;obtain ⟨k,o⟩:=ag.aw.1 H;obtain ⟨rfl,a⟩:=ag.aq.1 (o.to (ay _ _ _));have B:x ∈ iu W:=by obtain ⟨V0,ht⟩:=P;rw [<- ht];simp
  have T0:d.length+1<=1000000:=by
   have:=P.length_le;simp [iu,eV] at this;omega
  obtain ⟨⟨e,v⟩,H3⟩:=ag.aw.1 (a.t00 (F9 w.heap.size d*(bs 5 k x.2*(pt l (.loop r)*n))));obtain ⟨u,hE,M,H4⟩:=ag.z8 (S:=e) (T:=5) (v:=k) (l:=x.2) (F:=pt w.heap.size (Y #[v] 124 (0,0))*(gP 189 5 e v d*(pt l (.loop r)*n))) (H3.u00) (k0 x B);obtain ⟨Z,g0,j0,t⟩:=(ag.vm (H4.t00 (gP 189 5 e v d*(al u*(pt w.heap.size (Y #[v] 124 (0,0))*(pt l (.loop r)*n))))) hE).mS
  obtain ⟨i,j,rfl⟩:∃ i j,k = X i x.2.length j:=by
   rcases M.2 with ⟨rfl,h0⟩|⟨N0,H0,K0,rfl,_⟩
   .exact ⟨_,_,by rw [h0];rfl⟩
   .exact ⟨_,_,rfl⟩
  have m0:=t.au.cell 0;have n0:=t.au.frozen 0;have K:=t.alloc (Y #[I N x.1,X i x.2.length j] 189 (0,0))
  have hR:pC (p.alloc (Y #[I N x.1,X i x.2.length j] 189 (0,0))) 2 (X (J ⟨p.heap.size,0,O⟩) 1 1) 1 [I N x.1,X i x.2.length j]:=
   ⟨rfl,.inr ⟨_,_,rfl,fun x0 W0 hu=>by
    rw [Addr.add_lit,H8];exact (K.cell x0).trans (by simpa using hu)⟩⟩
  obtain ⟨v',w',o0,s,r0⟩:=ag.append (P:=U) (ty:=124) underlying124 hi g p0 l0 rfl K.right hR (by simp [Value.oneCell']) (by unfold maxLen;omega) Om0;obtain ⟨y,z,rfl⟩:=aC s;have R0:=s.au.cell 0;have S0:=s.au.frozen 0;have q0:=s.au.setCell 0 (X y (d.length+1) z);have e0:=ae o0;have HV:=ae M;have c0:=ae g0;have d0:=ae j0
  gi_wp2_with (gi_at_builtin;refine dw e0.o _ _ rfl rfl rfl rfl rfl ?_)
  refine ⟨(q.alloc _).trans r0 |>.setCell _ _,ag.aw.2 ⟨(u,X y (d.length+1) z),?_⟩⟩
  have h6:=ag.qj (TW:=189) (T:=5) (S:=u) (v:=X y (d.length+1) z) (L:=d++[x]) (Z++[(x.1,X i x.2.length j,x.2)]) (by rw [H7,c0.o];rfl)
   (fun F0 g=>by
    rcases List.mem_append.1 g with g|g
    .exact (d0.o F0 g)
    .rw [List.mem_singleton.1 g];exact HV.o)
   (q0.ah.to (by rw [D9,qX,qX,List.flatMap_append];rfl))
  exact h6.to (by simp only [List.setIfInBounds_toArray,List.set_cons_zero];ac_rfl)
 case done=>
  intro C ys p hS q H;subst hS;obtain ⟨⟨e,v⟩,o⟩:=ag.aw.1 H;have a:ag p (pt w.heap.size (Y #[v] 124 (0,0))*(pt C (.deferred (J []))*(gP 189 5 e v (iu W)*(al e*(pH S f.heap.size b rd m W D*F))))):=o.u00;have m0:=a.cell 0;have n0:=a.frozen 0;have A:=a.ah.heap;have HD:=(a.right.putObj (.deferred O)).right
  obtain ⟨va,vc,rfl⟩:∃ f0 c,v = X f0 (iu W).length c:=by
   obtain ⟨Z,_,_,h⟩:=a.right.right.mS;exact aC h
  gi_wp2
  refine ⟨Si0,.inl ⟨_,_,rfl,run_takeDeferred A,?_⟩⟩;obtain ⟨h3,E,e2⟩:=(HD.to (by unfold pH;ac_rfl:_=al S*(al e*(gP 189 5 e (X va (iu W).length vc) (iu W)*(pt f.heap.size (Y #[Q (J ⟨b,0,O⟩)] 74 (0,0))*(aU 177 5 S b rd m W D*F)))))).AJ;have h4:=(h3.ah.vm e2).aA.gZ (kY E);exact ⟨_,results_tmp rfl _ _ _,_,_,E,rfl,(h4.kQ).u00,q.putObj _ _⟩
 case stop=>
  intro C c ys p _ _ H;exact (ag.aq.1 H).1.elim
end Go.Proofs.Ba
