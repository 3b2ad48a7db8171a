/- Steps. -/
import Derived.Test.YtacliaemfegopaaGreatDoorKP2
import Derived.Test.YtacliaemfegopaaGreatDoorRows
import Derived.Deep.LoopGhost
import Derived.Deep.RegionHeld3
import Derived.Laws.CopyRow
import Derived.Deep.MidRow
set_option linter.all false
set_option maxRecDepth 99999
set_option maxHeartbeats 0
open Go.SL
open Go.Value renaming int->N,slice->O,pointer->H,bool->J
open Go.Obj renaming cells->M
open Go.Ending renaming returned->I
open Go renaming World->Q,Value->U
open Go.Proofs.Tryz renaming prog->R
open Option renaming some->X,none->V
open Bool renaming true->K,false->L
open Go.Proofs.Tryz
open Prod renaming fst->W0
open List renaming length_cons->X0,getD->Z0,length_map->E1,map_set->O1,eq_nil_of_length_eq_zero->V1,getElem?_eq_getElem->Z1
open UInt8 renaming ofInt->Y0
open Go.Value renaming int->A1
open Nat renaming zero_add->D1
open Int renaming pow_pos->K1,mul_nonneg->L1,mul_le_mul_of_nonneg_right->M1,eq_ofNat_of_zero_le->N1,toNat_natCast->S1,emod_add_mul_ediv->Y1
open Array renaming getElem?_setIfInBounds->R1
open Go.World renaming size_alloc->T1,block_lt_of_cell?->D2
open List.Perm renaming refl->U1
open BitVec renaming toNat_ofInt->X1
namespace Go.SL
open Go.RowKit
variable {v v' xv:U} {P:Program} {ops:Array Oper} {o:Oper}
def bM (n:Nat) (l:List UInt8):List UInt8:=(l++zs n).take n
theorem bS (n:Nat) (l:List UInt8):(bM n l).length=n:=by simp [bM,aV]
theorem jy {n:Nat} {l:List UInt8} (h:l.length=n):bM n l=l:=by rw [bM,List.take_left' h]
theorem aC {w:Q} {F:ai} {T:TypeId} {sz n:Nat} {xs:List U} (h:ag w (sl T sz v n xs*F)):∃ a c,v = O a n c:=by
 rcases h.de with ⟨rfl,rfl,_,_⟩|⟨g,b,e,rfl,_⟩
 .exact ⟨_,_,rfl⟩
 .exact ⟨_,_,rfl⟩
theorem pN {w:Q} {F:ai} {T:TypeId} {b n:Nat} {e:List U} (h:ag w (sl T b v n e*F)) (j:0<n):∃ g c,v = O (X ⟨g,0,V⟩) n c:=by
 rcases h.de with ⟨rfl,rfl,_,_⟩|⟨g,f,i,rfl,_⟩
 .omega
 .exact ⟨_,_,rfl⟩
theorem eW {w g:Q} {rest:List Oper} {a:Act} {b:Exit->Act->Q->Prop} {c e f:TypeId}
  (l:(Builtin.copy_ #[c,e] f #[v,v']).run P w = .ok xv g) (s x:Operand)
  (j:o.guard=V) (p:o.type=f) (k:o.op=Op.call { callee:=Callee.builtin Builtin.copy,args:=#[s,x],argTypes:=#[c,e] })
  (m:a.eval s=v) (q:a.eval x=v')
  (h:wpList P ops b rest (a.put o.dst xv) g):wpList P ops b (o :: rest) a w:=by
 refine wpList_plain j fun r i=>?_;subst p m q;unfold Oper.wp;simp [execOp,k,resolve,invoke,builtin,l,Result.andThen];exact i _ _ h
theorem lG {a:Act} {w f:Q} {b:Act->Q->Prop} {g:Exit->Act->Q->Prop} {E:Prop} {c e ty:TypeId}
  (l:(Builtin.append_ #[c,e] ty #[v,v']).run P w = .ok xv f) (j:o.guard=V) (d s:Operand) (p:o.type=ty)
  (k:o.op = .call { callee:=.builtin .append,args:=#[d,s],argTypes:=#[c,e] }) (i:a.eval d=v) (m:a.eval s=v')
  (h:b (a.put o.dst xv) f):if Region.wanted o (yielded ops a.tmps)=K then Oper.wp P o a w b g else E:=by
 have q:Region.wanted o (yielded ops a.tmps)=K:=by simp [Region.wanted,j]
 rw [if_pos q];subst p i m;unfold Oper.wp;simp [execOp,k,resolve,invoke,builtin,l,Result.andThen];exact h
theorem enters {f : FuncId} {b : Func} {c : Code} (i : P.funcs[f]? = X b) (j : (b.name == "runtime.NumGoroutine") = L) (h : b.body = X c) : ∀ e w, (callFunc f e).run P w = .ok (.enter f e) w := by
 intro e w;have g : b.name ≠ "runtime.NumGoroutine" := by simpa using j
 simp [callFunc,i,g,h,mark]
theorem nI {a:Act} {w:Q} {g:Act->Q->Prop} {j:Exit->Act->Q->Prop} {E:Prop} {n:FuncId} {f:Array U} {i:Ending->Q->Prop}
  (q:Calls P n f w i) (s:∀ b w,(callFunc n b).run P w = .ok (.enter n b) w) (t:o.guard=V) (b:Array Operand) (ts:Array TypeId)
  (u:o.op = .call { callee:=.value (.func n),args:=b,argTypes:=ts }) (m:b.toList.map a.eval=f.toList)
  (h:∀ e c,i e c->∃ v,e = I v/\g (a.put o.dst v) c) :
  if Region.wanted o (yielded ops a.tmps)=K then Oper.wp P o a w g j else E:=by
 have A:Region.wanted o (yielded ops a.tmps)=K:=by simp [Region.wanted,t]
 rw [if_pos A]
 have p:b.map a.eval=f:=by
  apply Array.toList_inj.1;rw [Array.toList_map];exact m
 subst p;unfold Oper.wp
 have r:(execOp a.eval o).run P w = .ok (.enter n (b.map a.eval)) w:=by
  simp [execOp,u,resolve,invoke,Act.eval,Deferred.ofValue,go_sem,s]
 rw [r,Oper.upon_enter];refine q.mono ?_;intro e c l;obtain ⟨v,rfl,k⟩:=h e c l;exact k
theorem Rd.shape {w:Q} {l:List UInt8} (h:Rd w v l):∃ a c,v = O a l.length c:=by
 rcases h.2 with ⟨rfl,b⟩|⟨a,c,rfl,_⟩
 .exact ⟨_,_,by rw [b]⟩
 .exact ⟨_,_,rfl⟩
theorem Rd.aZ {w b:Q} {l:List UInt8} {P:ai} (h:Rd w v l) (s:ag b (P*whole w)):Rd b v l:=nG.carry h fun a u c=>s.bT c
theorem qO (l:List UInt8):∀ v ∈ l.map u8,v.oneCell'=K:=by
 intro v b;obtain ⟨x,_,rfl⟩:=List.mem_map.1 b
 rfl
theorem At.take {w:Q} {a:Addr} {xs:List U} (h:At w a xs) (n:Nat):At w a (xs.take n):=fun j u b=>h j u (by
 rw [List.getElem?_take] at b
 split at b
 .exact b
 .cases b)
theorem Kr {w:Q} {g:Nat} {l:List UInt8} {T dT:TypeId} {F:ai} (j:P.underlying dT=X (.slice T)) (i:(P.info? T).map (·.size)=X 1)
  (h:ag w (pt g (M (dG (zs 512)) T (0,0))*F)) (b:Rd w v l) (e:TypeId) :
  ∃ f p,(Builtin.copy_ #[dT,dT] e #[O (X ⟨g,0,V⟩) 512 512,v]).run P w = .ok p f/\ag f (pt g (M (dG (bM 512 l)) T (0,0))*F)/\aj w f:=by
 obtain ⟨q,b⟩:=b;rcases b with ⟨rfl,k⟩|⟨a,c,rfl,o⟩
 .have:l=[]:=V1 k
  subst this;refine ⟨w,_,run_copy_nil (P:=P) w dT dT e T ⟨g,0,V⟩ 512 512 j (by rw [i];rfl),?_,aj.refl w⟩;rw [bM,List.nil_append,List.take_of_length_le (by rw [aV];exact Nat.le_refl _)];exact h
 .have:=run_copy_row (P:=P) w dT dT e T g 0 512 512 a l.length c (dG (zs 512)) T ((l.take 512).map u8) j i h.heap (by simp [Nat.min_comm]) (by rw [List.map_take];exact o.take 512)
   (by simp [eD,aV];omega) (qO _)
  refine ⟨_,_,this,?_,(aj.refl w).setRow _ _⟩;have m:=h.setRow (cs':=((dG (zs 512)).toList.take 0++(l.take 512).map u8++(dG (zs 512)).toList.drop (0+((l.take 512).map u8).length)).toArray);refine m.to ?_;congr 3;simp only [dG,bM,zs,List.take_zero,List.nil_append,D1,E1,List.length_take,List.map_append,List.map_take,List.take_append,List.map_replicate,List.drop_replicate,List.take_replicate,List.toList_toArray];congr 3;omega
def kx (v:U) (w:Q) (e:Ending) (b:Q):Prop:=e = I v/\ag b (whole w)/\aj w b
def dg (n:Int) (j:Nat):List UInt8:=(List.range j).map fun i=>Y0 (n/(256:Int) ^ i)
theorem aU (n:Int) (j:Nat):(dg n j).length=j:=by simp [dg]
theorem zA (n:Int) (j:Nat):dg n (j+1)=dg n j++[Y0 (n/(256:Int) ^ j)]:=by simp [dg,List.range_succ]
theorem ag.dU {w w':Q} {b:ai} (h:ag w' (SL.whole w)) (g:ag w b):ag w' b:=(ag.under (h.to (cV _).symm) g).to (cV _)
def ib (l:List UInt8):Nat->Int
 | 0=>0
 | j+1=>ib l j+((l.getD j 0).toNat:Int)*(256:Int) ^ j
theorem gI (l:List UInt8) (j:Nat):0<=ib l j/\ib l j<(256:Int) ^ j:=by
 induction j with
 | zero=>simp [ib]
 | succ j h=>
  have c:((l.getD j 0).toNat:Int)<256:=by have:=UInt8.toNat_lt (l.getD j 0);omega
  have b:0<=((l.getD j 0).toNat:Int):=by omega
  have g:0<(256:Int) ^ j:=K1 (by decide);rw [ib,Int.pow_succ];generalize ((l.getD j 0).toNat:Int)=x at *;generalize (256:Int) ^ j=p at *;have e:0<=x*p:=L1 b (by omega);have f:x*p<=255*p:=M1 (by omega) (by omega);omega
theorem wj {j:Nat} (h:j<=6):(256:Int) ^ j<=281474976710656:=by
 obtain rfl|rfl|rfl|rfl|rfl|rfl|rfl:j=0\/j=1\/j=2\/j=3\/j=4\/j=5\/j=6:=by omega
 all_goals decide
theorem Io {a x:Int} {i:Nat} (h:0<=a) (m:a<2 ^ i) (l:0<=x) (k:x*2 ^ i+a<18446744073709551616):bits .or .u64 a (x*2 ^ i)=a+x*2 ^ i:=by
 obtain ⟨A,rfl⟩:=N1 h;obtain ⟨b,rfl⟩:=N1 l;have c:(b:Int)*2 ^ i=((2 ^ i*b:Nat):Int):=by rw [Nat.mul_comm];simp
 rw [c] at k ⊢
 have g:A<2 ^ i:=by
  have:((2 ^ i:Nat):Int)=(2:Int) ^ i:=by simp
  omega
 have j:=Nat.two_pow_add_eq_or_of_lt g b;show IntKind.u64.wrap ((BitVec.ofInt 64 (A:Int) ||| BitVec.ofInt 64 ((2 ^ i*b:Nat):Int)).toNat:Nat)=_
 rw [BitVec.toNat_or,X1,X1];have e:((A:Int)%((2 ^ 64:Nat):Int)).toNat=A:=by omega
 have f:(((2 ^ i*b:Nat):Int)%((2 ^ 64:Nat):Int)).toNat=2 ^ i*b:=by omega
 rw [e,f,Nat.or_comm,<- j,IntKind.wrap_u64];omega
theorem Lt (l:List UInt8) (b j:Nat) (r:j<6) :
  bits .or .u64 (ib (l.drop b) j) (IntKind.u64.wrap (IntKind.u64.wrap ((l[b+j]?.getD 0).toNat:Int)*2 ^ (8*j)))=ib (l.drop b) (j+1):=by
 have s:((l[b+j]?.getD 0).toNat:Int)<256:=by have:=UInt8.toNat_lt (l[b+j]?.getD 0);omega
 have c:0<=((l[b+j]?.getD 0).toNat:Int):=by omega
 obtain ⟨o,e⟩:=gI (l.drop b) j;have h:(l.drop b).getD j 0=l[b+j]?.getD 0:=by simp [Z0]
 rw [ib,h];have m:(256:Int) ^ j=2 ^ (8*j):=by rw [Int.pow_mul];rfl
 have i:=wj (j:=j) (by omega);have k:0<(256:Int) ^ j:=K1 (by decide);generalize ((l[b+j]?.getD 0).toNat:Int)=x at *;rw [m] at e i k ⊢;have p:0<=x*2 ^ (8*j):=L1 c (by omega);have q:x*2 ^ (8*j)<=255*2 ^ (8*j):=M1 (by omega) (by omega);have f:IntKind.u64.wrap x=x:=by rw [IntKind.wrap_u64];omega
 have g:IntKind.u64.wrap (x*2 ^ (8*j))=x*2 ^ (8*j):=by rw [IntKind.wrap_u64];omega
 rw [f,g];exact Io o e c (by omega)
theorem uS (n:Int) (j:Nat):n%(256:Int) ^ (j+1)=n%(256:Int) ^ j+(n/(256:Int) ^ j%256)*(256:Int) ^ j:=by
 have b:0<(256:Int) ^ j:=K1 (by decide);rw [Int.pow_succ];generalize (256:Int) ^ j=p at b;have i:=Y1 n p;have g:=Y1 (n/p) 256;have k:=Int.emod_nonneg n (by omega:p≠0);have l:=Int.emod_lt_of_pos n b;have h:=Int.emod_nonneg (n/p) (by decide:(256:Int)≠0);have m:=Int.emod_lt_of_pos (n/p) (by decide:(0:Int)<256);have o:0<=(n/p%256)*p:=L1 h (by omega);have r:(n/p%256)*p<=255*p:=M1 (by omega) (by omega)
 have e:n=(n%p+(n/p%256)*p)+(p*256)*(n/p/256):=by
  have s:p*(n/p)=(n/p%256)*p+(p*256)*(n/p/256):=by
   conv=>lhs;rw [<- g]
   rw [Int.mul_add,<- Int.mul_assoc,Int.mul_comm p]
  omega
 generalize t:n/p/256=q at e;generalize u:n%p+n/p%256*p=x at e;have c:0<=x:=by omega
 have f:x<p*256:=by omega
 rw [e,Int.add_mul_emod_self_left,Int.emod_eq_of_lt c f]
theorem Kt (n:Int):((Y0 n).toNat:Int)=n%256:=by
 simp [Y0,UInt8.toNat_ofNat'];omega
theorem lD (n:Int) (s:Nat) (rest:List UInt8):∀ j,j<=s->ib (dg n s++rest) j=n%(256:Int) ^ j:=by
 intro j
 induction j with
 | zero=>intro _;simp [ib]
 | succ j b=>
  intro c;rw [ib,b (by omega),uS];congr 1
  have:(dg n s++rest).getD j 0=Y0 (n/(256:Int) ^ j):=by
   rw [Z0,List.getElem?_append_left (by rw [aU];omega)];simp [dg,List.getElem?_map,List.getElem?_range (show j<s by omega)]
  rw [this,Kt]
def ints (l:List Int):Array U:=(l.map (A1 .i64)).toArray
theorem dz (l:List Int):(ints l).size=l.length:=by simp [ints]
theorem dw (l:List Int) (i:Nat):(ints l)[i]?=l[i]?.map (A1 .i64):=by simp [ints]
theorem fX (l:List Int) (i:Nat) (x:Int):(ints l).setIfInBounds i (N .i64 x)=ints (l.set i x):=by simp [ints,O1]
theorem bD {l:List Int} {i:Nat} (h:i<l.length):(ints l)[i]?=X (N .i64 (l.getD i 0)):=by
 rw [dw,Z0,Z1 h];rfl
theorem F7 (n:Nat):madeCells (A1 .i64 0).cells (n*1)=ints (List.replicate n 0):=by
 apply Array.ext
 .simp [size_madeCells,dz]
 .intro i b c
  simp [madeCells,ints,Value.cells,Nat.mod_one]
def mm (n:Int) (w:Q) (e:Ending) (b:Q):Prop:=e = I (N .i64 n)/\w=b
abbrev ay (b:Nat):U:=H (X ⟨b,0,V⟩)
def nM (w:Q) (v:U) (l:List Int):Prop:=
 (∃ x c,v = O x 0 c/\l=[])\/∃ g o c,v = O (X ⟨g,o,V⟩) l.length c/\l.length<=c/\c<=maxLen/\∀ k,k<l.length->w.cell? ⟨g,o+k,V⟩=X (N .i64 (l.getD k 0))
def fu:Array U->Nat->List U->Array U
 | b,_,[]=>b
 | b,o,v :: c=>fu (b.setIfInBounds o v) (o+1) c
theorem sM:∀ (c:List U) (b:Array U) (o:Nat),(fu b o c).size=b.size
 | [],b,o=>rfl
 | v :: c,b,o=>by rw [fu,sM c];simp
theorem ij:∀ (b:List U) (c:Array U) (o k:Nat),o+b.length<=c.size->(fu c o b)[k]?=if o<=k/\k<o+b.length then b[k-o]? else c[k]?
 | [],c,o,k,h=>by rw [fu,if_neg (by simp)]
 | v :: b,c,o,k,h=>by
  simp only [X0] at h;rw [fu,ij b _ (o+1) k (by simp;omega)]
  by_cases f:k=o
  .subst f
   rw [if_neg (by omega),if_pos (by simp)];simp [R1,show k<c.size by omega]
  .by_cases e:o<=k/\k<o+(v :: b).length
   .simp only [X0] at e
    rw [if_pos (by omega),if_pos (by simp only [X0];omega)];rw [show k-o=(k-(o+1))+1 by omega,List.getElem?_cons_succ]
   .simp only [X0] at e
    rw [if_neg (by omega),if_neg (by simp only [X0];omega)];rw [R1,if_neg (by omega)]
theorem ag.setCells:∀ (c:List U) (o:Nat) {w:Q} {g:Nat} {b:Array U} {T:TypeId} {F:ai},ag w (pt g (M b T (0,0))*F)->ag (w.setCells g o c) (pt g (M (fu b o c) T (0,0))*F)
 | [],o,w,g,b,T,F,h=>h
 | v :: c,o,w,g,b,T,F,h=>ag.setCells c (o+1) (h.setCell o v)
theorem aj.setCells:∀ (c:List U) (o:Nat) {a b:Q} (g:Nat),aj a b->aj a (b.setCells g o c)
 | [],o,a,b,g,h=>h
 | v :: c,o,a,b,g,h=>aj.setCells c (o+1) g (h.setCell ⟨g,o,V⟩ v)
theorem ag.there {w:Q} {g:Nat} {b:Array U} {T:TypeId} {F:ai} (h:ag w (pt g (M b T (0,0))*F)) {o n:Nat} (e:o+n<=b.size):w.there g o n:=fun j c=>
 ⟨by rw [h.cell,Array.getElem?_eq_getElem (by omega)];rfl,h.frozen _⟩
end Go.SL
namespace Go.Proofs.Ba
open Go.RowKit Go.SL
theorem gj:(prog.info? 5).map (fun i=>(i.zero,i.size,i.bytes))=X (X (N .u8 0),1,1):=by kernel_rfl
theorem eL (n:Nat) (g:n<=281474976710656) (w:Q):(Instr.makeSlice 37 (N .i64 n) (N .i64 n)).run R w =
  .ok (O (X ⟨w.heap.size,0,V⟩) n n) (w.alloc (M (dG (zs n)) 5 (0,0))):=by
 obtain ⟨i,c,f,e,b⟩:=info_parts gj;have:=run_make (P:=R) w 37 5 i _ underlying37 c f .i64 .i64 n n (by omega) (by omega) (by rw [b];omega) (by omega);rw [this,e];simp only [S1];rw [iT]
def OQ (w:Q) (l:List UInt8) (e:Ending) (b:Q):Prop:=∃ v,e = I v/\ag b (bs 5 v l*whole w)/\aj w b
theorem jd (w:Q) (v:U) (l:List UInt8) (b:Rd w v l) (j:l.length<=1000000000) :
  Calls R 183 #[v] w (OQ w l):=by
 obtain ⟨C,i,o,m,h⟩:=info_parts gj;obtain ⟨s,b⟩:=b;rcases b with ⟨rfl,q⟩|⟨a,c,rfl,r⟩
 .have:l=[]:=V1 q
  subst this;have t:=fun w=>Lib.run_eql_slice_nil (P:=R) w 37 5 V 0 0 0 0 underlying37;clear j
  go_enter func183,ntmps183
  go_wp2
  go_ret
  exact ⟨_,rfl,(ag.whole w).eC _ _,aj.refl w⟩
 .have g:nG (w.alloc (M #[] 5 (0,0))) 1 (O (X a) l.length c) l.length (l.map u8):=
   nG.alloc ⟨s,.inr ⟨a,c,rfl,r⟩⟩ _
  have e:=(ag.whole w).alloc (M #[] 5 (0,0));have f:=ag.mH (n:=0) (cap:=0) (sz:=1) e (Nat.le_refl _) (by decide) rfl;obtain ⟨B,E,k,u,A⟩:=ag.append (P:=R) (ty:=37) underlying37 i o m h rfl f g (by simp [u8,Value.oneCell']) (by unfold maxLen;omega) (by omega);have p:=ae k;clear k e f g i o m h j;have t:=fun w=>Lib.run_eql_slice_nil (P:=R) w 37 5 (X a) l.length c 0 0 underlying37
  go_enter func183,ntmps183
  go_wp2_with (at_builtin;refine wpList_append_run p.out _ _ rfl rfl rfl rfl rfl ?_)
  go_ret
  refine ⟨B,rfl,u.to ?_,((aj.refl w).alloc _).trans A⟩;simp [bs]
def My (w:Q) (f:KV) (e:Ending) (b:Q):Prop:=∃ c D,e = I (.map (X c))/\D.Perm f/\ag b (mp c D*whole w)/\aj w b
def FT (w:Q) (b:Nat) (o:Obj) (c:KV) (k:Nat) (wr:Q):Prop:=
 ∃ D e,c.length<=D.length+k/\Iter b o c D e/\ag wr (pt (w.heap.size+1) e*(mp w.heap.size D*whole w))/\aj w wr
theorem lo (w:Q) (v:U) (c:KV) (hr:RE w v c) :
  Calls R 180 #[v] w (My w c):=by
 have W:=@iq R _ _ _ underlying172;rcases hr with ⟨rfl,rfl⟩|⟨b,o,rfl,e,q⟩
 .have g:∀ w,(Instr.range 172 (.map V)).run R w = .ok (H (X ⟨w.heap.size,0,V⟩)) (w.alloc (.mapIter V 0 #[] 0)):=by
   intro w;simp [Instr.range,run_underlying underlying172]
  have r:∀ B,(Instr.next (H (X ⟨w.heap.size+1,0,V⟩)) L B).run R ((w.alloc (.map #[] 0)).alloc (.mapIter V 0 #[] 0)) = .ok (.tuple #[J L]) ((w.alloc (.map #[] 0)).alloc (.mapIter V 0 #[] 0)):=by
   intro B;have:=(ag.whole (w.alloc (.map #[] 0))).alloc (.mapIter V 0 #[] 0);have h:=this.heap;rw [T1] at h;simp only [Instr.next,getObj,Sem.run_bind,Sem.run,h,Result.andThen]
   rfl
  go_enter func180,ntmps180
  go_wp2
  refine wp_loop_rounds 1 ?_;rw [rounds_succ]
  go_wp2
  go_ret
  exact ⟨_,[],rfl,U1 _,(((ag.whole w).alloc (.map #[] 0)).sQ isMap_empty |>.alloc (.mapIter V 0 #[] 0)).right,((aj.refl w).alloc _).alloc _⟩
 .have k:=((ag.whole w).alloc (.map #[] 0)).sQ isMap_empty
  have f:(w.alloc (.map #[] 0)).heap[b]?=X o:=k.DC e;obtain ⟨A,g,C⟩:=nR (P:=R) underlying172 f q;rw [T1] at g;have P:=AD (P:=R) e q underlying172 3;have H1:=ae f;clear f
  go_enter func180,ntmps180
  go_wp2
  go_loopg [] c.length (fun g0 wr=>FT w b o c g0 wr)
  case atStart=>
   have j:=k.alloc A;rw [T1] at j;exact ⟨[],A,by simp,C,j,((aj.refl w).alloc _).alloc _⟩
  case round=>
   obtain ⟨D,m0,k0,E,i,u⟩:=hrel;clear g W P;have l:wr.heap[b]?=X o:=(i.to (ax _ _ _).symm).DC e;rcases i.next (P:=R) l E with ⟨s,r⟩|⟨p,f0,w2,hp,b0,r,c0,m,d0,h0,i0⟩
   .have Hp:=ae s;clear s
    go_wp2
    go_ret
    exact ⟨_,D,rfl,Hp.out,i.right,u⟩
   .obtain ⟨w3,l0,t,e0,_⟩:=ag.mapUpdate (P:=R) underlying172 underlying3 (c0.to (aE _ _ _)) p.1 p.2
    clear l
    go_wp2
    have G:=CS m;rw [List.length_append,List.length_singleton] at G
    go_roundg (gk-1)
    case measure=>omega
    case rel=>
     refine ⟨D++[p],f0,by simp;omega,m,?_,(u.trans d0).trans e0⟩;rw [ML b0] at t;exact t.to (aE _ _ _)
end Go.Proofs.Ba
namespace Go.SL
open Go.RowKit
variable {rd v:U} {P:Program} {k:IntKind}
abbrev CB:=List (Int × List UInt8)
def aK (T:TypeId) (S:Hp) (v:U) (sh:Bool) (C:CB):ai:=fun h=>∃ Z:List (Int × U × List UInt8),
  (Z.map fun z=>(z.1,z.2.2)).Perm C/\(Z.map W0).Nodup/\(∀ z ∈ Z,pF T S z.2.1 z.2.2) /\
  ((v = .map V/\Z=[]/\h=fun _=>V) \/
   (∃ m o,v = .map (X m)/\sh=K/\S m=X o/\IsMap o (Z.map fun z=>(z.1,z.2.1))/\h=fun _=>V) \/
   (∃ m,v = .map (X m)/\sh=L/\mp m (Z.map fun z=>(z.1,z.2.1)) h))
theorem gy {T:TypeId} {S S':Hp} {sh:Bool} {C:CB} (e:Ext S S') (h:Hp) (b:aK T S v sh C h):aK T S' v sh C h:=by
 obtain ⟨Z,f,g,i,c⟩:=b;refine ⟨Z,f,g,fun z q=>(i z q).mono e,?_⟩;rcases c with c|⟨m,o,j,k,l,p⟩|c
 .exact .inl c
 .exact .inr (.inl ⟨m,o,j,k,e _ _ l,p⟩)
 .exact .inr (.inr c)
theorem FA (T:TypeId) (S:Hp) (b:Bool):aK T S (.map V) b [] (fun _=>V):=⟨[],U1 _,List.nodup_nil,by simp,.inl ⟨rfl,rfl,rfl⟩⟩
theorem ag.kJ {T:TypeId} {w:Q} {S:Hp} {j:Bool} {C:CB} {F:ai} (h:ag w (aK T S v j C*(ak S*F))) :
    ∃ Z:List (Int × U × List UInt8),(Z.map fun z=>(z.1,z.2.2)).Perm C/\(Z.map W0).Nodup/\(∀ z ∈ Z,pF T S z.2.1 z.2.2) /\
      RE w v (Z.map fun z=>(z.1,z.2.1)) /\
      ((v = .map V/\ag w (ak S*F))\/(j=K/\ag w (ak S*F)) \/
       (∃ m,v = .map (X m)/\j=L/\ag w (mp m (Z.map fun z=>(z.1,z.2.1))*(ak S*F)))):=by
  obtain ⟨k,a,p,l,⟨Z,q,r,z3,z4⟩,f,d,rfl⟩:=h;have i:ag w (ak S*F):=⟨l,fun b o s=>a b o (by rcases d b with e|e <;> simp_all [join]),f⟩
  refine ⟨Z,q,r,z3,?_,?_⟩
  · rcases z4 with ⟨rfl,rfl,_⟩|⟨m,o,rfl,_,c,g,_⟩|⟨m,rfl,_,c⟩
    · exact .inl ⟨rfl,rfl⟩
    · exact .inr ⟨m,o,rfl,i.CQ c,g⟩
    · obtain ⟨o,g,rfl⟩:=c
      exact .inr ⟨m,o,rfl,a m o (by simp [join,one]),g⟩
  · rcases z4 with ⟨rfl,rfl,_⟩|⟨m,o,rfl,rfl,c,g,_⟩|⟨m,rfl,rfl,c⟩
    · exact .inl ⟨rfl,i⟩
    · exact .inr (.inl ⟨rfl,i⟩)
    · exact .inr (.inr ⟨m,rfl,rfl,_,a,p,l,c,f,d,rfl⟩)
theorem ag.xo {T:TypeId} {w:Q} {S:Hp} {C:CB} {F:ai} {m:Nat} {Z:List (Int × U × List UInt8)} (h:ag w (mp m (Z.map fun z=>(z.1,z.2.1))*F))
  (b:(Z.map fun z=>(z.1,z.2.2)).Perm C) (c:(Z.map W0).Nodup) (e:∀ z ∈ Z,pF T S z.2.1 z.2.2):ag w (aK T S (.map (X m)) L C*F):=
 h.fp fun k f=>⟨Z,b,c,e,.inr (.inr ⟨m,rfl,rfl,f⟩)⟩
structure Bx where
 wv:Value
 ws:Bool
 tv:Value
 ts:Bool
 av:Value
def eX (av:U):ai:=fun h=>(av = .map V/\h=fun _=>V)\/∃ m,av = .map (X m)/\mp m [] h
def Bx.cells (x:Bx) (rd:U) (b:Int):Array U:=#[rd,N .i64 b,x.wv,J x.ws,x.tv,J x.ts,x.av]
def aA (c T:TypeId) (S:Hp) (b:Nat) (rd:U) (e:Int) (W D:CB):ai:=
 ex fun x:Bx=>pt b (M (x.cells rd e) c (0,0))*(aK T S x.wv x.ws W*(aK T S x.tv x.ts D*eX x.av))
theorem ag.dO {w:Q} {c T:TypeId} {S:Hp} {b:Nat} {e:Int} {W D:CB} {F:ai} (h:ag w (aA c T S b rd e W D*F)) :
  ∃ x:Bx,ag w (pt b (M (x.cells rd e) c (0,0))*(aK T S x.wv x.ws W*(aK T S x.tv x.ts D*(eX x.av*F)))):=by
 obtain ⟨x,h⟩:=ag.aw.1 h;exact ⟨x,h.to (by ac_rfl)⟩
theorem ag.gD {w:Q} {c T:TypeId} {S:Hp} {b:Nat} {e:Int} {W D:CB} {F:ai} (x:Bx)
  (h:ag w (pt b (M (x.cells rd e) c (0,0))*(aK T S x.wv x.ws W*(aK T S x.tv x.ts D*(eX x.av*F))))):ag w (aA c T S b rd e W D*F):=
 ag.aw.2 ⟨x,h.to (by ac_rfl)⟩
theorem dK {c T:TypeId} {S S':Hp} {b:Nat} {f:Int} {W D:CB} (e:Ext S S') (h:Hp) (p:aA c T S b rd f W D h):aA c T S' b rd f W D h:=by
 obtain ⟨x,k,l,v,⟨m,o,A,⟨q,r,B,C,j,u⟩,i,t⟩,g,s⟩:=p;exact ⟨x,k,l,v,⟨m,o,gy e _ A,⟨q,r,gy e _ B,C,j,u⟩,i,t⟩,g,s⟩
theorem ag.Kj {w c:Q} {T:TypeId} {S:Hp} {b:Nat} {o:Obj} {x:Bx} {W D:CB} {F:ai} {l:List UInt8}
  (r:ag w (pt b o*(aK T S x.wv x.ws W*(aK T S x.tv x.ts D*(eX x.av*(ak S*F))))))
  (q:ag c (bs T v l*SL.whole w)) (p:small l) :
  ∃ S',Ext S S'/\pF T S' v l/\ag c (pt b o*(aK T S' x.wv x.ws W*(ak S'*(aK T S' x.tv x.ts D*(eX x.av*F))))) /\
   ag c (pt b o*(aK T S' x.tv x.ts D*(ak S'*(aK T S' x.wv x.ws W*(eX x.av*F))))):=by
 have g:=q.under r;obtain ⟨S',e,m,h⟩:=ag.wY (S:=S) (F:=pt b o*(aK T S x.wv x.ws W*(aK T S x.tv x.ts D*(eX x.av*F)))) (g.to (by ac_rfl)) p;refine ⟨S',e,m,?_⟩;have i:ag c (aK T S x.wv x.ws W*(pt b o*(aK T S x.tv x.ts D*(eX x.av*(ak S'*F))))):=h.to (by ac_rfl);have j:=i.fp (gy e);have k:ag c (aK T S x.tv x.ts D*(pt b o*(aK T S' x.wv x.ws W*(eX x.av*(ak S'*F))))):=j.to (by ac_rfl);have f:=k.fp (gy e);exact ⟨f.to (by ac_rfl),f.to (by ac_rfl)⟩
theorem As {w:Q} {t j e:TypeId} (g:P.underlying t=X (.map j e)) (f:P.underlying j=X (.int k)) {z:U} (i:(zeroValue e).run P w = .ok z w) {c:KV} (h:RE w v c) (x:Int) (ok:Bool) :
  (Instr.lookup t v (N .i64 x) ok).run P w = .ok (if ok then .tuple #[(aG c x).getD z,J (aG c x).isSome] else (aG c x).getD z) w:=by
 rcases h with ⟨rfl,rfl⟩|⟨b,o,rfl,l,m⟩
 .rw [ju g f i];rfl
 .exact gS g f i l m x ok
theorem ag.jB {T:TypeId} {w:Q} {S:Hp} {s:Bool} {C:CB} {F:ai} (h:ag w (aK T S v s C*(ak S*F)))
  {t m e:TypeId} (r:P.underlying t=X (.map m e)) (p:P.underlying m=X (.int k)) (c:(zeroValue e).run P w = .ok (O V 0 0) w) (b:Int) :
  (aG C b=V->(Instr.lookup t v (N .i64 b) K).run P w = .ok (.tuple #[O V 0 0,J L]) w) /\
  (∀ l,aG C b=X l->∃ f,(Instr.lookup t v (N .i64 b) K).run P w = .ok (.tuple #[f,J K]) w/\pF T S f l):=by
 obtain ⟨Z,u,A,z3,q,_⟩:=h.kJ
 have g:aG C b=(aG Z b).map fun z=>z.2:=by
  rw [<- mN u (by rw [List.map_map];exact A),jz (fun z:U × List UInt8=>z.2)]
 have o:aG (Z.map fun z=>(z.1,z.2.1)) b=(aG Z b).map fun z=>z.1:=jz (fun z:U × List UInt8=>z.1) Z b;rw [As r p c q b K,o];constructor
 .intro j
  have:aG Z b=V:=by rw [g] at j;simpa using j
  rw [this];rfl
 .intro l i
  rw [g] at i;obtain ⟨z,c,rfl⟩:=Option.map_eq_some_iff.1 i;exact ⟨z.1,by rw [c];rfl,z3 _ (l9 c)⟩
theorem ag.se {T:TypeId} {w:Q} {S:Hp} {sh:Bool} {C:CB} {F:ai} (h:ag w (aK T S v sh C*F)):∃ r,v = .map r:=by
 obtain ⟨k,a,b,c,⟨Z,e,g,z3,z4⟩,f,d,rfl⟩:=h;rcases z4 with ⟨rfl,_⟩|⟨m,o,rfl,_⟩|⟨m,rfl,_⟩ <;> exact ⟨_,rfl⟩
theorem ag.wk {T:TypeId} {w:Q} {S:Hp} {sh:Bool} {C:CB} {F:ai} (h:ag w (aK T S v sh C*(ak S*F))) :
  ∃ S',Ext S S'/\ag w (aK T S' v K C*(aK T S' v K C*(ak S'*F))):=by
 obtain ⟨k,a,P,r,⟨Z,j,l,z3,z4⟩,f,d,rfl⟩:=h;have s:ag w (ak S*F):=⟨r,fun b o W=>a b o (by rcases d b with e|e <;> simp_all [join]),f⟩
 have c:∀ {S':Hp} {G:ai},(aK T S' v K C (fun _=>V))->ag w G->ag w (aK T S' v K C*G):=fun p q=>(q.to (cV _).symm).fp fun k A=>by rw [A];exact p
 rcases z4 with ⟨rfl,rfl,_⟩|⟨m,o,rfl,rfl,g,i,_⟩|⟨m,rfl,rfl,g⟩
 .have p:aK T S (.map V) K C (fun _=>V):=⟨[],j,l,z3,.inl ⟨rfl,rfl,rfl⟩⟩
  exact ⟨S,Ext.refl S,c p (c p s)⟩
 .have p:aK T S (.map (X m)) K C (fun _=>V):=⟨Z,j,l,z3,.inr (.inl ⟨m,o,rfl,rfl,g,i,rfl⟩)⟩
  exact ⟨S,Ext.refl S,c p (c p s)⟩
 .obtain ⟨o,i,rfl⟩:=g
  have B:ag w (ak S*(pt m o*F)):=ag.to (⟨_,a,one m o,r,rfl,f,d,rfl⟩:ag w (pt m o*(ak S*F))) (aE _ _ _);obtain ⟨t,u⟩:=B.Db;have p:aK T (join S (one m o)) (.map (X m)) K C (fun _=>V):=⟨Z,j,l,fun z E=>(z3 z E).mono (sT _ _ _),.inr (.inl ⟨m,o,rfl,rfl,u,i,rfl⟩)⟩
  exact ⟨_,sT _ _ _,c p (c p t)⟩
theorem ag.AJ {T:TypeId} {w:Q} {S:Hp} {v v':U} {sh sh':Bool} {C C':CB} {F:ai} (h:ag w (aK T S v sh C*(aK T S v' sh' C'*(ak S*F)))) :
  ∃ S',Ext S S'/\ag w (aK T S' v K C*(aK T S' v K C*(aK T S' v' K C'*(aK T S' v' K C'*(ak S'*F))))):=by
 obtain ⟨b,f,g⟩:=ag.wk (T:=T) (S:=S) (v:=v) (sh:=sh) (C:=C) (F:=aK T S v' sh' C'*F) (h.to (by ac_rfl));have i:ag w (aK T b v' sh' C'*(aK T b v K C*(aK T b v K C*(ak b*F)))):=ag.fp (P:=aK T S v' sh' C') (g.to (by ac_rfl)) (gy f);obtain ⟨c,e,j⟩:=ag.wk (T:=T) (S:=b) (v:=v') (sh:=sh') (C:=C') (F:=aK T b v K C*(aK T b v K C*F)) (i.to (by ac_rfl));have k:ag w (aK T c v K C*(aK T b v K C*(aK T c v' K C'*(aK T c v' K C'*(ak c*F))))):=ag.fp (P:=aK T b v K C) (j.to (by ac_rfl)) (gy e);have l:ag w (aK T c v K C*(aK T c v K C*(aK T c v' K C'*(aK T c v' K C'*(ak c*F))))):=ag.fp (P:=aK T b v K C) (k.to (by ac_rfl)) (gy e);exact ⟨c,f.trans e,l⟩
end Go.SL
namespace Go.Proofs.Ba
open Go.RowKit Go.SL
variable {v:U} {W:CB}
def Rr (S:Hp) (b o:Nat) (f:Array U) (C:CB) (g:Int) (l:List UInt8) (F:ai) (w:Q) (e:Ending) (c:Q):Prop:=
 ∃ m,e = I (.tuple #[])/\ag c (pt b (M ((f.setIfInBounds o (.map (X m))).setIfInBounds (o+1) (J L)) 176 (0,0))*(aK 5 S (.map (X m)) L (SL.fm C g l)*(ak S*F)))/\aj w c
theorem yK {b:Array U} {o:Nat} (h:b[o]?=X v):b.setIfInBounds o v=b:=by
 apply Array.ext_getElem?;intro i;rw [R1]
 split
 .rename_i e;subst e;split
  .exact h.symm
  .rename_i c;exact absurd (Array.getElem?_eq_some_iff.1 h).1 c
 .rfl
theorem qC {g k:Type} (f:g->k) {D E:List k} (h:D.Perm E):∀ {Z:List g},Z.map f=E->∃ b:List g,b.Perm Z/\b.map f=D:=by
 induction h with
 | nil=>intro Z e;exact ⟨Z,U1 _,e⟩
 | cons x h q=>
  intro Z e
  cases Z with
  | nil=>cases e
  | cons z Z=>
   simp only [List.map_cons,List.cons.injEq] at e;obtain ⟨b,i,j⟩:=q e.2;exact ⟨z :: b,i.cons z,by simp [j,e.1]⟩
 | swap x y l=>
  intro Z e
  match Z,e with
  | a :: c :: Z,e=>
   simp only [List.map_cons,List.cons.injEq] at e;exact ⟨c :: a :: Z,List.Perm.swap _ _ _,by simp [e.1,e.2.1,e.2.2]⟩
 | trans i j r s=>
  intro Z e;obtain ⟨v,t,o⟩:=s e;obtain ⟨m,u,p⟩:=r o;exact ⟨m,u.trans t,p⟩
theorem ph {Z:List (Int × U × List UInt8)} {S:Hp} {T:TypeId} (f:(Z.map fun z=>(z.1,z.2.2)).Perm W) (e:(Z.map W0).Nodup) (g:∀ z ∈ Z,pF T S z.2.1 z.2.2) (b:Int) {l:List UInt8} (h:pF T S v l) :
  ((SL.fm Z b (v,l)).map fun z=>(z.1,z.2.2)).Perm (SL.fm W b l)/\((SL.fm Z b (v,l)).map W0).Nodup/\(∀ z ∈ SL.fm Z b (v,l),pF T S z.2.1 z.2.2) /\
  SL.fm (Z.map fun z=>(z.1,z.2.1)) b v=(SL.fm Z b (v,l)).map fun z=>(z.1,z.2.1):=by
 refine ⟨?_,qA e _ _,?_,?_⟩
 .rw [<- xf (fun z:U × List UInt8=>z.2) Z b (v,l)]
  exact Hu f (by rw [List.map_map];exact e) b l
 .intro z c
  rcases xD c with rfl|c
  .exact h
  .exact g z c
 .exact xf (fun z:U × List UInt8=>z.1) Z b (v,l)
theorem eO (w:Q) (S:Hp) (b o:Nat) (m:Array U) (bv:U) (W:Bool) (C:CB) (f:Int) (B:U) (l:List UInt8) (F:ai)
  (h:ag w (pt b (M m 176 (0,0))*(aK 5 S bv W C*(ak S*F)))) (j:m[o]?=X bv) (k:m[o+1]?=X (J W)) (hv:pF 5 S B l) :
  Calls R 207 #[H (X ⟨b,o,V⟩),N .i64 f,B] w (Rr S b o m C f l F w):=by
 have E:w.cell? ⟨b,o,V⟩=X bv:=(h.cell o).trans j;have G:w.cell? ⟨b,o+1,V⟩=X (J W):=(h.cell (o+1)).trans k;have P:∀ o,w.frozen? ⟨b,o,V⟩=L:=h.frozen;have p0:o≠o+1:=by omega
 obtain ⟨Z,z1,z2,z3,e0,o0⟩:=(h.to (by ac_rfl:_=aK 5 S bv W C*(ak S*(pt b (M m 176 (0,0))*F)))).kJ;rcases o0 with ⟨rfl,u⟩|⟨rfl,u⟩|⟨i0,rfl,rfl,u⟩
 .skip
  have f0:∀ w,(binOp .eql 172 (.map V) (.map V)).run R w = .ok (J K) w:=fun w=>run_eql_map_nil (P:=R) w 172 3 37 _ underlying172;have b0:b<w.heap.size:=h.lt;have d0:=ae j;have H1:=ae k;clear j k;have l0:(o == o+1)=L:=by simp
  go_enter func207,ntmps207
  go_wp2_with fail
  refine (lo w _ _ e0).mono ?_;rintro k0 i ⟨c,D,rfl,s,e,v⟩;have Hp:=ae s;clear s;have p:=e.under h;have g0:i.cell? ⟨b,o,V⟩=X (.map V):=e.bT E;have g1:i.cell? ⟨b,o+1,V⟩=X (J W):=e.bT G;have gf:∀ o,i.frozen? ⟨b,o,V⟩=L:=fun o=>(e.qu b0).trans (P o);clear E G P;have q:=((p.to (aE _ _ _)).setCell o (.map (X c))).setCell (o+1) (J L);have r:=q.to (aE _ _ _);obtain ⟨w2,h0,t,c0,_⟩:=ag.mapUpdate (P:=R) underlying172 underlying3 r f B;clear p q r h e u
  go_wp2
  go_end0
  obtain ⟨Z',g,p2⟩:=qC _ Hp.out rfl;subst p2;obtain ⟨u1,u2,u3,u4⟩:=ph ((g.map _).trans z1) ((g.map W0).nodup_iff.2 z2) (fun z hz=>z3 z (g.mem_iff.1 hz)) f hv;refine ⟨c,rfl,?_,((v.setCell _ _).setCell _ _).trans c0⟩;rw [u4] at t;have:=ag.xo t u1 u2 u3;exact (this.to (by ac_rfl:_=aK 5 S (.map V) W C*(pt b (M ((m.setIfInBounds o (.map (X c))).setIfInBounds (o+1) (J L)) 176 (0,0))*(aK 5 S (.map (X c)) L (SL.fm C f l)*(ak S*F))))).right
 .obtain ⟨A,rfl⟩:∃ A,bv = .map A:=by
   rcases e0 with ⟨rfl,_⟩|⟨i0,_,rfl,_⟩
   .exact ⟨_,rfl⟩
   .exact ⟨_,rfl⟩
  rcases A with _|A
  .skip
   have f0:∀ w,(binOp .eql 172 (.map V) (.map V)).run R w = .ok (J K) w:=fun w=>run_eql_map_nil (P:=R) w 172 3 37 _ underlying172;have b0:b<w.heap.size:=h.lt;have d0:=ae j;have H1:=ae k;clear j k;have l0:(o == o+1)=L:=by simp
   go_enter func207,ntmps207
   go_wp2_with fail
   refine (lo w _ _ e0).mono ?_;rintro k0 i ⟨c,D,rfl,s,e,v⟩;have Hp:=ae s;clear s;have p:=e.under h;have g0:i.cell? ⟨b,o,V⟩=X (.map V):=e.bT E;have g1:i.cell? ⟨b,o+1,V⟩=X (J K):=e.bT G;have gf:∀ o,i.frozen? ⟨b,o,V⟩=L:=fun o=>(e.qu b0).trans (P o);clear E G P;have q:=((p.to (aE _ _ _)).setCell o (.map (X c))).setCell (o+1) (J L);have r:=q.to (aE _ _ _);obtain ⟨w2,h0,t,c0,_⟩:=ag.mapUpdate (P:=R) underlying172 underlying3 r f B;clear p q r h e u
   go_wp2
   go_end0
   obtain ⟨Z',g,p2⟩:=qC _ Hp.out rfl;subst p2;obtain ⟨u1,u2,u3,u4⟩:=ph ((g.map _).trans z1) ((g.map W0).nodup_iff.2 z2) (fun z hz=>z3 z (g.mem_iff.1 hz)) f hv;refine ⟨c,rfl,?_,((v.setCell _ _).setCell _ _).trans c0⟩;rw [u4] at t;have:=ag.xo t u1 u2 u3;exact (this.to (by ac_rfl:_=aK 5 S (.map V) K C*(pt b (M ((m.setIfInBounds o (.map (X c))).setIfInBounds (o+1) (J L)) 176 (0,0))*(aK 5 S (.map (X c)) L (SL.fm C f l)*(ak S*F))))).right
  .skip
   have f0:∀ w,(binOp .eql 172 (.map (X A)) (.map V)).run R w = .ok (J L) w:=fun w=>run_eql_map_nil (P:=R) w 172 3 37 _ underlying172;have b0:b<w.heap.size:=h.lt;have d0:=ae j;have H1:=ae k;clear j k;have l0:(o == o+1)=L:=by simp
   go_enter func207,ntmps207
   go_wp2_with fail
   refine (lo w _ _ e0).mono ?_;rintro k0 i ⟨c,D,rfl,s,e,v⟩;have Hp:=ae s;clear s;have p:=e.under h;have g0:i.cell? ⟨b,o,V⟩=X (.map (X A)):=e.bT E;have g1:i.cell? ⟨b,o+1,V⟩=X (J K):=e.bT G;have gf:∀ o,i.frozen? ⟨b,o,V⟩=L:=fun o=>(e.qu b0).trans (P o);clear E G P;have q:=((p.to (aE _ _ _)).setCell o (.map (X c))).setCell (o+1) (J L);have r:=q.to (aE _ _ _);obtain ⟨w2,h0,t,c0,_⟩:=ag.mapUpdate (P:=R) underlying172 underlying3 r f B;clear p q r h e u
   go_wp2
   go_end0
   obtain ⟨Z',g,p2⟩:=qC _ Hp.out rfl;subst p2;obtain ⟨u1,u2,u3,u4⟩:=ph ((g.map _).trans z1) ((g.map W0).nodup_iff.2 z2) (fun z hz=>z3 z (g.mem_iff.1 hz)) f hv;refine ⟨c,rfl,?_,((v.setCell _ _).setCell _ _).trans c0⟩;rw [u4] at t;have:=ag.xo t u1 u2 u3;exact (this.to (by ac_rfl:_=aK 5 S (.map (X A)) K C*(pt b (M ((m.setIfInBounds o (.map (X c))).setIfInBounds (o+1) (J L)) 176 (0,0))*(aK 5 S (.map (X c)) L (SL.fm C f l)*(ak S*F))))).right
 .obtain ⟨u1,u2,u3,u4⟩:=ph z1 z2 z3 f hv
  obtain ⟨w',h0,m0,v,_⟩:=ag.mapUpdate (P:=R) underlying172 underlying3 u f B;have f0:=run_eql_map_nil (P:=R) w 172 3 37 (X i0) underlying172;have d0:=ae j;have H1:=ae k;have n0:=ae u4;clear j k u4 p0 u
  go_enter func207,ntmps207
  go_wp2
  go_end0
  refine ⟨i0,rfl,?_,v⟩;rw [yK d0.out,yK H1.out];rw [n0.out] at m0;exact (ag.xo m0 u1 u2 u3).to (by ac_rfl)
def fT (b c:Int) (l:List UInt8):Int:=if b≠0 then b else if c<0\/l.length≠480 then 1 else 0
def uu (c b:Int) (l:List UInt8) (W:CB):CB:=if c=0/\0<=b/\l.length=480 then SL.fm W b l else W
theorem nC {b c:Int} {l:List UInt8} (h:¬ (b=0/\0<=c/\l.length=480)):uu b c l W=W:=if_neg h
theorem tK {c b:Int} {l:List UInt8} (h:c=0/\0<=b/\l.length=480):uu c b l W=SL.fm W b l:=if_pos h
def gp (S:Hp) (b:Nat) (rd:U) (c:Int) (W D:CB) (id:Int) (l:List UInt8) (F:ai) (w:Q) (e:Ending) (f:Q):Prop:=
 ∃ S',Ext S S'/\e = I (N .i64 (fT c id l))/\ag f (aA 176 5 S' b rd c (uu c id l W) D*(ak S'*F))/\aj w f
theorem mZ (w:Q) (S:Hp) (b:Nat) (rd:U) (i:Int) (W D:CB) (id:Int) (m:U) (l:List UInt8) (F:ai)
  (h:ag w (aA 176 5 S b rd i W D*(ak S*F))) (f:Rd w m l) :
  Calls R 150 #[H (X ⟨b,0,V⟩),N .i64 id,m] w (gp S b rd i W D id l F w):=by
 obtain ⟨x,s⟩:=h.dO;have f0:w.cell? ⟨b,1,V⟩=X (N .i64 i):=s.cell 1
 obtain ⟨a,c,rfl⟩:∃ a c,m = O a l.length c:=by
  rcases f.2 with ⟨rfl,u⟩|⟨a,c,rfl,_⟩
  .exact ⟨V,0,by rw [u]⟩
  .exact ⟨_,_,rfl⟩
 by_cases k:i=0
 .subst k
  by_cases G:id<0
  .go_enter func150,ntmps150
   have q:=ae f;clear f
   go_wp2
   go_ret
   exact ⟨S,Ext.refl S,by simp [fT,G],by rw [nC (by omega)];exact h,aj.refl w⟩
  .by_cases j:l.length=480
   .have p:0<=id:=by omega
    have e0:((480:Int) != 480)=L:=by decide
    have r:Rd w (O a 480 c) l:=by rw [<- j];exact f
    have t:=ae r;have g:=ae j;clear f r j;have c0:small l:=by unfold small;rw [g.out];decide
    have C:Hid (l.length<=1000000000):=by show l.length<=_;rw [g.out];decide
    go_enter func150,ntmps150
    rw [g.out]
    go_wp2
    go_region_held3 (fun _=>True) (trivial)
     (first
      | (go_at_call 183;refine (jd w.drew _ l (nG.drew t.out) C).mono ?_;rintro e w1 ⟨v1,rfl,P,yo⟩)
      | (go_at_call 207;obtain ⟨S',v,B,A,_⟩:=ag.Kj (w:=w.drew) s P c0;refine (eO _ S' b 2 _ _ _ W id v1 l (aK 5 S' x.tv x.ts D*(eX x.av*F)) A rfl rfl B).mono ?_;rintro e w2 ⟨d0,rfl,b0,E⟩))
    go_wp2
    go_ret
    refine ⟨S',v,?_,?_,((aj.refl w).drew.trans yo).trans E⟩
    .simp [fT,p,g.out,Int.not_lt.2 p]
    .rw [tK ⟨rfl,p,g.out⟩]
     exact ag.gD { x with wv:=.map (X d0),ws:=L } (b0.to (by ac_rfl))
   .have h0:((l.length:Int) != 480)=K:=by rw [bne_iff_ne];omega
    go_enter func150,ntmps150
    have q:=ae f;have g:=ae j;clear f j
    go_wp2
    go_ret
    exact ⟨S,Ext.refl S,by simp [fT,g.out],by rw [nC (fun o=>g.out o.2.2)];exact h,aj.refl w⟩
 .have g0:(i != 0)=K:=by simpa using k
  go_enter func150,ntmps150
  have q:=ae f;clear f
  go_wp2
  go_ret
  exact ⟨S,Ext.refl S,by simp [fT,k],by rw [nC (fun o=>k o.1)];exact h,aj.refl w⟩
def sorted (l:List Int):List Int:=l.mergeSort fun x y=>decide (x<=y)
theorem er (l:List Int):(sorted l).length=l.length:=List.length_mergeSort ..
theorem sorted_perm (l:List Int):(sorted l).Perm l:=List.mergeSort_perm ..
theorem lF (l:List Int):(sorted l).Pairwise (·<=·):=by
 have:=List.pairwise_mergeSort (le:=fun x y:Int=>decide (x<=y)) (by intro a b c e f;simp at *;omega) (by intro a b;simp;omega) l;exact this.imp (by simp)
theorem yf {l m:List Int} (h:l.Perm m):sorted l=sorted m:=
 List.Perm.eq_of_pairwise (le:=(·<=·)) (fun a b _ _ c e=>by omega) (lF l) (lF m) ((sorted_perm l).trans (h.trans (sorted_perm m).symm))
def gL (C:CB):CB:=(sorted (C.map W0)).map fun k=>(k,(aG C k).getD [])
end Go.Proofs.Ba
namespace Go.SL
open Go.RowKit
abbrev bY (n:Int):Int:=wrap64 n
structure az where
 sec:List (List UInt8)
 wait:List (Int × List UInt8)
 lP:List (Int × Unit)
 cr:Int
 cw:Int
 cf:Int
 down:Bool
 eE:Bool
 left:Int
 aZ:List Int
def az.fresh (n:Nat):az:=⟨List.replicate n [],[],[],0,0,0,L,L,0,[]⟩
def az.done (D:az) (x:Int × List UInt8):az:={ D with sec:=D.sec.set x.1.toNat x.2,lP:=del D.lP x.1 }
def az.bF (D:az) (l:List (Int × List UInt8)):az:=l.foldl az.done D
def az.Oc (D:az) (x:Int × List UInt8):az:={ D with lP:=SL.fm D.lP x.1 () }
def az.qR (D:az) (f:Int) (x:Int × List UInt8):az:=if f=1 then D.done x else if f=2 then D.Oc x else D
def az.dY (D:az) (aZ:List Int):Nat->az
 | 0=>D
 | k+1=>match D.wait[k]? with
  | some p=>(D.dY aZ k).qR (aZ.getD k 0) p
  | none=>D.dY aZ k
def az.fy (D:az) (aZ:List Int):az:={ D.dY aZ D.wait.length with wait:=[],down:=K,eE:=L,left:=0,aZ:=[] }
def az.cW (D:az):az:=if !D.down && D.eE && D.left == 0 then D.fy D.aZ else D
def az.begun (D:az):az:=if D.cW.down then D.cW else if D.cW.eE then { D.cW with left:=bY (D.cW.left-1) } else D.cW
def az.cF (D:az):Int:=if D.cW.down then 2 else 0
def az.has (D:az) (b:Int):Prop:=0<=b/\b<D.sec.length
instance (D:az) (a:Int):Decidable (D.has a):=inferInstanceAs (Decidable (_/\_))
def dV (l:List (Int × List UInt8)) (a:Int):Option (List UInt8):=(l.reverse.find? fun x=>x.1 == a).map Prod.snd
def az.bV (D:az) (a:Int):Int × List UInt8:=
 match dV D.wait a with
 | some l=>(0,bM 512 l)
 | none=>if (aG D.lP a).isSome then (3,[]) else (0,bM 512 (D.sec.getD a.toNat []))
def az.read (D:az) (a:Int):(Int × List UInt8) × az:=
 if D.has a then (if D.cF=0 then (D.begun.bV a,{ D.begun with cr:=bY (D.begun.cr+1) }) else ((2,[]),D.begun)) else ((1,[]),D)
def az.write (D:az) (a:Int) (l:List UInt8):Int × az:=
 if D.has a/\l.length=512 then (if D.cF=0 then (0,{ D.begun with cw:=bY (D.begun.cw+1),wait:=D.begun.wait++[(a,l)] }) else (2,D.begun)) else (1,D)
def az.aF (D:az):az:={ ({ D with cf:=bY (D.cf+1) }:az).bF D.wait with wait:=[] }
def az.flush (D:az):Int × az:=if D.cF=0 then (0,D.begun.aF) else (2,D.begun)
structure az.Ok (D:az):Prop where
 n:D.sec.length<=20000
 wait:∀ x ∈ D.wait,D.has x.1
 many:D.wait.length<=1000000
 aZ:D.aZ.length<=4611686018427387904
theorem az.ES {D:az} (h:D.cF=0):D.cW=D:=by
 unfold az.cF at h
 by_cases b:(!D.down && D.eE && D.left == 0)=K
 .rw [az.cW,if_pos b] at h;simp [az.fy] at h
 .rw [az.cW,if_neg b]
theorem az.Ay {D:az} (h:D.cF=0):D.begun={ D with left:=D.begun.left }:=by
 have c:=az.ES h
 have b:D.down=L:=by
  unfold az.cF at h;rw [c] at h
  cases e:D.down with
  | false=>rfl
  | true=>simp [e] at h
 obtain ⟨sec,wait,lP,cr,cw,cf,down,eE,left,aZ⟩:=D;simp only at b;subst b;unfold az.begun;rw [c];cases eE <;> rfl
theorem az.Ok.up {D:az} (h:D.Ok) (e:D.cF=0):D.begun.Ok:=by
 rw [az.Ay e];exact ⟨h.n,h.wait,h.many,h.aZ⟩
theorem az.kW (D:az):D.cF=0\/D.cF=2:=by
 unfold az.cF;split <;> simp
abbrev Zs:=List (Int × U × List UInt8)
def bE (Z:Zs):List U:=Z.flatMap fun z=>[N .i64 z.1,z.2.1]
theorem oD (Z:Zs):(bE Z).length=Z.length*2:=by
 induction Z with
 | nil=>rfl
 | cons z Z b=>simp only [bE,List.flatMap_cons,List.length_append,X0,List.length_nil] at b ⊢;omega
theorem wC:∀ (Z:Zs) (i:Nat) (h:i<Z.length),(bE Z)[i*2]?=X (N .i64 Z[i].1)/\(bE Z)[i*2+1]?=X Z[i].2.1:=by
 intro Z
 induction Z with
 | nil=>intro i h;simp at h
 | cons z Z b=>
  intro i h
  cases i with
  | zero=>simp [bE]
  | succ i=>
   have:=b i (by simpa using h);rw [show (i+1)*2=i*2+1+1 by omega];simpa [bE] using this
theorem ag.js {w:Q} {f:TypeId} {n:Nat} {Z:Zs} {F:ai} {g c m:Nat} (h:ag w (sl f 2 (O (X ⟨g,0,V⟩) m c) n (bE Z)*F)) {i:Nat} (k:i<Z.length) :
  w.cell? ⟨g,i*2,V⟩=X (N .i64 Z[i].1)/\w.cell? ⟨g,i*2+1,V⟩=X Z[i].2.1:=by
 obtain ⟨a,b⟩:=wC Z i k;obtain ⟨_,l⟩:=h.nH;rcases l with ⟨o,r⟩|⟨p,q,j,e⟩
 .cases o
 .cases j
  exact ⟨by have:=e _ _ a;rwa [Addr.add_lit,D1] at this,by have:=e _ _ b;rwa [Addr.add_lit,D1] at this⟩
structure Dx where
 sg:Nat
 tm:Nat
 wv:Value
 kv:Value
 Y:List (Value × List UInt8)
 Z:Zs
def Dx.cells (x:Dx) (D:az):Array U:=
 #[O (X ⟨x.sg,0,V⟩) x.Y.length x.Y.length,x.wv,.map (X x.tm),N .i64 D.cr,N .i64 D.cw,N .i64 D.cf,J D.down,J D.eE,N .i64 D.left,x.kv]
def gw (t:List (Int × Unit)):KV:=t.map fun p=>(p.1,.agg #[])
def hU (l:List Int):List U:=l.map (A1 .i64)
structure Dx.Fit (x:Dx) (T:TypeId) (S:Hp) (D:az):Prop where
 sec:x.Y.map Prod.snd=D.sec
 rU:∀ y ∈ x.Y,pF T S y.1 y.2
 wait:x.Z.map (fun z=>(z.1,z.2.2))=D.wait
 lJ:∀ z ∈ x.Z,pF T S z.2.1 z.2.2
theorem Dx.Fit.mono {x:Dx} {T:TypeId} {S S':Hp} {D:az} (h:x.Fit T S D) (e:Ext S S'):x.Fit T S' D:=
 ⟨h.sec,fun y b=>(h.rU y b).mono e,h.wait,fun z c=>(h.lJ z c).mono e⟩
theorem Bb (t:List (Int × Unit)) (a:Int):SL.fm (gw t) a (.agg #[])=gw (SL.fm t a ()):=by
 have:=xf (fun _:Unit=>Value.agg #[]) t a ();simpa [gw] using this
theorem BG (t:List (Int × Unit)) (a:Int):del (gw t) a=gw (del t a):=by
 simp only [gw,del,List.filter_map];rfl
theorem AY (t:List (Int × Unit)) (a:Int):(aG (gw t) a).isSome=(aG t a).isSome:=by
 have:=jz (fun _:Unit=>Value.agg #[]) t a;rw [gw,this,Option.isSome_map]
def Ly (x:Dx) (D:az) (d:Nat):ai:=
 pt d (M (x.cells D) 107 (0,0))*(pt x.sg (M (x.Y.map W0).toArray 37 (0,0))*(sl 230 2 x.wv x.Z.length (bE x.Z)*(mp x.tm (gw D.lP)*sl 3 1 x.kv D.aZ.length (hU D.aZ))))
def fQ (x:Dx) (S:Hp) (d:Nat) (D:az):ai:=fact (x.Fit 5 S D)*Ly x D d
def aL (S:Hp) (d:Nat) (D:az):ai:=ex fun x:Dx=>fQ x S d D
section
variable {w:Q} {S S':Hp} {d:Nat} {D:az} {F:ai} {x:Dx}
theorem ag.bg (h:ag w (fQ x S d D*F)):x.Fit 5 S D/\ag w (pt d (M (x.cells D) 107 (0,0))*(pt x.sg (M (x.Y.map W0).toArray 37 (0,0))*(sl 230 2 x.wv x.Z.length (bE x.Z)*(mp x.tm (gw D.lP)*(sl 3 1 x.kv D.aZ.length (hU D.aZ)*F))))):=by
 obtain ⟨b,c⟩:=ag.au.1 (h.to (ax _ _ _));exact ⟨b,c.to (by unfold Ly;ac_rfl)⟩
theorem ag.iz (b:x.Fit 5 S D) (h:ag w (pt d (M (x.cells D) 107 (0,0))*(pt x.sg (M (x.Y.map W0).toArray 37 (0,0))*(sl 230 2 x.wv x.Z.length (bE x.Z)*(mp x.tm (gw D.lP)*(sl 3 1 x.kv D.aZ.length (hU D.aZ)*F)))))):ag w (fQ x S d D*F):=
 (ag.au.2 ⟨b,h.to (by unfold Ly;ac_rfl:_=Ly x D d*F)⟩:ag w (fact _*_)).to (ax _ _ _).symm
theorem ag.vr (h:ag w (aL S d D*F)):∃ x,ag w (fQ x S d D*F):=ag.aw.1 h
theorem ag.devOf (h:ag w (fQ x S d D*F)):ag w (aL S d D*F):=ag.aw.2 ⟨x,h⟩
theorem DO (e:Ext S S') (h:Hp) (p:fQ x S d D h):fQ x S' d D h:=by
 obtain ⟨b,c,⟨f,g⟩,i,j,k⟩:=p;exact ⟨b,c,⟨f.mono e,g⟩,i,j,k⟩
theorem vU (e:Ext S S') (h:Hp) (p:aL S d D h):aL S' d D h:=by
 obtain ⟨x,p⟩:=p;exact ⟨x,DO e h p⟩
theorem ag.cQ (h:ag w (fQ x S d D*F)) (i:Nat):w.cell? ⟨d,i,V⟩=(x.cells D)[i]?:=h.bg.2.cell i
theorem ag.np (h:ag w (fQ x S d D*F)) (i:Nat):w.frozen? ⟨d,i,V⟩=L:=h.bg.2.frozen i
theorem ag.DG (h:ag w (fQ x S d D*F)):x.Y.length=D.sec.length:=by rw [<- h.bg.1.sec,E1]
theorem ag.po (h:ag w (fQ x S d D*F)):x.Z.length=D.wait.length:=by rw [<- h.bg.1.wait,E1]
theorem ag.OU (h:ag w (fQ x S d D*F)):∃ a c,x.wv = O a D.wait.length c:=by
 have:=aC h.bg.2.aq
 rwa [h.po] at this
end
end Go.SL
namespace Go.Proofs.Nn
open Go.RowKit Go.SL
theorem lZ (w:Q) (S:Hp) (d:Nat) (D:az) (F:ai) (h:ag w (aL S d D*F)) :
  Calls R 109 #[H (X ⟨d,0,V⟩)] w fun e b=>e = I (N .i64 D.sec.length)/\w=b:=by
 obtain ⟨x,h⟩:=h.vr;have c:w.cell? ⟨d,0,V⟩=X (O (X ⟨x.sg,0,V⟩) D.sec.length D.sec.length):=by rw [h.cQ,<- h.DG];rfl
 clear h
 go_enter func109,ntmps109
 go_wp2
 go_ret
 exact ⟨rfl,rfl⟩
def uk (b:Bool) (w:Q) (e:Ending) (c:Q):Prop:=e = I (J b)/\w=c
theorem lA (w:Q) (S:Hp) (d:Nat) (D:az) (a:Int) (F:ai) (h:ag w (aL S d D*F)) :
  Calls R 216 #[H (X ⟨d,0,V⟩),N .i64 a] w (uk (decide (D.has a)) w):=by
 have f:=lZ w S d D F h;clear h
 by_cases g:0<=a
 .by_cases c:a<D.sec.length
  .have b:decide (D.has a)=K:=by simp [az.has,g,c]
   rw [b];clear b
   go_enter func216,ntmps216
   go_wp2_with (go_at_call 109;refine f.mono ?_;rintro e i ⟨rfl,rfl⟩)
   go_ret
   exact ⟨rfl,rfl⟩
  .have b:decide (D.has a)=L:=by simp [az.has,c]
   rw [b];clear b;have j:decide (a<D.sec.length)=L:=by simpa using c
   go_enter func216,ntmps216
   go_wp2_with (go_at_call 109;refine f.mono ?_;rintro e i ⟨rfl,rfl⟩)
   go_ret
   exact ⟨rfl,rfl⟩
 .have b:decide (D.has a)=L:=by simp [az.has,g]
  rw [b];clear b f
  go_enter func216,ntmps216
  go_wp2
  go_ret
  exact ⟨rfl,rfl⟩
def IM (w:Q) (l:List UInt8) (e:Ending) (b:Q):Prop:=∃ g,e = I (O (X ⟨g,0,V⟩) 512 512)/\ag b (pt g (M (dG (bM 512 l)) 5 (0,0))*whole w)/\aj w b
theorem gj:(prog.info? 5).map (fun i=>(i.zero,i.size,i.bytes))=X (X (N .u8 0),1,1):=by kernel_rfl
theorem Ea:(prog.info? 5).map (·.size)=X 1:=by kernel_rfl
theorem BD:(prog.info? 37).map (fun i=>(i.zero,i.size,i.bytes))=X (X (O V 0 0),1,24):=by kernel_rfl
theorem eL (n:Nat) (g:n<=281474976710656) (w:Q):(Instr.makeSlice 37 (N .i64 n) (N .i64 n)).run R w =
  .ok (O (X ⟨w.heap.size,0,V⟩) n n) (w.alloc (M (dG (zs n)) 5 (0,0))):=by
 obtain ⟨i,c,f,e,b⟩:=info_parts gj;have:=run_make (P:=R) w 37 5 i _ underlying37 c f .i64 .i64 n n (by omega) (by omega) (by rw [b];omega) (by omega);rw [this,e];simp only [S1];rw [iT]
theorem jJ (w:Q) (v:U) (l:List UInt8) (j:Rd w v l) (k:l.length<=9223372036854775807) :
  Calls R 217 #[v] w (IM w l):=by
 have m:∀ w,(Instr.makeSlice 37 (N .i64 512) (N .i64 512)).run R w =
  .ok (O (X ⟨w.heap.size,0,V⟩) 512 512) (w.alloc (M (dG (zs 512)) 5 (0,0))):=eL 512 (by omega)
 have c:Rd (w.alloc (M (dG (zs 512)) 5 (0,0))) v l:=nG.alloc j _;have b:=(ag.whole w).alloc (M (dG (zs 512)) 5 (0,0));obtain ⟨p,o,e,i,h⟩:=Kr (P:=R) (dT:=37) (T:=5) underlying37 Ea b c 3;have g:=(aj.refl w).alloc (M (dG (zs 512)) 5 (0,0));have f:=ae e;clear e c b
 go_enter func217,ntmps217
 go_wp2_with (refine eW f.out _ _ rfl rfl rfl rfl rfl ?_)
 go_ret
 exact ⟨_,rfl,i,g.trans h⟩
theorem im {T:TypeId} {S:Hp} {v:U} {l:List UInt8} (h:pF T S v l):∃ a c,v = O a l.length c:=by
 rcases h.2 with ⟨rfl,rfl⟩|⟨g,b,e,rfl,_⟩
 .exact ⟨_,_,rfl⟩
 .exact ⟨_,_,rfl⟩
def Qg (x:Dx) (S:Hp) (d:Nat) (D:az) (p:Int × List UInt8) (c:U) (F:ai) (w:Q) (e:Ending) (b:Q):Prop:=
 e = I (.tuple #[])/\ag b (fQ { x with Y:=x.Y.set p.1.toNat (c,p.2) } S d (D.done p)*F)/\aj w b
theorem AL (w:Q) (S:Hp) (d:Nat) (D:az) (x:Dx) (p:Int × List UInt8) (o:U) (F:ai) (h:ag w (fQ x S d D*F)) (C:pF 5 S o p.2) (u:D.has p.1) :
  Calls R 163 #[H (X ⟨d,0,V⟩),.agg #[N .i64 p.1,o]] w (Qg x S d D p o F w):=by
 obtain ⟨i0,l⟩:=p;obtain ⟨a,rfl⟩:=N1 u.1;have e0:(a:Int)<(x.Y.length:Int):=by rw [h.DG];exact u.2
 have v:a<x.Y.length:=by omega
 obtain ⟨k,hs⟩:=h.bg;obtain ⟨b,c,rfl⟩:=im C;obtain ⟨s,t⟩:∃ s,(x.Y.map W0)[a]?=X s:=⟨_,Z1 (by simpa using v)⟩
 have g:=hs.alloc (M #[N .i64 a,O b l.length c] 230 (0,0));have A:=(aj.refl w).alloc (M #[N .i64 a,O b l.length c] 230 (0,0))
 go_enter func163,ntmps163
 go_wp2
 generalize g0:w.alloc (M #[N .i64 a,O b l.length c] 230 (0,0))=e at g A ⊢;generalize w.heap.size=f at g ⊢;have k0:e.cell? ⟨d,0,V⟩=X (O (X ⟨x.sg,0,V⟩) x.Y.length x.Y.length):=g.ah.cell 0;have c0:e.cell? ⟨f,0,V⟩=X (N .i64 a):=g.cell 0;have d0:e.cell? ⟨f,1,V⟩=X (O b l.length c):=g.cell 1;have ks:e.cell? ⟨x.sg,a,V⟩=X s:=(g.aq.cell a).trans (by simpa using t);have kf:e.frozen? ⟨x.sg,a,V⟩=L:=g.aq.frozen a;have i:=(g.aq.setCell a (O b l.length c)).vM;have E:(e.setCell ⟨x.sg,a,V⟩ (O b l.length c)).cell? ⟨d,0,V⟩=X (O (X ⟨x.sg,0,V⟩) x.Y.length x.Y.length):=i.ah.cell 0;have r:(e.setCell ⟨x.sg,a,V⟩ (O b l.length c)).cell? ⟨f,0,V⟩=X (N .i64 a):=i.cell 0;have P:(e.setCell ⟨x.sg,a,V⟩ (O b l.length c)).cell? ⟨f,1,V⟩=X (O b l.length c):=i.cell 1;have G:(e.setCell ⟨x.sg,a,V⟩ (O b l.length c)).cell? ⟨d,2,V⟩=X (.map (X x.tm)):=i.ah.cell 2;clear t v
 go_region_held3 (fun j=>j.cell? ⟨d,0,V⟩=X (O (X ⟨x.sg,0,V⟩) x.Y.length x.Y.length)/\j.cell? ⟨f,0,V⟩=X (N .i64 a)/\j.cell? ⟨f,1,V⟩=X (O b l.length c)) (first|go_keep|exact ⟨k0,c0,d0⟩|exact ⟨E,r,P⟩) (fail)
 have B:=(A.setCell ⟨x.sg,a,V⟩ (O b l.length c)).drew;generalize h0:(e.setCell ⟨x.sg,a,V⟩ (O b l.length c))=w2 at i B E r P G ⊢;obtain ⟨W,f0,H3,b0,_⟩:=ag.delete (P:=R) underlying102 underlying3 0 3 (w:=w2.drew.drew) (ag.aI i) (a:Int);have m:=H3.vF;have t0:W.cell? ⟨f,0,V⟩=X (N .i64 a):=m.cell 0;have t2:W.cell? ⟨d,2,V⟩=X (.map (X x.tm)):=m.ah.cell 2
 go_wp2
 go_region_held3 (fun j=>j.cell? ⟨f,0,V⟩=X (N .i64 a)/\j.cell? ⟨d,2,V⟩=X (.map (X x.tm))) (first|go_keep|exact ⟨r,G⟩|exact ⟨t0,t2⟩) (fail)
 go_wp2
 go_end0
 refine ⟨rfl,ag.iz ⟨?_,?_,k.wait,k.lJ⟩ (m.right.to ?_),B.drew.trans b0⟩
 .show (x.Y.set (a:Int).toNat (O b l.length c,l)).map Prod.snd=D.sec.set (a:Int).toNat l
  rw [O1,k.sec]
 .intro y q
  rcases List.mem_or_eq_of_mem_set q with q|rfl
  .exact k.rU y q
  .exact C
 .simp only [BG,Dx.cells,az.done,List.length_set,S1,O1,List.setIfInBounds_toArray]
def Nw (x:Dx) (S:Hp) (d:Nat) (D:az) (F:ai) (kv:U) (aZ:List Int):Prop:=
 ∃ a c,kv = O a aZ.length c/\aZ.length<=9223372036854775807/\∀ i,i<aZ.length->∃ b f,a=X ⟨b,f,V⟩ /\
  ∀ g Y e,e.aZ=D.aZ->ag g (fQ { x with Y:=Y } S d e*F)->g.cell? ⟨b,f+i,V⟩=X (N .i64 (aZ.getD i 0))
def OE (x:Dx) (S:Hp) (d:Nat) (D:az) (aZ:List Int) (F:ai) (w:Q) (e:Ending) (b:Q):Prop:=
 e = I (.tuple #[])/\ag b (aL S d (D.fy aZ)*F)/\aj w b
def KE (x:Dx) (S:Hp) (d:Nat) (D:az) (aZ:List Int) (F:ai) (w:Q) (n:Nat) (u:U) (wr:Q):Prop:=
 ∃ (k:Nat) (Y:List (U × List UInt8)),k<=n/\u = N .i64 k/\ag wr (fQ { x with Y:=Y } S d (D.dY aZ k)*F)/\aj w wr
theorem og (D:az) (aZ:List Int):∀ k,(D.dY aZ k).aZ=D.aZ/\(D.dY aZ k).wait=D.wait/\(D.dY aZ k).sec.length=D.sec.length
 | 0=>⟨rfl,rfl,rfl⟩
 | k+1=>by
  obtain ⟨b,c,e⟩:=og D aZ k;unfold az.dY
  split
  .unfold az.qR
   split
   .exact ⟨b,c,by simp [az.done,e]⟩
   .split
    .exact ⟨b,c,e⟩
    .exact ⟨b,c,e⟩
  .exact ⟨b,c,e⟩
theorem Ee (w:Q) (S:Hp) (d:Nat) (D:az) (x:Dx) (aZ:List Int) (kv:U) (F:ai) (h:ag w (fQ x S d D*F)) (hD:D.Ok) (hk:Nw x S d D F kv aZ) :
  Calls R 218 #[H (X ⟨d,0,V⟩),kv] w (OE x S d D aZ F w):=by
 obtain ⟨ka,kc,rfl,R0,f0⟩:=hk;obtain ⟨wa,wc,G⟩:=h.OU;have hn:(D.wait.length:Int)<=1000000:=by have:=hD.many;omega
 have W:w.cell? ⟨d,1,V⟩=X (O wa D.wait.length wc):=(h.cQ 1).trans (by simp only [Dx.cells,G];rfl);have b0:=ae G;have p0:=ae f0;clear G f0
 go_enter func218,ntmps218
 go_wp2
 go_loopw [14] (fun u wr=>KE x S d D aZ F w D.wait.length u wr) (fun u _=>D.wait.length-(intOf u).toNat)
 case atStart=>exact ⟨0,x.Y,Nat.zero_le _,rfl,h,aj.refl w⟩
 case round=>
  obtain ⟨k,Y,S0,rfl,b,o0⟩:=hrel;clear W;obtain ⟨e1,t,C⟩:=og D aZ k
  by_cases T0:k<D.wait.length
  .have U0:(k:Int)<(D.wait.length:Int):=by omega
   have V0:x.Z.length=D.wait.length:=b.po.trans (by rw [t]);have P:k<x.Z.length:=by omega
   obtain ⟨g,G0⟩:∃ g,wa=X ⟨g,0,V⟩:=by
    have D0:0<x.Z.length:=by omega
    have:=pN b.bg.2.aq D0;obtain ⟨g,K0,hh⟩:=this;rw [b0.out] at hh;exact ⟨_,(Value.slice.inj hh).1⟩
   subst G0
   have u0:wr.cell? ⟨g,k*2,V⟩=X (N .i64 x.Z[k].1)/\wr.cell? ⟨g,k*2+1,V⟩=X x.Z[k].2.1:=by
    have:=b.bg.2.aq;simp only [b0.out] at this;exact this.js P
   obtain ⟨d0,e0⟩:=u0
   have p:D.wait[k]?=X (x.Z[k].1,x.Z[k].2.2):=by
    rw [<- t,<- b.bg.1.wait];simp [P]
   have A:pF 5 S x.Z[k].2.1 x.Z[k].2.2:=b.bg.1.lJ _ (List.getElem_mem P);obtain ⟨i,j,g0⟩:=im A;rw [g0] at e0 A
   have k0:(D.dY aZ k).has x.Z[k].1:=by
    have:=hD.wait _ (List.mem_of_getElem? p);unfold az.has at this ⊢;rw [C];exact this
   generalize x.Z[k].1=c at d0 p k0;generalize x.Z[k].2.2=f at e0 p A;have q:=ae p;have H0:∀ (r:Array U),(wr.alloc (M r 230 (0,0))).cell? ⟨wr.heap.size,0,V⟩=r[0]?:=fun r=>(b.alloc (M r 230 (0,0))).cell 0;clear p g0 e1 t C H0;have L0:g<wr.heap.size:=D2 wr _ d0;have l:=b.alloc (M #[N .i64 c,O i f.length j] 230 (0,0));have o:=o0.alloc (M #[N .i64 c,O i f.length j] 230 (0,0))
   by_cases n0:k<aZ.length
   .have x0:(k:Int)<(aZ.length:Int):=by omega
    obtain ⟨kb,ko,rfl,m0⟩:=p0.out k n0;have l0:=m0 wr Y _ (og D aZ k).1 b;have N0:kb<wr.heap.size:=D2 wr _ l0;clear m0;generalize hf:aZ.getD k 0=c0 at l0;have B:=ae hf;clear hf
    by_cases h0:c0=1
    .subst h0
     go_wp2_with (go_at_call 163;refine (AL _ S d _ _ (c,f) _ _ l.right A k0).mono ?_;rintro e w2 ⟨rfl,v,s⟩)
     go_roundw
     case rel=>
      refine ⟨k+1,Y.set c.toNat (O i f.length j,f),by omega,by go_num,?_,o.trans s⟩
      have e:D.dY aZ (k+1)=(D.dY aZ k).done (c,f):=by
       rw [az.dY,q.out];simp only [az.qR,B.out,if_true]
      rw [e];exact v
     case measure=>simp [intOf];omega
    .by_cases i0:c0=2
     .subst i0
      have m:=l.ah.bg.1;obtain ⟨w2,F0,v,s,E⟩:=ag.mapUpdate (P:=R) underlying102 underlying3 (w:=(wr.alloc (M #[N .i64 c,O i f.length j] 230 (0,0))).drew) l.ah.bg.2.aD c (.agg #[]);have c2:(wr.alloc (M #[N .i64 c,O i f.length j] 230 (0,0))).cell? ⟨d,2,V⟩=X (.map (X x.tm)):=l.ah.cQ 2;have cb:(wr.alloc (M #[N .i64 c,O i f.length j] 230 (0,0))).cell? ⟨wr.heap.size,0,V⟩=X (N .i64 c):=l.cell 0;have q0:w2.cell? ⟨d,2,V⟩=X (.map (X x.tm)):=(E.1 _).trans c2;have r0:w2.cell? ⟨wr.heap.size,0,V⟩=X (N .i64 c):=(E.1 _).trans cb;clear E
      go_wp2_with fail
      generalize s0:wr.alloc (M #[N .i64 c,O i f.length j] 230 (0,0))=W1 at F0 c2 cb s o ⊢;clear s0
      go_region_held3 (fun w'=>w'.cell? ⟨d,2,V⟩=X (.map (X x.tm))/\w'.cell? ⟨wr.heap.size,0,V⟩=X (N .i64 c)) (first|go_keep|exact ⟨q0,r0⟩) (fail)
      go_wp2
      go_roundw
      case rel=>
       refine ⟨k+1,Y,by omega,by go_num,?_,o.drew.trans s⟩
       have e:D.dY aZ (k+1)=(D.dY aZ k).Oc (c,f):=by
        rw [az.dY,q.out];simp only [az.qR,B.out];rfl
       rw [e];rw [Bb] at v;exact (ag.iz (D:=(D.dY aZ k).Oc (c,f)) ⟨m.sec,m.rU,m.wait,m.lJ⟩ v.rG).ig
      case measure=>simp [intOf];omega
     .go_wp2
      go_roundw
      case rel=>
       refine ⟨k+1,Y,by omega,by go_num,?_,o⟩
       have e:D.dY aZ (k+1)=D.dY aZ k:=by
        rw [az.dY,q.out];simp only [az.qR,B.out,if_neg h0,if_neg i0]
       rw [e];exact l.right
      case measure=>simp [intOf];omega
   .have x0:¬ (k:Int)<(aZ.length:Int):=by omega
    go_wp2
    go_roundw
    case rel=>
     refine ⟨k+1,Y,by omega,by go_num,?_,o⟩
     have e:D.dY aZ (k+1)=D.dY aZ k:=by
      rw [az.dY,q.out];simp [az.qR,Z0,List.getElem?_eq_none (Nat.le_of_not_lt n0)]
     rw [e];exact l.right
    case measure=>simp [intOf];omega
  .obtain rfl:k=D.wait.length:=by omega
   have W:=b.cQ 1;have k6:=b.cQ 6;have k7:=b.cQ 7;have k8:=b.cQ 8;have k9:=b.cQ 9;have kf:=b.np;simp only [Dx.cells] at W k6 k7 k8 k9;have m:=b.bg.1;have H2:=((((b.bg.2.setCell 1 (O V 0 0)).setCell 6 (J K)).setCell 7 (J L)).setCell 8 (N .i64 0)).setCell 9 (O V 0 0);clear e1 t C
   go_wp2
   go_end0
   refine ⟨rfl,?_,((((o0.setCell _ _).setCell _ _).setCell _ _).setCell _ _).setCell _ _⟩;have H3:=((H2.kD).aD.right.eC 230 2).eC 3 1;refine ag.devOf (x:={ x with Y:=Y,wv:=O V 0 0,Z:=[],kv:=O V 0 0 }) (ag.iz ⟨m.sec,m.rU,rfl,by simp⟩ ?_)
   exact H3.to (by
    simp only [Dx.cells,az.fy,List.length_nil,bE,hU,List.flatMap_nil,List.map_nil]
    ac_rfl)
end Go.Proofs.Nn
