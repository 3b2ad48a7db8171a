/- Steps. -/
import Derived.Test.YtebfaobobccikaaGreatDoorSP2
import Derived.Test.YtebfaobobccikaaGreatDoorRows
import Derived.Deep.LoopGhost
import Derived.Deep.RegionHeld3
import Derived.Laws.CopyRow
import Derived.Deep.MidRow
set_option linter.all false
set_option maxRecDepth 99999
set_option maxHeartbeats 0
open Go.SL
open Go.Value renaming int->N,slice->O,pointer->H,bool->J
open Go.Obj renaming cells->M
open Go.Ending renaming returned->I
open Go renaming World->Q,Value->U
open Go.Proofs.Tryz renaming prog->R
open Option renaming some->X,none->V
open Bool renaming true->K,false->L
open Go.Proofs.Tryz
open Prod renaming fst->X0
open List renaming length_cons->Y0,getD->A1,length_map->K1,map_set->R1,eq_nil_of_length_eq_zero->X1,getElem?_eq_getElem->D2
open UInt8 renaming ofInt->Z0
open Go.Value renaming int->D1
open Nat renaming zero_add->E1
open Int renaming pow_pos->L1,mul_nonneg->M1,mul_le_mul_of_nonneg_right->N1,eq_ofNat_of_zero_le->O1,toNat_natCast->T1,emod_add_mul_ediv->Z1
open Array renaming getElem?_setIfInBounds->S1
open Go.World renaming size_alloc->U1,block_lt_of_cell?->E2
open List.Perm renaming refl->V1
open BitVec renaming toNat_ofInt->Y1
namespace Go.SL
open RowKit
variable {v v' xv:U} {P:Program} {ops:Array Oper} {o:Oper}
def bW (n:Nat) (l:List UInt8):List UInt8:=(l++zs n).take n
theorem cC (n:Nat) (l:List UInt8):(bW n l).length=n:=by simp [bW,bq]
theorem kp {n:Nat} {l:List UInt8} (h:l.length=n):bW n l=l:=by rw [bW,List.take_left' h]
theorem aF {w:Q} {F:ai} {T:TypeId} {sz n:Nat} {xs:List U} (h:ag w (sl T sz v n xs*F)):∃ a c,v = O a n c:=by
 rcases h.dm with ⟨rfl,rfl,_,_⟩|⟨g,b,e,rfl,_⟩
 .exact ⟨_,_,rfl⟩
 .exact ⟨_,_,rfl⟩
theorem rf {w:Q} {F:ai} {T:TypeId} {b n:Nat} {e:List U} (h:ag w (sl T b v n e*F)) (j:0<n):∃ g c,v = O (X ⟨g,0,V⟩) n c:=by
 rcases h.dm with ⟨rfl,rfl,_,_⟩|⟨g,f,i,rfl,_⟩
 .omega
 .exact ⟨_,_,rfl⟩
theorem fH {w g:Q} {rest:List Oper} {a:Act} {b:Exit->Act->Q->Prop} {c e f:TypeId}
  (l:(Builtin.copy_ #[c,e] f #[v,v']).run P w = .ok xv g) (s x:Operand)
  (j:o.guard=V) (p:o.type=f) (k:o.op=Op.call { callee:=Callee.builtin Builtin.copy,args:=#[s,x],argTypes:=#[c,e] })
  (m:a.eval s=v) (q:a.eval x=v')
  (h:wpList P ops b rest (a.put o.dst xv) g):wpList P ops b (o :: rest) a w:=by
 refine wpList_plain j fun r i=>?_;subst p m q;unfold Oper.wp;simp [execOp,k,resolve,invoke,builtin,l,Result.andThen];exact i _ _ h
theorem nr {a:Act} {w f:Q} {b:Act->Q->Prop} {g:Exit->Act->Q->Prop} {E:Prop} {c e ty:TypeId}
  (l:(Builtin.append_ #[c,e] ty #[v,v']).run P w = .ok xv f) (j:o.guard=V) (d s:Operand) (p:o.type=ty)
  (k:o.op = .call { callee:=.builtin .append,args:=#[d,s],argTypes:=#[c,e] }) (i:a.eval d=v) (m:a.eval s=v')
  (h:b (a.put o.dst xv) f):if Region.wanted o (yielded ops a.tmps)=K then Oper.wp P o a w b g else E:=by
 have q:Region.wanted o (yielded ops a.tmps)=K:=by simp [Region.wanted,j]
 rw [if_pos q];subst p i m;unfold Oper.wp;simp [execOp,k,resolve,invoke,builtin,l,Result.andThen];exact h
theorem enters {f:FuncId} {b:Func} {c:Code} (i:P.funcs[f]?=X b) (j:(b.name == "runtime.NumGoroutine")=L) (h:b.body=X c):∀ e w,(callFunc f e).run P w = .ok (.enter f e) w:=by
 intro e w;have g:b.name ≠ "runtime.NumGoroutine" := by simpa using j
 simp [callFunc,i,g,h,mark]
theorem pT {a:Act} {w:Q} {g:Act->Q->Prop} {j:Exit->Act->Q->Prop} {E:Prop} {n:FuncId} {f:Array U} {i:Ending->Q->Prop}
  (q:Calls P n f w i) (s:∀ b w,(callFunc n b).run P w = .ok (.enter n b) w) (t:o.guard=V) (b:Array Operand) (ts:Array TypeId)
  (u:o.op = .call { callee:=.value (.func n),args:=b,argTypes:=ts }) (m:b.toList.map a.eval=f.toList)
  (h:∀ e c,i e c->∃ v,e = I v/\g (a.put o.dst v) c) :
  if Region.wanted o (yielded ops a.tmps)=K then Oper.wp P o a w g j else E:=by
 have A:Region.wanted o (yielded ops a.tmps)=K:=by simp [Region.wanted,t]
 rw [if_pos A]
 have p:b.map a.eval=f:=by
  apply Array.toList_inj.1;rw [Array.toList_map];exact m
 subst p;unfold Oper.wp
 have r:(execOp a.eval o).run P w = .ok (.enter n (b.map a.eval)) w:=by
  simp [execOp,u,resolve,invoke,Act.eval,Deferred.ofValue,go_sem,s]
 rw [r,Oper.upon_enter];refine q.mono ?_;intro e c l;obtain ⟨v,rfl,k⟩:=h e c l;exact k
theorem Rd.shape {w:Q} {l:List UInt8} (h:Rd w v l):∃ a c,v = O a l.length c:=by
 rcases h.2 with ⟨rfl,b⟩|⟨a,c,rfl,_⟩
 .exact ⟨_,_,by rw [b]⟩
 .exact ⟨_,_,rfl⟩
theorem Rd.bD {w b:Q} {l:List UInt8} {P:ai} (h:Rd w v l) (s:ag b (P*whole w)):Rd b v l:=pP.carry h fun a u c=>s.bJ c
theorem s6 (l:List UInt8):∀ v ∈ l.map u8,v.oneCell'=K:=by
 intro v b;obtain ⟨x,_,rfl⟩:=List.mem_map.1 b
 rfl
theorem At.take {w:Q} {a:Addr} {xs:List U} (h:At w a xs) (n:Nat):At w a (xs.take n):=fun j u b=>h j u (by
 rw [List.getElem?_take] at b
 split at b
 .exact b
 .cases b)
theorem LV {w:Q} {g:Nat} {l:List UInt8} {T dT:TypeId} {F:ai} (j:P.underlying dT=X (.slice T)) (i:(P.info? T).map (·.size)=X 1)
  (h:ag w (pt g (M (eA (zs 512)) T (0,0))*F)) (b:Rd w v l) (e:TypeId) :
  ∃ f p,(Builtin.copy_ #[dT,dT] e #[O (X ⟨g,0,V⟩) 512 512,v]).run P w = .ok p f/\ag f (pt g (M (eA (bW 512 l)) T (0,0))*F)/\aj w f:=by
 obtain ⟨q,b⟩:=b;rcases b with ⟨rfl,k⟩|⟨a,c,rfl,o⟩
 .have:l=[]:=X1 k
  subst this;refine ⟨w,_,run_copy_nil (P:=P) w dT dT e T ⟨g,0,V⟩ 512 512 j (by rw [i];rfl),?_,aj.refl w⟩;rw [bW,List.nil_append,List.take_of_length_le (by rw [bq];exact Nat.le_refl _)];exact h
 .have:=run_copy_row (P:=P) w dT dT e T g 0 512 512 a l.length c (eA (zs 512)) T ((l.take 512).map u8) j i h.heap (by simp [Nat.min_comm]) (by rw [List.map_take];exact o.take 512)
   (by simp [fi,bq];omega) (s6 _)
  refine ⟨_,_,this,?_,(aj.refl w).setRow _ _⟩;have m:=h.setRow (cs':=((eA (zs 512)).toList.take 0++(l.take 512).map u8++(eA (zs 512)).toList.drop (0+((l.take 512).map u8).length)).toArray);refine m.to ?_;congr 3;simp only [eA,bW,zs,List.take_zero,List.nil_append,E1,K1,List.length_take,List.map_append,List.map_take,List.take_append,List.map_replicate,List.drop_replicate,List.take_replicate,List.toList_toArray];congr 3;omega
def mr (v:U) (w:Q) (e:Ending) (b:Q):Prop:=e = I v/\ag b (whole w)/\aj w b
def dH (n:Int) (j:Nat):List UInt8:=(List.range j).map fun i=>Z0 (n/(256:Int) ^ i)
theorem bu (n:Int) (j:Nat):(dH n j).length=j:=by simp [dH]
theorem A8 (n:Int) (j:Nat):dH n (j+1)=dH n j++[Z0 (n/(256:Int) ^ j)]:=by simp [dH,List.range_succ]
theorem ag.ei {w w':Q} {b:ai} (h:ag w' (SL.whole w)) (g:ag w b):ag w' b:=(ag.under (h.to (cW _).symm) g).to (cW _)
def iY (l:List UInt8):Nat->Int
 | 0=>0
 | j+1=>iY l j+((l.getD j 0).toNat:Int)*(256:Int) ^ j
theorem iu (l:List UInt8) (j:Nat):0<=iY l j/\iY l j<(256:Int) ^ j:=by
 induction j with
 | zero=>simp [iY]
 | succ j h=>
  have c:((l.getD j 0).toNat:Int)<256:=by have:=UInt8.toNat_lt (l.getD j 0);omega
  have b:0<=((l.getD j 0).toNat:Int):=by omega
  have g:0<(256:Int) ^ j:=L1 (by decide);rw [iY,Int.pow_succ];generalize ((l.getD j 0).toNat:Int)=x at *;generalize (256:Int) ^ j=p at *;have e:0<=x*p:=M1 b (by omega);have f:x*p<=255*p:=N1 (by omega) (by omega);omega
theorem yH {j:Nat} (h:j<=6):(256:Int) ^ j<=281474976710656:=by
 obtain rfl|rfl|rfl|rfl|rfl|rfl|rfl:j=0\/j=1\/j=2\/j=3\/j=4\/j=5\/j=6:=by omega
 all_goals decide
theorem OO {a x:Int} {i:Nat} (h:0<=a) (m:a<2 ^ i) (l:0<=x) (k:x*2 ^ i+a<18446744073709551616):bits .or .u64 a (x*2 ^ i)=a+x*2 ^ i:=by
 obtain ⟨A,rfl⟩:=O1 h;obtain ⟨b,rfl⟩:=O1 l;have c:(b:Int)*2 ^ i=((2 ^ i*b:Nat):Int):=by rw [Nat.mul_comm];simp
 rw [c] at k ⊢
 have g:A<2 ^ i:=by
  have:((2 ^ i:Nat):Int)=(2:Int) ^ i:=by simp
  omega
 have j:=Nat.two_pow_add_eq_or_of_lt g b;show IntKind.u64.wrap ((BitVec.ofInt 64 (A:Int) ||| BitVec.ofInt 64 ((2 ^ i*b:Nat):Int)).toNat:Nat)=_
 rw [BitVec.toNat_or,Y1,Y1];have e:((A:Int)%((2 ^ 64:Nat):Int)).toNat=A:=by omega
 have f:(((2 ^ i*b:Nat):Int)%((2 ^ 64:Nat):Int)).toNat=2 ^ i*b:=by omega
 rw [e,f,Nat.or_comm,<- j,IntKind.wrap_u64];omega
theorem QD (l:List UInt8) (b j:Nat) (r:j<6) :
  bits .or .u64 (iY (l.drop b) j) (IntKind.u64.wrap (IntKind.u64.wrap ((l[b+j]?.getD 0).toNat:Int)*2 ^ (8*j)))=iY (l.drop b) (j+1):=by
 have s:((l[b+j]?.getD 0).toNat:Int)<256:=by have:=UInt8.toNat_lt (l[b+j]?.getD 0);omega
 have c:0<=((l[b+j]?.getD 0).toNat:Int):=by omega
 obtain ⟨o,e⟩:=iu (l.drop b) j;have h:(l.drop b).getD j 0=l[b+j]?.getD 0:=by simp [A1]
 rw [iY,h];have m:(256:Int) ^ j=2 ^ (8*j):=by rw [Int.pow_mul];rfl
 have i:=yH (j:=j) (by omega);have k:0<(256:Int) ^ j:=L1 (by decide);generalize ((l[b+j]?.getD 0).toNat:Int)=x at *;rw [m] at e i k ⊢;have p:0<=x*2 ^ (8*j):=M1 c (by omega);have q:x*2 ^ (8*j)<=255*2 ^ (8*j):=N1 (by omega) (by omega);have f:IntKind.u64.wrap x=x:=by rw [IntKind.wrap_u64];omega
 have g:IntKind.u64.wrap (x*2 ^ (8*j))=x*2 ^ (8*j):=by rw [IntKind.wrap_u64];omega
 rw [f,g];exact OO o e c (by omega)
theorem xE (n:Int) (j:Nat):n%(256:Int) ^ (j+1)=n%(256:Int) ^ j+(n/(256:Int) ^ j%256)*(256:Int) ^ j:=by
 have b:0<(256:Int) ^ j:=L1 (by decide);rw [Int.pow_succ];generalize (256:Int) ^ j=p at b;have i:=Z1 n p;have g:=Z1 (n/p) 256;have k:=Int.emod_nonneg n (by omega:p≠0);have l:=Int.emod_lt_of_pos n b;have h:=Int.emod_nonneg (n/p) (by decide:(256:Int)≠0);have m:=Int.emod_lt_of_pos (n/p) (by decide:(0:Int)<256);have o:0<=(n/p%256)*p:=M1 h (by omega);have r:(n/p%256)*p<=255*p:=N1 (by omega) (by omega)
 have e:n=(n%p+(n/p%256)*p)+(p*256)*(n/p/256):=by
  have s:p*(n/p)=(n/p%256)*p+(p*256)*(n/p/256):=by
   conv=>lhs;rw [<- g]
   rw [Int.mul_add,<- Int.mul_assoc,Int.mul_comm p]
  omega
 generalize t:n/p/256=q at e;generalize u:n%p+n/p%256*p=x at e;have c:0<=x:=by omega
 have f:x<p*256:=by omega
 rw [e,Int.add_mul_emod_self_left,Int.emod_eq_of_lt c f]
theorem Mx (n:Int):((Z0 n).toNat:Int)=n%256:=by
 simp [Z0,UInt8.toNat_ofNat'];omega
theorem mZ (n:Int) (s:Nat) (rest:List UInt8):∀ j,j<=s->iY (dH n s++rest) j=n%(256:Int) ^ j:=by
 intro j
 induction j with
 | zero=>intro _;simp [iY]
 | succ j b=>
  intro c;rw [iY,b (by omega),xE];congr 1
  have:(dH n s++rest).getD j 0=Z0 (n/(256:Int) ^ j):=by
   rw [A1,List.getElem?_append_left (by rw [bu];omega)];simp [dH,List.getElem?_map,List.getElem?_range (show j<s by omega)]
  rw [this,Mx]
def ints (l:List Int):Array U:=(l.map (D1 .i64)).toArray
theorem er (l:List Int):(ints l).size=l.length:=by simp [ints]
theorem dY (l:List Int) (i:Nat):(ints l)[i]?=l[i]?.map (D1 .i64):=by simp [ints]
theorem gM (l:List Int) (i:Nat) (x:Int):(ints l).setIfInBounds i (N .i64 x)=ints (l.set i x):=by simp [ints,R1]
theorem bL {l:List Int} {i:Nat} (h:i<l.length):(ints l)[i]?=X (N .i64 (l.getD i 0)):=by
 rw [dY,A1,D2 h];rfl
theorem Jj (n:Nat):madeCells (D1 .i64 0).cells (n*1)=ints (List.replicate n 0):=by
 apply Array.ext
 .simp [size_madeCells,er]
 .intro i b c
  simp [madeCells,ints,Value.cells,Nat.mod_one]
def nj (n:Int) (w:Q) (e:Ending) (b:Q):Prop:=e = I (N .i64 n)/\w=b
abbrev az (b:Nat):U:=H (X ⟨b,0,V⟩)
def pX (w:Q) (v:U) (l:List Int):Prop:=
 (∃ x c,v = O x 0 c/\l=[])\/∃ g o c,v = O (X ⟨g,o,V⟩) l.length c/\l.length<=c/\c<=maxLen/\∀ k,k<l.length->w.cell? ⟨g,o+k,V⟩=X (N .i64 (l.getD k 0))
def gj:Array U->Nat->List U->Array U
 | b,_,[]=>b
 | b,o,v :: c=>gj (b.setIfInBounds o v) (o+1) c
theorem wF:∀ (c:List U) (b:Array U) (o:Nat),(gj b o c).size=b.size
 | [],b,o=>rfl
 | v :: c,b,o=>by rw [gj,wF c];simp
theorem jl:∀ (b:List U) (c:Array U) (o k:Nat),o+b.length<=c.size->(gj c o b)[k]?=if o<=k/\k<o+b.length then b[k-o]? else c[k]?
 | [],c,o,k,h=>by rw [gj,if_neg (by simp)]
 | v :: b,c,o,k,h=>by
  simp only [Y0] at h;rw [gj,jl b _ (o+1) k (by simp;omega)]
  by_cases f:k=o
  .subst f
   rw [if_neg (by omega),if_pos (by simp)];simp [S1,show k<c.size by omega]
  .by_cases e:o<=k/\k<o+(v :: b).length
   .simp only [Y0] at e
    rw [if_pos (by omega),if_pos (by simp only [Y0];omega)];rw [show k-o=(k-(o+1))+1 by omega,List.getElem?_cons_succ]
   .simp only [Y0] at e
    rw [if_neg (by omega),if_neg (by simp only [Y0];omega)];rw [S1,if_neg (by omega)]
theorem ag.setCells:∀ (c:List U) (o:Nat) {w:Q} {g:Nat} {b:Array U} {T:TypeId} {F:ai},ag w (pt g (M b T (0,0))*F)->ag (w.setCells g o c) (pt g (M (gj b o c) T (0,0))*F)
 | [],o,w,g,b,T,F,h=>h
 | v :: c,o,w,g,b,T,F,h=>ag.setCells c (o+1) (h.setCell o v)
theorem aj.setCells:∀ (c:List U) (o:Nat) {a b:Q} (g:Nat),aj a b->aj a (b.setCells g o c)
 | [],o,a,b,g,h=>h
 | v :: c,o,a,b,g,h=>aj.setCells c (o+1) g (h.setCell ⟨g,o,V⟩ v)
theorem ag.there {w:Q} {g:Nat} {b:Array U} {T:TypeId} {F:ai} (h:ag w (pt g (M b T (0,0))*F)) {o n:Nat} (e:o+n<=b.size):w.there g o n:=fun j c=>
 ⟨by rw [h.cell,Array.getElem?_eq_getElem (by omega)];rfl,h.frozen _⟩
end Go.SL
namespace Go.Proofs.Ba
open RowKit SL
theorem gY:(prog.info? 5).map (fun i=>(i.zero,i.size,i.bytes))=X (X (N .u8 0),1,1):=by kernel_rfl
theorem fB (n:Nat) (g:n<=281474976710656) (w:Q):(Instr.makeSlice 22 (N .i64 n) (N .i64 n)).run R w =
  .ok (O (X ⟨w.heap.size,0,V⟩) n n) (w.alloc (M (eA (zs n)) 5 (0,0))):=by
 obtain ⟨i,c,f,e,b⟩:=info_parts gY;have:=run_make (P:=R) w 22 5 i _ underlying22 c f .i64 .i64 n n (by omega) (by omega) (by rw [b];omega) (by omega);rw [this,e];simp only [T1];rw [j3]
def R5 (w:Q) (l:List UInt8) (e:Ending) (b:Q):Prop:=∃ v,e = I v/\ag b (bs 5 v l*whole w)/\aj w b
theorem kh (w:Q) (v:U) (l:List UInt8) (b:Rd w v l) (j:l.length<=1000000000) :
  Calls R 188 #[v] w (R5 w l):=by
 obtain ⟨C,i,o,m,h⟩:=info_parts gY;obtain ⟨s,b⟩:=b;rcases b with ⟨rfl,q⟩|⟨a,c,rfl,r⟩
 .have:l=[]:=X1 q
  subst this;have t:=fun w=>Lib.run_eql_slice_nil (P:=R) w 22 5 V 0 0 0 0 underlying22;clear j
  go_enter func188,ntmps188
  go_wp2
  go_ret
  exact ⟨_,rfl,(ag.whole w).fq _ _,aj.refl w⟩
 .have g:pP (w.alloc (M #[] 5 (0,0))) 1 (O (X a) l.length c) l.length (l.map u8):=
   pP.alloc ⟨s,.inr ⟨a,c,rfl,r⟩⟩ _
  have e:=(ag.whole w).alloc (M #[] 5 (0,0));have f:=ag.oa (n:=0) (cap:=0) (sz:=1) e (Nat.le_refl _) (by decide) rfl;obtain ⟨B,E,k,u,A⟩:=ag.append (P:=R) (ty:=22) underlying22 i o m h rfl f g (by simp [u8,Value.oneCell']) (by unfold maxLen;omega) (by omega);have p:=ae k;clear k e f g i o m h j;have t:=fun w=>Lib.run_eql_slice_nil (P:=R) w 22 5 (X a) l.length c 0 0 underlying22
  go_enter func188,ntmps188
  go_wp2_with (at_builtin;refine wpList_append_run p.out _ _ rfl rfl rfl rfl rfl ?_)
  go_ret
  refine ⟨B,rfl,u.to ?_,((aj.refl w).alloc _).trans A⟩;simp [bs]
def PJ (w:Q) (f:KV) (e:Ending) (b:Q):Prop:=∃ c D,e = I (.map (X c))/\D.Perm f/\ag b (mp c D*whole w)/\aj w b
def JH (w:Q) (b:Nat) (o:Obj) (c:KV) (k:Nat) (wr:Q):Prop:=
 ∃ D e,c.length<=D.length+k/\Iter b o c D e/\ag wr (pt (w.heap.size+1) e*(mp w.heap.size D*whole w))/\aj w wr
theorem mI (w:Q) (v:U) (c:KV) (hr:V9 w v c) :
  Calls R 185 #[v] w (PJ w c):=by
 have W:=@je R _ _ _ underlying172;rcases hr with ⟨rfl,rfl⟩|⟨b,o,rfl,e,q⟩
 .have g:∀ w,(Instr.range 172 (.map V)).run R w = .ok (H (X ⟨w.heap.size,0,V⟩)) (w.alloc (.mapIter V 0 #[] 0)):=by
   intro w;simp [Instr.range,run_underlying underlying172]
  have r:∀ B,(Instr.next (H (X ⟨w.heap.size+1,0,V⟩)) L B).run R ((w.alloc (.map #[] 0)).alloc (.mapIter V 0 #[] 0)) = .ok (.tuple #[J L]) ((w.alloc (.map #[] 0)).alloc (.mapIter V 0 #[] 0)):=by
   intro B;have:=(ag.whole (w.alloc (.map #[] 0))).alloc (.mapIter V 0 #[] 0);have h:=this.heap;rw [U1] at h;simp only [Instr.next,getObj,Sem.run_bind,Sem.run,h,Result.andThen]
   rfl
  go_enter func185,ntmps185
  go_wp2
  refine wp_loop_rounds 1 ?_;rw [rounds_succ]
  go_wp2
  go_ret
  exact ⟨_,[],rfl,V1 _,(((ag.whole w).alloc (.map #[] 0)).uy isMap_empty |>.alloc (.mapIter V 0 #[] 0)).right,((aj.refl w).alloc _).alloc _⟩
 .have k:=((ag.whole w).alloc (.map #[] 0)).uy isMap_empty
  have f:(w.alloc (.map #[] 0)).heap[b]?=X o:=k.F3 e;obtain ⟨A,g,C⟩:=lB (P:=R) underlying172 f q;rw [U1] at g;have P:=CX (P:=R) e q underlying172 3;have H1:=ae f;clear f
  go_enter func185,ntmps185
  go_wp2
  go_loopg [] c.length (fun g0 wr=>JH w b o c g0 wr)
  case atStart=>
   have j:=k.alloc A;rw [U1] at j;exact ⟨[],A,by simp,C,j,((aj.refl w).alloc _).alloc _⟩
  case round=>
   obtain ⟨D,m0,k0,E,i,u⟩:=hrel;clear g W P;have l:wr.heap[b]?=X o:=(i.to (ax _ _ _).symm).F3 e;rcases i.next (P:=R) l E with ⟨s,r⟩|⟨p,f0,w2,hp,b0,r,c0,m,d0,h0,i0⟩
   .have Hp:=ae s;clear s
    go_wp2
    go_ret
    exact ⟨_,D,rfl,Hp.out,i.right,u⟩
   .obtain ⟨w3,l0,t,e0,_⟩:=ag.mapUpdate (P:=R) underlying172 underlying3 (c0.to (aI _ _ _)) p.1 p.2
    clear l
    go_wp2
    have G:=Al m;rw [List.length_append,List.length_singleton] at G
    go_roundg (gk-1)
    case measure=>omega
    case rel=>
     refine ⟨D++[p],f0,by simp;omega,m,?_,(u.trans d0).trans e0⟩;rw [Pu b0] at t;exact t.to (aI _ _ _)
end Go.Proofs.Ba
namespace Go.SL
open RowKit
variable {rd v:U} {P:Program} {k:IntKind}
abbrev CB:=List (Int × List UInt8)
def aT (T:TypeId) (S:Hp) (v:U) (sh:Bool) (C:CB):ai:=fun h=>∃ Z:List (Int × U × List UInt8),
  (Z.map fun z=>(z.1,z.2.2)).Perm C/\(Z.map X0).Nodup/\(∀ z ∈ Z,qS T S z.2.1 z.2.2) /\
  ((v = .map V/\Z=[]/\h=fun _=>V) \/
   (∃ m o,v = .map (X m)/\sh=K/\S m=X o/\IsMap o (Z.map fun z=>(z.1,z.2.1))/\h=fun _=>V) \/
   (∃ m,v = .map (X m)/\sh=L/\mp m (Z.map fun z=>(z.1,z.2.1)) h))
theorem ie {T:TypeId} {S S':Hp} {sh:Bool} {C:CB} (e:Ext S S') (h:Hp) (b:aT T S v sh C h):aT T S' v sh C h:=by
 obtain ⟨Z,f,g,i,c⟩:=b;refine ⟨Z,f,g,fun z q=>(i z q).mono e,?_⟩;rcases c with c|⟨m,o,j,k,l,p⟩|c
 .exact .inl c
 .exact .inr (.inl ⟨m,o,j,k,e _ _ l,p⟩)
 .exact .inr (.inr c)
theorem JM (T:TypeId) (S:Hp) (b:Bool):aT T S (.map V) b [] (fun _=>V):=⟨[],V1 _,List.nodup_nil,by simp,.inl ⟨rfl,rfl,rfl⟩⟩
theorem ag.mq {T:TypeId} {w:Q} {S:Hp} {j:Bool} {C:CB} {F:ai} (h:ag w (aT T S v j C*(ak S*F))) :
    ∃ Z:List (Int × U × List UInt8),(Z.map fun z=>(z.1,z.2.2)).Perm C/\(Z.map X0).Nodup/\(∀ z ∈ Z,qS T S z.2.1 z.2.2) /\
      V9 w v (Z.map fun z=>(z.1,z.2.1)) /\
      ((v = .map V/\ag w (ak S*F))\/(j=K/\ag w (ak S*F)) \/
       (∃ m,v = .map (X m)/\j=L/\ag w (mp m (Z.map fun z=>(z.1,z.2.1))*(ak S*F)))):=by
  obtain ⟨k,a,p,l,⟨Z,q,r,z3,z4⟩,f,d,rfl⟩:=h;have i:ag w (ak S*F):=⟨l,fun b o s=>a b o (by rcases d b with e|e <;> simp_all [join]),f⟩
  refine ⟨Z,q,r,z3,?_,?_⟩
  · rcases z4 with ⟨rfl,rfl,_⟩|⟨m,o,rfl,_,c,g,_⟩|⟨m,rfl,_,c⟩
    · exact .inl ⟨rfl,rfl⟩
    · exact .inr ⟨m,o,rfl,i.GO c,g⟩
    · obtain ⟨o,g,rfl⟩:=c
      exact .inr ⟨m,o,rfl,a m o (by simp [join,one]),g⟩
  · rcases z4 with ⟨rfl,rfl,_⟩|⟨m,o,rfl,rfl,c,g,_⟩|⟨m,rfl,rfl,c⟩
    · exact .inl ⟨rfl,i⟩
    · exact .inr (.inl ⟨rfl,i⟩)
    · exact .inr (.inr ⟨m,rfl,rfl,_,a,p,l,c,f,d,rfl⟩)
theorem ag.AN {T:TypeId} {w:Q} {S:Hp} {C:CB} {F:ai} {m:Nat} {Z:List (Int × U × List UInt8)} (h:ag w (mp m (Z.map fun z=>(z.1,z.2.1))*F))
  (b:(Z.map fun z=>(z.1,z.2.2)).Perm C) (c:(Z.map X0).Nodup) (e:∀ z ∈ Z,qS T S z.2.1 z.2.2):ag w (aT T S (.map (X m)) L C*F):=
 h.fO fun k f=>⟨Z,b,c,e,.inr (.inr ⟨m,rfl,rfl,f⟩)⟩
structure Bx where
 wv:Value
 ws:Bool
 tv:Value
 ts:Bool
 av:Value
def fL (av:U):ai:=fun h=>(av = .map V/\h=fun _=>V)\/∃ m,av = .map (X m)/\mp m [] h
def Bx.cells (x:Bx) (rd:U) (b:Int):Array U:=#[rd,N .i64 b,x.wv,J x.ws,x.tv,J x.ts,x.av]
def aB (c T:TypeId) (S:Hp) (b:Nat) (rd:U) (e:Int) (W D:CB):ai:=
 ex fun x:Bx=>pt b (M (x.cells rd e) c (0,0))*(aT T S x.wv x.ws W*(aT T S x.tv x.ts D*fL x.av))
theorem ag.eI {w:Q} {c T:TypeId} {S:Hp} {b:Nat} {e:Int} {W D:CB} {F:ai} (h:ag w (aB c T S b rd e W D*F)) :
  ∃ x:Bx,ag w (pt b (M (x.cells rd e) c (0,0))*(aT T S x.wv x.ws W*(aT T S x.tv x.ts D*(fL x.av*F)))):=by
 obtain ⟨x,h⟩:=ag.aw.1 h;exact ⟨x,h.to (by ac_rfl)⟩
theorem ag.iv {w:Q} {c T:TypeId} {S:Hp} {b:Nat} {e:Int} {W D:CB} {F:ai} (x:Bx)
  (h:ag w (pt b (M (x.cells rd e) c (0,0))*(aT T S x.wv x.ws W*(aT T S x.tv x.ts D*(fL x.av*F))))):ag w (aB c T S b rd e W D*F):=
 ag.aw.2 ⟨x,h.to (by ac_rfl)⟩
theorem dZ {c T:TypeId} {S S':Hp} {b:Nat} {f:Int} {W D:CB} (e:Ext S S') (h:Hp) (p:aB c T S b rd f W D h):aB c T S' b rd f W D h:=by
 obtain ⟨x,k,l,v,⟨m,o,A,⟨q,r,B,C,j,u⟩,i,t⟩,g,s⟩:=p;exact ⟨x,k,l,v,⟨m,o,ie e _ A,⟨q,r,ie e _ B,C,j,u⟩,i,t⟩,g,s⟩
theorem ag.LC {w c:Q} {T:TypeId} {S:Hp} {b:Nat} {o:Obj} {x:Bx} {W D:CB} {F:ai} {l:List UInt8}
  (r:ag w (pt b o*(aT T S x.wv x.ws W*(aT T S x.tv x.ts D*(fL x.av*(ak S*F))))))
  (q:ag c (bs T v l*SL.whole w)) (p:small l) :
  ∃ S',Ext S S'/\qS T S' v l/\ag c (pt b o*(aT T S' x.wv x.ws W*(ak S'*(aT T S' x.tv x.ts D*(fL x.av*F))))) /\
   ag c (pt b o*(aT T S' x.tv x.ts D*(ak S'*(aT T S' x.wv x.ws W*(fL x.av*F))))):=by
 have g:=q.under r;obtain ⟨S',e,m,h⟩:=ag.zv (S:=S) (F:=pt b o*(aT T S x.wv x.ws W*(aT T S x.tv x.ts D*(fL x.av*F)))) (g.to (by ac_rfl)) p;refine ⟨S',e,m,?_⟩;have i:ag c (aT T S x.wv x.ws W*(pt b o*(aT T S x.tv x.ts D*(fL x.av*(ak S'*F))))):=h.to (by ac_rfl);have j:=i.fO (ie e);have k:ag c (aT T S x.tv x.ts D*(pt b o*(aT T S' x.wv x.ws W*(fL x.av*(ak S'*F))))):=j.to (by ac_rfl);have f:=k.fO (ie e);exact ⟨f.to (by ac_rfl),f.to (by ac_rfl)⟩
theorem CR {w:Q} {t j e:TypeId} (g:P.underlying t=X (.map j e)) (f:P.underlying j=X (.int k)) {z:U} (i:(zeroValue e).run P w = .ok z w) {c:KV} (h:V9 w v c) (x:Int) (ok:Bool) :
  (Instr.lookup t v (N .i64 x) ok).run P w = .ok (if ok then .tuple #[(aP c x).getD z,J (aP c x).isSome] else (aP c x).getD z) w:=by
 rcases h with ⟨rfl,rfl⟩|⟨b,o,rfl,l,m⟩
 .rw [kF g f i];rfl
 .exact iK g f i l m x ok
theorem ag.kJ {T:TypeId} {w:Q} {S:Hp} {s:Bool} {C:CB} {F:ai} (h:ag w (aT T S v s C*(ak S*F)))
  {t m e:TypeId} (r:P.underlying t=X (.map m e)) (p:P.underlying m=X (.int k)) (c:(zeroValue e).run P w = .ok (O V 0 0) w) (b:Int) :
  (aP C b=V->(Instr.lookup t v (N .i64 b) K).run P w = .ok (.tuple #[O V 0 0,J L]) w) /\
  (∀ l,aP C b=X l->∃ f,(Instr.lookup t v (N .i64 b) K).run P w = .ok (.tuple #[f,J K]) w/\qS T S f l):=by
 obtain ⟨Z,u,A,z3,q,_⟩:=h.mq
 have g:aP C b=(aP Z b).map fun z=>z.2:=by
  rw [<- ph u (by rw [List.map_map];exact A),kN (fun z:U × List UInt8=>z.2)]
 have o:aP (Z.map fun z=>(z.1,z.2.1)) b=(aP Z b).map fun z=>z.1:=kN (fun z:U × List UInt8=>z.1) Z b;rw [CR r p c q b K,o];constructor
 .intro j
  have:aP Z b=V:=by rw [g] at j;simpa using j
  rw [this];rfl
 .intro l i
  rw [g] at i;obtain ⟨z,c,rfl⟩:=Option.map_eq_some_iff.1 i;exact ⟨z.1,by rw [c];rfl,z3 _ (oK c)⟩
theorem ag.uM {T:TypeId} {w:Q} {S:Hp} {sh:Bool} {C:CB} {F:ai} (h:ag w (aT T S v sh C*F)):∃ r,v = .map r:=by
 obtain ⟨k,a,b,c,⟨Z,e,g,z3,z4⟩,f,d,rfl⟩:=h;rcases z4 with ⟨rfl,_⟩|⟨m,o,rfl,_⟩|⟨m,rfl,_⟩ <;> exact ⟨_,rfl⟩
theorem ag.yn {T:TypeId} {w:Q} {S:Hp} {sh:Bool} {C:CB} {F:ai} (h:ag w (aT T S v sh C*(ak S*F))) :
  ∃ S',Ext S S'/\ag w (aT T S' v K C*(aT T S' v K C*(ak S'*F))):=by
 obtain ⟨k,a,P,r,⟨Z,j,l,z3,z4⟩,f,d,rfl⟩:=h;have s:ag w (ak S*F):=⟨r,fun b o W=>a b o (by rcases d b with e|e <;> simp_all [join]),f⟩
 have c:∀ {S':Hp} {G:ai},(aT T S' v K C (fun _=>V))->ag w G->ag w (aT T S' v K C*G):=fun p q=>(q.to (cW _).symm).fO fun k A=>by rw [A];exact p
 rcases z4 with ⟨rfl,rfl,_⟩|⟨m,o,rfl,rfl,g,i,_⟩|⟨m,rfl,rfl,g⟩
 .have p:aT T S (.map V) K C (fun _=>V):=⟨[],j,l,z3,.inl ⟨rfl,rfl,rfl⟩⟩
  exact ⟨S,Ext.refl S,c p (c p s)⟩
 .have p:aT T S (.map (X m)) K C (fun _=>V):=⟨Z,j,l,z3,.inr (.inl ⟨m,o,rfl,rfl,g,i,rfl⟩)⟩
  exact ⟨S,Ext.refl S,c p (c p s)⟩
 .obtain ⟨o,i,rfl⟩:=g
  have B:ag w (ak S*(pt m o*F)):=ag.to (⟨_,a,one m o,r,rfl,f,d,rfl⟩:ag w (pt m o*(ak S*F))) (aI _ _ _);obtain ⟨t,u⟩:=B.GJ;have p:aT T (join S (one m o)) (.map (X m)) K C (fun _=>V):=⟨Z,j,l,fun z E=>(z3 z E).mono (xz _ _ _),.inr (.inl ⟨m,o,rfl,rfl,u,i,rfl⟩)⟩
  exact ⟨_,xz _ _ _,c p (c p t)⟩
theorem ag.Bs {T:TypeId} {w:Q} {S:Hp} {v v':U} {sh sh':Bool} {C C':CB} {F:ai} (h:ag w (aT T S v sh C*(aT T S v' sh' C'*(ak S*F)))) :
  ∃ S',Ext S S'/\ag w (aT T S' v K C*(aT T S' v K C*(aT T S' v' K C'*(aT T S' v' K C'*(ak S'*F))))):=by
 obtain ⟨b,f,g⟩:=ag.yn (T:=T) (S:=S) (v:=v) (sh:=sh) (C:=C) (F:=aT T S v' sh' C'*F) (h.to (by ac_rfl));have i:ag w (aT T b v' sh' C'*(aT T b v K C*(aT T b v K C*(ak b*F)))):=ag.fO (P:=aT T S v' sh' C') (g.to (by ac_rfl)) (ie f);obtain ⟨c,e,j⟩:=ag.yn (T:=T) (S:=b) (v:=v') (sh:=sh') (C:=C') (F:=aT T b v K C*(aT T b v K C*F)) (i.to (by ac_rfl));have k:ag w (aT T c v K C*(aT T b v K C*(aT T c v' K C'*(aT T c v' K C'*(ak c*F))))):=ag.fO (P:=aT T b v K C) (j.to (by ac_rfl)) (ie e);have l:ag w (aT T c v K C*(aT T c v K C*(aT T c v' K C'*(aT T c v' K C'*(ak c*F))))):=ag.fO (P:=aT T b v K C) (k.to (by ac_rfl)) (ie e);exact ⟨c,f.trans e,l⟩
end Go.SL
namespace Go.Proofs.Ba
open RowKit SL
variable {v:U} {W:CB}
def Wi (S:Hp) (b o:Nat) (f:Array U) (C:CB) (g:Int) (l:List UInt8) (F:ai) (w:Q) (e:Ending) (c:Q):Prop:=
 ∃ m,e = I (.tuple #[])/\ag c (pt b (M ((f.setIfInBounds o (.map (X m))).setIfInBounds (o+1) (J L)) 176 (0,0))*(aT 5 S (.map (X m)) L (SL.fK C g l)*(ak S*F)))/\aj w c
theorem Bk {b:Array U} {o:Nat} (h:b[o]?=X v):b.setIfInBounds o v=b:=by
 apply Array.ext_getElem?;intro i;rw [S1]
 split
 .rename_i e;subst e;split
  .exact h.symm
  .rename_i c;exact absurd (Array.getElem?_eq_some_iff.1 h).1 c
 .rfl
theorem s4 {g k:Type} (f:g->k) {D E:List k} (h:D.Perm E):∀ {Z:List g},Z.map f=E->∃ b:List g,b.Perm Z/\b.map f=D:=by
 induction h with
 | nil=>intro Z e;exact ⟨Z,V1 _,e⟩
 | cons x h q=>
  intro Z e
  cases Z with
  | nil=>cases e
  | cons z Z=>
   simp only [List.map_cons,List.cons.injEq] at e;obtain ⟨b,i,j⟩:=q e.2;exact ⟨z :: b,i.cons z,by simp [j,e.1]⟩
 | swap x y l=>
  intro Z e
  match Z,e with
  | a :: c :: Z,e=>
   simp only [List.map_cons,List.cons.injEq] at e;exact ⟨c :: a :: Z,List.Perm.swap _ _ _,by simp [e.1,e.2.1,e.2.2]⟩
 | trans i j r s=>
  intro Z e;obtain ⟨v,t,o⟩:=s e;obtain ⟨m,u,p⟩:=r o;exact ⟨m,u.trans t,p⟩
theorem sa {Z:List (Int × U × List UInt8)} {S:Hp} {T:TypeId} (f:(Z.map fun z=>(z.1,z.2.2)).Perm W) (e:(Z.map X0).Nodup) (g:∀ z ∈ Z,qS T S z.2.1 z.2.2) (b:Int) {l:List UInt8} (h:qS T S v l) :
  ((SL.fK Z b (v,l)).map fun z=>(z.1,z.2.2)).Perm (SL.fK W b l)/\((SL.fK Z b (v,l)).map X0).Nodup/\(∀ z ∈ SL.fK Z b (v,l),qS T S z.2.1 z.2.2) /\
  SL.fK (Z.map fun z=>(z.1,z.2.1)) b v=(SL.fK Z b (v,l)).map fun z=>(z.1,z.2.1):=by
 refine ⟨?_,sU e _ _,?_,?_⟩
 .rw [<- zr (fun z:U × List UInt8=>z.2) Z b (v,l)]
  exact ON f (by rw [List.map_map];exact e) b l
 .intro z c
  rcases AK c with rfl|c
  .exact h
  .exact g z c
 .exact zr (fun z:U × List UInt8=>z.1) Z b (v,l)
theorem fD (w:Q) (S:Hp) (b o:Nat) (m:Array U) (bv:U) (W:Bool) (C:CB) (f:Int) (B:U) (l:List UInt8) (F:ai)
  (h:ag w (pt b (M m 176 (0,0))*(aT 5 S bv W C*(ak S*F)))) (j:m[o]?=X bv) (k:m[o+1]?=X (J W)) (hv:qS 5 S B l) :
  Calls R 216 #[H (X ⟨b,o,V⟩),N .i64 f,B] w (Wi S b o m C f l F w):=by
 have E:w.cell? ⟨b,o,V⟩=X bv:=(h.cell o).trans j;have G:w.cell? ⟨b,o+1,V⟩=X (J W):=(h.cell (o+1)).trans k;have P:∀ o,w.frozen? ⟨b,o,V⟩=L:=h.frozen;have p0:o≠o+1:=by omega
 obtain ⟨Z,z1,z2,z3,e0,o0⟩:=(h.to (by ac_rfl:_=aT 5 S bv W C*(ak S*(pt b (M m 176 (0,0))*F)))).mq;rcases o0 with ⟨rfl,u⟩|⟨rfl,u⟩|⟨i0,rfl,rfl,u⟩
 .skip
  have f0:∀ w,(binOp .eql 172 (.map V) (.map V)).run R w = .ok (J K) w:=fun w=>run_eql_map_nil (P:=R) w 172 3 22 _ underlying172;have b0:b<w.heap.size:=h.lt;have d0:=ae j;have H1:=ae k;clear j k;have l0:(o == o+1)=L:=by simp
  go_enter func216,ntmps216
  go_wp2_with fail
  refine (mI w _ _ e0).mono ?_;rintro k0 i ⟨c,D,rfl,s,e,v⟩;have Hp:=ae s;clear s;have p:=e.under h;have g0:i.cell? ⟨b,o,V⟩=X (.map V):=e.bJ E;have g1:i.cell? ⟨b,o+1,V⟩=X (J W):=e.bJ G;have gf:∀ o,i.frozen? ⟨b,o,V⟩=L:=fun o=>(e.sL b0).trans (P o);clear E G P;have q:=((p.to (aI _ _ _)).setCell o (.map (X c))).setCell (o+1) (J L);have r:=q.to (aI _ _ _);obtain ⟨w2,h0,t,c0,_⟩:=ag.mapUpdate (P:=R) underlying172 underlying3 r f B;clear p q r h e u
  go_wp2
  go_end0
  obtain ⟨Z',g,p2⟩:=s4 _ Hp.out rfl;subst p2;obtain ⟨u1,u2,u3,u4⟩:=sa ((g.map _).trans z1) ((g.map X0).nodup_iff.2 z2) (fun z hz=>z3 z (g.mem_iff.1 hz)) f hv;refine ⟨c,rfl,?_,((v.setCell _ _).setCell _ _).trans c0⟩;rw [u4] at t;have:=ag.AN t u1 u2 u3;exact (this.to (by ac_rfl:_=aT 5 S (.map V) W C*(pt b (M ((m.setIfInBounds o (.map (X c))).setIfInBounds (o+1) (J L)) 176 (0,0))*(aT 5 S (.map (X c)) L (SL.fK C f l)*(ak S*F))))).right
 .obtain ⟨A,rfl⟩:∃ A,bv = .map A:=by
   rcases e0 with ⟨rfl,_⟩|⟨i0,_,rfl,_⟩
   .exact ⟨_,rfl⟩
   .exact ⟨_,rfl⟩
  rcases A with _|A
  .skip
   have f0:∀ w,(binOp .eql 172 (.map V) (.map V)).run R w = .ok (J K) w:=fun w=>run_eql_map_nil (P:=R) w 172 3 22 _ underlying172;have b0:b<w.heap.size:=h.lt;have d0:=ae j;have H1:=ae k;clear j k;have l0:(o == o+1)=L:=by simp
   go_enter func216,ntmps216
   go_wp2_with fail
   refine (mI w _ _ e0).mono ?_;rintro k0 i ⟨c,D,rfl,s,e,v⟩;have Hp:=ae s;clear s;have p:=e.under h;have g0:i.cell? ⟨b,o,V⟩=X (.map V):=e.bJ E;have g1:i.cell? ⟨b,o+1,V⟩=X (J K):=e.bJ G;have gf:∀ o,i.frozen? ⟨b,o,V⟩=L:=fun o=>(e.sL b0).trans (P o);clear E G P;have q:=((p.to (aI _ _ _)).setCell o (.map (X c))).setCell (o+1) (J L);have r:=q.to (aI _ _ _);obtain ⟨w2,h0,t,c0,_⟩:=ag.mapUpdate (P:=R) underlying172 underlying3 r f B;clear p q r h e u
   go_wp2
   go_end0
   obtain ⟨Z',g,p2⟩:=s4 _ Hp.out rfl;subst p2;obtain ⟨u1,u2,u3,u4⟩:=sa ((g.map _).trans z1) ((g.map X0).nodup_iff.2 z2) (fun z hz=>z3 z (g.mem_iff.1 hz)) f hv;refine ⟨c,rfl,?_,((v.setCell _ _).setCell _ _).trans c0⟩;rw [u4] at t;have:=ag.AN t u1 u2 u3;exact (this.to (by ac_rfl:_=aT 5 S (.map V) K C*(pt b (M ((m.setIfInBounds o (.map (X c))).setIfInBounds (o+1) (J L)) 176 (0,0))*(aT 5 S (.map (X c)) L (SL.fK C f l)*(ak S*F))))).right
  .skip
   have f0:∀ w,(binOp .eql 172 (.map (X A)) (.map V)).run R w = .ok (J L) w:=fun w=>run_eql_map_nil (P:=R) w 172 3 22 _ underlying172;have b0:b<w.heap.size:=h.lt;have d0:=ae j;have H1:=ae k;clear j k;have l0:(o == o+1)=L:=by simp
   go_enter func216,ntmps216
   go_wp2_with fail
   refine (mI w _ _ e0).mono ?_;rintro k0 i ⟨c,D,rfl,s,e,v⟩;have Hp:=ae s;clear s;have p:=e.under h;have g0:i.cell? ⟨b,o,V⟩=X (.map (X A)):=e.bJ E;have g1:i.cell? ⟨b,o+1,V⟩=X (J K):=e.bJ G;have gf:∀ o,i.frozen? ⟨b,o,V⟩=L:=fun o=>(e.sL b0).trans (P o);clear E G P;have q:=((p.to (aI _ _ _)).setCell o (.map (X c))).setCell (o+1) (J L);have r:=q.to (aI _ _ _);obtain ⟨w2,h0,t,c0,_⟩:=ag.mapUpdate (P:=R) underlying172 underlying3 r f B;clear p q r h e u
   go_wp2
   go_end0
   obtain ⟨Z',g,p2⟩:=s4 _ Hp.out rfl;subst p2;obtain ⟨u1,u2,u3,u4⟩:=sa ((g.map _).trans z1) ((g.map X0).nodup_iff.2 z2) (fun z hz=>z3 z (g.mem_iff.1 hz)) f hv;refine ⟨c,rfl,?_,((v.setCell _ _).setCell _ _).trans c0⟩;rw [u4] at t;have:=ag.AN t u1 u2 u3;exact (this.to (by ac_rfl:_=aT 5 S (.map (X A)) K C*(pt b (M ((m.setIfInBounds o (.map (X c))).setIfInBounds (o+1) (J L)) 176 (0,0))*(aT 5 S (.map (X c)) L (SL.fK C f l)*(ak S*F))))).right
 .obtain ⟨u1,u2,u3,u4⟩:=sa z1 z2 z3 f hv
  obtain ⟨w',h0,m0,v,_⟩:=ag.mapUpdate (P:=R) underlying172 underlying3 u f B;have f0:=run_eql_map_nil (P:=R) w 172 3 22 (X i0) underlying172;have d0:=ae j;have H1:=ae k;have n0:=ae u4;clear j k u4 p0 u
  go_enter func216,ntmps216
  go_wp2
  go_end0
  refine ⟨i0,rfl,?_,v⟩;rw [Bk d0.out,Bk H1.out];rw [n0.out] at m0;exact (ag.AN m0 u1 u2 u3).to (by ac_rfl)
def fW (b c:Int) (l:List UInt8):Int:=if b≠0 then b else if c<0\/l.length≠480 then 1 else 0
def vI (c b:Int) (l:List UInt8) (W:CB):CB:=if c=0/\0<=b/\l.length=480 then SL.fK W b l else W
theorem oT {b c:Int} {l:List UInt8} (h:¬ (b=0/\0<=c/\l.length=480)):vI b c l W=W:=if_neg h
theorem wG {c b:Int} {l:List UInt8} (h:c=0/\0<=b/\l.length=480):vI c b l W=SL.fK W b l:=if_pos h
def ik (S:Hp) (b:Nat) (rd:U) (c:Int) (W D:CB) (id:Int) (l:List UInt8) (F:ai) (w:Q) (e:Ending) (f:Q):Prop:=
 ∃ S',Ext S S'/\e = I (N .i64 (fW c id l))/\ag f (aB 176 5 S' b rd c (vI c id l W) D*(ak S'*F))/\aj w f
theorem pC (w:Q) (S:Hp) (b:Nat) (rd:U) (i:Int) (W D:CB) (id:Int) (m:U) (l:List UInt8) (F:ai)
  (h:ag w (aB 176 5 S b rd i W D*(ak S*F))) (f:Rd w m l) :
  Calls R 162 #[H (X ⟨b,0,V⟩),N .i64 id,m] w (ik S b rd i W D id l F w):=by
 obtain ⟨x,s⟩:=h.eI;have f0:w.cell? ⟨b,1,V⟩=X (N .i64 i):=s.cell 1
 obtain ⟨a,c,rfl⟩:∃ a c,m = O a l.length c:=by
  rcases f.2 with ⟨rfl,u⟩|⟨a,c,rfl,_⟩
  .exact ⟨V,0,by rw [u]⟩
  .exact ⟨_,_,rfl⟩
 by_cases k:i=0
 .subst k
  by_cases G:id<0
  .go_enter func162,ntmps162
   have q:=ae f;clear f
   go_wp2
   go_ret
   exact ⟨S,Ext.refl S,by simp [fW,G],by rw [oT (by omega)];exact h,aj.refl w⟩
  .by_cases j:l.length=480
   .have p:0<=id:=by omega
    have e0:((480:Int) != 480)=L:=by decide
    have r:Rd w (O a 480 c) l:=by rw [<- j];exact f
    have t:=ae r;have g:=ae j;clear f r j;have c0:small l:=by unfold small;rw [g.out];decide
    have C:Hid (l.length<=1000000000):=by show l.length<=_;rw [g.out];decide
    go_enter func162,ntmps162
    rw [g.out]
    go_wp2
    go_region_held3 (fun _=>True) (trivial)
     (first
      | (go_at_call 188;refine (kh w.drew _ l (pP.drew t.out) C).mono ?_;rintro e w1 ⟨v1,rfl,P,xA⟩)
      | (go_at_call 216;obtain ⟨S',v,B,A,_⟩:=ag.LC (w:=w.drew) s P c0;refine (fD _ S' b 2 _ _ _ W id v1 l (aT 5 S' x.tv x.ts D*(fL x.av*F)) A rfl rfl B).mono ?_;rintro e w2 ⟨d0,rfl,b0,E⟩))
    go_wp2
    go_ret
    refine ⟨S',v,?_,?_,((aj.refl w).drew.trans xA).trans E⟩
    .simp [fW,p,g.out,Int.not_lt.2 p]
    .rw [wG ⟨rfl,p,g.out⟩]
     exact ag.iv { x with wv:=.map (X d0),ws:=L } (b0.to (by ac_rfl))
   .have h0:((l.length:Int) != 480)=K:=by rw [bne_iff_ne];omega
    go_enter func162,ntmps162
    have q:=ae f;have g:=ae j;clear f j
    go_wp2
    go_ret
    exact ⟨S,Ext.refl S,by simp [fW,g.out],by rw [oT (fun o=>g.out o.2.2)];exact h,aj.refl w⟩
 .have g0:(i != 0)=K:=by simpa using k
  go_enter func162,ntmps162
  have q:=ae f;clear f
  go_wp2
  go_ret
  exact ⟨S,Ext.refl S,by simp [fW,k],by rw [oT (fun o=>k o.1)];exact h,aj.refl w⟩
def sorted (l:List Int):List Int:=l.mergeSort fun x y=>decide (x<=y)
theorem eW (l:List Int):(sorted l).length=l.length:=List.length_mergeSort ..
theorem sorted_perm (l:List Int):(sorted l).Perm l:=List.mergeSort_perm ..
theorem ns (l:List Int):(sorted l).Pairwise (·<=·):=by
 have:=List.pairwise_mergeSort (le:=fun x y:Int=>decide (x<=y)) (by intro a b c e f;simp at *;omega) (by intro a b;simp;omega) l;exact this.imp (by simp)
theorem AI {l m:List Int} (h:l.Perm m):sorted l=sorted m:=
 List.Perm.eq_of_pairwise (le:=(·<=·)) (fun a b _ _ c e=>by omega) (ns l) (ns m) ((sorted_perm l).trans (h.trans (sorted_perm m).symm))
def iF (C:CB):CB:=(sorted (C.map X0)).map fun k=>(k,(aP C k).getD [])
end Go.Proofs.Ba
namespace Go.SL
open RowKit
abbrev cG (n:Int):Int:=wrap64 n
structure aC where
 sec:List (List UInt8)
 wait:List (Int × List UInt8)
 nx:List (Int × Unit)
 cr:Int
 cw:Int
 cf:Int
 down:Bool
 fo:Bool
 left:Int
 bD:List Int
def aC.fresh (n:Nat):aC:=⟨List.replicate n [],[],[],0,0,0,L,L,0,[]⟩
def aC.done (D:aC) (x:Int × List UInt8):aC:={ D with sec:=D.sec.set x.1.toNat x.2,nx:=del D.nx x.1 }
def aC.bU (D:aC) (l:List (Int × List UInt8)):aC:=l.foldl aC.done D
def aC.Tl (D:aC) (x:Int × List UInt8):aC:={ D with nx:=SL.fK D.nx x.1 () }
def aC.tE (D:aC) (f:Int) (x:Int × List UInt8):aC:=if f=1 then D.done x else if f=2 then D.Tl x else D
def aC.eO (D:aC) (bD:List Int):Nat->aC
 | 0=>D
 | k+1=>match D.wait[k]? with
  | some p=>(D.eO bD k).tE (bD.getD k 0) p
  | none=>D.eO bD k
def aC.gg (D:aC) (bD:List Int):aC:={ D.eO bD D.wait.length with wait:=[],down:=K,fo:=L,left:=0,bD:=[] }
def aC.dy (D:aC):aC:=if !D.down && D.fo && D.left == 0 then D.gg D.bD else D
def aC.begun (D:aC):aC:=if D.dy.down then D.dy else if D.dy.fo then { D.dy with left:=cG (D.dy.left-1) } else D.dy
def aC.cS (D:aC):Int:=if D.dy.down then 2 else 0
def aC.has (D:aC) (b:Int):Prop:=0<=b/\b<D.sec.length
instance (D:aC) (a:Int):Decidable (D.has a):=inferInstanceAs (Decidable (_/\_))
def eN (l:List (Int × List UInt8)) (a:Int):Option (List UInt8):=(l.reverse.find? fun x=>x.1 == a).map Prod.snd
def aC.cE (D:aC) (a:Int):Int × List UInt8:=
 match eN D.wait a with
 | some l=>(0,bW 512 l)
 | none=>if (aP D.nx a).isSome then (3,[]) else (0,bW 512 (D.sec.getD a.toNat []))
def aC.read (D:aC) (a:Int):(Int × List UInt8) × aC:=
 if D.has a then (if D.cS=0 then (D.begun.cE a,{ D.begun with cr:=cG (D.begun.cr+1) }) else ((2,[]),D.begun)) else ((1,[]),D)
def aC.write (D:aC) (a:Int) (l:List UInt8):Int × aC:=
 if D.has a/\l.length=512 then (if D.cS=0 then (0,{ D.begun with cw:=cG (D.begun.cw+1),wait:=D.begun.wait++[(a,l)] }) else (2,D.begun)) else (1,D)
def aC.aK (D:aC):aC:={ ({ D with cf:=cG (D.cf+1) }:aC).bU D.wait with wait:=[] }
def aC.flush (D:aC):Int × aC:=if D.cS=0 then (0,D.begun.aK) else (2,D.begun)
structure aC.Ok (D:aC):Prop where
 n:D.sec.length<=20000
 wait:∀ x ∈ D.wait,D.has x.1
 many:D.wait.length<=1000000
 bD:D.bD.length<=4611686018427387904
theorem aC.II {D:aC} (h:D.cS=0):D.dy=D:=by
 unfold aC.cS at h
 by_cases b:(!D.down && D.fo && D.left == 0)=K
 .rw [aC.dy,if_pos b] at h;simp [aC.gg] at h
 .rw [aC.dy,if_neg b]
theorem aC.Br {D:aC} (h:D.cS=0):D.begun={ D with left:=D.begun.left }:=by
 have c:=aC.II h
 have b:D.down=L:=by
  unfold aC.cS at h;rw [c] at h
  cases e:D.down with
  | false=>rfl
  | true=>simp [e] at h
 obtain ⟨sec,wait,nx,cr,cw,cf,down,fo,left,bD⟩:=D;simp only at b;subst b;unfold aC.begun;rw [c];cases fo <;> rfl
theorem aC.Ok.up {D:aC} (h:D.Ok) (e:D.cS=0):D.begun.Ok:=by
 rw [aC.Br e];exact ⟨h.n,h.wait,h.many,h.bD⟩
theorem aC.mT (D:aC):D.cS=0\/D.cS=2:=by
 unfold aC.cS;split <;> simp
abbrev Zs:=List (Int × U × List UInt8)
def bT (Z:Zs):List U:=Z.flatMap fun z=>[N .i64 z.1,z.2.1]
theorem qU (Z:Zs):(bT Z).length=Z.length*2:=by
 induction Z with
 | nil=>rfl
 | cons z Z b=>simp only [bT,List.flatMap_cons,List.length_append,Y0,List.length_nil] at b ⊢;omega
theorem yI:∀ (Z:Zs) (i:Nat) (h:i<Z.length),(bT Z)[i*2]?=X (N .i64 Z[i].1)/\(bT Z)[i*2+1]?=X Z[i].2.1:=by
 intro Z
 induction Z with
 | nil=>intro i h;simp at h
 | cons z Z b=>
  intro i h
  cases i with
  | zero=>simp [bT]
  | succ i=>
   have:=b i (by simpa using h);rw [show (i+1)*2=i*2+1+1 by omega];simpa [bT] using this
theorem ag.kI {w:Q} {f:TypeId} {n:Nat} {Z:Zs} {F:ai} {g c m:Nat} (h:ag w (sl f 2 (O (X ⟨g,0,V⟩) m c) n (bT Z)*F)) {i:Nat} (k:i<Z.length) :
  w.cell? ⟨g,i*2,V⟩=X (N .i64 Z[i].1)/\w.cell? ⟨g,i*2+1,V⟩=X Z[i].2.1:=by
 obtain ⟨a,b⟩:=yI Z i k;obtain ⟨_,l⟩:=h.oI;rcases l with ⟨o,r⟩|⟨p,q,j,e⟩
 .cases o
 .cases j
  exact ⟨by have:=e _ _ a;rwa [Addr.add_lit,E1] at this,by have:=e _ _ b;rwa [Addr.add_lit,E1] at this⟩
structure Dx where
 sg:Nat
 tm:Nat
 wv:Value
 kv:Value
 Y:List (Value × List UInt8)
 Z:Zs
def Dx.cells (x:Dx) (D:aC):Array U:=
 #[O (X ⟨x.sg,0,V⟩) x.Y.length x.Y.length,x.wv,.map (X x.tm),N .i64 D.cr,N .i64 D.cw,N .i64 D.cf,J D.down,J D.fo,N .i64 D.left,x.kv]
def im (t:List (Int × Unit)):KV:=t.map fun p=>(p.1,.agg #[])
def iV (l:List Int):List U:=l.map (D1 .i64)
structure Dx.Fit (x:Dx) (T:TypeId) (S:Hp) (D:aC):Prop where
 sec:x.Y.map Prod.snd=D.sec
 uw:∀ y ∈ x.Y,qS T S y.1 y.2
 wait:x.Z.map (fun z=>(z.1,z.2.2))=D.wait
 nu:∀ z ∈ x.Z,qS T S z.2.1 z.2.2
theorem Dx.Fit.mono {x:Dx} {T:TypeId} {S S':Hp} {D:aC} (h:x.Fit T S D) (e:Ext S S'):x.Fit T S' D:=
 ⟨h.sec,fun y b=>(h.uw y b).mono e,h.wait,fun z c=>(h.nu z c).mono e⟩
theorem FG (t:List (Int × Unit)) (a:Int):SL.fK (im t) a (.agg #[])=im (SL.fK t a ()):=by
 have:=zr (fun _:Unit=>Value.agg #[]) t a ();simpa [im] using this
theorem DO (t:List (Int × Unit)) (a:Int):del (im t) a=im (del t a):=by
 simp only [im,del,List.filter_map];rfl
theorem E6 (t:List (Int × Unit)) (a:Int):(aP (im t) a).isSome=(aP t a).isSome:=by
 have:=kN (fun _:Unit=>Value.agg #[]) t a;rw [im,this,Option.isSome_map]
def Pq (x:Dx) (D:aC) (d:Nat):ai:=
 pt d (M (x.cells D) 106 (0,0))*(pt x.sg (M (x.Y.map X0).toArray 22 (0,0))*(sl 229 2 x.wv x.Z.length (bT x.Z)*(mp x.tm (im D.nx)*sl 3 1 x.kv D.bD.length (iV D.bD))))
def gH (x:Dx) (S:Hp) (d:Nat) (D:aC):ai:=fact (x.Fit 5 S D)*Pq x D d
def aV (S:Hp) (d:Nat) (D:aC):ai:=ex fun x:Dx=>gH x S d D
section
variable {w:Q} {S S':Hp} {d:Nat} {D:aC} {F:ai} {x:Dx}
theorem ag.bK (h:ag w (gH x S d D*F)):x.Fit 5 S D/\ag w (pt d (M (x.cells D) 106 (0,0))*(pt x.sg (M (x.Y.map X0).toArray 22 (0,0))*(sl 229 2 x.wv x.Z.length (bT x.Z)*(mp x.tm (im D.nx)*(sl 3 1 x.kv D.bD.length (iV D.bD)*F))))):=by
 obtain ⟨b,c⟩:=ag.aq.1 (h.to (ax _ _ _));exact ⟨b,c.to (by unfold Pq;ac_rfl)⟩
theorem ag.jv (b:x.Fit 5 S D) (h:ag w (pt d (M (x.cells D) 106 (0,0))*(pt x.sg (M (x.Y.map X0).toArray 22 (0,0))*(sl 229 2 x.wv x.Z.length (bT x.Z)*(mp x.tm (im D.nx)*(sl 3 1 x.kv D.bD.length (iV D.bD)*F)))))):ag w (gH x S d D*F):=
 (ag.aq.2 ⟨b,h.to (by unfold Pq;ac_rfl:_=Pq x D d*F)⟩:ag w (fact _*_)).to (ax _ _ _).symm
theorem ag.yS (h:ag w (aV S d D*F)):∃ x,ag w (gH x S d D*F):=ag.aw.1 h
theorem ag.devOf (h:ag w (gH x S d D*F)):ag w (aV S d D*F):=ag.aw.2 ⟨x,h⟩
theorem Kn (e:Ext S S') (h:Hp) (p:gH x S d D h):gH x S' d D h:=by
 obtain ⟨b,c,⟨f,g⟩,i,j,k⟩:=p;exact ⟨b,c,⟨f.mono e,g⟩,i,j,k⟩
theorem yp (e:Ext S S') (h:Hp) (p:aV S d D h):aV S' d D h:=by
 obtain ⟨x,p⟩:=p;exact ⟨x,Kn e h p⟩
theorem ag.dj (h:ag w (gH x S d D*F)) (i:Nat):w.cell? ⟨d,i,V⟩=(x.cells D)[i]?:=h.bK.2.cell i
theorem ag.pj (h:ag w (gH x S d D*F)) (i:Nat):w.frozen? ⟨d,i,V⟩=L:=h.bK.2.frozen i
theorem ag.Gt (h:ag w (gH x S d D*F)):x.Y.length=D.sec.length:=by rw [<- h.bK.1.sec,K1]
theorem ag.rG (h:ag w (gH x S d D*F)):x.Z.length=D.wait.length:=by rw [<- h.bK.1.wait,K1]
theorem ag.TX (h:ag w (gH x S d D*F)):∃ a c,x.wv = O a D.wait.length c:=by
 have:=aF h.bK.2.au
 rwa [h.rG] at this
end
end Go.SL
namespace Go.Proofs.Nn
open RowKit SL
theorem om (w:Q) (S:Hp) (d:Nat) (D:aC) (F:ai) (h:ag w (aV S d D*F)) :
  Calls R 116 #[H (X ⟨d,0,V⟩)] w fun e b=>e = I (N .i64 D.sec.length)/\w=b:=by
 obtain ⟨x,h⟩:=h.yS;have c:w.cell? ⟨d,0,V⟩=X (O (X ⟨x.sg,0,V⟩) D.sec.length D.sec.length):=by rw [h.dj,<- h.Gt];rfl
 clear h
 go_enter func116,ntmps116
 go_wp2
 go_ret
 exact ⟨rfl,rfl⟩
def wJ (b:Bool) (w:Q) (e:Ending) (c:Q):Prop:=e = I (J b)/\w=c
theorem mC (w:Q) (S:Hp) (d:Nat) (D:aC) (a:Int) (F:ai) (h:ag w (aV S d D*F)) :
  Calls R 218 #[H (X ⟨d,0,V⟩),N .i64 a] w (wJ (decide (D.has a)) w):=by
 have f:=om w S d D F h;clear h
 by_cases g:0<=a
 .by_cases c:a<D.sec.length
  .have b:decide (D.has a)=K:=by simp [aC.has,g,c]
   rw [b];clear b
   go_enter func218,ntmps218
   go_wp2_with (go_at_call 116;refine f.mono ?_;rintro e i ⟨rfl,rfl⟩)
   go_ret
   exact ⟨rfl,rfl⟩
  .have b:decide (D.has a)=L:=by simp [aC.has,c]
   rw [b];clear b;have j:decide (a<D.sec.length)=L:=by simpa using c
   go_enter func218,ntmps218
   go_wp2_with (go_at_call 116;refine f.mono ?_;rintro e i ⟨rfl,rfl⟩)
   go_ret
   exact ⟨rfl,rfl⟩
 .have b:decide (D.has a)=L:=by simp [aC.has,g]
  rw [b];clear b f
  go_enter func218,ntmps218
  go_wp2
  go_ret
  exact ⟨rfl,rfl⟩
def Kz (w:Q) (l:List UInt8) (e:Ending) (b:Q):Prop:=∃ g,e = I (O (X ⟨g,0,V⟩) 512 512)/\ag b (pt g (M (eA (bW 512 l)) 5 (0,0))*whole w)/\aj w b
theorem gY:(prog.info? 5).map (fun i=>(i.zero,i.size,i.bytes))=X (X (N .u8 0),1,1):=by kernel_rfl
theorem Jd:(prog.info? 5).map (·.size)=X 1:=by kernel_rfl
theorem Fa:(prog.info? 22).map (fun i=>(i.zero,i.size,i.bytes))=X (X (O V 0 0),1,24):=by kernel_rfl
theorem fB (n:Nat) (g:n<=281474976710656) (w:Q):(Instr.makeSlice 22 (N .i64 n) (N .i64 n)).run R w =
  .ok (O (X ⟨w.heap.size,0,V⟩) n n) (w.alloc (M (eA (zs n)) 5 (0,0))):=by
 obtain ⟨i,c,f,e,b⟩:=info_parts gY;have:=run_make (P:=R) w 22 5 i _ underlying22 c f .i64 .i64 n n (by omega) (by omega) (by rw [b];omega) (by omega);rw [this,e];simp only [T1];rw [j3]
theorem kY (w:Q) (v:U) (l:List UInt8) (j:Rd w v l) (k:l.length<=9223372036854775807) :
  Calls R 219 #[v] w (Kz w l):=by
 have m:∀ w,(Instr.makeSlice 22 (N .i64 512) (N .i64 512)).run R w =
  .ok (O (X ⟨w.heap.size,0,V⟩) 512 512) (w.alloc (M (eA (zs 512)) 5 (0,0))):=fB 512 (by omega)
 have c:Rd (w.alloc (M (eA (zs 512)) 5 (0,0))) v l:=pP.alloc j _;have b:=(ag.whole w).alloc (M (eA (zs 512)) 5 (0,0));obtain ⟨p,o,e,i,h⟩:=LV (P:=R) (dT:=22) (T:=5) underlying22 Jd b c 3;have g:=(aj.refl w).alloc (M (eA (zs 512)) 5 (0,0));have f:=ae e;clear e c b
 go_enter func219,ntmps219
 go_wp2_with (refine fH f.out _ _ rfl rfl rfl rfl rfl ?_)
 go_ret
 exact ⟨_,rfl,i,g.trans h⟩
theorem jd {T:TypeId} {S:Hp} {v:U} {l:List UInt8} (h:qS T S v l):∃ a c,v = O a l.length c:=by
 rcases h.2 with ⟨rfl,rfl⟩|⟨g,b,e,rfl,_⟩
 .exact ⟨_,_,rfl⟩
 .exact ⟨_,_,rfl⟩
def UM (x:Dx) (S:Hp) (d:Nat) (D:aC) (p:Int × List UInt8) (c:U) (F:ai) (w:Q) (e:Ending) (b:Q):Prop:=
 e = I (.tuple #[])/\ag b (gH { x with Y:=x.Y.set p.1.toNat (c,p.2) } S d (D.done p)*F)/\aj w b
theorem CS (w:Q) (S:Hp) (d:Nat) (D:aC) (x:Dx) (p:Int × List UInt8) (o:U) (F:ai) (h:ag w (gH x S d D*F)) (C:qS 5 S o p.2) (u:D.has p.1) :
  Calls R 168 #[H (X ⟨d,0,V⟩),.agg #[N .i64 p.1,o]] w (UM x S d D p o F w):=by
 obtain ⟨i0,l⟩:=p;obtain ⟨a,rfl⟩:=O1 u.1;have e0:(a:Int)<(x.Y.length:Int):=by rw [h.Gt];exact u.2
 have v:a<x.Y.length:=by omega
 obtain ⟨k,hs⟩:=h.bK;obtain ⟨b,c,rfl⟩:=jd C;obtain ⟨s,t⟩:∃ s,(x.Y.map X0)[a]?=X s:=⟨_,D2 (by simpa using v)⟩
 have g:=hs.alloc (M #[N .i64 a,O b l.length c] 229 (0,0));have A:=(aj.refl w).alloc (M #[N .i64 a,O b l.length c] 229 (0,0))
 go_enter func168,ntmps168
 go_wp2
 generalize g0:w.alloc (M #[N .i64 a,O b l.length c] 229 (0,0))=e at g A ⊢;generalize w.heap.size=f at g ⊢;have k0:e.cell? ⟨d,0,V⟩=X (O (X ⟨x.sg,0,V⟩) x.Y.length x.Y.length):=g.ah.cell 0;have c0:e.cell? ⟨f,0,V⟩=X (N .i64 a):=g.cell 0;have d0:e.cell? ⟨f,1,V⟩=X (O b l.length c):=g.cell 1;have ks:e.cell? ⟨x.sg,a,V⟩=X s:=(g.au.cell a).trans (by simpa using t);have kf:e.frozen? ⟨x.sg,a,V⟩=L:=g.au.frozen a;have i:=(g.au.setCell a (O b l.length c)).yJ;have E:(e.setCell ⟨x.sg,a,V⟩ (O b l.length c)).cell? ⟨d,0,V⟩=X (O (X ⟨x.sg,0,V⟩) x.Y.length x.Y.length):=i.ah.cell 0;have r:(e.setCell ⟨x.sg,a,V⟩ (O b l.length c)).cell? ⟨f,0,V⟩=X (N .i64 a):=i.cell 0;have P:(e.setCell ⟨x.sg,a,V⟩ (O b l.length c)).cell? ⟨f,1,V⟩=X (O b l.length c):=i.cell 1;have G:(e.setCell ⟨x.sg,a,V⟩ (O b l.length c)).cell? ⟨d,2,V⟩=X (.map (X x.tm)):=i.ah.cell 2;clear t v
 go_region_held3 (fun j=>j.cell? ⟨d,0,V⟩=X (O (X ⟨x.sg,0,V⟩) x.Y.length x.Y.length)/\j.cell? ⟨f,0,V⟩=X (N .i64 a)/\j.cell? ⟨f,1,V⟩=X (O b l.length c)) (first|go_keep|exact ⟨k0,c0,d0⟩|exact ⟨E,r,P⟩) (fail)
 have B:=(A.setCell ⟨x.sg,a,V⟩ (O b l.length c)).drew;generalize h0:(e.setCell ⟨x.sg,a,V⟩ (O b l.length c))=w2 at i B E r P G ⊢;obtain ⟨W,f0,H3,b0,_⟩:=ag.delete (P:=R) underlying100 underlying3 0 3 (w:=w2.drew.drew) (ag.aM i) (a:Int);have m:=H3.yz;have t0:W.cell? ⟨f,0,V⟩=X (N .i64 a):=m.cell 0;have t2:W.cell? ⟨d,2,V⟩=X (.map (X x.tm)):=m.ah.cell 2
 go_wp2
 go_region_held3 (fun j=>j.cell? ⟨f,0,V⟩=X (N .i64 a)/\j.cell? ⟨d,2,V⟩=X (.map (X x.tm))) (first|go_keep|exact ⟨r,G⟩|exact ⟨t0,t2⟩) (fail)
 go_wp2
 go_end0
 refine ⟨rfl,ag.jv ⟨?_,?_,k.wait,k.nu⟩ (m.right.to ?_),B.drew.trans b0⟩
 .show (x.Y.set (a:Int).toNat (O b l.length c,l)).map Prod.snd=D.sec.set (a:Int).toNat l
  rw [R1,k.sec]
 .intro y q
  rcases List.mem_or_eq_of_mem_set q with q|rfl
  .exact k.uw y q
  .exact C
 .simp only [DO,Dx.cells,aC.done,List.length_set,T1,R1,List.setIfInBounds_toArray]
def RL (x:Dx) (S:Hp) (d:Nat) (D:aC) (F:ai) (kv:U) (bD:List Int):Prop:=
 ∃ a c,kv = O a bD.length c/\bD.length<=9223372036854775807/\∀ i,i<bD.length->∃ b f,a=X ⟨b,f,V⟩ /\
  ∀ g Y e,e.bD=D.bD->ag g (gH { x with Y:=Y } S d e*F)->g.cell? ⟨b,f+i,V⟩=X (N .i64 (bD.getD i 0))
def R4 (x:Dx) (S:Hp) (d:Nat) (D:aC) (bD:List Int) (F:ai) (w:Q) (e:Ending) (b:Q):Prop:=
 e = I (.tuple #[])/\ag b (aV S d (D.gg bD)*F)/\aj w b
def KM (x:Dx) (S:Hp) (d:Nat) (D:aC) (bD:List Int) (F:ai) (w:Q) (n:Nat) (u:U) (wr:Q):Prop:=
 ∃ (k:Nat) (Y:List (U × List UInt8)),k<=n/\u = N .i64 k/\ag wr (gH { x with Y:=Y } S d (D.eO bD k)*F)/\aj w wr
theorem qD (D:aC) (bD:List Int):∀ k,(D.eO bD k).bD=D.bD/\(D.eO bD k).wait=D.wait/\(D.eO bD k).sec.length=D.sec.length
 | 0=>⟨rfl,rfl,rfl⟩
 | k+1=>by
  obtain ⟨b,c,e⟩:=qD D bD k;unfold aC.eO
  split
  .unfold aC.tE
   split
   .exact ⟨b,c,by simp [aC.done,e]⟩
   .split
    .exact ⟨b,c,e⟩
    .exact ⟨b,c,e⟩
  .exact ⟨b,c,e⟩
theorem G9 (w:Q) (S:Hp) (d:Nat) (D:aC) (x:Dx) (bD:List Int) (kv:U) (F:ai) (h:ag w (gH x S d D*F)) (hD:D.Ok) (hk:RL x S d D F kv bD) :
  Calls R 220 #[H (X ⟨d,0,V⟩),kv] w (R4 x S d D bD F w):=by
 obtain ⟨ka,kc,rfl,R0,f0⟩:=hk;obtain ⟨wa,wc,G⟩:=h.TX;have hn:(D.wait.length:Int)<=1000000:=by have:=hD.many;omega
 have W:w.cell? ⟨d,1,V⟩=X (O wa D.wait.length wc):=(h.dj 1).trans (by simp only [Dx.cells,G];rfl);have b0:=ae G;have p0:=ae f0;clear G f0
 go_enter func220,ntmps220
 go_wp2
 go_loopw [14] (fun u wr=>KM x S d D bD F w D.wait.length u wr) (fun u _=>D.wait.length-(intOf u).toNat)
 case atStart=>exact ⟨0,x.Y,Nat.zero_le _,rfl,h,aj.refl w⟩
 case round=>
  obtain ⟨k,Y,S0,rfl,b,o0⟩:=hrel;clear W;obtain ⟨e1,t,C⟩:=qD D bD k
  by_cases T0:k<D.wait.length
  .have V0:(k:Int)<(D.wait.length:Int):=by omega
   have W0:x.Z.length=D.wait.length:=b.rG.trans (by rw [t]);have P:k<x.Z.length:=by omega
   obtain ⟨g,G0⟩:∃ g,wa=X ⟨g,0,V⟩:=by
    have D0:0<x.Z.length:=by omega
    have:=rf b.bK.2.au D0;obtain ⟨g,K0,hh⟩:=this;rw [b0.out] at hh;exact ⟨_,(Value.slice.inj hh).1⟩
   subst G0
   have u0:wr.cell? ⟨g,k*2,V⟩=X (N .i64 x.Z[k].1)/\wr.cell? ⟨g,k*2+1,V⟩=X x.Z[k].2.1:=by
    have:=b.bK.2.au;simp only [b0.out] at this;exact this.kI P
   obtain ⟨d0,e0⟩:=u0
   have p:D.wait[k]?=X (x.Z[k].1,x.Z[k].2.2):=by
    rw [<- t,<- b.bK.1.wait];simp [P]
   have A:qS 5 S x.Z[k].2.1 x.Z[k].2.2:=b.bK.1.nu _ (List.getElem_mem P);obtain ⟨i,j,g0⟩:=jd A;rw [g0] at e0 A
   have k0:(D.eO bD k).has x.Z[k].1:=by
    have:=hD.wait _ (List.mem_of_getElem? p);unfold aC.has at this ⊢;rw [C];exact this
   generalize x.Z[k].1=c at d0 p k0;generalize x.Z[k].2.2=f at e0 p A;have q:=ae p;have H0:∀ (r:Array U),(wr.alloc (M r 229 (0,0))).cell? ⟨wr.heap.size,0,V⟩=r[0]?:=fun r=>(b.alloc (M r 229 (0,0))).cell 0;clear p g0 e1 t C H0;have L0:g<wr.heap.size:=E2 wr _ d0;have l:=b.alloc (M #[N .i64 c,O i f.length j] 229 (0,0));have o:=o0.alloc (M #[N .i64 c,O i f.length j] 229 (0,0))
   by_cases n0:k<bD.length
   .have x0:(k:Int)<(bD.length:Int):=by omega
    obtain ⟨kb,ko,rfl,m0⟩:=p0.out k n0;have l0:=m0 wr Y _ (qD D bD k).1 b;have N0:kb<wr.heap.size:=E2 wr _ l0;clear m0;generalize hf:bD.getD k 0=c0 at l0;have B:=ae hf;clear hf
    by_cases h0:c0=1
    .subst h0
     go_wp2_with (go_at_call 168;refine (CS _ S d _ _ (c,f) _ _ l.right A k0).mono ?_;rintro e w2 ⟨rfl,v,s⟩)
     go_roundw
     case rel=>
      refine ⟨k+1,Y.set c.toNat (O i f.length j,f),by omega,by go_num,?_,o.trans s⟩
      have e:D.eO bD (k+1)=(D.eO bD k).done (c,f):=by
       rw [aC.eO,q.out];simp only [aC.tE,B.out,if_true]
      rw [e];exact v
     case measure=>simp [intOf];omega
    .by_cases i0:c0=2
     .subst i0
      have m:=l.ah.bK.1;obtain ⟨w2,F0,v,s,E⟩:=ag.mapUpdate (P:=R) underlying100 underlying3 (w:=(wr.alloc (M #[N .i64 c,O i f.length j] 229 (0,0))).drew) l.ah.bK.2.aA c (.agg #[]);have c2:(wr.alloc (M #[N .i64 c,O i f.length j] 229 (0,0))).cell? ⟨d,2,V⟩=X (.map (X x.tm)):=l.ah.dj 2;have cb:(wr.alloc (M #[N .i64 c,O i f.length j] 229 (0,0))).cell? ⟨wr.heap.size,0,V⟩=X (N .i64 c):=l.cell 0;have q0:w2.cell? ⟨d,2,V⟩=X (.map (X x.tm)):=(E.1 _).trans c2;have r0:w2.cell? ⟨wr.heap.size,0,V⟩=X (N .i64 c):=(E.1 _).trans cb;clear E
      go_wp2_with fail
      generalize s0:wr.alloc (M #[N .i64 c,O i f.length j] 229 (0,0))=W1 at F0 c2 cb s o ⊢;clear s0
      go_region_held3 (fun w'=>w'.cell? ⟨d,2,V⟩=X (.map (X x.tm))/\w'.cell? ⟨wr.heap.size,0,V⟩=X (N .i64 c)) (first|go_keep|exact ⟨q0,r0⟩) (fail)
      go_wp2
      go_roundw
      case rel=>
       refine ⟨k+1,Y,by omega,by go_num,?_,o.drew.trans s⟩
       have e:D.eO bD (k+1)=(D.eO bD k).Tl (c,f):=by
        rw [aC.eO,q.out];simp only [aC.tE,B.out];rfl
       rw [e];rw [FG] at v;exact (ag.jv (D:=(D.eO bD k).Tl (c,f)) ⟨m.sec,m.uw,m.wait,m.nu⟩ v.tN).iJ
      case measure=>simp [intOf];omega
     .go_wp2
      go_roundw
      case rel=>
       refine ⟨k+1,Y,by omega,by go_num,?_,o⟩
       have e:D.eO bD (k+1)=D.eO bD k:=by
        rw [aC.eO,q.out];simp only [aC.tE,B.out,if_neg h0,if_neg i0]
       rw [e];exact l.right
      case measure=>simp [intOf];omega
   .have x0:¬ (k:Int)<(bD.length:Int):=by omega
    go_wp2
    go_roundw
    case rel=>
     refine ⟨k+1,Y,by omega,by go_num,?_,o⟩
     have e:D.eO bD (k+1)=D.eO bD k:=by
      rw [aC.eO,q.out];simp [aC.tE,A1,List.getElem?_eq_none (Nat.le_of_not_lt n0)]
     rw [e];exact l.right
    case measure=>simp [intOf];omega
  .obtain rfl:k=D.wait.length:=by omega
   have W:=b.dj 1;have k6:=b.dj 6;have k7:=b.dj 7;have k8:=b.dj 8;have k9:=b.dj 9;have kf:=b.pj;simp only [Dx.cells] at W k6 k7 k8 k9;have m:=b.bK.1;have H2:=((((b.bK.2.setCell 1 (O V 0 0)).setCell 6 (J K)).setCell 7 (J L)).setCell 8 (N .i64 0)).setCell 9 (O V 0 0);clear e1 t C
   go_wp2
   go_end0
   refine ⟨rfl,?_,((((o0.setCell _ _).setCell _ _).setCell _ _).setCell _ _).setCell _ _⟩;have H3:=((H2.lV).aA.right.fq 229 2).fq 3 1;refine ag.devOf (x:={ x with Y:=Y,wv:=O V 0 0,Z:=[],kv:=O V 0 0 }) (ag.jv ⟨m.sec,m.uw,rfl,by simp⟩ ?_)
   exact H3.to (by
    simp only [Dx.cells,aC.gg,List.length_nil,bT,iV,List.flatMap_nil,List.map_nil]
    ac_rfl)
end Go.Proofs.Nn
