/- Steps. -/
import Derived.Test.YtebfaobobccikaaGreatDoorLP2
import Derived.Test.YtebfaobobccikaaGreatDoorRows
import Derived.Deep.LoopGhost
import Derived.Deep.RegionHeld3
import Derived.Laws.CopyRow
import Derived.Deep.MidRow
set_option linter.all false
set_option maxRecDepth 99999
set_option maxHeartbeats 0
open Go.SL
open Go.Value renaming int->N,slice->O,pointer->H,bool->J
open Go.Obj renaming cells->M
open Go.Ending renaming returned->I
open Go renaming World->Q,Value->U
open Go.Proofs.Tryz renaming prog->R
open Option renaming some->X,none->V
open Bool renaming true->K,false->L
open Go.Proofs.Tryz
open Prod renaming fst->W0
open List renaming length_cons->X0,getD->Z0,length_map->D1,map_set->N1,eq_nil_of_length_eq_zero->U1,getElem?_eq_getElem->Y1
open UInt8 renaming ofInt->Y0
open Go.Value renaming int->A1
open Nat renaming zero_add->B1
open Int renaming pow_pos->E1,mul_nonneg->K1,mul_le_mul_of_nonneg_right->L1,eq_ofNat_of_zero_le->M1,toNat_natCast->R1,emod_add_mul_ediv->X1
open Array renaming getElem?_setIfInBounds->O1
open Go.World renaming size_alloc->S1,block_lt_of_cell?->Z1
open List.Perm renaming refl->T1
open BitVec renaming toNat_ofInt->V1
namespace Go.SL
open RowKit
variable {v v' xv:U} {P:Program} {ops:Array Oper} {o:Oper}
def bW (n:Nat) (l:List UInt8):List UInt8:=(l++zs n).take n
theorem cm (n:Nat) (l:List UInt8):(bW n l).length=n:=by simp [bW,bh]
theorem jZ {n:Nat} {l:List UInt8} (h:l.length=n):bW n l=l:=by rw [bW,List.take_left' h]
theorem aE {w:Q} {F:ai} {T:TypeId} {sz n:Nat} {xs:List U} (h:ag w (sl T sz v n xs*F)):∃ a c,v = O a n c:=by
 rcases h.cW with ⟨rfl,rfl,_,_⟩|⟨g,b,e,rfl,_⟩
 .exact ⟨_,_,rfl⟩
 .exact ⟨_,_,rfl⟩
theorem pY {w:Q} {F:ai} {T:TypeId} {b n:Nat} {e:List U} (h:ag w (sl T b v n e*F)) (j:0<n):∃ g c,v = O (X ⟨g,0,V⟩) n c:=by
 rcases h.cW with ⟨rfl,rfl,_,_⟩|⟨g,f,i,rfl,_⟩
 .omega
 .exact ⟨_,_,rfl⟩
theorem fo {w g:Q} {rest:List Oper} {a:Act} {b:Exit->Act->Q->Prop} {c e f:TypeId}
  (l:(Builtin.copy_ #[c,e] f #[v,v']).run P w = .ok xv g) (s x:Operand)
  (j:o.guard=V) (p:o.type=f) (k:o.op=Op.call { callee:=Callee.builtin Builtin.copy,args:=#[s,x],argTypes:=#[c,e] })
  (m:a.eval s=v) (q:a.eval x=v')
  (h:wpList P ops b rest (a.put o.dst xv) g):wpList P ops b (o :: rest) a w:=by
 refine wpList_plain j fun r i=>?_;subst p m q;unfold Oper.wp;simp [execOp,k,resolve,invoke,builtin,l,Result.andThen];exact i _ _ h
theorem mK {a:Act} {w f:Q} {b:Act->Q->Prop} {g:Exit->Act->Q->Prop} {E:Prop} {c e ty:TypeId}
  (l:(Builtin.append_ #[c,e] ty #[v,v']).run P w = .ok xv f) (j:o.guard=V) (d s:Operand) (p:o.type=ty)
  (k:o.op = .call { callee:=.builtin .append,args:=#[d,s],argTypes:=#[c,e] }) (i:a.eval d=v) (m:a.eval s=v')
  (h:b (a.put o.dst xv) f):if Region.wanted o (yielded ops a.tmps)=K then Oper.wp P o a w b g else E:=by
 have q:Region.wanted o (yielded ops a.tmps)=K:=by simp [Region.wanted,j]
 rw [if_pos q];subst p i m;unfold Oper.wp;simp [execOp,k,resolve,invoke,builtin,l,Result.andThen];exact h
theorem enters {f:FuncId} {b:Func} {c:Code} (i:P.funcs[f]?=X b) (j:(b.name == "runtime.NumGoroutine")=L) (h:b.body=X c):∀ e w,(callFunc f e).run P w = .ok (.enter f e) w:=by
 intro e w;have g:b.name ≠ "runtime.NumGoroutine" := by simpa using j
 simp [callFunc,i,g,h,mark]
theorem oN {a:Act} {w:Q} {g:Act->Q->Prop} {j:Exit->Act->Q->Prop} {E:Prop} {n:FuncId} {f:Array U} {i:Ending->Q->Prop}
  (q:Calls P n f w i) (s:∀ b w,(callFunc n b).run P w = .ok (.enter n b) w) (t:o.guard=V) (b:Array Operand) (ts:Array TypeId)
  (u:o.op = .call { callee:=.value (.func n),args:=b,argTypes:=ts }) (m:b.toList.map a.eval=f.toList)
  (h:∀ e c,i e c->∃ v,e = I v/\g (a.put o.dst v) c) :
  if Region.wanted o (yielded ops a.tmps)=K then Oper.wp P o a w g j else E:=by
 have A:Region.wanted o (yielded ops a.tmps)=K:=by simp [Region.wanted,t]
 rw [if_pos A]
 have p:b.map a.eval=f:=by
  apply Array.toList_inj.1;rw [Array.toList_map];exact m
 subst p;unfold Oper.wp
 have r:(execOp a.eval o).run P w = .ok (.enter n (b.map a.eval)) w:=by
  simp [execOp,u,resolve,invoke,Act.eval,Deferred.ofValue,go_sem,s]
 rw [r,Oper.upon_enter];refine q.mono ?_;intro e c l;obtain ⟨v,rfl,k⟩:=h e c l;exact k
theorem Rd.shape {w:Q} {l:List UInt8} (h:Rd w v l):∃ a c,v = O a l.length c:=by
 rcases h.2 with ⟨rfl,b⟩|⟨a,c,rfl,_⟩
 .exact ⟨_,_,by rw [b]⟩
 .exact ⟨_,_,rfl⟩
theorem Rd.bB {w b:Q} {l:List UInt8} {P:ai} (h:Rd w v l) (s:ag b (P*whole w)):Rd b v l:=oG.carry h fun a u c=>s.cF c
theorem sJ (l:List UInt8):∀ v ∈ l.map u8,v.oneCell'=K:=by
 intro v b;obtain ⟨x,_,rfl⟩:=List.mem_map.1 b
 rfl
theorem At.take {w:Q} {a:Addr} {xs:List U} (h:At w a xs) (n:Nat):At w a (xs.take n):=fun j u b=>h j u (by
 rw [List.getElem?_take] at b
 split at b
 .exact b
 .cases b)
theorem JJ {w:Q} {g:Nat} {l:List UInt8} {T dT:TypeId} {F:ai} (j:P.underlying dT=X (.slice T)) (i:(P.info? T).map (·.size)=X 1)
  (h:ag w (pt g (M (dP (zs 512)) T (0,0))*F)) (b:Rd w v l) (e:TypeId) :
  ∃ f p,(Builtin.copy_ #[dT,dT] e #[O (X ⟨g,0,V⟩) 512 512,v]).run P w = .ok p f/\ag f (pt g (M (dP (bW 512 l)) T (0,0))*F)/\aj w f:=by
 obtain ⟨q,b⟩:=b;rcases b with ⟨rfl,k⟩|⟨a,c,rfl,o⟩
 .have:l=[]:=U1 k
  subst this;refine ⟨w,_,run_copy_nil (P:=P) w dT dT e T ⟨g,0,V⟩ 512 512 j (by rw [i];rfl),?_,aj.refl w⟩;rw [bW,List.nil_append,List.take_of_length_le (by rw [bh];exact Nat.le_refl _)];exact h
 .have:=run_copy_row (P:=P) w dT dT e T g 0 512 512 a l.length c (dP (zs 512)) T ((l.take 512).map u8) j i h.heap (by simp [Nat.min_comm]) (by rw [List.map_take];exact o.take 512)
   (by simp [eO,bh];omega) (sJ _)
  refine ⟨_,_,this,?_,(aj.refl w).setRow _ _⟩;have m:=h.setRow (cs':=((dP (zs 512)).toList.take 0++(l.take 512).map u8++(dP (zs 512)).toList.drop (0+((l.take 512).map u8).length)).toArray);refine m.to ?_;congr 3;simp only [dP,bW,zs,List.take_zero,List.nil_append,B1,D1,List.length_take,List.map_append,List.map_take,List.take_append,List.map_replicate,List.drop_replicate,List.take_replicate,List.toList_toArray];congr 3;omega
def lG (v:U) (w:Q) (e:Ending) (b:Q):Prop:=e = I v/\ag b (whole w)/\aj w b
def dx (n:Int) (j:Nat):List UInt8:=(List.range j).map fun i=>Y0 (n/(256:Int) ^ i)
theorem bp (n:Int) (j:Nat):(dx n j).length=j:=by simp [dx]
theorem Ak (n:Int) (j:Nat):dx n (j+1)=dx n j++[Y0 (n/(256:Int) ^ j)]:=by simp [dx,List.range_succ]
theorem ag.du {w w':Q} {b:ai} (h:ag w' (SL.whole w)) (g:ag w b):ag w' b:=(ag.under (h.to (di _).symm) g).to (di _)
def iM (l:List UInt8):Nat->Int
 | 0=>0
 | j+1=>iM l j+((l.getD j 0).toNat:Int)*(256:Int) ^ j
theorem gZ (l:List UInt8) (j:Nat):0<=iM l j/\iM l j<(256:Int) ^ j:=by
 induction j with
 | zero=>simp [iM]
 | succ j h=>
  have c:((l.getD j 0).toNat:Int)<256:=by have:=UInt8.toNat_lt (l.getD j 0);omega
  have b:0<=((l.getD j 0).toNat:Int):=by omega
  have g:0<(256:Int) ^ j:=E1 (by decide);rw [iM,Int.pow_succ];generalize ((l.getD j 0).toNat:Int)=x at *;generalize (256:Int) ^ j=p at *;have e:0<=x*p:=K1 b (by omega);have f:x*p<=255*p:=L1 (by omega) (by omega);omega
theorem xb {j:Nat} (h:j<=6):(256:Int) ^ j<=281474976710656:=by
 obtain rfl|rfl|rfl|rfl|rfl|rfl|rfl:j=0\/j=1\/j=2\/j=3\/j=4\/j=5\/j=6:=by omega
 all_goals decide
theorem JK {a x:Int} {i:Nat} (h:0<=a) (m:a<2 ^ i) (l:0<=x) (k:x*2 ^ i+a<18446744073709551616):bits .or .u64 a (x*2 ^ i)=a+x*2 ^ i:=by
 obtain ⟨A,rfl⟩:=M1 h;obtain ⟨b,rfl⟩:=M1 l;have c:(b:Int)*2 ^ i=((2 ^ i*b:Nat):Int):=by rw [Nat.mul_comm];simp
 rw [c] at k ⊢
 have g:A<2 ^ i:=by
  have:((2 ^ i:Nat):Int)=(2:Int) ^ i:=by simp
  omega
 have j:=Nat.two_pow_add_eq_or_of_lt g b;show IntKind.u64.wrap ((BitVec.ofInt 64 (A:Int) ||| BitVec.ofInt 64 ((2 ^ i*b:Nat):Int)).toNat:Nat)=_
 rw [BitVec.toNat_or,V1,V1];have e:((A:Int)%((2 ^ 64:Nat):Int)).toNat=A:=by omega
 have f:(((2 ^ i*b:Nat):Int)%((2 ^ 64:Nat):Int)).toNat=2 ^ i*b:=by omega
 rw [e,f,Nat.or_comm,<- j,IntKind.wrap_u64];omega
theorem OG (l:List UInt8) (b j:Nat) (r:j<6) :
  bits .or .u64 (iM (l.drop b) j) (IntKind.u64.wrap (IntKind.u64.wrap ((l[b+j]?.getD 0).toNat:Int)*2 ^ (8*j)))=iM (l.drop b) (j+1):=by
 have s:((l[b+j]?.getD 0).toNat:Int)<256:=by have:=UInt8.toNat_lt (l[b+j]?.getD 0);omega
 have c:0<=((l[b+j]?.getD 0).toNat:Int):=by omega
 obtain ⟨o,e⟩:=gZ (l.drop b) j;have h:(l.drop b).getD j 0=l[b+j]?.getD 0:=by simp [Z0]
 rw [iM,h];have m:(256:Int) ^ j=2 ^ (8*j):=by rw [Int.pow_mul];rfl
 have i:=xb (j:=j) (by omega);have k:0<(256:Int) ^ j:=E1 (by decide);generalize ((l[b+j]?.getD 0).toNat:Int)=x at *;rw [m] at e i k ⊢;have p:0<=x*2 ^ (8*j):=K1 c (by omega);have q:x*2 ^ (8*j)<=255*2 ^ (8*j):=L1 (by omega) (by omega);have f:IntKind.u64.wrap x=x:=by rw [IntKind.wrap_u64];omega
 have g:IntKind.u64.wrap (x*2 ^ (8*j))=x*2 ^ (8*j):=by rw [IntKind.wrap_u64];omega
 rw [f,g];exact JK o e c (by omega)
theorem wJ (n:Int) (j:Nat):n%(256:Int) ^ (j+1)=n%(256:Int) ^ j+(n/(256:Int) ^ j%256)*(256:Int) ^ j:=by
 have b:0<(256:Int) ^ j:=E1 (by decide);rw [Int.pow_succ];generalize (256:Int) ^ j=p at b;have i:=X1 n p;have g:=X1 (n/p) 256;have k:=Int.emod_nonneg n (by omega:p≠0);have l:=Int.emod_lt_of_pos n b;have h:=Int.emod_nonneg (n/p) (by decide:(256:Int)≠0);have m:=Int.emod_lt_of_pos (n/p) (by decide:(0:Int)<256);have o:0<=(n/p%256)*p:=K1 h (by omega);have r:(n/p%256)*p<=255*p:=L1 (by omega) (by omega)
 have e:n=(n%p+(n/p%256)*p)+(p*256)*(n/p/256):=by
  have s:p*(n/p)=(n/p%256)*p+(p*256)*(n/p/256):=by
   conv=>lhs;rw [<- g]
   rw [Int.mul_add,<- Int.mul_assoc,Int.mul_comm p]
  omega
 generalize t:n/p/256=q at e;generalize u:n%p+n/p%256*p=x at e;have c:0<=x:=by omega
 have f:x<p*256:=by omega
 rw [e,Int.add_mul_emod_self_left,Int.emod_eq_of_lt c f]
theorem J1 (n:Int):((Y0 n).toNat:Int)=n%256:=by
 simp [Y0,UInt8.toNat_ofNat'];omega
theorem mm (n:Int) (s:Nat) (rest:List UInt8):∀ j,j<=s->iM (dx n s++rest) j=n%(256:Int) ^ j:=by
 intro j
 induction j with
 | zero=>intro _;simp [iM]
 | succ j b=>
  intro c;rw [iM,b (by omega),wJ];congr 1
  have:(dx n s++rest).getD j 0=Y0 (n/(256:Int) ^ j):=by
   rw [Z0,List.getElem?_append_left (by rw [bp];omega)];simp [dx,List.getElem?_map,List.getElem?_range (show j<s by omega)]
  rw [this,J1]
def ints (l:List Int):Array U:=(l.map (A1 .i64)).toArray
theorem dO (l:List Int):(ints l).size=l.length:=by simp [ints]
theorem dH (l:List Int) (i:Nat):(ints l)[i]?=l[i]?.map (A1 .i64):=by simp [ints]
theorem gH (l:List Int) (i:Nat) (x:Int):(ints l).setIfInBounds i (N .i64 x)=ints (l.set i x):=by simp [ints,N1]
theorem bG {l:List Int} {i:Nat} (h:i<l.length):(ints l)[i]?=X (N .i64 (l.getD i 0)):=by
 rw [dH,Z0,Y1 h];rfl
theorem Gj (n:Nat):madeCells (A1 .i64 0).cells (n*1)=ints (List.replicate n 0):=by
 apply Array.ext
 .simp [size_madeCells,dO]
 .intro i b c
  simp [madeCells,ints,Value.cells,Nat.mod_one]
def mE (n:Int) (w:Q) (e:Ending) (b:Q):Prop:=e = I (N .i64 n)/\w=b
abbrev az (b:Nat):U:=H (X ⟨b,0,V⟩)
def oM (w:Q) (v:U) (l:List Int):Prop:=
 (∃ x c,v = O x 0 c/\l=[])\/∃ g o c,v = O (X ⟨g,o,V⟩) l.length c/\l.length<=c/\c<=maxLen/\∀ k,k<l.length->w.cell? ⟨g,o+k,V⟩=X (N .i64 (l.getD k 0))
def fM:Array U->Nat->List U->Array U
 | b,_,[]=>b
 | b,o,v :: c=>fM (b.setIfInBounds o v) (o+1) c
theorem uC:∀ (c:List U) (b:Array U) (o:Nat),(fM b o c).size=b.size
 | [],b,o=>rfl
 | v :: c,b,o=>by rw [fM,uC c];simp
theorem iV:∀ (b:List U) (c:Array U) (o k:Nat),o+b.length<=c.size->(fM c o b)[k]?=if o<=k/\k<o+b.length then b[k-o]? else c[k]?
 | [],c,o,k,h=>by rw [fM,if_neg (by simp)]
 | v :: b,c,o,k,h=>by
  simp only [X0] at h;rw [fM,iV b _ (o+1) k (by simp;omega)]
  by_cases f:k=o
  .subst f
   rw [if_neg (by omega),if_pos (by simp)];simp [O1,show k<c.size by omega]
  .by_cases e:o<=k/\k<o+(v :: b).length
   .simp only [X0] at e
    rw [if_pos (by omega),if_pos (by simp only [X0];omega)];rw [show k-o=(k-(o+1))+1 by omega,List.getElem?_cons_succ]
   .simp only [X0] at e
    rw [if_neg (by omega),if_neg (by simp only [X0];omega)];rw [O1,if_neg (by omega)]
theorem ag.setCells:∀ (c:List U) (o:Nat) {w:Q} {g:Nat} {b:Array U} {T:TypeId} {F:ai},ag w (pt g (M b T (0,0))*F)->ag (w.setCells g o c) (pt g (M (fM b o c) T (0,0))*F)
 | [],o,w,g,b,T,F,h=>h
 | v :: c,o,w,g,b,T,F,h=>ag.setCells c (o+1) (h.setCell o v)
theorem aj.setCells:∀ (c:List U) (o:Nat) {a b:Q} (g:Nat),aj a b->aj a (b.setCells g o c)
 | [],o,a,b,g,h=>h
 | v :: c,o,a,b,g,h=>aj.setCells c (o+1) g (h.setCell ⟨g,o,V⟩ v)
theorem ag.there {w:Q} {g:Nat} {b:Array U} {T:TypeId} {F:ai} (h:ag w (pt g (M b T (0,0))*F)) {o n:Nat} (e:o+n<=b.size):w.there g o n:=fun j c=>
 ⟨by rw [h.cell,Array.getElem?_eq_getElem (by omega)];rfl,h.frozen _⟩
end Go.SL
namespace Go.Proofs.Ba
open RowKit SL
theorem gM:(prog.info? 5).map (fun i=>(i.zero,i.size,i.bytes))=X (X (N .u8 0),1,1):=by kernel_rfl
theorem fh (n:Nat) (g:n<=281474976710656) (w:Q):(Instr.makeSlice 22 (N .i64 n) (N .i64 n)).run R w =
  .ok (O (X ⟨w.heap.size,0,V⟩) n n) (w.alloc (M (dP (zs n)) 5 (0,0))):=by
 obtain ⟨i,c,f,e,b⟩:=info_parts gM;have:=run_make (P:=R) w 22 5 i _ underlying22 c f .i64 .i64 n n (by omega) (by omega) (by rw [b];omega) (by omega);rw [this,e];simp only [R1];rw [jC]
def Qs (w:Q) (l:List UInt8) (e:Ending) (b:Q):Prop:=∃ v,e = I v/\ag b (bs 5 v l*whole w)/\aj w b
theorem jN (w:Q) (v:U) (l:List UInt8) (b:Rd w v l) (j:l.length<=1000000000) :
  Calls R 188 #[v] w (Qs w l):=by
 obtain ⟨C,i,o,m,h⟩:=info_parts gM;obtain ⟨s,b⟩:=b;rcases b with ⟨rfl,q⟩|⟨a,c,rfl,r⟩
 .have:l=[]:=U1 q
  subst this;have t:=fun w=>Lib.run_eql_slice_nil (P:=R) w 22 5 V 0 0 0 0 underlying22;clear j
  go_enter func188,ntmps188
  go_wp2
  go_ret
  exact ⟨_,rfl,(ag.whole w).eQ _ _,aj.refl w⟩
 .have g:oG (w.alloc (M #[] 5 (0,0))) 1 (O (X a) l.length c) l.length (l.map u8):=
   oG.alloc ⟨s,.inr ⟨a,c,rfl,r⟩⟩ _
  have e:=(ag.whole w).alloc (M #[] 5 (0,0));have f:=ag.nj (n:=0) (cap:=0) (sz:=1) e (Nat.le_refl _) (by decide) rfl;obtain ⟨B,E,k,u,A⟩:=ag.append (P:=R) (ty:=22) underlying22 i o m h rfl f g (by simp [u8,Value.oneCell']) (by unfold maxLen;omega) (by omega);have p:=ae k;clear k e f g i o m h j;have t:=fun w=>Lib.run_eql_slice_nil (P:=R) w 22 5 (X a) l.length c 0 0 underlying22
  go_enter func188,ntmps188
  go_wp2_with (at_builtin;refine wpList_append_run p.out _ _ rfl rfl rfl rfl rfl ?_)
  go_ret
  refine ⟨B,rfl,u.to ?_,((aj.refl w).alloc _).trans A⟩;simp [bs]
def N8 (w:Q) (f:KV) (e:Ending) (b:Q):Prop:=∃ c D,e = I (.map (X c))/\D.Perm f/\ag b (mp c D*whole w)/\aj w b
def IP (w:Q) (b:Nat) (o:Obj) (c:KV) (k:Nat) (wr:Q):Prop:=
 ∃ D e,c.length<=D.length+k/\Iter b o c D e/\ag wr (pt (w.heap.size+1) e*(mp w.heap.size D*whole w))/\aj w wr
theorem l9 (w:Q) (v:U) (c:KV) (hr:UN w v c) :
  Calls R 185 #[v] w (N8 w c):=by
 have W:=@iO R _ _ _ underlying172;rcases hr with ⟨rfl,rfl⟩|⟨b,o,rfl,e,q⟩
 .have g:∀ w,(Instr.range 172 (.map V)).run R w = .ok (H (X ⟨w.heap.size,0,V⟩)) (w.alloc (.mapIter V 0 #[] 0)):=by
   intro w;simp [Instr.range,run_underlying underlying172]
  have r:∀ B,(Instr.next (H (X ⟨w.heap.size+1,0,V⟩)) L B).run R ((w.alloc (.map #[] 0)).alloc (.mapIter V 0 #[] 0)) = .ok (.tuple #[J L]) ((w.alloc (.map #[] 0)).alloc (.mapIter V 0 #[] 0)):=by
   intro B;have:=(ag.whole (w.alloc (.map #[] 0))).alloc (.mapIter V 0 #[] 0);have h:=this.heap;rw [S1] at h;simp only [Instr.next,getObj,Sem.run_bind,Sem.run,h,Result.andThen]
   rfl
  go_enter func185,ntmps185
  go_wp2
  refine wp_loop_rounds 1 ?_;rw [rounds_succ]
  go_wp2
  go_ret
  exact ⟨_,[],rfl,T1 _,(((ag.whole w).alloc (.map #[] 0)).tD isMap_empty |>.alloc (.mapIter V 0 #[] 0)).right,((aj.refl w).alloc _).alloc _⟩
 .have k:=((ag.whole w).alloc (.map #[] 0)).tD isMap_empty
  have f:(w.alloc (.map #[] 0)).heap[b]?=X o:=k.Fk e;obtain ⟨A,g,C⟩:=kW (P:=R) underlying172 f q;rw [S1] at g;have P:=CC (P:=R) e q underlying172 3;have H1:=ae f;clear f
  go_enter func185,ntmps185
  go_wp2
  go_loopg [] c.length (fun g0 wr=>IP w b o c g0 wr)
  case atStart=>
   have j:=k.alloc A;rw [S1] at j;exact ⟨[],A,by simp,C,j,((aj.refl w).alloc _).alloc _⟩
  case round=>
   obtain ⟨D,l0,j0,E,i,u⟩:=hrel;clear g W P;have l:wr.heap[b]?=X o:=(i.to (ay _ _ _).symm).Fk e;rcases i.next (P:=R) l E with ⟨s,r⟩|⟨p,f0,w2,hp,b0,r,c0,m,d0,h0,i0⟩
   .have Hp:=ae s;clear s
    go_wp2
    go_ret
    exact ⟨_,D,rfl,Hp.out,i.right,u⟩
   .obtain ⟨w3,k0,t,e0,_⟩:=ag.mapUpdate (P:=R) underlying172 underlying3 (c0.to (aG _ _ _)) p.1 p.2
    clear l
    go_wp2
    have G:=zJ m;rw [List.length_append,List.length_singleton] at G
    go_roundg (gk-1)
    case measure=>omega
    case rel=>
     refine ⟨D++[p],f0,by simp;omega,m,?_,(u.trans d0).trans e0⟩;rw [OO b0] at t;exact t.to (aG _ _ _)
end Go.Proofs.Ba
namespace Go.SL
open RowKit
variable {rd v:U} {P:Program} {k:IntKind}
abbrev CB:=List (Int × List UInt8)
def aQ (T:TypeId) (S:Hp) (v:U) (sh:Bool) (C:CB):ai:=fun h=>∃ Z:List (Int × U × List UInt8),
  (Z.map fun z=>(z.1,z.2.2)).Perm C/\(Z.map W0).Nodup/\(∀ z ∈ Z,ru T S z.2.1 z.2.2) /\
  ((v = .map V/\Z=[]/\h=fun _=>V) \/
   (∃ m o,v = .map (X m)/\sh=K/\S m=X o/\IsMap o (Z.map fun z=>(z.1,z.2.1))/\h=fun _=>V) \/
   (∃ m,v = .map (X m)/\sh=L/\mp m (Z.map fun z=>(z.1,z.2.1)) h))
theorem gW {T:TypeId} {S S':Hp} {sh:Bool} {C:CB} (e:Ext S S') (h:Hp) (b:aQ T S v sh C h):aQ T S' v sh C h:=by
 obtain ⟨Z,f,g,i,c⟩:=b;refine ⟨Z,f,g,fun z q=>(i z q).mono e,?_⟩;rcases c with c|⟨m,o,j,k,l,p⟩|c
 .exact .inl c
 .exact .inr (.inl ⟨m,o,j,k,e _ _ l,p⟩)
 .exact .inr (.inr c)
theorem Jd (T:TypeId) (S:Hp) (b:Bool):aQ T S (.map V) b [] (fun _=>V):=⟨[],T1 _,List.nodup_nil,by simp,.inl ⟨rfl,rfl,rfl⟩⟩
theorem ag.lv {T:TypeId} {w:Q} {S:Hp} {j:Bool} {C:CB} {F:ai} (h:ag w (aQ T S v j C*(aq S*F))) :
    ∃ Z:List (Int × U × List UInt8),(Z.map fun z=>(z.1,z.2.2)).Perm C/\(Z.map W0).Nodup/\(∀ z ∈ Z,ru T S z.2.1 z.2.2) /\
      UN w v (Z.map fun z=>(z.1,z.2.1)) /\
      ((v = .map V/\ag w (aq S*F))\/(j=K/\ag w (aq S*F)) \/
       (∃ m,v = .map (X m)/\j=L/\ag w (mp m (Z.map fun z=>(z.1,z.2.1))*(aq S*F)))):=by
  obtain ⟨k,a,p,l,⟨Z,q,r,z3,z4⟩,f,d,rfl⟩:=h;have i:ag w (aq S*F):=⟨l,fun b o s=>a b o (by rcases d b with e|e <;> simp_all [join]),f⟩
  refine ⟨Z,q,r,z3,?_,?_⟩
  · rcases z4 with ⟨rfl,rfl,_⟩|⟨m,o,rfl,_,c,g,_⟩|⟨m,rfl,_,c⟩
    · exact .inl ⟨rfl,rfl⟩
    · exact .inr ⟨m,o,rfl,i.FE c,g⟩
    · obtain ⟨o,g,rfl⟩:=c
      exact .inr ⟨m,o,rfl,a m o (by simp [join,one]),g⟩
  · rcases z4 with ⟨rfl,rfl,_⟩|⟨m,o,rfl,rfl,c,g,_⟩|⟨m,rfl,rfl,c⟩
    · exact .inl ⟨rfl,i⟩
    · exact .inr (.inl ⟨rfl,i⟩)
    · exact .inr (.inr ⟨m,rfl,rfl,_,a,p,l,c,f,d,rfl⟩)
theorem ag.zi {T:TypeId} {w:Q} {S:Hp} {C:CB} {F:ai} {m:Nat} {Z:List (Int × U × List UInt8)} (h:ag w (mp m (Z.map fun z=>(z.1,z.2.1))*F))
  (b:(Z.map fun z=>(z.1,z.2.2)).Perm C) (c:(Z.map W0).Nodup) (e:∀ z ∈ Z,ru T S z.2.1 z.2.2):ag w (aQ T S (.map (X m)) L C*F):=
 h.fp fun k f=>⟨Z,b,c,e,.inr (.inr ⟨m,rfl,rfl,f⟩)⟩
structure Bx where
 wv:Value
 ws:Bool
 tv:Value
 ts:Bool
 av:Value
def fy (av:U):ai:=fun h=>(av = .map V/\h=fun _=>V)\/∃ m,av = .map (X m)/\mp m [] h
def Bx.cells (x:Bx) (rd:U) (b:Int):Array U:=#[rd,N .i64 b,x.wv,J x.ws,x.tv,J x.ts,x.av]
def aB (c T:TypeId) (S:Hp) (b:Nat) (rd:U) (e:Int) (W D:CB):ai:=
 ex fun x:Bx=>pt b (M (x.cells rd e) c (0,0))*(aQ T S x.wv x.ws W*(aQ T S x.tv x.ts D*fy x.av))
theorem ag.eh {w:Q} {c T:TypeId} {S:Hp} {b:Nat} {e:Int} {W D:CB} {F:ai} (h:ag w (aB c T S b rd e W D*F)) :
  ∃ x:Bx,ag w (pt b (M (x.cells rd e) c (0,0))*(aQ T S x.wv x.ws W*(aQ T S x.tv x.ts D*(fy x.av*F)))):=by
 obtain ⟨x,h⟩:=ag.ax.1 h;exact ⟨x,h.to (by ac_rfl)⟩
theorem ag.ie {w:Q} {c T:TypeId} {S:Hp} {b:Nat} {e:Int} {W D:CB} {F:ai} (x:Bx)
  (h:ag w (pt b (M (x.cells rd e) c (0,0))*(aQ T S x.wv x.ws W*(aQ T S x.tv x.ts D*(fy x.av*F))))):ag w (aB c T S b rd e W D*F):=
 ag.ax.2 ⟨x,h.to (by ac_rfl)⟩
theorem dG {c T:TypeId} {S S':Hp} {b:Nat} {f:Int} {W D:CB} (e:Ext S S') (h:Hp) (p:aB c T S b rd f W D h):aB c T S' b rd f W D h:=by
 obtain ⟨x,k,l,v,⟨m,o,A,⟨q,r,B,C,j,u⟩,i,t⟩,g,s⟩:=p;exact ⟨x,k,l,v,⟨m,o,gW e _ A,⟨q,r,gW e _ B,C,j,u⟩,i,t⟩,g,s⟩
theorem ag.M9 {w c:Q} {T:TypeId} {S:Hp} {b:Nat} {o:Obj} {x:Bx} {W D:CB} {F:ai} {l:List UInt8}
  (r:ag w (pt b o*(aQ T S x.wv x.ws W*(aQ T S x.tv x.ts D*(fy x.av*(aq S*F))))))
  (q:ag c (bs T v l*SL.whole w)) (p:small l) :
  ∃ S',Ext S S'/\ru T S' v l/\ag c (pt b o*(aQ T S' x.wv x.ws W*(aq S'*(aQ T S' x.tv x.ts D*(fy x.av*F))))) /\
   ag c (pt b o*(aQ T S' x.tv x.ts D*(aq S'*(aQ T S' x.wv x.ws W*(fy x.av*F))))):=by
 have g:=q.under r;obtain ⟨S',e,m,h⟩:=ag.yS (S:=S) (F:=pt b o*(aQ T S x.wv x.ws W*(aQ T S x.tv x.ts D*(fy x.av*F)))) (g.to (by ac_rfl)) p;refine ⟨S',e,m,?_⟩;have i:ag c (aQ T S x.wv x.ws W*(pt b o*(aQ T S x.tv x.ts D*(fy x.av*(aq S'*F))))):=h.to (by ac_rfl);have j:=i.fp (gW e);have k:ag c (aQ T S x.tv x.ts D*(pt b o*(aQ T S' x.wv x.ws W*(fy x.av*(aq S'*F))))):=j.to (by ac_rfl);have f:=k.fp (gW e);exact ⟨f.to (by ac_rfl),f.to (by ac_rfl)⟩
theorem Al {w:Q} {t j e:TypeId} (g:P.underlying t=X (.map j e)) (f:P.underlying j=X (.int k)) {z:U} (i:(zeroValue e).run P w = .ok z w) {c:KV} (h:UN w v c) (x:Int) (ok:Bool) :
  (Instr.lookup t v (N .i64 x) ok).run P w = .ok (if ok then .tuple #[(aP c x).getD z,J (aP c x).isSome] else (aP c x).getD z) w:=by
 rcases h with ⟨rfl,rfl⟩|⟨b,o,rfl,l,m⟩
 .rw [kg g f i];rfl
 .exact iB g f i l m x ok
theorem ag.j5 {T:TypeId} {w:Q} {S:Hp} {s:Bool} {C:CB} {F:ai} (h:ag w (aQ T S v s C*(aq S*F)))
  {t m e:TypeId} (r:P.underlying t=X (.map m e)) (p:P.underlying m=X (.int k)) (c:(zeroValue e).run P w = .ok (O V 0 0) w) (b:Int) :
  (aP C b=V->(Instr.lookup t v (N .i64 b) K).run P w = .ok (.tuple #[O V 0 0,J L]) w) /\
  (∀ l,aP C b=X l->∃ f,(Instr.lookup t v (N .i64 b) K).run P w = .ok (.tuple #[f,J K]) w/\ru T S f l):=by
 obtain ⟨Z,u,A,z3,q,_⟩:=h.lv
 have g:aP C b=(aP Z b).map fun z=>z.2:=by
  rw [<- nW u (by rw [List.map_map];exact A),j7 (fun z:U × List UInt8=>z.2)]
 have o:aP (Z.map fun z=>(z.1,z.2.1)) b=(aP Z b).map fun z=>z.1:=j7 (fun z:U × List UInt8=>z.1) Z b;rw [Al r p c q b K,o];constructor
 .intro j
  have:aP Z b=V:=by rw [g] at j;simpa using j
  rw [this];rfl
 .intro l i
  rw [g] at i;obtain ⟨z,c,rfl⟩:=Option.map_eq_some_iff.1 i;exact ⟨z.1,by rw [c];rfl,z3 _ (nh c)⟩
theorem ag.tS {T:TypeId} {w:Q} {S:Hp} {sh:Bool} {C:CB} {F:ai} (h:ag w (aQ T S v sh C*F)):∃ r,v = .map r:=by
 obtain ⟨k,a,b,c,⟨Z,e,g,z3,z4⟩,f,d,rfl⟩:=h;rcases z4 with ⟨rfl,_⟩|⟨m,o,rfl,_⟩|⟨m,rfl,_⟩ <;> exact ⟨_,rfl⟩
theorem ag.xY {T:TypeId} {w:Q} {S:Hp} {sh:Bool} {C:CB} {F:ai} (h:ag w (aQ T S v sh C*(aq S*F))) :
  ∃ S',Ext S S'/\ag w (aQ T S' v K C*(aQ T S' v K C*(aq S'*F))):=by
 obtain ⟨k,a,E,l,⟨Z,i,j,z3,z4⟩,f,d,rfl⟩:=h;have r:ag w (aq S*F):=⟨l,fun b o P=>a b o (by rcases d b with e|e <;> simp_all [join]),f⟩
 have two:∀ {S':Hp} {G:ai},(aQ T S' v K C (fun _=>V))->ag w G->ag w (aQ T S' v K C*G):=fun p q=>(q.to (di _).symm).fp fun k u=>by rw [u];exact p
 rcases z4 with ⟨rfl,rfl,_⟩|⟨m,o,rfl,rfl,c,g,_⟩|⟨m,rfl,rfl,c⟩
 .have p:aQ T S (.map V) K C (fun _=>V):=⟨[],i,j,z3,.inl ⟨rfl,rfl,rfl⟩⟩
  exact ⟨S,Ext.refl S,two p (two p r)⟩
 .have p:aQ T S (.map (X m)) K C (fun _=>V):=⟨Z,i,j,z3,.inr (.inl ⟨m,o,rfl,rfl,c,g,rfl⟩)⟩
  exact ⟨S,Ext.refl S,two p (two p r)⟩
 .obtain ⟨o,g,rfl⟩:=c
  have A:ag w (aq S*(pt m o*F)):=ag.to (⟨_,a,one m o,l,rfl,f,d,rfl⟩:ag w (pt m o*(aq S*F))) (aG _ _ _);obtain ⟨s,t⟩:=A.Fy;have p:aQ T (join S (one m o)) (.map (X m)) K C (fun _=>V):=⟨Z,i,j,fun z B=>(z3 z B).mono (wm _ _ _),.inr (.inl ⟨m,o,rfl,rfl,t,g,rfl⟩)⟩
  exact ⟨_,wm _ _ _,two p (two p s)⟩
theorem ag.BG {T:TypeId} {w:Q} {S:Hp} {v v':U} {sh sh':Bool} {C C':CB} {F:ai} (h:ag w (aQ T S v sh C*(aQ T S v' sh' C'*(aq S*F)))) :
  ∃ S',Ext S S'/\ag w (aQ T S' v K C*(aQ T S' v K C*(aQ T S' v' K C'*(aQ T S' v' K C'*(aq S'*F))))):=by
 obtain ⟨b,f,g⟩:=ag.xY (T:=T) (S:=S) (v:=v) (sh:=sh) (C:=C) (F:=aQ T S v' sh' C'*F) (h.to (by ac_rfl));have i:ag w (aQ T b v' sh' C'*(aQ T b v K C*(aQ T b v K C*(aq b*F)))):=ag.fp (P:=aQ T S v' sh' C') (g.to (by ac_rfl)) (gW f);obtain ⟨c,e,j⟩:=ag.xY (T:=T) (S:=b) (v:=v') (sh:=sh') (C:=C') (F:=aQ T b v K C*(aQ T b v K C*F)) (i.to (by ac_rfl));have k:ag w (aQ T c v K C*(aQ T b v K C*(aQ T c v' K C'*(aQ T c v' K C'*(aq c*F))))):=ag.fp (P:=aQ T b v K C) (j.to (by ac_rfl)) (gW e);have l:ag w (aQ T c v K C*(aQ T c v K C*(aQ T c v' K C'*(aQ T c v' K C'*(aq c*F))))):=ag.fp (P:=aQ T b v K C) (k.to (by ac_rfl)) (gW e);exact ⟨c,f.trans e,l⟩
end Go.SL
namespace Go.Proofs.Ba
open RowKit SL
variable {v:U} {W:CB}
def UR (S:Hp) (b o:Nat) (f:Array U) (C:CB) (g:Int) (l:List UInt8) (F:ai) (w:Q) (e:Ending) (c:Q):Prop:=
 ∃ m,e = I (.tuple #[])/\ag c (pt b (M ((f.setIfInBounds o (.map (X m))).setIfInBounds (o+1) (J L)) 176 (0,0))*(aQ 5 S (.map (X m)) L (SL.fw C g l)*(aq S*F)))/\aj w c
theorem Aa {b:Array U} {o:Nat} (h:b[o]?=X v):b.setIfInBounds o v=b:=by
 apply Array.ext_getElem?;intro i;rw [O1]
 split
 .rename_i e;subst e;split
  .exact h.symm
  .rename_i c;exact absurd (Array.getElem?_eq_some_iff.1 h).1 c
 .rfl
theorem r9 {g k:Type} (f:g->k) {D E:List k} (h:D.Perm E):∀ {Z:List g},Z.map f=E->∃ b:List g,b.Perm Z/\b.map f=D:=by
 induction h with
 | nil=>intro Z e;exact ⟨Z,T1 _,e⟩
 | cons x h q=>
  intro Z e
  cases Z with
  | nil=>cases e
  | cons z Z=>
   simp only [List.map_cons,List.cons.injEq] at e;obtain ⟨b,i,j⟩:=q e.2;exact ⟨z :: b,i.cons z,by simp [j,e.1]⟩
 | swap x y l=>
  intro Z e
  match Z,e with
  | a :: c :: Z,e=>
   simp only [List.map_cons,List.cons.injEq] at e;exact ⟨c :: a :: Z,List.Perm.swap _ _ _,by simp [e.1,e.2.1,e.2.2]⟩
 | trans i j r s=>
  intro Z e;obtain ⟨v,t,o⟩:=s e;obtain ⟨m,u,p⟩:=r o;exact ⟨m,u.trans t,p⟩
theorem qB {Z:List (Int × U × List UInt8)} {S:Hp} {T:TypeId} (f:(Z.map fun z=>(z.1,z.2.2)).Perm W) (e:(Z.map W0).Nodup) (g:∀ z ∈ Z,ru T S z.2.1 z.2.2) (b:Int) {l:List UInt8} (h:ru T S v l) :
  ((SL.fw Z b (v,l)).map fun z=>(z.1,z.2.2)).Perm (SL.fw W b l)/\((SL.fw Z b (v,l)).map W0).Nodup/\(∀ z ∈ SL.fw Z b (v,l),ru T S z.2.1 z.2.2) /\
  SL.fw (Z.map fun z=>(z.1,z.2.1)) b v=(SL.fw Z b (v,l)).map fun z=>(z.1,z.2.1):=by
 refine ⟨?_,sE e _ _,?_,?_⟩
 .rw [<- zm (fun z:U × List UInt8=>z.2) Z b (v,l)]
  exact Kv f (by rw [List.map_map];exact e) b l
 .intro z c
  rcases za c with rfl|c
  .exact h
  .exact g z c
 .exact zm (fun z:U × List UInt8=>z.1) Z b (v,l)
theorem eZ (w:Q) (S:Hp) (b o:Nat) (m:Array U) (bv:U) (W:Bool) (C:CB) (f:Int) (B:U) (l:List UInt8) (F:ai)
  (h:ag w (pt b (M m 176 (0,0))*(aQ 5 S bv W C*(aq S*F)))) (j:m[o]?=X bv) (k:m[o+1]?=X (J W)) (hv:ru 5 S B l) :
  Calls R 216 #[H (X ⟨b,o,V⟩),N .i64 f,B] w (UR S b o m C f l F w):=by
 have E:w.cell? ⟨b,o,V⟩=X bv:=(h.cell o).trans j;have G:w.cell? ⟨b,o+1,V⟩=X (J W):=(h.cell (o+1)).trans k;have P:∀ o,w.frozen? ⟨b,o,V⟩=L:=h.frozen;have o0:o≠o+1:=by omega
 obtain ⟨Z,z1,z2,z3,e0,n0⟩:=(h.to (by ac_rfl:_=aQ 5 S bv W C*(aq S*(pt b (M m 176 (0,0))*F)))).lv;rcases n0 with ⟨rfl,u⟩|⟨rfl,u⟩|⟨i0,rfl,rfl,u⟩
 .skip
  have f0:∀ w,(binOp .eql 172 (.map V) (.map V)).run R w = .ok (J K) w:=fun w=>run_eql_map_nil (P:=R) w 172 3 22 _ underlying172;have b0:b<w.heap.size:=h.lt;have d0:=ae j;have H1:=ae k;clear j k;have k0:(o == o+1)=L:=by simp
  go_enter func216,ntmps216
  go_wp2_with fail
  refine (l9 w _ _ e0).mono ?_;rintro j0 i ⟨c,D,rfl,s,e,v⟩;have Hp:=ae s;clear s;have p:=e.under h;have g0:i.cell? ⟨b,o,V⟩=X (.map V):=e.cF E;have g1:i.cell? ⟨b,o+1,V⟩=X (J W):=e.cF G;have gf:∀ o,i.frozen? ⟨b,o,V⟩=L:=fun o=>(e.sm b0).trans (P o);clear E G P;have q:=((p.to (aG _ _ _)).setCell o (.map (X c))).setCell (o+1) (J L);have r:=q.to (aG _ _ _);obtain ⟨w2,h0,t,c0,_⟩:=ag.mapUpdate (P:=R) underlying172 underlying3 r f B;clear p q r h e u
  go_wp2
  go_end0
  obtain ⟨Z',g,p2⟩:=r9 _ Hp.out rfl;subst p2;obtain ⟨u1,u2,u3,u4⟩:=qB ((g.map _).trans z1) ((g.map W0).nodup_iff.2 z2) (fun z hz=>z3 z (g.mem_iff.1 hz)) f hv;refine ⟨c,rfl,?_,((v.setCell _ _).setCell _ _).trans c0⟩;rw [u4] at t;have:=ag.zi t u1 u2 u3;exact (this.to (by ac_rfl:_=aQ 5 S (.map V) W C*(pt b (M ((m.setIfInBounds o (.map (X c))).setIfInBounds (o+1) (J L)) 176 (0,0))*(aQ 5 S (.map (X c)) L (SL.fw C f l)*(aq S*F))))).right
 .obtain ⟨A,rfl⟩:∃ A,bv = .map A:=by
   rcases e0 with ⟨rfl,_⟩|⟨i0,_,rfl,_⟩
   .exact ⟨_,rfl⟩
   .exact ⟨_,rfl⟩
  rcases A with _|A
  .skip
   have f0:∀ w,(binOp .eql 172 (.map V) (.map V)).run R w = .ok (J K) w:=fun w=>run_eql_map_nil (P:=R) w 172 3 22 _ underlying172;have b0:b<w.heap.size:=h.lt;have d0:=ae j;have H1:=ae k;clear j k;have k0:(o == o+1)=L:=by simp
   go_enter func216,ntmps216
   go_wp2_with fail
   refine (l9 w _ _ e0).mono ?_;rintro j0 i ⟨c,D,rfl,s,e,v⟩;have Hp:=ae s;clear s;have p:=e.under h;have g0:i.cell? ⟨b,o,V⟩=X (.map V):=e.cF E;have g1:i.cell? ⟨b,o+1,V⟩=X (J K):=e.cF G;have gf:∀ o,i.frozen? ⟨b,o,V⟩=L:=fun o=>(e.sm b0).trans (P o);clear E G P;have q:=((p.to (aG _ _ _)).setCell o (.map (X c))).setCell (o+1) (J L);have r:=q.to (aG _ _ _);obtain ⟨w2,h0,t,c0,_⟩:=ag.mapUpdate (P:=R) underlying172 underlying3 r f B;clear p q r h e u
   go_wp2
   go_end0
   obtain ⟨Z',g,p2⟩:=r9 _ Hp.out rfl;subst p2;obtain ⟨u1,u2,u3,u4⟩:=qB ((g.map _).trans z1) ((g.map W0).nodup_iff.2 z2) (fun z hz=>z3 z (g.mem_iff.1 hz)) f hv;refine ⟨c,rfl,?_,((v.setCell _ _).setCell _ _).trans c0⟩;rw [u4] at t;have:=ag.zi t u1 u2 u3;exact (this.to (by ac_rfl:_=aQ 5 S (.map V) K C*(pt b (M ((m.setIfInBounds o (.map (X c))).setIfInBounds (o+1) (J L)) 176 (0,0))*(aQ 5 S (.map (X c)) L (SL.fw C f l)*(aq S*F))))).right
  .skip
   have f0:∀ w,(binOp .eql 172 (.map (X A)) (.map V)).run R w = .ok (J L) w:=fun w=>run_eql_map_nil (P:=R) w 172 3 22 _ underlying172;have b0:b<w.heap.size:=h.lt;have d0:=ae j;have H1:=ae k;clear j k;have k0:(o == o+1)=L:=by simp
   go_enter func216,ntmps216
   go_wp2_with fail
   refine (l9 w _ _ e0).mono ?_;rintro j0 i ⟨c,D,rfl,s,e,v⟩;have Hp:=ae s;clear s;have p:=e.under h;have g0:i.cell? ⟨b,o,V⟩=X (.map (X A)):=e.cF E;have g1:i.cell? ⟨b,o+1,V⟩=X (J K):=e.cF G;have gf:∀ o,i.frozen? ⟨b,o,V⟩=L:=fun o=>(e.sm b0).trans (P o);clear E G P;have q:=((p.to (aG _ _ _)).setCell o (.map (X c))).setCell (o+1) (J L);have r:=q.to (aG _ _ _);obtain ⟨w2,h0,t,c0,_⟩:=ag.mapUpdate (P:=R) underlying172 underlying3 r f B;clear p q r h e u
   go_wp2
   go_end0
   obtain ⟨Z',g,p2⟩:=r9 _ Hp.out rfl;subst p2;obtain ⟨u1,u2,u3,u4⟩:=qB ((g.map _).trans z1) ((g.map W0).nodup_iff.2 z2) (fun z hz=>z3 z (g.mem_iff.1 hz)) f hv;refine ⟨c,rfl,?_,((v.setCell _ _).setCell _ _).trans c0⟩;rw [u4] at t;have:=ag.zi t u1 u2 u3;exact (this.to (by ac_rfl:_=aQ 5 S (.map (X A)) K C*(pt b (M ((m.setIfInBounds o (.map (X c))).setIfInBounds (o+1) (J L)) 176 (0,0))*(aQ 5 S (.map (X c)) L (SL.fw C f l)*(aq S*F))))).right
 .obtain ⟨u1,u2,u3,u4⟩:=qB z1 z2 z3 f hv
  obtain ⟨w',h0,l0,v,_⟩:=ag.mapUpdate (P:=R) underlying172 underlying3 u f B;have f0:=run_eql_map_nil (P:=R) w 172 3 22 (X i0) underlying172;have d0:=ae j;have H1:=ae k;have m0:=ae u4;clear j k u4 o0 u
  go_enter func216,ntmps216
  go_wp2
  go_end0
  refine ⟨i0,rfl,?_,v⟩;rw [Aa d0.out,Aa H1.out];rw [m0.out] at l0;exact (ag.zi l0 u1 u2 u3).to (by ac_rfl)
def gU (b c:Int) (l:List UInt8):Int:=if b≠0 then b else if c<0\/l.length≠480 then 1 else 0
def uX (c b:Int) (l:List UInt8) (W:CB):CB:=if c=0/\0<=b/\l.length=480 then SL.fw W b l else W
theorem nZ {b c:Int} {l:List UInt8} (h:¬ (b=0/\0<=c/\l.length=480)):uX b c l W=W:=if_neg h
theorem ud {c b:Int} {l:List UInt8} (h:c=0/\0<=b/\l.length=480):uX c b l W=SL.fw W b l:=if_pos h
def gS (S:Hp) (b:Nat) (rd:U) (c:Int) (W D:CB) (id:Int) (l:List UInt8) (F:ai) (w:Q) (e:Ending) (f:Q):Prop:=
 ∃ S',Ext S S'/\e = I (N .i64 (gU c id l))/\ag f (aB 176 5 S' b rd c (uX c id l W) D*(aq S'*F))/\aj w f
theorem oE (w:Q) (S:Hp) (b:Nat) (rd:U) (i:Int) (W D:CB) (id:Int) (m:U) (l:List UInt8) (F:ai)
  (h:ag w (aB 176 5 S b rd i W D*(aq S*F))) (f:Rd w m l) :
  Calls R 162 #[H (X ⟨b,0,V⟩),N .i64 id,m] w (gS S b rd i W D id l F w):=by
 obtain ⟨x,s⟩:=h.eh;have f0:w.cell? ⟨b,1,V⟩=X (N .i64 i):=s.cell 1
 obtain ⟨a,c,rfl⟩:∃ a c,m = O a l.length c:=by
  rcases f.2 with ⟨rfl,u⟩|⟨a,c,rfl,_⟩
  .exact ⟨V,0,by rw [u]⟩
  .exact ⟨_,_,rfl⟩
 by_cases k:i=0
 .subst k
  by_cases G:id<0
  .go_enter func162,ntmps162
   have q:=ae f;clear f
   go_wp2
   go_ret
   exact ⟨S,Ext.refl S,by simp [gU,G],by rw [nZ (by omega)];exact h,aj.refl w⟩
  .by_cases j:l.length=480
   .have p:0<=id:=by omega
    have e0:((480:Int) != 480)=L:=by decide
    have r:Rd w (O a 480 c) l:=by rw [<- j];exact f
    have t:=ae r;have g:=ae j;clear f r j;have c0:small l:=by unfold small;rw [g.out];decide
    have C:Hid (l.length<=1000000000):=by show l.length<=_;rw [g.out];decide
    go_enter func162,ntmps162
    rw [g.out]
    go_wp2
    go_region_held3 (fun _=>True) (trivial)
     (first
      | (go_at_call 188;refine (jN w.drew _ l (oG.drew t.out) C).mono ?_;rintro e w1 ⟨v1,rfl,P,zR⟩)
      | (go_at_call 216;obtain ⟨S',v,B,A,_⟩:=ag.M9 (w:=w.drew) s P c0;refine (eZ _ S' b 2 _ _ _ W id v1 l (aQ 5 S' x.tv x.ts D*(fy x.av*F)) A rfl rfl B).mono ?_;rintro e w2 ⟨d0,rfl,b0,E⟩))
    go_wp2
    go_ret
    refine ⟨S',v,?_,?_,((aj.refl w).drew.trans zR).trans E⟩
    .simp [gU,p,g.out,Int.not_lt.2 p]
    .rw [ud ⟨rfl,p,g.out⟩]
     exact ag.ie { x with wv:=.map (X d0),ws:=L } (b0.to (by ac_rfl))
   .have h0:((l.length:Int) != 480)=K:=by rw [bne_iff_ne];omega
    go_enter func162,ntmps162
    have q:=ae f;have g:=ae j;clear f j
    go_wp2
    go_ret
    exact ⟨S,Ext.refl S,by simp [gU,g.out],by rw [nZ (fun o=>g.out o.2.2)];exact h,aj.refl w⟩
 .have g0:(i != 0)=K:=by simpa using k
  go_enter func162,ntmps162
  have q:=ae f;clear f
  go_wp2
  go_ret
  exact ⟨S,Ext.refl S,by simp [gU,k],by rw [nZ (fun o=>k o.1)];exact h,aj.refl w⟩
def sorted (l:List Int):List Int:=l.mergeSort fun x y=>decide (x<=y)
theorem eI (l:List Int):(sorted l).length=l.length:=List.length_mergeSort ..
theorem sorted_perm (l:List Int):(sorted l).Perm l:=List.mergeSort_perm ..
theorem mz (l:List Int):(sorted l).Pairwise (·<=·):=by
 have:=List.pairwise_mergeSort (le:=fun x y:Int=>decide (x<=y)) (by intro a b c e f;simp at *;omega) (by intro a b;simp;omega) l;exact this.imp (by simp)
theorem yR {l m:List Int} (h:l.Perm m):sorted l=sorted m:=
 List.Perm.eq_of_pairwise (le:=(·<=·)) (fun a b _ _ c e=>by omega) (mz l) (mz m) ((sorted_perm l).trans (h.trans (sorted_perm m).symm))
def iq (C:CB):CB:=(sorted (C.map W0)).map fun k=>(k,(aP C k).getD [])
end Go.Proofs.Ba
namespace Go.SL
open RowKit
abbrev cD (n:Int):Int:=wrap64 n
structure aC where
 sec:List (List UInt8)
 wait:List (Int × List UInt8)
 mQ:List (Int × Unit)
 cr:Int
 cw:Int
 cf:Int
 down:Bool
 eV:Bool
 left:Int
 bB:List Int
def aC.fresh (n:Nat):aC:=⟨List.replicate n [],[],[],0,0,0,L,L,0,[]⟩
def aC.done (D:aC) (x:Int × List UInt8):aC:={ D with sec:=D.sec.set x.1.toNat x.2,mQ:=del D.mQ x.1 }
def aC.bU (D:aC) (l:List (Int × List UInt8)):aC:=l.foldl aC.done D
def aC.R7 (D:aC) (x:Int × List UInt8):aC:={ D with mQ:=SL.fw D.mQ x.1 () }
def aC.rY (D:aC) (f:Int) (x:Int × List UInt8):aC:=if f=1 then D.done x else if f=2 then D.R7 x else D
def aC.ez (D:aC) (bB:List Int):Nat->aC
 | 0=>D
 | k+1=>match D.wait[k]? with
  | some p=>(D.ez bB k).rY (bB.getD k 0) p
  | none=>D.ez bB k
def aC.fP (D:aC) (bB:List Int):aC:={ D.ez bB D.wait.length with wait:=[],down:=K,eV:=L,left:=0,bB:=[] }
def aC.de (D:aC):aC:=if !D.down && D.eV && D.left == 0 then D.fP D.bB else D
def aC.begun (D:aC):aC:=if D.de.down then D.de else if D.de.eV then { D.de with left:=cD (D.de.left-1) } else D.de
def aC.cP (D:aC):Int:=if D.de.down then 2 else 0
def aC.has (D:aC) (b:Int):Prop:=0<=b/\b<D.sec.length
instance (D:aC) (a:Int):Decidable (D.has a):=inferInstanceAs (Decidable (_/\_))
def eo (l:List (Int × List UInt8)) (a:Int):Option (List UInt8):=(l.reverse.find? fun x=>x.1 == a).map Prod.snd
def aC.cy (D:aC) (a:Int):Int × List UInt8:=
 match eo D.wait a with
 | some l=>(0,bW 512 l)
 | none=>if (aP D.mQ a).isSome then (3,[]) else (0,bW 512 (D.sec.getD a.toNat []))
def aC.read (D:aC) (a:Int):(Int × List UInt8) × aC:=
 if D.has a then (if D.cP=0 then (D.begun.cy a,{ D.begun with cr:=cD (D.begun.cr+1) }) else ((2,[]),D.begun)) else ((1,[]),D)
def aC.write (D:aC) (a:Int) (l:List UInt8):Int × aC:=
 if D.has a/\l.length=512 then (if D.cP=0 then (0,{ D.begun with cw:=cD (D.begun.cw+1),wait:=D.begun.wait++[(a,l)] }) else (2,D.begun)) else (1,D)
def aC.aI (D:aC):aC:={ ({ D with cf:=cD (D.cf+1) }:aC).bU D.wait with wait:=[] }
def aC.flush (D:aC):Int × aC:=if D.cP=0 then (0,D.begun.aI) else (2,D.begun)
structure aC.Ok (D:aC):Prop where
 n:D.sec.length<=20000
 wait:∀ x ∈ D.wait,D.has x.1
 many:D.wait.length<=1000000
 bB:D.bB.length<=4611686018427387904
theorem aC.IF {D:aC} (h:D.cP=0):D.de=D:=by
 unfold aC.cP at h
 by_cases b:(!D.down && D.eV && D.left == 0)=K
 .rw [aC.de,if_pos b] at h;simp [aC.fP] at h
 .rw [aC.de,if_neg b]
theorem aC.Cw {D:aC} (h:D.cP=0):D.begun={ D with left:=D.begun.left }:=by
 have c:=aC.IF h
 have b:D.down=L:=by
  unfold aC.cP at h;rw [c] at h
  cases e:D.down with
  | false=>rfl
  | true=>simp [e] at h
 obtain ⟨sec,wait,mQ,cr,cw,cf,down,eV,left,bB⟩:=D;simp only at b;subst b;unfold aC.begun;rw [c];cases eV <;> rfl
theorem aC.Ok.up {D:aC} (h:D.Ok) (e:D.cP=0):D.begun.Ok:=by
 rw [aC.Cw e];exact ⟨h.n,h.wait,h.many,h.bB⟩
theorem aC.lN (D:aC):D.cP=0\/D.cP=2:=by
 unfold aC.cP;split <;> simp
abbrev Zs:=List (Int × U × List UInt8)
def bR (Z:Zs):List U:=Z.flatMap fun z=>[N .i64 z.1,z.2.1]
theorem qA (Z:Zs):(bR Z).length=Z.length*2:=by
 induction Z with
 | nil=>rfl
 | cons z Z b=>simp only [bR,List.flatMap_cons,List.length_append,X0,List.length_nil] at b ⊢;omega
theorem xF:∀ (Z:Zs) (i:Nat) (h:i<Z.length),(bR Z)[i*2]?=X (N .i64 Z[i].1)/\(bR Z)[i*2+1]?=X Z[i].2.1:=by
 intro Z
 induction Z with
 | nil=>intro i h;simp at h
 | cons z Z b=>
  intro i h
  cases i with
  | zero=>simp [bR]
  | succ i=>
   have:=b i (by simpa using h);rw [show (i+1)*2=i*2+1+1 by omega];simpa [bR] using this
theorem ag.jX {w:Q} {f:TypeId} {n:Nat} {Z:Zs} {F:ai} {g c m:Nat} (h:ag w (sl f 2 (O (X ⟨g,0,V⟩) m c) n (bR Z)*F)) {i:Nat} (k:i<Z.length) :
  w.cell? ⟨g,i*2,V⟩=X (N .i64 Z[i].1)/\w.cell? ⟨g,i*2+1,V⟩=X Z[i].2.1:=by
 obtain ⟨a,b⟩:=xF Z i k;obtain ⟨_,l⟩:=h.oD;rcases l with ⟨o,r⟩|⟨p,q,j,e⟩
 .cases o
 .cases j
  exact ⟨by have:=e _ _ a;rwa [Addr.add_lit,B1] at this,by have:=e _ _ b;rwa [Addr.add_lit,B1] at this⟩
structure Dx where
 sg:Nat
 tm:Nat
 wv:Value
 kv:Value
 Y:List (Value × List UInt8)
 Z:Zs
def Dx.cells (x:Dx) (D:aC):Array U:=
 #[O (X ⟨x.sg,0,V⟩) x.Y.length x.Y.length,x.wv,.map (X x.tm),N .i64 D.cr,N .i64 D.cw,N .i64 D.cf,J D.down,J D.eV,N .i64 D.left,x.kv]
def gV (t:List (Int × Unit)):KV:=t.map fun p=>(p.1,.agg #[])
def iJ (l:List Int):List U:=l.map (A1 .i64)
structure Dx.Fit (x:Dx) (T:TypeId) (S:Hp) (D:aC):Prop where
 sec:x.Y.map Prod.snd=D.sec
 tE:∀ y ∈ x.Y,ru T S y.1 y.2
 wait:x.Z.map (fun z=>(z.1,z.2.2))=D.wait
 mF:∀ z ∈ x.Z,ru T S z.2.1 z.2.2
theorem Dx.Fit.mono {x:Dx} {T:TypeId} {S S':Hp} {D:aC} (h:x.Fit T S D) (e:Ext S S'):x.Fit T S' D:=
 ⟨h.sec,fun y b=>(h.tE y b).mono e,h.wait,fun z c=>(h.mF z c).mono e⟩
theorem Dw (t:List (Int × Unit)) (a:Int):SL.fw (gV t) a (.agg #[])=gV (SL.fw t a ()):=by
 have:=zm (fun _:Unit=>Value.agg #[]) t a ();simpa [gV] using this
theorem Du (t:List (Int × Unit)) (a:Int):del (gV t) a=gV (del t a):=by
 simp only [gV,del,List.filter_map];rfl
theorem DP (t:List (Int × Unit)) (a:Int):(aP (gV t) a).isSome=(aP t a).isSome:=by
 have:=j7 (fun _:Unit=>Value.agg #[]) t a;rw [gV,this,Option.isSome_map]
def Pv (x:Dx) (D:aC) (d:Nat):ai:=
 pt d (M (x.cells D) 106 (0,0))*(pt x.sg (M (x.Y.map W0).toArray 22 (0,0))*(sl 229 2 x.wv x.Z.length (bR x.Z)*(mp x.tm (gV D.mQ)*sl 3 1 x.kv D.bB.length (iJ D.bB))))
def gu (x:Dx) (S:Hp) (d:Nat) (D:aC):ai:=fact (x.Fit 5 S D)*Pv x D d
def aS (S:Hp) (d:Nat) (D:aC):ai:=ex fun x:Dx=>gu x S d D
section
variable {w:Q} {S S':Hp} {d:Nat} {D:aC} {F:ai} {x:Dx}
theorem ag.bF (h:ag w (gu x S d D*F)):x.Fit 5 S D/\ag w (pt d (M (x.cells D) 106 (0,0))*(pt x.sg (M (x.Y.map W0).toArray 22 (0,0))*(sl 229 2 x.wv x.Z.length (bR x.Z)*(mp x.tm (gV D.mQ)*(sl 3 1 x.kv D.bB.length (iJ D.bB)*F))))):=by
 obtain ⟨b,c⟩:=ag.au.1 (h.to (ay _ _ _));exact ⟨b,c.to (by unfold Pv;ac_rfl)⟩
theorem ag.je (b:x.Fit 5 S D) (h:ag w (pt d (M (x.cells D) 106 (0,0))*(pt x.sg (M (x.Y.map W0).toArray 22 (0,0))*(sl 229 2 x.wv x.Z.length (bR x.Z)*(mp x.tm (gV D.mQ)*(sl 3 1 x.kv D.bB.length (iJ D.bB)*F)))))):ag w (gu x S d D*F):=
 (ag.au.2 ⟨b,h.to (by unfold Pv;ac_rfl:_=Pv x D d*F)⟩:ag w (fact _*_)).to (ay _ _ _).symm
theorem ag.xS (h:ag w (aS S d D*F)):∃ x,ag w (gu x S d D*F):=ag.ax.1 h
theorem ag.devOf (h:ag w (gu x S d D*F)):ag w (aS S d D*F):=ag.ax.2 ⟨x,h⟩
theorem IN (e:Ext S S') (h:Hp) (p:gu x S d D h):gu x S' d D h:=by
 obtain ⟨b,c,⟨f,g⟩,i,j,k⟩:=p;exact ⟨b,c,⟨f.mono e,g⟩,i,j,k⟩
theorem xP (e:Ext S S') (h:Hp) (p:aS S d D h):aS S' d D h:=by
 obtain ⟨x,p⟩:=p;exact ⟨x,IN e h p⟩
theorem ag.cX (h:ag w (gu x S d D*F)) (i:Nat):w.cell? ⟨d,i,V⟩=(x.cells D)[i]?:=h.bF.2.cell i
theorem ag.oe (h:ag w (gu x S d D*F)) (i:Nat):w.frozen? ⟨d,i,V⟩=L:=h.bF.2.frozen i
theorem ag.EY (h:ag w (gu x S d D*F)):x.Y.length=D.sec.length:=by rw [<- h.bF.1.sec,D1]
theorem ag.qj (h:ag w (gu x S d D*F)):x.Z.length=D.wait.length:=by rw [<- h.bF.1.wait,D1]
theorem ag.QA (h:ag w (gu x S d D*F)):∃ a c,x.wv = O a D.wait.length c:=by
 have:=aE h.bF.2.aw
 rwa [h.qj] at this
end
end Go.SL
namespace Go.Proofs.Nn
open RowKit SL
theorem mZ (w:Q) (S:Hp) (d:Nat) (D:aC) (F:ai) (h:ag w (aS S d D*F)) :
  Calls R 116 #[H (X ⟨d,0,V⟩)] w fun e b=>e = I (N .i64 D.sec.length)/\w=b:=by
 obtain ⟨x,h⟩:=h.xS;have c:w.cell? ⟨d,0,V⟩=X (O (X ⟨x.sg,0,V⟩) D.sec.length D.sec.length):=by rw [h.cX,<- h.EY];rfl
 clear h
 go_enter func116,ntmps116
 go_wp2
 go_ret
 exact ⟨rfl,rfl⟩
def uE (b:Bool) (w:Q) (e:Ending) (c:Q):Prop:=e = I (J b)/\w=c
theorem oj (w:Q) (S:Hp) (d:Nat) (D:aC) (a:Int) (F:ai) (h:ag w (aS S d D*F)) :
  Calls R 218 #[H (X ⟨d,0,V⟩),N .i64 a] w (uE (decide (D.has a)) w):=by
 have f:=mZ w S d D F h;clear h
 by_cases g:0<=a
 .by_cases c:a<D.sec.length
  .have b:decide (D.has a)=K:=by simp [aC.has,g,c]
   rw [b];clear b
   go_enter func218,ntmps218
   go_wp2_with (go_at_call 116;refine f.mono ?_;rintro e i ⟨rfl,rfl⟩)
   go_ret
   exact ⟨rfl,rfl⟩
  .have b:decide (D.has a)=L:=by simp [aC.has,c]
   rw [b];clear b;have j:decide (a<D.sec.length)=L:=by simpa using c
   go_enter func218,ntmps218
   go_wp2_with (go_at_call 116;refine f.mono ?_;rintro e i ⟨rfl,rfl⟩)
   go_ret
   exact ⟨rfl,rfl⟩
 .have b:decide (D.has a)=L:=by simp [aC.has,g]
  rw [b];clear b f
  go_enter func218,ntmps218
  go_wp2
  go_ret
  exact ⟨rfl,rfl⟩
def MY (w:Q) (l:List UInt8) (e:Ending) (b:Q):Prop:=∃ g,e = I (O (X ⟨g,0,V⟩) 512 512)/\ag b (pt g (M (dP (bW 512 l)) 5 (0,0))*whole w)/\aj w b
theorem gM:(prog.info? 5).map (fun i=>(i.zero,i.size,i.bytes))=X (X (N .u8 0),1,1):=by kernel_rfl
theorem Ix:(prog.info? 5).map (·.size)=X 1:=by kernel_rfl
theorem DE:(prog.info? 22).map (fun i=>(i.zero,i.size,i.bytes))=X (X (O V 0 0),1,24):=by kernel_rfl
theorem fh (n:Nat) (g:n<=281474976710656) (w:Q):(Instr.makeSlice 22 (N .i64 n) (N .i64 n)).run R w =
  .ok (O (X ⟨w.heap.size,0,V⟩) n n) (w.alloc (M (dP (zs n)) 5 (0,0))):=by
 obtain ⟨i,c,f,e,b⟩:=info_parts gM;have:=run_make (P:=R) w 22 5 i _ underlying22 c f .i64 .i64 n n (by omega) (by omega) (by rw [b];omega) (by omega);rw [this,e];simp only [R1];rw [jC]
theorem kI (w:Q) (v:U) (l:List UInt8) (j:Rd w v l) (k:l.length<=9223372036854775807) :
  Calls R 219 #[v] w (MY w l):=by
 have m:∀ w,(Instr.makeSlice 22 (N .i64 512) (N .i64 512)).run R w =
  .ok (O (X ⟨w.heap.size,0,V⟩) 512 512) (w.alloc (M (dP (zs 512)) 5 (0,0))):=fh 512 (by omega)
 have c:Rd (w.alloc (M (dP (zs 512)) 5 (0,0))) v l:=oG.alloc j _;have b:=(ag.whole w).alloc (M (dP (zs 512)) 5 (0,0));obtain ⟨p,o,e,i,h⟩:=JJ (P:=R) (dT:=22) (T:=5) underlying22 Ix b c 3;have g:=(aj.refl w).alloc (M (dP (zs 512)) 5 (0,0));have f:=ae e;clear e c b
 go_enter func219,ntmps219
 go_wp2_with (refine fo f.out _ _ rfl rfl rfl rfl rfl ?_)
 go_ret
 exact ⟨_,rfl,i,g.trans h⟩
theorem iN {T:TypeId} {S:Hp} {v:U} {l:List UInt8} (h:ru T S v l):∃ a c,v = O a l.length c:=by
 rcases h.2 with ⟨rfl,rfl⟩|⟨g,b,e,rfl,_⟩
 .exact ⟨_,_,rfl⟩
 .exact ⟨_,_,rfl⟩
def TY (x:Dx) (S:Hp) (d:Nat) (D:aC) (p:Int × List UInt8) (c:U) (F:ai) (w:Q) (e:Ending) (b:Q):Prop:=
 e = I (.tuple #[])/\ag b (gu { x with Y:=x.Y.set p.1.toNat (c,p.2) } S d (D.done p)*F)/\aj w b
theorem BW (w:Q) (S:Hp) (d:Nat) (D:aC) (x:Dx) (p:Int × List UInt8) (o:U) (F:ai) (h:ag w (gu x S d D*F)) (C:ru 5 S o p.2) (u:D.has p.1) :
  Calls R 168 #[H (X ⟨d,0,V⟩),.agg #[N .i64 p.1,o]] w (TY x S d D p o F w):=by
 obtain ⟨i0,l⟩:=p;obtain ⟨a,rfl⟩:=M1 u.1;have e0:(a:Int)<(x.Y.length:Int):=by rw [h.EY];exact u.2
 have v:a<x.Y.length:=by omega
 obtain ⟨k,hs⟩:=h.bF;obtain ⟨b,c,rfl⟩:=iN C;obtain ⟨s,t⟩:∃ s,(x.Y.map W0)[a]?=X s:=⟨_,Y1 (by simpa using v)⟩
 have g:=hs.alloc (M #[N .i64 a,O b l.length c] 229 (0,0));have A:=(aj.refl w).alloc (M #[N .i64 a,O b l.length c] 229 (0,0))
 go_enter func168,ntmps168
 go_wp2
 generalize g0:w.alloc (M #[N .i64 a,O b l.length c] 229 (0,0))=e at g A ⊢;generalize w.heap.size=f at g ⊢;have k0:e.cell? ⟨d,0,V⟩=X (O (X ⟨x.sg,0,V⟩) x.Y.length x.Y.length):=g.ah.cell 0;have c0:e.cell? ⟨f,0,V⟩=X (N .i64 a):=g.cell 0;have d0:e.cell? ⟨f,1,V⟩=X (O b l.length c):=g.cell 1;have ks:e.cell? ⟨x.sg,a,V⟩=X s:=(g.aw.cell a).trans (by simpa using t);have kf:e.frozen? ⟨x.sg,a,V⟩=L:=g.aw.frozen a;have i:=(g.aw.setCell a (O b l.length c)).yn;have E:(e.setCell ⟨x.sg,a,V⟩ (O b l.length c)).cell? ⟨d,0,V⟩=X (O (X ⟨x.sg,0,V⟩) x.Y.length x.Y.length):=i.ah.cell 0;have r:(e.setCell ⟨x.sg,a,V⟩ (O b l.length c)).cell? ⟨f,0,V⟩=X (N .i64 a):=i.cell 0;have P:(e.setCell ⟨x.sg,a,V⟩ (O b l.length c)).cell? ⟨f,1,V⟩=X (O b l.length c):=i.cell 1;have G:(e.setCell ⟨x.sg,a,V⟩ (O b l.length c)).cell? ⟨d,2,V⟩=X (.map (X x.tm)):=i.ah.cell 2;clear t v
 go_region_held3 (fun j=>j.cell? ⟨d,0,V⟩=X (O (X ⟨x.sg,0,V⟩) x.Y.length x.Y.length)/\j.cell? ⟨f,0,V⟩=X (N .i64 a)/\j.cell? ⟨f,1,V⟩=X (O b l.length c)) (first|go_keep|exact ⟨k0,c0,d0⟩|exact ⟨E,r,P⟩) (fail)
 have B:=(A.setCell ⟨x.sg,a,V⟩ (O b l.length c)).drew;generalize h0:(e.setCell ⟨x.sg,a,V⟩ (O b l.length c))=w2 at i B E r P G ⊢;obtain ⟨W,f0,H3,b0,_⟩:=ag.delete (P:=R) underlying100 underlying3 0 3 (w:=w2.drew.drew) (ag.aM i) (a:Int);have m:=H3.yh;have t0:W.cell? ⟨f,0,V⟩=X (N .i64 a):=m.cell 0;have t2:W.cell? ⟨d,2,V⟩=X (.map (X x.tm)):=m.ah.cell 2
 go_wp2
 go_region_held3 (fun j=>j.cell? ⟨f,0,V⟩=X (N .i64 a)/\j.cell? ⟨d,2,V⟩=X (.map (X x.tm))) (first|go_keep|exact ⟨r,G⟩|exact ⟨t0,t2⟩) (fail)
 go_wp2
 go_end0
 refine ⟨rfl,ag.je ⟨?_,?_,k.wait,k.mF⟩ (m.right.to ?_),B.drew.trans b0⟩
 .show (x.Y.set (a:Int).toNat (O b l.length c,l)).map Prod.snd=D.sec.set (a:Int).toNat l
  rw [N1,k.sec]
 .intro y q
  rcases List.mem_or_eq_of_mem_set q with q|rfl
  .exact k.tE y q
  .exact C
 .simp only [Du,Dx.cells,aC.done,List.length_set,R1,N1,List.setIfInBounds_toArray]
def Qb (x:Dx) (S:Hp) (d:Nat) (D:aC) (F:ai) (kv:U) (bB:List Int):Prop:=
 ∃ a c,kv = O a bB.length c/\bB.length<=9223372036854775807/\∀ i,i<bB.length->∃ b f,a=X ⟨b,f,V⟩ /\
  ∀ g Y e,e.bB=D.bB->ag g (gu { x with Y:=Y } S d e*F)->g.cell? ⟨b,f+i,V⟩=X (N .i64 (bB.getD i 0))
def Sf (x:Dx) (S:Hp) (d:Nat) (D:aC) (bB:List Int) (F:ai) (w:Q) (e:Ending) (b:Q):Prop:=
 e = I (.tuple #[])/\ag b (aS S d (D.fP bB)*F)/\aj w b
def M7 (x:Dx) (S:Hp) (d:Nat) (D:aC) (bB:List Int) (F:ai) (w:Q) (n:Nat) (u:U) (wr:Q):Prop:=
 ∃ (k:Nat) (Y:List (U × List UInt8)),k<=n/\u = N .i64 k/\ag wr (gu { x with Y:=Y } S d (D.ez bB k)*F)/\aj w wr
theorem pE (D:aC) (bB:List Int):∀ k,(D.ez bB k).bB=D.bB/\(D.ez bB k).wait=D.wait/\(D.ez bB k).sec.length=D.sec.length
 | 0=>⟨rfl,rfl,rfl⟩
 | k+1=>by
  obtain ⟨b,c,e⟩:=pE D bB k;unfold aC.ez
  split
  .unfold aC.rY
   split
   .exact ⟨b,c,by simp [aC.done,e]⟩
   .split
    .exact ⟨b,c,e⟩
    .exact ⟨b,c,e⟩
  .exact ⟨b,c,e⟩
theorem F4 (w:Q) (S:Hp) (d:Nat) (D:aC) (x:Dx) (bB:List Int) (kv:U) (F:ai) (h:ag w (gu x S d D*F)) (hD:D.Ok) (hk:Qb x S d D F kv bB) :
  Calls R 220 #[H (X ⟨d,0,V⟩),kv] w (Sf x S d D bB F w):=by
 obtain ⟨ka,kc,rfl,N0,f0⟩:=hk;obtain ⟨wa,wc,G⟩:=h.QA;have hn:(D.wait.length:Int)<=1000000:=by have:=hD.many;omega
 have W:w.cell? ⟨d,1,V⟩=X (O wa D.wait.length wc):=(h.cX 1).trans (by simp only [Dx.cells,G];rfl);have b0:=ae G;have o0:=ae f0;clear G f0
 go_enter func220,ntmps220
 go_wp2
 go_loopw [14] (fun u wr=>M7 x S d D bB F w D.wait.length u wr) (fun u _=>D.wait.length-(intOf u).toNat)
 case atStart=>exact ⟨0,x.Y,Nat.zero_le _,rfl,h,aj.refl w⟩
 case round=>
  obtain ⟨k,Y,R0,rfl,b,n0⟩:=hrel;clear W;obtain ⟨e1,t,C⟩:=pE D bB k
  by_cases S0:k<D.wait.length
  .have T0:(k:Int)<(D.wait.length:Int):=by omega
   have V0:x.Z.length=D.wait.length:=b.qj.trans (by rw [t]);have P:k<x.Z.length:=by omega
   obtain ⟨g,F0⟩:∃ g,wa=X ⟨g,0,V⟩:=by
    have x0:0<x.Z.length:=by omega
    have:=pY b.bF.2.aw x0;obtain ⟨g,H0,hh⟩:=this;rw [b0.out] at hh;exact ⟨_,(Value.slice.inj hh).1⟩
   subst F0
   have s0:wr.cell? ⟨g,k*2,V⟩=X (N .i64 x.Z[k].1)/\wr.cell? ⟨g,k*2+1,V⟩=X x.Z[k].2.1:=by
    have:=b.bF.2.aw;simp only [b0.out] at this;exact this.jX P
   obtain ⟨d0,e0⟩:=s0
   have p:D.wait[k]?=X (x.Z[k].1,x.Z[k].2.2):=by
    rw [<- t,<- b.bF.1.wait];simp [P]
   have A:ru 5 S x.Z[k].2.1 x.Z[k].2.2:=b.bF.1.mF _ (List.getElem_mem P);obtain ⟨i,j,g0⟩:=iN A;rw [g0] at e0 A
   have j0:(D.ez bB k).has x.Z[k].1:=by
    have:=hD.wait _ (List.mem_of_getElem? p);unfold aC.has at this ⊢;rw [C];exact this
   generalize x.Z[k].1=c at d0 p j0;generalize x.Z[k].2.2=f at e0 p A;have q:=ae p;have G0:∀ (r:Array U),(wr.alloc (M r 229 (0,0))).cell? ⟨wr.heap.size,0,V⟩=r[0]?:=fun r=>(b.alloc (M r 229 (0,0))).cell 0;clear p g0 e1 t C G0;have K0:g<wr.heap.size:=Z1 wr _ d0;have l:=b.alloc (M #[N .i64 c,O i f.length j] 229 (0,0));have o:=n0.alloc (M #[N .i64 c,O i f.length j] 229 (0,0))
   by_cases m0:k<bB.length
   .have u0:(k:Int)<(bB.length:Int):=by omega
    obtain ⟨kb,ko,rfl,l0⟩:=o0.out k m0;have k0:=l0 wr Y _ (pE D bB k).1 b;have L0:kb<wr.heap.size:=Z1 wr _ k0;clear l0;generalize hf:bB.getD k 0=c0 at k0;have B:=ae hf;clear hf
    by_cases h0:c0=1
    .subst h0
     go_wp2_with (go_at_call 168;refine (BW _ S d _ _ (c,f) _ _ l.right A j0).mono ?_;rintro e w2 ⟨rfl,v,s⟩)
     go_roundw
     case rel=>
      refine ⟨k+1,Y.set c.toNat (O i f.length j,f),by omega,by go_num,?_,o.trans s⟩
      have e:D.ez bB (k+1)=(D.ez bB k).done (c,f):=by
       rw [aC.ez,q.out];simp only [aC.rY,B.out,if_true]
      rw [e];exact v
     case measure=>simp [intOf];omega
    .by_cases i0:c0=2
     .subst i0
      have m:=l.ah.bF.1;obtain ⟨w2,D0,v,s,E⟩:=ag.mapUpdate (P:=R) underlying100 underlying3 (w:=(wr.alloc (M #[N .i64 c,O i f.length j] 229 (0,0))).drew) l.ah.bF.2.aD c (.agg #[]);have c2:(wr.alloc (M #[N .i64 c,O i f.length j] 229 (0,0))).cell? ⟨d,2,V⟩=X (.map (X x.tm)):=l.ah.cX 2;have cb:(wr.alloc (M #[N .i64 c,O i f.length j] 229 (0,0))).cell? ⟨wr.heap.size,0,V⟩=X (N .i64 c):=l.cell 0;have p0:w2.cell? ⟨d,2,V⟩=X (.map (X x.tm)):=(E.1 _).trans c2;have q0:w2.cell? ⟨wr.heap.size,0,V⟩=X (N .i64 c):=(E.1 _).trans cb;clear E
      go_wp2_with fail
      generalize r0:wr.alloc (M #[N .i64 c,O i f.length j] 229 (0,0))=W1 at D0 c2 cb s o ⊢;clear r0
      go_region_held3 (fun w'=>w'.cell? ⟨d,2,V⟩=X (.map (X x.tm))/\w'.cell? ⟨wr.heap.size,0,V⟩=X (N .i64 c)) (first|go_keep|exact ⟨p0,q0⟩) (fail)
      go_wp2
      go_roundw
      case rel=>
       refine ⟨k+1,Y,by omega,by go_num,?_,o.drew.trans s⟩
       have e:D.ez bB (k+1)=(D.ez bB k).R7 (c,f):=by
        rw [aC.ez,q.out];simp only [aC.rY,B.out];rfl
       rw [e];rw [Dw] at v;exact (ag.je (D:=(D.ez bB k).R7 (c,f)) ⟨m.sec,m.tE,m.wait,m.mF⟩ v.sK).iC
      case measure=>simp [intOf];omega
     .go_wp2
      go_roundw
      case rel=>
       refine ⟨k+1,Y,by omega,by go_num,?_,o⟩
       have e:D.ez bB (k+1)=D.ez bB k:=by
        rw [aC.ez,q.out];simp only [aC.rY,B.out,if_neg h0,if_neg i0]
       rw [e];exact l.right
      case measure=>simp [intOf];omega
   .have u0:¬ (k:Int)<(bB.length:Int):=by omega
    go_wp2
    go_roundw
    case rel=>
     refine ⟨k+1,Y,by omega,by go_num,?_,o⟩
     have e:D.ez bB (k+1)=D.ez bB k:=by
      rw [aC.ez,q.out];simp [aC.rY,Z0,List.getElem?_eq_none (Nat.le_of_not_lt m0)]
     rw [e];exact l.right
    case measure=>simp [intOf];omega
  .obtain rfl:k=D.wait.length:=by omega
   have W:=b.cX 1;have k6:=b.cX 6;have k7:=b.cX 7;have k8:=b.cX 8;have k9:=b.cX 9;have kf:=b.oe;simp only [Dx.cells] at W k6 k7 k8 k9;have m:=b.bF.1;have H2:=((((b.bF.2.setCell 1 (O V 0 0)).setCell 6 (J K)).setCell 7 (J L)).setCell 8 (N .i64 0)).setCell 9 (O V 0 0);clear e1 t C
   go_wp2
   go_end0
   refine ⟨rfl,?_,((((n0.setCell _ _).setCell _ _).setCell _ _).setCell _ _).setCell _ _⟩;have H3:=((H2.lF).aD.right.eQ 229 2).eQ 3 1;refine ag.devOf (x:={ x with Y:=Y,wv:=O V 0 0,Z:=[],kv:=O V 0 0 }) (ag.je ⟨m.sec,m.tE,rfl,by simp⟩ ?_)
   exact H3.to (by
    simp only [Dx.cells,aC.fP,List.length_nil,bR,iJ,List.flatMap_nil,List.map_nil]
    ac_rfl)
end Go.Proofs.Nn
