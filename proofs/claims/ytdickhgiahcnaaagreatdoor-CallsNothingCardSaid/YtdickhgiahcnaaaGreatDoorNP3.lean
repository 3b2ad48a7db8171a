/- Steps. -/
import Derived.Test.YtdickhgiahcnaaaGreatDoorNP2
import Derived.Test.YtdickhgiahcnaaaGreatDoorRows
import Derived.Deep.LoopGhost
import Derived.Deep.RegionHeld3
import Derived.Laws.CopyRow
import Derived.Deep.MidRow
set_option linter.all false
set_option maxRecDepth 99999
set_option maxHeartbeats 0
open Go.SL
open Go.Value renaming int->N,slice->O,pointer->G,bool->I
open Go.IntKind renaming i64->L
open Go.Obj renaming cells->M
open Go.Ending renaming returned->H
open Go renaming World->Q,Value->R
open Go.Proofs.Tryz renaming prog->U
open Option renaming some->X,none->V
open Bool renaming true->J,false->K
open Go.SL renaming Om0->Z'
open Go.Proofs.Tryz
open Prod renaming fst->A3
open List renaming length_cons->A2,getD->B3,length_map->D9,map_set->D4,eq_nil_of_length_eq_zero->E2,getElem?_eq_getElem->H9
open UInt8 renaming ofInt->A1
open Go.Value renaming int->B2
open Nat renaming zero_add->B1
open Int renaming pow_pos->D8,mul_nonneg->D7,mul_le_mul_of_nonneg_right->D6,eq_ofNat_of_zero_le->D5,toNat_natCast->D2,emod_add_mul_ediv->G3
open Array renaming getElem?_setIfInBounds->D3
open Go.World renaming size_alloc->D1,block_lt_of_cell?->H8
open List.Perm renaming refl->E5
open BitVec renaming toNat_ofInt->E1
namespace Go.SL
open RowKit
variable {v v' xv:R} {P:Program} {ops:Array Oper} {o:Oper}
def bY (n:Nat) (l:List UInt8):List UInt8:=(l++zs n).take n
def cu (n:Nat) (l:List UInt8):(bY n l).length=n:=by simp [bY,bg]
def kD {n:Nat} {l:List UInt8} (h:l.length=n):bY n l=l:=by rw [bY,List.take_left' h]
def aC {w:Q} {F:ai} {T:TypeId} {sz n:Nat} {xs:List R} (h:ag w (sl T sz v n xs*F)):∃ a c,v = O a n c:=by
 rcases h.dq with ⟨rfl,rfl,_,_⟩|⟨g,b,e,rfl,_⟩
 .exact ⟨_,_,rfl⟩
 .exact ⟨_,_,rfl⟩
def qU {w:Q} {F:ai} {T:TypeId} {b n:Nat} {e:List R} (h:ag w (sl T b v n e*F)) (j:0<n):∃ g c,v = O (X ⟨g,0,V⟩) n c:=by
 rcases h.dq with ⟨rfl,rfl,_,_⟩|⟨g,f,i,rfl,_⟩
 .omega
 .exact ⟨_,_,rfl⟩
def fD {w g:Q} {rest:List Oper} {a:Act} {b:Exit->Act->Q->Prop} {c e f:TypeId}
  (l:(Builtin.copy_ #[c,e] f #[v,v']).run P w = .ok xv g) (s x:Operand)
  (j:o.guard=V) (p:o.type=f) (k:o.op=Op.call { callee:=Callee.builtin Builtin.copy,args:=#[s,x],argTypes:=#[c,e] })
  (m:a.eval s=v) (q:a.eval x=v')
  (h:wpList P ops b rest (a.put o.dst xv) g):wpList P ops b (o :: rest) a w:=by
 refine wpList_plain j fun r i=>?_;subst p m q;unfold Oper.wp;simp [execOp,k,resolve,invoke,builtin,l,Result.andThen];exact i _ _ h
def mZ {a:Act} {w f:Q} {b:Act->Q->Prop} {g:Exit->Act->Q->Prop} {E:Prop} {c e ty:TypeId}
  (l:(Builtin.append_ #[c,e] ty #[v,v']).run P w = .ok xv f) (j:o.guard=V) (d s:Operand) (p:o.type=ty)
  (k:o.op = .call { callee:=.builtin .append,args:=#[d,s],argTypes:=#[c,e] }) (i:a.eval d=v) (m:a.eval s=v')
  (h:b (a.put o.dst xv) f):if Region.wanted o (yielded ops a.tmps)=J then Oper.wp P o a w b g else E:=by
 have q:Region.wanted o (yielded ops a.tmps)=J:=by simp [Region.wanted,j]
 rw [if_pos q];subst p i m;unfold Oper.wp;simp [execOp,k,resolve,invoke,builtin,l,Result.andThen];exact h
def enters {f:FuncId} {b:Func} {c:Code} (i:P.funcs[f]?=X b) (j:(b.name == "runtime.NumGoroutine")=K) (h:b.body=X c):∀ e w,(callFunc f e).run P w = .ok (.enter f e) w:=by
 intro e w;have g:b.name ≠ "runtime.NumGoroutine" := by simpa using j
 simp [callFunc,i,g,h,mark]
def pQ {a:Act} {w:Q} {g:Act->Q->Prop} {j:Exit->Act->Q->Prop} {E:Prop} {n:FuncId} {f:Array R} {i:Ending->Q->Prop}
  (q:Calls P n f w i) (s:∀ b w,(callFunc n b).run P w = .ok (.enter n b) w) (t:o.guard=V) (b:Array Operand) (ts:Array TypeId)
  (u:o.op = .call { callee:=.value (.func n),args:=b,argTypes:=ts }) (m:b.toList.map a.eval=f.toList)
  (h:∀ e c,i e c->∃ v,e = H v/\g (a.put o.dst v) c) :
  if Region.wanted o (yielded ops a.tmps)=J then Oper.wp P o a w g j else E:=by
 have A:Region.wanted o (yielded ops a.tmps)=J:=by simp [Region.wanted,t]
 rw [if_pos A]
 have p:b.map a.eval=f:=by
  apply Array.toList_inj.1;rw [Array.toList_map];exact m
 subst p;unfold Oper.wp
 have r:(execOp a.eval o).run P w = .ok (.enter n (b.map a.eval)) w:=by
  simp [execOp,u,resolve,invoke,Act.eval,Deferred.ofValue,go_sem,s]
 rw [r,Oper.upon_enter];apply q.mono;intro e c l;obtain ⟨v,rfl,k⟩:=h e c l;exact k
def Rd.shape {w:Q} {l:List UInt8} (h:Rd w v l):∃ a c,v = O a l.length c:=by
 rcases h.2 with ⟨rfl,b⟩|⟨a,c,rfl,_⟩
 .exact ⟨_,_,by rw [b]⟩
 .exact ⟨_,_,rfl⟩
def Rd.bF {w b:Q} {l:List UInt8} {P:ai} (h:Rd w v l) (s:ag b (P*whole w)):Rd b v l:=pC.carry h fun a u c=>s.bV c
def se (l:List UInt8):∀ v ∈ l.map u8,v.oneCell'=J:=by
 intro v hv;obtain ⟨x,_,rfl⟩:=List.mem_map.1 hv
 rfl
def At.take {w:Q} {a:Addr} {xs:List R} (h:At w a xs) (n:Nat):At w a (xs.take n):=fun j u b=>h j u (by
 rw [List.getElem?_take] at b
 split at b
 .exact b
 .cases b)
def Nr {w:Q} {g:Nat} {l:List UInt8} {T dT:TypeId} {F:ai} (j:P.underlying dT=X (.slice T)) (i:(P.info? T).map (·.size)=X 1)
  (h:ag w (pt g (M (ed (zs 512)) T (0,0))*F)) (b:Rd w v l) (e:TypeId) :
  ∃ f p,(Builtin.copy_ #[dT,dT] e #[O (X ⟨g,0,V⟩) 512 512,v]).run P w = .ok p f/\ag f (pt g (M (ed (bY 512 l)) T (0,0))*F)/\aj w f:=by
 obtain ⟨q,b⟩:=b;rcases b with ⟨rfl,k⟩|⟨a,c,rfl,o⟩
 .have:l=[]:=E2 k
  subst this;refine ⟨w,_,run_copy_nil (P:=P) w dT dT e T ⟨g,0,V⟩ 512 512 j (by rw [i];rfl),?_,aj.refl w⟩;rw [bY,List.nil_append,List.take_of_length_le (by rw [bg];exact Nat.le_refl _)];exact h
 .have:=run_copy_row (P:=P) w dT dT e T g 0 512 512 a l.length c (ed (zs 512)) T ((l.take 512).map u8) j i h.heap (by simp [Nat.min_comm]) (by rw [List.map_take];exact o.take 512)
   (by simp [fj,bg];omega) (se _)
  refine ⟨_,_,this,?_,(aj.refl w).setRow _ _⟩;have m:=h.setRow (cs':=((ed (zs 512)).toList.take 0++(l.take 512).map u8++(ed (zs 512)).toList.drop (0+((l.take 512).map u8).length)).toArray);refine m.to ?_;congr 3;simp only [ed,bY,zs,List.take_zero,List.nil_append,B1,D9,List.length_take,List.map_append,List.map_take,List.take_append,List.map_replicate,List.drop_replicate,List.take_replicate,List.toList_toArray];congr 3;omega
def kX (v:R) (w:Q) (e:Ending) (b:Q):Prop:=e = H v/\ag b (whole w)/\aj w b
def dD (n:Int) (j:Nat):List UInt8:=(List.range j).map fun i=>A1 (n/(256:Int) ^ i)
def bp (n:Int) (j:Nat):(dD n j).length=j:=by simp [dD]
def Ch (n:Int) (j:Nat):dD n (j+1)=dD n j++[A1 (n/(256:Int) ^ j)]:=by simp [dD,List.range_succ]
def ag.cM {w w':Q} {b:ai} (h:ag w' (SL.whole w)) (g:ag w b):ag w' b:=(ag.under (h.to (cl _).symm) g).to (cl _)
def iM (l:List UInt8):Nat->Int
 | 0=>0
 | j+1=>iM l j+((l.getD j 0).toNat:Int)*(256:Int) ^ j
def il (l:List UInt8) (j:Nat):0<=iM l j/\iM l j<(256:Int) ^ j:=by
 induction j with
 | zero=>simp [iM]
 | succ j h=>
  have c:((l.getD j 0).toNat:Int)<256:=by have:=UInt8.toNat_lt (l.getD j 0);omega
  have b:0<=((l.getD j 0).toNat:Int):=Z'
  have g:0<(256:Int) ^ j:=D8 De0;rw [iM,Int.pow_succ];generalize ((l.getD j 0).toNat:Int)=x at *;generalize (256:Int) ^ j=p at *;have e:0<=x*p:=D7 b Z';have f:x*p<=255*p:=D6 Z' Z';omega
def xS {j:Nat} (h:j<=6):(256:Int) ^ j<=281474976710656:=by
 obtain rfl|rfl|rfl|rfl|rfl|rfl|rfl:j=0\/j=1\/j=2\/j=3\/j=4\/j=5\/j=6:=Z'
 all_goals decide
def KN {a x:Int} {i:Nat} (h:0<=a) (m:a<2 ^ i) (l:0<=x) (k:x*2 ^ i+a<18446744073709551616):bits .or .u64 a (x*2 ^ i)=a+x*2 ^ i:=by
 obtain ⟨A,rfl⟩:=D5 h;obtain ⟨b,rfl⟩:=D5 l;have c:(b:Int)*2 ^ i=((2 ^ i*b:Nat):Int):=by rw [Nat.mul_comm];simp
 rw [c] at k ⊢
 have g:A<2 ^ i:=by
  have:((2 ^ i:Nat):Int)=(2:Int) ^ i:=Si0
  omega
 have j:=Nat.two_pow_add_eq_or_of_lt g b;show IntKind.u64.wrap ((BitVec.ofInt 64 (A:Int) ||| BitVec.ofInt 64 ((2 ^ i*b:Nat):Int)).toNat:Nat)=_
 rw [BitVec.toNat_or,E1,E1];have e:((A:Int)%((2 ^ 64:Nat):Int)).toNat=A:=Z'
 have f:(((2 ^ i*b:Nat):Int)%((2 ^ 64:Nat):Int)).toNat=2 ^ i*b:=Z'
 rw [e,f,Nat.or_comm,<- j,IntKind.wrap_u64];omega
def Pp (l:List UInt8) (b j:Nat) (r:j<6) :
  bits .or .u64 (iM (l.drop b) j) (IntKind.u64.wrap (IntKind.u64.wrap ((l[b+j]?.getD 0).toNat:Int)*2 ^ (8*j)))=iM (l.drop b) (j+1):=by
 have s:((l[b+j]?.getD 0).toNat:Int)<256:=by have:=UInt8.toNat_lt (l[b+j]?.getD 0);omega
 have c:0<=((l[b+j]?.getD 0).toNat:Int):=Z'
 obtain ⟨o,e⟩:=il (l.drop b) j;have h:(l.drop b).getD j 0=l[b+j]?.getD 0:=by simp [B3]
 rw [iM,h];have m:(256:Int) ^ j=2 ^ (8*j):=by rw [Int.pow_mul];rfl
 have i:=xS (j:=j) Z';have k:0<(256:Int) ^ j:=D8 De0;generalize ((l[b+j]?.getD 0).toNat:Int)=x at *;rw [m] at e i k ⊢;have p:0<=x*2 ^ (8*j):=D7 c Z';have q:x*2 ^ (8*j)<=255*2 ^ (8*j):=D6 Z' Z';have f:IntKind.u64.wrap x=x:=by rw [IntKind.wrap_u64];omega
 have g:IntKind.u64.wrap (x*2 ^ (8*j))=x*2 ^ (8*j):=by rw [IntKind.wrap_u64];omega
 rw [f,g];exact KN o e c Z'
def xr (n:Int) (j:Nat):n%(256:Int) ^ (j+1)=n%(256:Int) ^ j+(n/(256:Int) ^ j%256)*(256:Int) ^ j:=by
 have b:0<(256:Int) ^ j:=D8 De0;rw [Int.pow_succ];generalize (256:Int) ^ j=p at b;have h:=G3 n p;have g:=G3 (n/p) 256;have i:=Int.emod_nonneg n (by omega:p≠0);have h4:=Int.emod_lt_of_pos n b;have h5:=Int.emod_nonneg (n/p) (by decide:(256:Int)≠0);have k:=Int.emod_lt_of_pos (n/p) (by decide:(0:Int)<256);have l:0<=(n/p%256)*p:=D7 h5 Z';have m:(n/p%256)*p<=255*p:=D6 Z' Z'
 have e:n=(n%p+(n/p%256)*p)+(p*256)*(n/p/256):=by
  have o:p*(n/p)=(n/p%256)*p+(p*256)*(n/p/256):=by
   conv=>lhs;rw [<- g]
   rw [Int.mul_add,<- Int.mul_assoc,Int.mul_comm p]
  omega
 generalize r:n/p/256=q at e;generalize s:n%p+n/p%256*p=x at e;have c:0<=x:=Z'
 have f:x<p*256:=Z'
 rw [e,Int.add_mul_emod_self_left,Int.emod_eq_of_lt c f]
def Nv (n:Int):((A1 n).toNat:Int)=n%256:=by
 simp [A1,UInt8.toNat_ofNat'];omega
def mE (n:Int) (s:Nat) (rest:List UInt8):∀ j,j<=s->iM (dD n s++rest) j=n%(256:Int) ^ j:=by
 intro j
 induction j with
 | zero=>intro _;simp [iM]
 | succ j b=>
  intro c;rw [iM,b Z',xr];congr 1
  have:(dD n s++rest).getD j 0=A1 (n/(256:Int) ^ j):=by
   rw [B3,List.getElem?_append_left (by rw [bp];omega)];simp [dD,List.getElem?_map,List.getElem?_range (show j<s by omega)]
  rw [this,Nv]
def ints (l:List Int):Array R:=(l.map (B2 L)).toArray
def er (l:List Int):(ints l).size=l.length:=by simp [ints]
def dP (l:List Int) (i:Nat):(ints l)[i]?=l[i]?.map (B2 L):=by simp [ints]
def gM (l:List Int) (i:Nat) (x:Int):(ints l).setIfInBounds i (N L x)=ints (l.set i x):=by simp [ints,D4]
def bK {l:List Int} {i:Nat} (h:i<l.length):(ints l)[i]?=X (N L (l.getD i 0)):=by
 rw [dP,B3,H9 h];rfl
def J5 (n:Nat):madeCells (B2 L 0).cells (n*1)=ints (List.replicate n 0):=by
 apply Array.ext
 .simp [size_madeCells,er]
 .intro i b c
  simp [madeCells,ints,Value.cells,Nat.mod_one]
def nr (n:Int) (w:Q) (e:Ending) (b:Q):Prop:=e = H (N L n)/\w=b
abbrev az (b:Nat):R:=G (X ⟨b,0,V⟩)
def pP (w:Q) (v:R) (l:List Int):Prop:=
 (∃ x c,v = O x 0 c/\l=[])\/∃ g o c,v = O (X ⟨g,o,V⟩) l.length c/\l.length<=c/\c<=maxLen/\∀ k,k<l.length->w.cell? ⟨g,o+k,V⟩=X (N L (l.getD k 0))
def fT:Array R->Nat->List R->Array R
 | b,_,[]=>b
 | b,o,v :: c=>fT (b.setIfInBounds o v) (o+1) c
def wi:∀ (c:List R) (b:Array R) (o:Nat),(fT b o c).size=b.size
 | [],b,o=>rfl
 | v :: c,b,o=>by rw [fT,wi c];simp
def iS:∀ (b:List R) (c:Array R) (o k:Nat),o+b.length<=c.size->(fT c o b)[k]?=if o<=k/\k<o+b.length then b[k-o]? else c[k]?
 | [],c,o,k,h=>by rw [fT,if_neg Si0]
 | v :: b,c,o,k,h=>by
  simp only [A2] at h;rw [fT,iS b _ (o+1) k (by simp;omega)]
  by_cases f:k=o
  .subst f
   rw [if_neg Z',if_pos Si0];simp [D3,show k<c.size by omega]
  .by_cases e:o<=k/\k<o+(v :: b).length
   .simp only [A2] at e
    rw [if_pos Z',if_pos (by simp only [A2];omega)];rw [show k-o=(k-(o+1))+1 by omega,List.getElem?_cons_succ]
   .simp only [A2] at e
    rw [if_neg Z',if_neg (by simp only [A2];omega)];rw [D3,if_neg Z']
def ag.setCells:∀ (c:List R) (o:Nat) {w:Q} {g:Nat} {b:Array R} {T:TypeId} {F:ai},ag w (pt g (M b T (0,0))*F)->ag (w.setCells g o c) (pt g (M (fT b o c) T (0,0))*F)
 | [],o,w,g,b,T,F,h=>h
 | v :: c,o,w,g,b,T,F,h=>ag.setCells c (o+1) (h.setCell o v)
def aj.setCells:∀ (c:List R) (o:Nat) {a b:Q} (g:Nat),aj a b->aj a (b.setCells g o c)
 | [],o,a,b,g,h=>h
 | v :: c,o,a,b,g,h=>aj.setCells c (o+1) g (h.setCell ⟨g,o,V⟩ v)
def ag.there {w:Q} {g:Nat} {b:Array R} {T:TypeId} {F:ai} (h:ag w (pt g (M b T (0,0))*F)) {o n:Nat} (e:o+n<=b.size):w.there g o n:=fun j c=>
 ⟨by rw [h.cell,Array.getElem?_eq_getElem Z'];rfl,h.frozen _⟩
end Go.SL
namespace Go.Proofs.Ba
open RowKit SL
def gO:(prog.info? 5).map (fun i=>(i.zero,i.size,i.bytes))=X (X (N .u8 0),1,1):=Kr0
def fq (n:Nat) (g:n<=281474976710656) (w:Q):(Instr.makeSlice 23 (N L n) (N L n)).run U w =
  .ok (O (X ⟨w.heap.size,0,V⟩) n n) (w.alloc (M (ed (zs n)) 5 (0,0))):=by
 obtain ⟨i,c,f,e,b⟩:=info_parts gO;have:=run_make (P:=U) w 23 5 i _ underlying23 c f L L n n Z' Z' (by rw [b];omega) Z';rw [this,e];simp only [D2];rw [jH]
def Ty (w:Q) (l:List UInt8) (e:Ending) (b:Q):Prop:=∃ v,e = H v/\ag b (bs 5 v l*whole w)/\aj w b
def j3 (w:Q) (v:R) (l:List UInt8) (b:Rd w v l) (j:l.length<=1000000000) :
  Calls U 185 #[v] w (Ty w l):=by
 obtain ⟨C,i,o,m,h⟩:=info_parts gO;obtain ⟨s,b⟩:=b;rcases b with ⟨rfl,q⟩|⟨a,c,rfl,r⟩
 .have:l=[]:=E2 q
  subst this;have t:=fun w=>Lib.run_eql_slice_nil (P:=U) w 23 5 V 0 0 0 0 underlying23;clear j
  go_in
  go_wp2
  go_ret
  exact ⟨_,rfl,(ag.whole w).eU _ _,aj.refl w⟩
 .have g:pC (w.alloc (M #[] 5 (0,0))) 1 (O (X a) l.length c) l.length (l.map u8):=
   pC.alloc ⟨s,.inr ⟨a,c,rfl,r⟩⟩ _
  have e:=(ag.whole w).alloc (M #[] 5 (0,0));have f:=ag.nM (n:=0) (cap:=0) (sz:=1) e (Nat.le_refl _) De0 rfl;obtain ⟨B,E,k,u,A⟩:=ag.append (P:=U) (ty:=23) underlying23 i o m h rfl f g (by simp [u8,Value.oneCell']) (by unfold maxLen;omega) Z';have p:=ae k;clear k e f g i o m h j;have t:=fun w=>Lib.run_eql_slice_nil (P:=U) w 23 5 (X a) l.length c 0 0 underlying23
  go_in
  go_wp2_with (at_builtin;refine wpList_append_run p.o _ _ rfl rfl rfl rfl rfl ?_)
  go_ret
  refine ⟨B,rfl,u.to ?_,((aj.refl w).alloc _).trans A⟩;simp [bs]
def PD (w:Q) (f:KV) (e:Ending) (b:Q):Prop:=∃ c D,e = H (.map (X c))/\D.Perm f/\ag b (mp c D*whole w)/\aj w b
def IQ (w:Q) (b:Nat) (o:Obj) (c:KV) (k:Nat) (wr:Q):Prop:=
 ∃ D e,c.length<=D.length+k/\Iter b o c D e/\ag wr (pt (w.heap.size+1) e*(mp w.heap.size D*whole w))/\aj w wr
def mr (w:Q) (v:R) (c:KV) (hr:Wv w v c) :
  Calls U 182 #[v] w (PD w c):=by
 have b0:=@iU U _ _ _ underlying173;rcases hr with ⟨rfl,rfl⟩|⟨b,o,rfl,e,q⟩
 .have g:∀ w,(Instr.range 173 (.map V)).run U w = .ok (G (X ⟨w.heap.size,0,V⟩)) (w.alloc (.mapIter V 0 #[] 0)):=by
   intro w;simp [Instr.range,run_underlying underlying173]
  have r:∀ B,(Instr.next (G (X ⟨w.heap.size+1,0,V⟩)) K B).run U ((w.alloc (.map #[] 0)).alloc (.mapIter V 0 #[] 0)) = .ok (.tuple #[I K]) ((w.alloc (.map #[] 0)).alloc (.mapIter V 0 #[] 0)):=by
   intro B;have:=(ag.whole (w.alloc (.map #[] 0))).alloc (.mapIter V 0 #[] 0);have h:=this.heap;rw [D1] at h;simp only [Instr.next,getObj,Sem.run_bind,Sem.run,h,Result.andThen]
   rfl
  go_in
  go_wp2
  refine wp_loop_rounds 1 ?_;rw [rounds_succ]
  go_wp2
  go_ret
  exact ⟨_,[],rfl,E5 _,(((ag.whole w).alloc (.map #[] 0)).ui isMap_empty |>.alloc (.mapIter V 0 #[] 0)).right,((aj.refl w).alloc _).alloc _⟩
 .have k:=((ag.whole w).alloc (.map #[] 0)).ui isMap_empty
  have f:(w.alloc (.map #[] 0)).heap[b]?=X o:=k.GB e;obtain ⟨A,g,C⟩:=lv (P:=U) underlying173 f q;rw [D1] at g;have W:=BU (P:=U) e q underlying173 3;have H1:=ae f;clear f
  go_in
  go_wp2
  go_loopg [] c.length (fun h0 wr=>IQ w b o c h0 wr)
  case atStart=>
   have j:=k.alloc A;rw [D1] at j;exact ⟨[],A,Si0,C,j,((aj.refl w).alloc _).alloc _⟩
  case round=>
   obtain ⟨D,m0,k0,E,i,u⟩:=hrel;clear g b0 W;have l:wr.heap[b]?=X o:=(i.to (ay _ _ _).symm).GB e;rcases i.next (P:=U) l E with ⟨s,r⟩|⟨p,g0,w2,hp,c0,r,d0,m,e0,i0,j0⟩
   .have Hp:=ae s;clear s
    go_wp2
    go_ret
    exact ⟨_,D,rfl,Hp.o,i.right,u⟩
   .obtain ⟨w3,l0,t,f0,_⟩:=ag.mapUpdate (P:=U) underlying173 underlying3 (d0.to (aD _ _ _)) p.1 p.2
    clear l
    go_wp2
    have P:=zK m;rw [List.length_append,List.length_singleton] at P
    go_roundg (gk-1)
    case measure=>omega
    case rel=>
     refine ⟨D++[p],g0,by simp;omega,m,?_,(u.trans e0).trans f0⟩;rw [Ph c0] at t;exact t.to (aD _ _ _)
end Go.Proofs.Ba
namespace Go.SL
open RowKit
variable {rd v:R} {P:Program} {k:IntKind}
abbrev CB:=List (Int × List UInt8)
def aQ (T:TypeId) (S:Hp) (v:R) (sh:Bool) (C:CB):ai:=fun h=>∃ Z:List (Int × R × List UInt8),
  (Z.map fun z=>(z.1,z.2.2)).Perm C/\(Z.map A3).Nodup/\(∀ z ∈ Z,rC T S z.2.1 z.2.2) /\
  ((v = .map V/\Z=[]/\h=fun _=>V) \/
   (∃ m o,v = .map (X m)/\sh=J/\S m=X o/\IsMap o (Z.map fun z=>(z.1,z.2.1))/\h=fun _=>V) \/
   (∃ m,v = .map (X m)/\sh=K/\mp m (Z.map fun z=>(z.1,z.2.1)) h))
def ia {T:TypeId} {S S':Hp} {sh:Bool} {C:CB} (e:Ext S S') (h:Hp) (b:aQ T S v sh C h):aQ T S' v sh C h:=by
 obtain ⟨Z,c,f,g,h4⟩:=b;refine ⟨Z,c,f,fun z l=>(g z l).mono e,?_⟩;rcases h4 with h4|⟨m,o,h5,i,j,k⟩|h4
 .exact .inl h4
 .exact .inr (.inl ⟨m,o,h5,i,e _ _ j,k⟩)
 .exact .inr (.inr h4)
def IZ (T:TypeId) (S:Hp) (b:Bool):aQ T S (.map V) b [] (fun _=>V):=⟨[],E5 _,List.nodup_nil,Si0,.inl ⟨rfl,rfl,rfl⟩⟩
def ag.lM {T:TypeId} {w:Q} {S:Hp} {j:Bool} {C:CB} {F:ai} (h:ag w (aQ T S v j C*(al S*F))) :
    ∃ Z:List (Int × R × List UInt8),(Z.map fun z=>(z.1,z.2.2)).Perm C/\(Z.map A3).Nodup/\(∀ z ∈ Z,rC T S z.2.1 z.2.2) /\
      Wv w v (Z.map fun z=>(z.1,z.2.1)) /\
      ((v = .map V/\ag w (al S*F))\/(j=J/\ag w (al S*F)) \/
       (∃ m,v = .map (X m)/\j=K/\ag w (mp m (Z.map fun z=>(z.1,z.2.1))*(al S*F)))):=by
  obtain ⟨k,a,p,l,⟨Z,q,r,z3,z4⟩,f,d,rfl⟩:=h;have i:ag w (al S*F):=⟨l,fun b o s=>a b o (by rcases d b with e|e <;> simp_all [join]),f⟩
  refine ⟨Z,q,r,z3,?_,?_⟩
  · rcases z4 with ⟨rfl,rfl,_⟩|⟨m,o,rfl,_,c,g,_⟩|⟨m,rfl,_,c⟩
    · exact .inl ⟨rfl,rfl⟩
    · exact .inr ⟨m,o,rfl,i.F2 c,g⟩
    · obtain ⟨o,g,rfl⟩:=c
      exact .inr ⟨m,o,rfl,a m o (by simp [join,one]),g⟩
  · rcases z4 with ⟨rfl,rfl,_⟩|⟨m,o,rfl,rfl,c,g,_⟩|⟨m,rfl,rfl,c⟩
    · exact .inl ⟨rfl,i⟩
    · exact .inr (.inl ⟨rfl,i⟩)
    · exact .inr (.inr ⟨m,rfl,rfl,_,a,p,l,c,f,d,rfl⟩)
def ag.y9 {T:TypeId} {w:Q} {S:Hp} {C:CB} {F:ai} {m:Nat} {Z:List (Int × R × List UInt8)} (h:ag w (mp m (Z.map fun z=>(z.1,z.2.1))*F))
  (b:(Z.map fun z=>(z.1,z.2.2)).Perm C) (c:(Z.map A3).Nodup) (e:∀ z ∈ Z,rC T S z.2.1 z.2.2):ag w (aQ T S (.map (X m)) K C*F):=
 h.gZ fun k f=>⟨Z,b,c,e,.inr (.inr ⟨m,rfl,rfl,f⟩)⟩
structure Bx where
 wv:Value
 ws:Bool
 tv:Value
 ts:Bool
 av:Value
def fB (av:R):ai:=fun h=>(av = .map V/\h=fun _=>V)\/∃ m,av = .map (X m)/\mp m [] h
def Bx.cells (x:Bx) (rd:R) (b:Int):Array R:=#[rd,N L b,x.wv,I x.ws,x.tv,I x.ts,x.av]
def aU (c T:TypeId) (S:Hp) (b:Nat) (rd:R) (e:Int) (W D:CB):ai:=
 ex fun x:Bx=>pt b (M (x.cells rd e) c (0,0))*(aQ T S x.wv x.ws W*(aQ T S x.tv x.ts D*fB x.av))
def ag.et {w:Q} {c T:TypeId} {S:Hp} {b:Nat} {e:Int} {W D:CB} {F:ai} (h:ag w (aU c T S b rd e W D*F)) :
  ∃ x:Bx,ag w (pt b (M (x.cells rd e) c (0,0))*(aQ T S x.wv x.ws W*(aQ T S x.tv x.ts D*(fB x.av*F)))):=by
 obtain ⟨x,h⟩:=ag.aw.1 h;exact ⟨x,h.to Ac0⟩
def ag.ic {w:Q} {c T:TypeId} {S:Hp} {b:Nat} {e:Int} {W D:CB} {F:ai} (x:Bx)
  (h:ag w (pt b (M (x.cells rd e) c (0,0))*(aQ T S x.wv x.ws W*(aQ T S x.tv x.ts D*(fB x.av*F))))):ag w (aU c T S b rd e W D*F):=
 ag.aw.2 ⟨x,h.to Ac0⟩
def kY {c T:TypeId} {S S':Hp} {b:Nat} {f:Int} {W D:CB} (e:Ext S S') (h:Hp) (p:aU c T S b rd f W D h):aU c T S' b rd f W D h:=by
 obtain ⟨x,k,l,t,⟨m,h4,u,⟨h5,o,v,A,j,s⟩,i,r⟩,g,q⟩:=p;exact ⟨x,k,l,t,⟨m,h4,ia e _ u,⟨h5,o,ia e _ v,A,j,s⟩,i,r⟩,g,q⟩
def ag.MK {w c:Q} {T:TypeId} {S:Hp} {b:Nat} {o:Obj} {x:Bx} {W D:CB} {F:ai} {l:List UInt8}
  (p:ag w (pt b o*(aQ T S x.wv x.ws W*(aQ T S x.tv x.ts D*(fB x.av*(al S*F))))))
  (m:ag c (bs T v l*SL.whole w)) (k:small l) :
  ∃ S',Ext S S'/\rC T S' v l/\ag c (pt b o*(aQ T S' x.wv x.ws W*(al S'*(aQ T S' x.tv x.ts D*(fB x.av*F))))) /\
   ag c (pt b o*(aQ T S' x.tv x.ts D*(al S'*(aQ T S' x.wv x.ws W*(fB x.av*F))))):=by
 have g:=m.under p;obtain ⟨S',e,j,h⟩:=ag.z8 (S:=S) (F:=pt b o*(aQ T S x.wv x.ws W*(aQ T S x.tv x.ts D*(fB x.av*F)))) (g.to Ac0) k;refine ⟨S',e,j,?_⟩;have i:ag c (aQ T S x.wv x.ws W*(pt b o*(aQ T S x.tv x.ts D*(fB x.av*(al S'*F))))):=h.to Ac0;have h4:=i.gZ (ia e);have h5:ag c (aQ T S x.tv x.ts D*(pt b o*(aQ T S' x.wv x.ws W*(fB x.av*(al S'*F))))):=h4.to Ac0;have f:=h5.gZ (ia e);exact ⟨f.to Ac0,f.to Ac0⟩
def C4 {w:Q} {t j e:TypeId} (g:P.underlying t=X (.map j e)) (f:P.underlying j=X (.int k)) {z:R} (i:(zeroValue e).run P w = .ok z w) {c:KV} (h:Wv w v c) (x:Int) (ok:Bool) :
  (Instr.lookup t v (N L x) ok).run P w = .ok (if ok then .tuple #[(aM c x).getD z,I (aM c x).isSome] else (aM c x).getD z) w:=by
 rcases h with ⟨rfl,rfl⟩|⟨b,o,rfl,l,m⟩
 .rw [kh g f i];rfl
 .exact iC g f i l m x ok
def ag.kL {T:TypeId} {w:Q} {S:Hp} {s:Bool} {C:CB} {F:ai} (h:ag w (aQ T S v s C*(al S*F)))
  {t m e:TypeId} (r:P.underlying t=X (.map m e)) (p:P.underlying m=X (.int k)) (c:(zeroValue e).run P w = .ok (O V 0 0) w) (b:Int) :
  (aM C b=V->(Instr.lookup t v (N L b) J).run P w = .ok (.tuple #[O V 0 0,I K]) w) /\
  (∀ l,aM C b=X l->∃ f,(Instr.lookup t v (N L b) J).run P w = .ok (.tuple #[f,I J]) w/\rC T S f l):=by
 obtain ⟨Z,u,A,z3,q,_⟩:=h.lM
 have g:aM C b=(aM Z b).map fun z=>z.2:=by
  rw [<- oP u (by rw [List.map_map];exact A),ku (fun z:R × List UInt8=>z.2)]
 have o:aM (Z.map fun z=>(z.1,z.2.1)) b=(aM Z b).map fun z=>z.1:=ku (fun z:R × List UInt8=>z.1) Z b;rw [C4 r p c q b J,o];constructor
 .intro j
  have:aM Z b=V:=by rw [g] at j;simpa using j
  rw [this];rfl
 .intro l i
  rw [g] at i;obtain ⟨z,c,rfl⟩:=Option.map_eq_some_iff.1 i;exact ⟨z.1,by rw [c];rfl,z3 _ (lO c)⟩
def ag.uC {T:TypeId} {w:Q} {S:Hp} {sh:Bool} {C:CB} {F:ai} (h:ag w (aQ T S v sh C*F)):∃ r,v = .map r:=by
 obtain ⟨k,a,b,c,⟨Z,e,g,z3,z4⟩,f,d,rfl⟩:=h;rcases z4 with ⟨rfl,_⟩|⟨m,o,rfl,_⟩|⟨m,rfl,_⟩ <;> exact ⟨_,rfl⟩
def ag.xZ {T:TypeId} {w:Q} {S:Hp} {sh:Bool} {C:CB} {F:ai} (h:ag w (aQ T S v sh C*(al S*F))) :
  ∃ S',Ext S S'/\ag w (aQ T S' v J C*(aQ T S' v J C*(al S'*F))):=by
 obtain ⟨k,a,E,r,⟨Z,i,j,z3,z4⟩,f,d,rfl⟩:=h;have s:ag w (al S*F):=⟨r,fun b o P=>a b o (by rcases d b with e|e <;> simp_all [join]),f⟩
 have two:∀ {S':Hp} {l:ai},(aQ T S' v J C (fun _=>V))->ag w l->ag w (aQ T S' v J C*l):=fun p q=>(q.to (cl _).symm).gZ fun k u=>by rw [u];exact p
 rcases z4 with ⟨rfl,rfl,_⟩|⟨m,o,rfl,rfl,c,g,_⟩|⟨m,rfl,rfl,c⟩
 .have p:aQ T S (.map V) J C (fun _=>V):=⟨[],i,j,z3,.inl ⟨rfl,rfl,rfl⟩⟩
  exact ⟨S,Ext.refl S,two p (two p s)⟩
 .have p:aQ T S (.map (X m)) J C (fun _=>V):=⟨Z,i,j,z3,.inr (.inl ⟨m,o,rfl,rfl,c,g,rfl⟩)⟩
  exact ⟨S,Ext.refl S,two p (two p s)⟩
 .obtain ⟨o,g,rfl⟩:=c
  have A:ag w (al S*(pt m o*F)):=ag.to (⟨_,a,one m o,r,rfl,f,d,rfl⟩:ag w (pt m o*(al S*F))) (aD _ _ _);obtain ⟨t,h4⟩:=A.F7;have p:aQ T (join S (one m o)) (.map (X m)) J C (fun _=>V):=⟨Z,i,j,fun z B=>(z3 z B).mono (vO _ _ _),.inr (.inl ⟨m,o,rfl,rfl,h4,g,rfl⟩)⟩
  exact ⟨_,vO _ _ _,two p (two p t)⟩
def ag.AR {T:TypeId} {w:Q} {S:Hp} {v v':R} {sh sh':Bool} {C C':CB} {F:ai} (h:ag w (aQ T S v sh C*(aQ T S v' sh' C'*(al S*F)))) :
  ∃ S',Ext S S'/\ag w (aQ T S' v J C*(aQ T S' v J C*(aQ T S' v' J C'*(aQ T S' v' J C'*(al S'*F))))):=by
 obtain ⟨b,f,g⟩:=ag.xZ (T:=T) (S:=S) (v:=v) (sh:=sh) (C:=C) (F:=aQ T S v' sh' C'*F) (h.to Ac0);have i:ag w (aQ T b v' sh' C'*(aQ T b v J C*(aQ T b v J C*(al b*F)))):=ag.gZ (P:=aQ T S v' sh' C') (g.to Ac0) (ia f);obtain ⟨c,e,j⟩:=ag.xZ (T:=T) (S:=b) (v:=v') (sh:=sh') (C:=C') (F:=aQ T b v J C*(aQ T b v J C*F)) (i.to Ac0);have h4:ag w (aQ T c v J C*(aQ T b v J C*(aQ T c v' J C'*(aQ T c v' J C'*(al c*F))))):=ag.gZ (P:=aQ T b v J C) (j.to Ac0) (ia e);have h5:ag w (aQ T c v J C*(aQ T c v J C*(aQ T c v' J C'*(aQ T c v' J C'*(al c*F))))):=ag.gZ (P:=aQ T b v J C) (h4.to Ac0) (ia e);exact ⟨c,f.trans e,h5⟩
end Go.SL
namespace Go.Proofs.Ba
open RowKit SL
variable {v:R} {W:CB}
def Wt (S:Hp) (b o:Nat) (f:Array R) (C:CB) (g:Int) (l:List UInt8) (F:ai) (w:Q) (e:Ending) (c:Q):Prop:=
 ∃ m,e = H (.tuple #[])/\ag c (pt b (M ((f.setIfInBounds o (.map (X m))).setIfInBounds (o+1) (I K)) 177 (0,0))*(aQ 5 S (.map (X m)) K (SL.fC C g l)*(al S*F)))/\aj w c
def Bc {b:Array R} {o:Nat} (h:b[o]?=X v):b.setIfInBounds o v=b:=by
 apply Array.ext_getElem?;intro i;rw [D3]
 split
 .rename_i e;subst e;split
  .exact h.symm
  .rename_i c;exact absurd (Array.getElem?_eq_some_iff.1 h).1 c
 .rfl
def sE {g k:Type} (f:g->k) {D E:List k} (h:D.Perm E):∀ {Z:List g},Z.map f=E->∃ b:List g,b.Perm Z/\b.map f=D:=by
 induction h with
 | nil=>intro Z e;exact ⟨Z,E5 _,e⟩
 | cons x h q=>
  intro Z e
  cases Z with
  | nil=>cases e
  | cons z Z=>
   simp only [List.map_cons,List.cons.injEq] at e;obtain ⟨b,i,j⟩:=q e.2;exact ⟨z :: b,i.cons z,by simp [j,e.1]⟩
 | swap x y l=>
  intro Z e
  match Z,e with
  | a :: c :: Z,e=>
   simp only [List.map_cons,List.cons.injEq] at e;exact ⟨c :: a :: Z,List.Perm.swap _ _ _,by simp [e.1,e.2.1,e.2.2]⟩
 | trans i j r s=>
  intro Z e;obtain ⟨v,t,o⟩:=s e;obtain ⟨m,u,p⟩:=r o;exact ⟨m,u.trans t,p⟩
def qJ {Z:List (Int × R × List UInt8)} {S:Hp} {T:TypeId} (f:(Z.map fun z=>(z.1,z.2.2)).Perm W) (e:(Z.map A3).Nodup) (g:∀ z ∈ Z,rC T S z.2.1 z.2.2) (b:Int) {l:List UInt8} (hv:rC T S v l) :
  ((SL.fC Z b (v,l)).map fun z=>(z.1,z.2.2)).Perm (SL.fC W b l)/\((SL.fC Z b (v,l)).map A3).Nodup/\(∀ z ∈ SL.fC Z b (v,l),rC T S z.2.1 z.2.2) /\
  SL.fC (Z.map fun z=>(z.1,z.2.1)) b v=(SL.fC Z b (v,l)).map fun z=>(z.1,z.2.1):=by
 refine ⟨?_,sD e _ _,?_,?_⟩
 .rw [<- zQ (fun z:R × List UInt8=>z.2) Z b (v,l)]
  exact MQ f (by rw [List.map_map];exact e) b l
 .intro z c
  rcases zr c with rfl|c
  .exact hv
  .exact g z c
 .exact zQ (fun z:R × List UInt8=>z.1) Z b (v,l)
def fp (w:Q) (S:Hp) (b o:Nat) (m:Array R) (bv:R) (sh:Bool) (C:CB) (f:Int) (B:R) (l:List UInt8) (F:ai)
  (h:ag w (pt b (M m 177 (0,0))*(aQ 5 S bv sh C*(al S*F)))) (j:m[o]?=X bv) (k:m[o+1]?=X (I sh)) (hv:rC 5 S B l) :
  Calls U 210 #[G (X ⟨b,o,V⟩),N L f,B] w (Wt S b o m C f l F w):=by
 have E:w.cell? ⟨b,o,V⟩=X bv:=(h.cell o).trans j;have P:w.cell? ⟨b,o+1,V⟩=X (I sh):=(h.cell (o+1)).trans k;have W:∀ o,w.frozen? ⟨b,o,V⟩=K:=h.frozen;have p0:o≠o+1:=Z'
 obtain ⟨Z,z1,z2,z3,e0,o0⟩:=(h.t00 (aQ 5 S bv sh C*(al S*(pt b (M m 177 (0,0))*F)))).lM;rcases o0 with ⟨rfl,u⟩|⟨rfl,u⟩|⟨i0,rfl,rfl,u⟩
 .skip
  have f0:∀ w,(binOp .eql 173 (.map V) (.map V)).run U w = .ok (I J) w:=fun w=>run_eql_map_nil (P:=U) w 173 3 23 _ underlying173;have b0:b<w.heap.size:=h.lt;have d0:=ae j;have H1:=ae k;clear j k;have l0:(o == o+1)=K:=Si0
  go_in
  go_wp2_with fail
  apply (mr w _ _ e0).mono;rintro k0 i ⟨c,D,rfl,s,e,v⟩;have Hp:=ae s;clear s;have p:=e.under h;have g0:i.cell? ⟨b,o,V⟩=X (.map V):=e.bV E;have g1:i.cell? ⟨b,o+1,V⟩=X (I sh):=e.bV P;have gf:∀ o,i.frozen? ⟨b,o,V⟩=K:=fun o=>(e.td b0).trans (W o);clear E P W;have q:=((p.to (aD _ _ _)).setCell o (.map (X c))).setCell (o+1) (I K);have r:=q.to (aD _ _ _);obtain ⟨w2,h0,t,c0,_⟩:=ag.mapUpdate (P:=U) underlying173 underlying3 r f B;clear p q r h e u
  go_wp2
  go_end0
  obtain ⟨j0,g,p2⟩:=sE _ Hp.o rfl;subst p2;obtain ⟨u1,u2,u3,u4⟩:=qJ ((g.map _).trans z1) ((g.map A3).nodup_iff.2 z2) (fun z hz=>z3 z (g.mem_iff.1 hz)) f hv;refine ⟨c,rfl,?_,((v.setCell _ _).setCell _ _).trans c0⟩;rw [u4] at t;have:=ag.y9 t u1 u2 u3;exact (this.t00 (aQ 5 S (.map V) sh C*(pt b (M ((m.setIfInBounds o (.map (X c))).setIfInBounds (o+1) (I K)) 177 (0,0))*(aQ 5 S (.map (X c)) K (SL.fC C f l)*(al S*F))))).right
 .obtain ⟨A,rfl⟩:∃ A,bv = .map A:=by
   rcases e0 with ⟨rfl,_⟩|⟨i0,_,rfl,_⟩
   .exact ⟨_,rfl⟩
   .exact ⟨_,rfl⟩
  rcases A with _|A
  .skip
   have f0:∀ w,(binOp .eql 173 (.map V) (.map V)).run U w = .ok (I J) w:=fun w=>run_eql_map_nil (P:=U) w 173 3 23 _ underlying173;have b0:b<w.heap.size:=h.lt;have d0:=ae j;have H1:=ae k;clear j k;have l0:(o == o+1)=K:=Si0
   go_in
   go_wp2_with fail
   apply (mr w _ _ e0).mono;rintro k0 i ⟨c,D,rfl,s,e,v⟩;have Hp:=ae s;clear s;have p:=e.under h;have g0:i.cell? ⟨b,o,V⟩=X (.map V):=e.bV E;have g1:i.cell? ⟨b,o+1,V⟩=X (I J):=e.bV P;have gf:∀ o,i.frozen? ⟨b,o,V⟩=K:=fun o=>(e.td b0).trans (W o);clear E P W;have q:=((p.to (aD _ _ _)).setCell o (.map (X c))).setCell (o+1) (I K);have r:=q.to (aD _ _ _);obtain ⟨w2,h0,t,c0,_⟩:=ag.mapUpdate (P:=U) underlying173 underlying3 r f B;clear p q r h e u
   go_wp2
   go_end0
   obtain ⟨j0,g,p2⟩:=sE _ Hp.o rfl;subst p2;obtain ⟨u1,u2,u3,u4⟩:=qJ ((g.map _).trans z1) ((g.map A3).nodup_iff.2 z2) (fun z hz=>z3 z (g.mem_iff.1 hz)) f hv;refine ⟨c,rfl,?_,((v.setCell _ _).setCell _ _).trans c0⟩;rw [u4] at t;have:=ag.y9 t u1 u2 u3;exact (this.t00 (aQ 5 S (.map V) J C*(pt b (M ((m.setIfInBounds o (.map (X c))).setIfInBounds (o+1) (I K)) 177 (0,0))*(aQ 5 S (.map (X c)) K (SL.fC C f l)*(al S*F))))).right
  .skip
   have f0:∀ w,(binOp .eql 173 (.map (X A)) (.map V)).run U w = .ok (I K) w:=fun w=>run_eql_map_nil (P:=U) w 173 3 23 _ underlying173;have b0:b<w.heap.size:=h.lt;have d0:=ae j;have H1:=ae k;clear j k;have l0:(o == o+1)=K:=Si0
   go_in
   go_wp2_with fail
   apply (mr w _ _ e0).mono;rintro k0 i ⟨c,D,rfl,s,e,v⟩;have Hp:=ae s;clear s;have p:=e.under h;have g0:i.cell? ⟨b,o,V⟩=X (.map (X A)):=e.bV E;have g1:i.cell? ⟨b,o+1,V⟩=X (I J):=e.bV P;have gf:∀ o,i.frozen? ⟨b,o,V⟩=K:=fun o=>(e.td b0).trans (W o);clear E P W;have q:=((p.to (aD _ _ _)).setCell o (.map (X c))).setCell (o+1) (I K);have r:=q.to (aD _ _ _);obtain ⟨w2,h0,t,c0,_⟩:=ag.mapUpdate (P:=U) underlying173 underlying3 r f B;clear p q r h e u
   go_wp2
   go_end0
   obtain ⟨j0,g,p2⟩:=sE _ Hp.o rfl;subst p2;obtain ⟨u1,u2,u3,u4⟩:=qJ ((g.map _).trans z1) ((g.map A3).nodup_iff.2 z2) (fun z hz=>z3 z (g.mem_iff.1 hz)) f hv;refine ⟨c,rfl,?_,((v.setCell _ _).setCell _ _).trans c0⟩;rw [u4] at t;have:=ag.y9 t u1 u2 u3;exact (this.t00 (aQ 5 S (.map (X A)) J C*(pt b (M ((m.setIfInBounds o (.map (X c))).setIfInBounds (o+1) (I K)) 177 (0,0))*(aQ 5 S (.map (X c)) K (SL.fC C f l)*(al S*F))))).right
 .obtain ⟨u1,u2,u3,u4⟩:=qJ z1 z2 z3 f hv
  obtain ⟨w',h0,m0,v,_⟩:=ag.mapUpdate (P:=U) underlying173 underlying3 u f B;have f0:=run_eql_map_nil (P:=U) w 173 3 23 (X i0) underlying173;have d0:=ae j;have H1:=ae k;have n0:=ae u4;clear j k u4 p0 u
  go_in
  go_wp2
  go_end0
  refine ⟨i0,rfl,?_,v⟩;rw [Bc d0.o,Bc H1.o];rw [n0.o] at m0;exact (ag.y9 m0 u1 u2 u3).u00
def fX (b c:Int) (l:List UInt8):Int:=if b≠0 then b else if c<0\/l.length≠480 then 1 else 0
def vG (c b:Int) (l:List UInt8) (W:CB):CB:=if c=0/\0<=b/\l.length=480 then SL.fC W b l else W
def oO {b c:Int} {l:List UInt8} (h:¬ (b=0/\0<=c/\l.length=480)):vG b c l W=W:=if_neg h
def vC {c b:Int} {l:List UInt8} (h:c=0/\0<=b/\l.length=480):vG c b l W=SL.fC W b l:=if_pos h
def gE (S:Hp) (b:Nat) (rd:R) (c:Int) (W D:CB) (id:Int) (l:List UInt8) (F:ai) (w:Q) (e:Ending) (f:Q):Prop:=
 ∃ S',Ext S S'/\e = H (N L (fX c id l))/\ag f (aU 177 5 S' b rd c (vG c id l W) D*(al S'*F))/\aj w f
def pk (w:Q) (S:Hp) (b:Nat) (rd:R) (i:Int) (W D:CB) (id:Int) (m:R) (l:List UInt8) (F:ai)
  (h:ag w (aU 177 5 S b rd i W D*(al S*F))) (f:Rd w m l) :
  Calls U 157 #[G (X ⟨b,0,V⟩),N L id,m] w (gE S b rd i W D id l F w):=by
 obtain ⟨x,s⟩:=h.et;have h0:w.cell? ⟨b,1,V⟩=X (N L i):=s.cell 1
 obtain ⟨a,c,rfl⟩:∃ a c,m = O a l.length c:=by
  rcases f.2 with ⟨rfl,v⟩|⟨a,c,rfl,_⟩
  .exact ⟨V,0,by rw [v]⟩
  .exact ⟨_,_,rfl⟩
 by_cases k:i=0
 .subst k
  by_cases b0:id<0
  .go_in
   have q:=ae f;clear f
   go_wp2
   go_ret
   exact ⟨S,Ext.refl S,by simp [fX,b0],by rw [oO Z'];exact h,aj.refl w⟩
  .by_cases j:l.length=480
   .have p:0<=id:=Z'
    have g0:((480:Int) != 480)=K:=De0
    have r:Rd w (O a 480 c) l:=by rw [<- j];exact f
    have u:=ae r;have g:=ae j;clear f r j;have e0:small l:=by unfold small;rw [g.o];decide
    have E:Hid (l.length<=1000000000):=by show l.length<=_;rw [g.o];decide
    go_in
    rw [g.o]
    go_wp2
    go_region_held3 (fun _=>True) (trivial)
     (first
      | (go_at_call 185;apply (j3 w.drew _ l (pC.drew u.o) E).mono;rintro e w1 ⟨v1,rfl,c0,t⟩)
      | (go_at_call 210;obtain ⟨S',A,C,B,_⟩:=ag.MK (w:=w.drew) s c0 e0;apply (fp _ S' b 2 _ _ _ W id v1 l (aQ 5 S' x.tv x.ts D*(fB x.av*F)) B rfl rfl C).mono;rintro e w2 ⟨f0,rfl,d0,P⟩))
    go_wp2
    go_ret
    refine ⟨S',A,?_,?_,((aj.refl w).drew.trans t).trans P⟩
    .simp [fX,p,g.o,Int.not_lt.2 p]
    .rw [vC ⟨rfl,p,g.o⟩]
     exact ag.ic { x with wv:=.map (X f0),ws:=K } (d0.u00)
   .have j0:((l.length:Int) != 480)=J:=by rw [bne_iff_ne];omega
    go_in
    have q:=ae f;have g:=ae j;clear f j
    go_wp2
    go_ret
    exact ⟨S,Ext.refl S,by simp [fX,g.o],by rw [oO (fun o=>g.o o.2.2)];exact h,aj.refl w⟩
 .have i0:(i != 0)=J:=by simpa using k
  go_in
  have q:=ae f;clear f
  go_wp2
  go_ret
  exact ⟨S,Ext.refl S,by simp [fX,k],by rw [oO (fun o=>k o.1)];exact h,aj.refl w⟩
def sorted (l:List Int):List Int:=l.mergeSort fun x y=>decide (x<=y)
def eV (l:List Int):(sorted l).length=l.length:=List.length_mergeSort ..
def sorted_perm (l:List Int):(sorted l).Perm l:=List.mergeSort_perm ..
def ni (l:List Int):(sorted l).Pairwise (·<=·):=by
 have:=List.pairwise_mergeSort (le:=fun x y:Int=>decide (x<=y)) (by intro a b c e f;simp at *;omega) (by intro a b;simp;omega) l;exact this.imp Si0
def Au {l m:List Int} (h:l.Perm m):sorted l=sorted m:=
 List.Perm.eq_of_pairwise (le:=(·<=·)) (fun a b _ _ c e=>Z') (ni l) (ni m) ((sorted_perm l).trans (h.trans (sorted_perm m).symm))
def iu (C:CB):CB:=(sorted (C.map A3)).map fun k=>(k,(aM C k).getD [])
end Go.Proofs.Ba
namespace Go.SL
open RowKit
abbrev cE (n:Int):Int:=wrap64 n
structure aB where
 sec:List (List UInt8)
 wait:List (Int × List UInt8)
 nz:List (Int × Unit)
 cr:Int
 cw:Int
 cf:Int
 down:Bool
 fi:Bool
 left:Int
 bF:List Int
def aB.fresh (n:Nat):aB:=⟨List.replicate n [],[],[],0,0,0,K,K,0,[]⟩
def aB.done (D:aB) (x:Int × List UInt8):aB:={ D with sec:=D.sec.set x.1.toNat x.2,nz:=del D.nz x.1 }
def aB.bU (D:aB) (l:List (Int × List UInt8)):aB:=l.foldl aB.done D
def aB.SF (D:aB) (x:Int × List UInt8):aB:={ D with nz:=SL.fC D.nz x.1 () }
def aB.si (D:aB) (f:Int) (x:Int × List UInt8):aB:=if f=1 then D.done x else if f=2 then D.SF x else D
def aB.eD (D:aB) (bF:List Int):Nat->aB
 | 0=>D
 | k+1=>match D.wait[k]? with
  | some p=>(D.eD bF k).si (bF.getD k 0) p
  | none=>D.eD bF k
def aB.fU (D:aB) (bF:List Int):aB:={ D.eD bF D.wait.length with wait:=[],down:=J,fi:=K,left:=0,bF:=[] }
def aB.di (D:aB):aB:=if !D.down && D.fi && D.left == 0 then D.fU D.bF else D
def aB.begun (D:aB):aB:=if D.di.down then D.di else if D.di.fi then { D.di with left:=cE (D.di.left-1) } else D.di
def aB.cT (D:aB):Int:=if D.di.down then 2 else 0
def aB.has (D:aB) (b:Int):Prop:=0<=b/\b<D.sec.length
instance (D:aB) (a:Int):Decidable (D.has a):=inferInstanceAs (Decidable (_/\_))
def ew (l:List (Int × List UInt8)) (a:Int):Option (List UInt8):=(l.reverse.find? fun x=>x.1 == a).map Prod.snd
def aB.cD (D:aB) (a:Int):Int × List UInt8:=
 match ew D.wait a with
 | some l=>(0,bY 512 l)
 | none=>if (aM D.nz a).isSome then (3,[]) else (0,bY 512 (D.sec.getD a.toNat []))
def aB.read (D:aB) (a:Int):(Int × List UInt8) × aB:=
 if D.has a then (if D.cT=0 then (D.begun.cD a,{ D.begun with cr:=cE (D.begun.cr+1) }) else ((2,[]),D.begun)) else ((1,[]),D)
def aB.write (D:aB) (a:Int) (l:List UInt8):Int × aB:=
 if D.has a/\l.length=512 then (if D.cT=0 then (0,{ D.begun with cw:=cE (D.begun.cw+1),wait:=D.begun.wait++[(a,l)] }) else (2,D.begun)) else (1,D)
def aB.aH (D:aB):aB:={ ({ D with cf:=cE (D.cf+1) }:aB).bU D.wait with wait:=[] }
def aB.flush (D:aB):Int × aB:=if D.cT=0 then (0,D.begun.aH) else (2,D.begun)
structure aB.Ok (D:aB):Prop where
 n:D.sec.length<=20000
 wait:∀ x ∈ D.wait,D.has x.1
 many:D.wait.length<=1000000
 bF:D.bF.length<=4611686018427387904
def aB.IN {D:aB} (h:D.cT=0):D.di=D:=by
 unfold aB.cT at h
 by_cases b:(!D.down && D.fi && D.left == 0)=J
 .rw [aB.di,if_pos b] at h;simp [aB.fU] at h
 .rw [aB.di,if_neg b]
def aB.Bu {D:aB} (h:D.cT=0):D.begun={ D with left:=D.begun.left }:=by
 have c:=aB.IN h
 have b:D.down=K:=by
  unfold aB.cT at h;rw [c] at h
  cases e:D.down with
  | false=>rfl
  | true=>simp [e] at h
 obtain ⟨sec,wait,nz,cr,cw,cf,down,fi,left,bF⟩:=D;simp only at b;subst b;unfold aB.begun;rw [c];cases fi <;> rfl
def aB.Ok.up {D:aB} (h:D.Ok) (e:D.cT=0):D.begun.Ok:=by
 rw [aB.Bu e];exact ⟨h.n,h.wait,h.many,h.bF⟩
def aB.mW (D:aB):D.cT=0\/D.cT=2:=by
 unfold aB.cT;split <;> simp
abbrev Zs:=List (Int × R × List UInt8)
def bT (Z:Zs):List R:=Z.flatMap fun z=>[N L z.1,z.2.1]
def rH (Z:Zs):(bT Z).length=Z.length*2:=by
 induction Z with
 | nil=>rfl
 | cons z Z b=>simp only [bT,List.flatMap_cons,List.length_append,A2,List.length_nil] at b ⊢;omega
def yU:∀ (Z:Zs) (i:Nat) (h:i<Z.length),(bT Z)[i*2]?=X (N L Z[i].1)/\(bT Z)[i*2+1]?=X Z[i].2.1:=by
 intro Z
 induction Z with
 | nil=>intro i h;simp at h
 | cons z Z b=>
  intro i h
  cases i with
  | zero=>simp [bT]
  | succ i=>
   have:=b i (by simpa using h);rw [show (i+1)*2=i*2+1+1 by omega];simpa [bT] using this
def ag.kH {w:Q} {f:TypeId} {n:Nat} {Z:Zs} {F:ai} {g c m:Nat} (h:ag w (sl f 2 (O (X ⟨g,0,V⟩) m c) n (bT Z)*F)) {i:Nat} (k:i<Z.length) :
  w.cell? ⟨g,i*2,V⟩=X (N L Z[i].1)/\w.cell? ⟨g,i*2+1,V⟩=X Z[i].2.1:=by
 obtain ⟨a,b⟩:=yU Z i k;obtain ⟨_,l⟩:=h.oa;rcases l with ⟨hv,q⟩|⟨o,p,j,e⟩
 .cases hv
 .cases j
  exact ⟨by have:=e _ _ a;rwa [Addr.add_lit,B1] at this,by have:=e _ _ b;rwa [Addr.add_lit,B1] at this⟩
structure Dx where
 sg:Nat
 tm:Nat
 wv:Value
 kv:Value
 Y:List (Value × List UInt8)
 Z:Zs
def Dx.cells (x:Dx) (D:aB):Array R:=
 #[O (X ⟨x.sg,0,V⟩) x.Y.length x.Y.length,x.wv,.map (X x.tm),N L D.cr,N L D.cw,N L D.cf,I D.down,I D.fi,N L D.left,x.kv]
def gU (t:List (Int × Unit)):KV:=t.map fun p=>(p.1,.agg #[])
def iL (l:List Int):List R:=l.map (B2 L)
structure Dx.Fit (x:Dx) (T:TypeId) (S:Hp) (D:aB):Prop where
 sec:x.Y.map Prod.snd=D.sec
 um:∀ y ∈ x.Y,rC T S y.1 y.2
 wait:x.Z.map (fun z=>(z.1,z.2.2))=D.wait
 ng:∀ z ∈ x.Z,rC T S z.2.1 z.2.2
def Dx.Fit.mono {x:Dx} {T:TypeId} {S S':Hp} {D:aB} (h:x.Fit T S D) (e:Ext S S'):x.Fit T S' D:=
 ⟨h.sec,fun y hy=>(h.um y hy).mono e,h.wait,fun z b=>(h.ng z b).mono e⟩
def ES (t:List (Int × Unit)) (a:Int):SL.fC (gU t) a (.agg #[])=gU (SL.fC t a ()):=by
 have:=zQ (fun _:Unit=>Value.agg #[]) t a ();simpa [gU] using this
def DO (t:List (Int × Unit)) (a:Int):del (gU t) a=gU (del t a):=by
 simp only [gU,del,List.filter_map];rfl
def EZ (t:List (Int × Unit)) (a:Int):(aM (gU t) a).isSome=(aM t a).isSome:=by
 have:=ku (fun _:Unit=>Value.agg #[]) t a;rw [gU,this,Option.isSome_map]
def Pa (x:Dx) (D:aB) (d:Nat):ai:=
 pt d (M (x.cells D) 90 (0,0))*(pt x.sg (M (x.Y.map A3).toArray 23 (0,0))*(sl 230 2 x.wv x.Z.length (bT x.Z)*(mp x.tm (gU D.nz)*sl 3 1 x.kv D.bF.length (iL D.bF))))
def gB (x:Dx) (S:Hp) (d:Nat) (D:aB):ai:=fact (x.Fit 5 S D)*Pa x D d
def aR (S:Hp) (d:Nat) (D:aB):ai:=ex fun x:Dx=>gB x S d D
section
variable {w:Q} {S S':Hp} {d:Nat} {D:aB} {F:ai} {x:Dx}
def ag.bJ (h:ag w (gB x S d D*F)):x.Fit 5 S D/\ag w (pt d (M (x.cells D) 90 (0,0))*(pt x.sg (M (x.Y.map A3).toArray 23 (0,0))*(sl 230 2 x.wv x.Z.length (bT x.Z)*(mp x.tm (gU D.nz)*(sl 3 1 x.kv D.bF.length (iL D.bF)*F))))):=by
 obtain ⟨b,c⟩:=ag.aq.1 (h.to (ay _ _ _));exact ⟨b,c.to (by unfold Pa;ac_rfl)⟩
def ag.jg (b:x.Fit 5 S D) (h:ag w (pt d (M (x.cells D) 90 (0,0))*(pt x.sg (M (x.Y.map A3).toArray 23 (0,0))*(sl 230 2 x.wv x.Z.length (bT x.Z)*(mp x.tm (gU D.nz)*(sl 3 1 x.kv D.bF.length (iL D.bF)*F)))))):ag w (gB x S d D*F):=
 (ag.aq.2 ⟨b,h.to (by unfold Pa;ac_rfl:_=Pa x D d*F)⟩:ag w (fact _*_)).to (ay _ _ _).symm
def ag.xf (h:ag w (aR S d D*F)):∃ x,ag w (gB x S d D*F):=ag.aw.1 h
def ag.devOf (h:ag w (gB x S d D*F)):ag w (aR S d D*F):=ag.aw.2 ⟨x,h⟩
def JZ (e:Ext S S') (h:Hp) (p:gB x S d D h):gB x S' d D h:=by
 obtain ⟨b,c,⟨f,g⟩,i,j,k⟩:=p;exact ⟨b,c,⟨f.mono e,g⟩,i,j,k⟩
def yd (e:Ext S S') (h:Hp) (p:aR S d D h):aR S' d D h:=by
 obtain ⟨x,p⟩:=p;exact ⟨x,JZ e h p⟩
def ag.cQ (h:ag w (gB x S d D*F)) (i:Nat):w.cell? ⟨d,i,V⟩=(x.cells D)[i]?:=h.bJ.2.cell i
def ag.oL (h:ag w (gB x S d D*F)) (i:Nat):w.frozen? ⟨d,i,V⟩=K:=h.bJ.2.frozen i
def ag.Gb (h:ag w (gB x S d D*F)):x.Y.length=D.sec.length:=by rw [<- h.bJ.1.sec,D9]
def ag.rE (h:ag w (gB x S d D*F)):x.Z.length=D.wait.length:=by rw [<- h.bJ.1.wait,D9]
def ag.RT (h:ag w (gB x S d D*F)):∃ a c,x.wv = O a D.wait.length c:=by
 have:=aC h.bJ.2.au
 rwa [h.rE] at this
end
end Go.SL
namespace Go.Proofs.Nn
open RowKit SL
def nZ (w:Q) (S:Hp) (d:Nat) (D:aB) (F:ai) (h:ag w (aR S d D*F)) :
  Calls U 110 #[G (X ⟨d,0,V⟩)] w fun e b=>e = H (N L D.sec.length)/\w=b:=by
 obtain ⟨x,h⟩:=h.xf;have c:w.cell? ⟨d,0,V⟩=X (O (X ⟨x.sg,0,V⟩) D.sec.length D.sec.length):=by rw [h.cQ,<- h.Gb];rfl
 clear h
 go_in
 go_wp2
 go_ret
 exact ⟨rfl,rfl⟩
def vM (b:Bool) (w:Q) (e:Ending) (c:Q):Prop:=e = H (I b)/\w=c
def mP (w:Q) (S:Hp) (d:Nat) (D:aB) (a:Int) (F:ai) (h:ag w (aR S d D*F)) :
  Calls U 216 #[G (X ⟨d,0,V⟩),N L a] w (vM (decide (D.has a)) w):=by
 have f:=nZ w S d D F h;clear h
 by_cases g:0<=a
 .by_cases c:a<D.sec.length
  .have b:decide (D.has a)=J:=by simp [aB.has,g,c]
   rw [b];clear b
   go_in
   go_wp2_with (go_at_call 110;apply f.mono;rintro e i ⟨rfl,rfl⟩)
   go_ret
   exact ⟨rfl,rfl⟩
  .have b:decide (D.has a)=K:=by simp [aB.has,c]
   rw [b];clear b;have j:decide (a<D.sec.length)=K:=by simpa using c
   go_in
   go_wp2_with (go_at_call 110;apply f.mono;rintro e i ⟨rfl,rfl⟩)
   go_ret
   exact ⟨rfl,rfl⟩
 .have b:decide (D.has a)=K:=by simp [aB.has,g]
  rw [b];clear b f
  go_in
  go_wp2
  go_ret
  exact ⟨rfl,rfl⟩
def Eg (w:Q) (S:Hp) (d:Nat) (D:aB) (F:ai) (h:ag w (aR S d D*F)) :
  Calls U 11 #[G (X ⟨d,0,V⟩)] w (kX (.agg #[N L D.cr,N L D.cw,N L D.cf]) w):=by
 obtain ⟨x,h⟩:=h.xf;have b:w.cell? ⟨d,3,V⟩=X (N L D.cr):=h.cQ 3;have h4:w.cell? ⟨d,4,V⟩=X (N L D.cw):=h.cQ 4;have h5:w.cell? ⟨d,5,V⟩=X (N L D.cf):=h.cQ 5;have c:d<w.heap.size:=h.bJ.2.lt;clear h
 go_in
 go_wp2
 exact bodyPost_ret (v:=.agg #[N L D.cr,N L D.cw,N L D.cf]) (by simp [results,Tryz.results11,go_sem]) rfl ⟨rfl,SL.ag.right (SL.ag.alloc (ag.whole w) _),(aj.refl w).alloc _⟩
def Oa (w:Q) (l:List UInt8) (e:Ending) (b:Q):Prop:=∃ g,e = H (O (X ⟨g,0,V⟩) 512 512)/\ag b (pt g (M (ed (bY 512 l)) 5 (0,0))*whole w)/\aj w b
def gO:(prog.info? 5).map (fun i=>(i.zero,i.size,i.bytes))=X (X (N .u8 0),1,1):=Kr0
def JK:(prog.info? 5).map (·.size)=X 1:=Kr0
def Fm:(prog.info? 23).map (fun i=>(i.zero,i.size,i.bytes))=X (X (O V 0 0),1,24):=Kr0
def fq (n:Nat) (g:n<=281474976710656) (w:Q):(Instr.makeSlice 23 (N L n) (N L n)).run U w =
  .ok (O (X ⟨w.heap.size,0,V⟩) n n) (w.alloc (M (ed (zs n)) 5 (0,0))):=by
 obtain ⟨i,c,f,e,b⟩:=info_parts gO;have:=run_make (P:=U) w 23 5 i _ underlying23 c f L L n n Z' Z' (by rw [b];omega) Z';rw [this,e];simp only [D2];rw [jH]
def la (w:Q) (v:R) (l:List UInt8) (j:Rd w v l) (k:l.length<=9223372036854775807) :
  Calls U 217 #[v] w (Oa w l):=by
 have m:∀ w,(Instr.makeSlice 23 (N L 512) (N L 512)).run U w =
  .ok (O (X ⟨w.heap.size,0,V⟩) 512 512) (w.alloc (M (ed (zs 512)) 5 (0,0))):=fq 512 Z'
 have c:Rd (w.alloc (M (ed (zs 512)) 5 (0,0))) v l:=pC.alloc j _;have b:=(ag.whole w).alloc (M (ed (zs 512)) 5 (0,0));obtain ⟨p,o,e,i,h⟩:=Nr (P:=U) (dT:=23) (T:=5) underlying23 JK b c 3;have g:=(aj.refl w).alloc (M (ed (zs 512)) 5 (0,0));have f:=ae e;clear e c b
 go_in
 go_wp2_with (refine fD f.o _ _ rfl rfl rfl rfl rfl ?_)
 go_ret
 exact ⟨_,rfl,i,g.trans h⟩
def iY {T:TypeId} {S:Hp} {v:R} {l:List UInt8} (h:rC T S v l):∃ a c,v = O a l.length c:=by
 rcases h.2 with ⟨rfl,rfl⟩|⟨g,b,e,rfl,_⟩
 .exact ⟨_,_,rfl⟩
 .exact ⟨_,_,rfl⟩
def Vm (x:Dx) (S:Hp) (d:Nat) (D:aB) (p:Int × List UInt8) (c:R) (F:ai) (w:Q) (e:Ending) (b:Q):Prop:=
 e = H (.tuple #[])/\ag b (gB { x with Y:=x.Y.set p.1.toNat (c,p.2) } S d (D.done p)*F)/\aj w b
def AW (w:Q) (S:Hp) (d:Nat) (D:aB) (x:Dx) (p:Int × List UInt8) (o:R) (F:ai) (h:ag w (gB x S d D*F)) (hv:rC 5 S o p.2) (t:D.has p.1) :
  Calls U 166 #[G (X ⟨d,0,V⟩),.agg #[N L p.1,o]] w (Vm x S d D p o F w):=by
 obtain ⟨i0,l⟩:=p;obtain ⟨a,rfl⟩:=D5 t.1;have e0:(a:Int)<(x.Y.length:Int):=by rw [h.Gb];exact t.2
 have u:a<x.Y.length:=Z'
 obtain ⟨k,hs⟩:=h.bJ;obtain ⟨b,c,rfl⟩:=iY hv;obtain ⟨r,s⟩:∃ r,(x.Y.map A3)[a]?=X r:=⟨_,H9 (by simpa using u)⟩
 have g:=hs.alloc (M #[N L a,O b l.length c] 230 (0,0));have v:=(aj.refl w).alloc (M #[N L a,O b l.length c] 230 (0,0))
 go_in
 go_wp2
 generalize g0:w.alloc (M #[N L a,O b l.length c] 230 (0,0))=e at g v ⊢;generalize w.heap.size=f at g ⊢;have k0:e.cell? ⟨d,0,V⟩=X (O (X ⟨x.sg,0,V⟩) x.Y.length x.Y.length):=g.ah.cell 0;have c0:e.cell? ⟨f,0,V⟩=X (N L a):=g.cell 0;have d0:e.cell? ⟨f,1,V⟩=X (O b l.length c):=g.cell 1;have ks:e.cell? ⟨x.sg,a,V⟩=X r:=(g.au.cell a).trans (by simpa using s);have kf:e.frozen? ⟨x.sg,a,V⟩=K:=g.au.frozen a;have i:=(g.au.setCell a (O b l.length c)).yW;have B:(e.setCell ⟨x.sg,a,V⟩ (O b l.length c)).cell? ⟨d,0,V⟩=X (O (X ⟨x.sg,0,V⟩) x.Y.length x.Y.length):=i.ah.cell 0;have q:(e.setCell ⟨x.sg,a,V⟩ (O b l.length c)).cell? ⟨f,0,V⟩=X (N L a):=i.cell 0;have E:(e.setCell ⟨x.sg,a,V⟩ (O b l.length c)).cell? ⟨f,1,V⟩=X (O b l.length c):=i.cell 1;have C:(e.setCell ⟨x.sg,a,V⟩ (O b l.length c)).cell? ⟨d,2,V⟩=X (.map (X x.tm)):=i.ah.cell 2;clear s u
 go_region_held3 (fun j=>j.cell? ⟨d,0,V⟩=X (O (X ⟨x.sg,0,V⟩) x.Y.length x.Y.length)/\j.cell? ⟨f,0,V⟩=X (N L a)/\j.cell? ⟨f,1,V⟩=X (O b l.length c)) (first|go_keep|exact ⟨k0,c0,d0⟩|exact ⟨B,q,E⟩) (fail)
 have A:=(v.setCell ⟨x.sg,a,V⟩ (O b l.length c)).drew;generalize h0:(e.setCell ⟨x.sg,a,V⟩ (O b l.length c))=w2 at i A B q E C ⊢;obtain ⟨P,f0,W,b0,_⟩:=ag.delete (P:=U) underlying87 underlying3 0 3 (w:=w2.drew.drew) (ag.aJ i) (a:Int);have m:=W.yY;have t0:P.cell? ⟨f,0,V⟩=X (N L a):=m.cell 0;have t2:P.cell? ⟨d,2,V⟩=X (.map (X x.tm)):=m.ah.cell 2
 go_wp2
 go_region_held3 (fun j=>j.cell? ⟨f,0,V⟩=X (N L a)/\j.cell? ⟨d,2,V⟩=X (.map (X x.tm))) (first|go_keep|exact ⟨q,C⟩|exact ⟨t0,t2⟩) (fail)
 go_wp2
 go_end0
 refine ⟨rfl,ag.jg ⟨?_,?_,k.wait,k.ng⟩ (m.right.to ?_),A.drew.trans b0⟩
 .show (x.Y.set (a:Int).toNat (O b l.length c,l)).map Prod.snd=D.sec.set (a:Int).toNat l
  rw [D4,k.sec]
 .intro y hy
  rcases List.mem_or_eq_of_mem_set hy with hy|rfl
  .exact k.um y hy
  .exact hv
 .simp only [DO,Dx.cells,aB.done,List.length_set,D2,D4,List.setIfInBounds_toArray]
def QU (x:Dx) (S:Hp) (d:Nat) (D:aB) (F:ai) (kv:R) (bF:List Int):Prop:=
 ∃ a c,kv = O a bF.length c/\bF.length<=9223372036854775807/\∀ i,i<bF.length->∃ b f,a=X ⟨b,f,V⟩ /\
  ∀ g Y e,e.bF=D.bF->ag g (gB { x with Y:=Y } S d e*F)->g.cell? ⟨b,f+i,V⟩=X (N L (bF.getD i 0))
def To (x:Dx) (S:Hp) (d:Nat) (D:aB) (bF:List Int) (F:ai) (w:Q) (e:Ending) (b:Q):Prop:=
 e = H (.tuple #[])/\ag b (aR S d (D.fU bF)*F)/\aj w b
def My (x:Dx) (S:Hp) (d:Nat) (D:aB) (bF:List Int) (F:ai) (w:Q) (n:Nat) (u:R) (wr:Q):Prop:=
 ∃ (k:Nat) (Y:List (R × List UInt8)),k<=n/\u = N L k/\ag wr (gB { x with Y:=Y } S d (D.eD bF k)*F)/\aj w wr
def pX (D:aB) (bF:List Int):∀ k,(D.eD bF k).bF=D.bF/\(D.eD bF k).wait=D.wait/\(D.eD bF k).sec.length=D.sec.length
 | 0=>⟨rfl,rfl,rfl⟩
 | k+1=>by
  obtain ⟨b,c,e⟩:=pX D bF k;unfold aB.eD
  split
  .unfold aB.si
   split
   .exact ⟨b,c,by simp [aB.done,e]⟩
   .split
    .exact ⟨b,c,e⟩
    .exact ⟨b,c,e⟩
  .exact ⟨b,c,e⟩
def JU (w:Q) (S:Hp) (d:Nat) (D:aB) (x:Dx) (bF:List Int) (kv:R) (F:ai) (h:ag w (gB x S d D*F)) (hD:D.Ok) (hk:QU x S d D F kv bF) :
  Calls U 218 #[G (X ⟨d,0,V⟩),kv] w (To x S d D bF F w):=by
 obtain ⟨ka,kc,rfl,N0,g0⟩:=hk;obtain ⟨wa,wc,P⟩:=h.RT;have hn:(D.wait.length:Int)<=1000000:=by have:=hD.many;omega
 have k1:w.cell? ⟨d,1,V⟩=X (O wa D.wait.length wc):=(h.cQ 1).trans (by simp only [Dx.cells,P];rfl);have c0:=ae P;have p0:=ae g0;clear P g0
 go_in
 go_wp2
 go_loopw [14] (fun b0 wr=>My x S d D bF F w D.wait.length b0 wr) (fun b0 _=>D.wait.length-(intOf b0).toNat)
 case atStart=>exact ⟨0,x.Y,Nat.zero_le _,rfl,h,aj.refl w⟩
 case round=>
  obtain ⟨k,Y,R0,rfl,b,o0⟩:=hrel;clear k1;obtain ⟨e1,u,C⟩:=pX D bF k
  by_cases S0:k<D.wait.length
  .have T0:(k:Int)<(D.wait.length:Int):=Z'
   have V0:x.Z.length=D.wait.length:=b.rE.trans (by rw [u]);have W:k<x.Z.length:=Z'
   obtain ⟨g,G0⟩:∃ g,wa=X ⟨g,0,V⟩:=by
    have D0:0<x.Z.length:=Z'
    have:=qU b.bJ.2.au D0;obtain ⟨g,c,hh⟩:=this;rw [c0.o] at hh;exact ⟨_,(Value.slice.inj hh).1⟩
   subst G0
   have u0:wr.cell? ⟨g,k*2,V⟩=X (N L x.Z[k].1)/\wr.cell? ⟨g,k*2+1,V⟩=X x.Z[k].2.1:=by
    have:=b.bJ.2.au;simp only [c0.o] at this;exact this.kH W
   obtain ⟨e0,f0⟩:=u0
   have q:D.wait[k]?=X (x.Z[k].1,x.Z[k].2.2):=by
    rw [<- u,<- b.bJ.1.wait];simp [W]
   have A:rC 5 S x.Z[k].2.1 x.Z[k].2.2:=b.bJ.1.ng _ (List.getElem_mem W);obtain ⟨j,l,h0⟩:=iY A;rw [h0] at f0 A
   have k0:(D.eD bF k).has x.Z[k].1:=by
    have:=hD.wait _ (List.mem_of_getElem? q);unfold aB.has at this ⊢;rw [C];exact this
   generalize x.Z[k].1=f at e0 q k0;generalize x.Z[k].2.2=i at f0 q A;have r:=ae q;have H0:∀ (s:Array R),(wr.alloc (M s 230 (0,0))).cell? ⟨wr.heap.size,0,V⟩=s[0]?:=fun s=>(b.alloc (M s 230 (0,0))).cell 0;clear q h0 e1 u C H0;have K0:g<wr.heap.size:=H8 wr _ e0;have m:=b.alloc (M #[N L f,O j i.length l] 230 (0,0));have p:=o0.alloc (M #[N L f,O j i.length l] 230 (0,0))
   by_cases n0:k<bF.length
   .have x0:(k:Int)<(bF.length:Int):=Z'
    obtain ⟨kb,ko,rfl,m0⟩:=p0.o k n0;have l0:=m0 wr Y _ (pX D bF k).1 b;have L0:kb<wr.heap.size:=H8 wr _ l0;clear m0;generalize hf:bF.getD k 0=d0 at l0;have B:=ae hf;clear hf
    by_cases i0:d0=1
    .subst i0
     go_wp2_with (go_at_call 166;apply (AW _ S d _ _ (f,i) _ _ m.right A k0).mono;rintro e w2 ⟨rfl,v,t⟩)
     go_roundw
     case rel=>
      refine ⟨k+1,Y.set f.toNat (O j i.length l,i),Z',by go_num,?_,p.trans t⟩
      have e:D.eD bF (k+1)=(D.eD bF k).done (f,i):=by
       rw [aB.eD,r.o];simp only [aB.si,B.o,if_true]
      rw [e];exact v
     case measure=>simp [intOf];omega
    .by_cases j0:d0=2
     .subst j0
      have o:=m.ah.bJ.1;obtain ⟨w2,F0,v,t,E⟩:=ag.mapUpdate (P:=U) underlying87 underlying3 (w:=(wr.alloc (M #[N L f,O j i.length l] 230 (0,0))).drew) m.ah.bJ.2.aA f (.agg #[]);have c2:(wr.alloc (M #[N L f,O j i.length l] 230 (0,0))).cell? ⟨d,2,V⟩=X (.map (X x.tm)):=m.ah.cQ 2;have cb:(wr.alloc (M #[N L f,O j i.length l] 230 (0,0))).cell? ⟨wr.heap.size,0,V⟩=X (N L f):=m.cell 0;have q0:w2.cell? ⟨d,2,V⟩=X (.map (X x.tm)):=(E.1 _).trans c2;have r0:w2.cell? ⟨wr.heap.size,0,V⟩=X (N L f):=(E.1 _).trans cb;clear E
      go_wp2_with fail
      generalize s0:wr.alloc (M #[N L f,O j i.length l] 230 (0,0))=W1 at F0 c2 cb t p ⊢;clear s0
      go_region_held3 (fun w'=>w'.cell? ⟨d,2,V⟩=X (.map (X x.tm))/\w'.cell? ⟨wr.heap.size,0,V⟩=X (N L f)) (first|go_keep|exact ⟨q0,r0⟩) (fail)
      go_wp2
      go_roundw
      case rel=>
       refine ⟨k+1,Y,Z',by go_num,?_,p.drew.trans t⟩
       have e:D.eD bF (k+1)=(D.eD bF k).SF (f,i):=by
        rw [aB.eD,r.o];simp only [aB.si,B.o];rfl
       rw [e];rw [ES] at v;exact (ag.jg (D:=(D.eD bF k).SF (f,i)) ⟨o.sec,o.um,o.wait,o.ng⟩ v.tG).iD
      case measure=>simp [intOf];omega
     .go_wp2
      go_roundw
      case rel=>
       refine ⟨k+1,Y,Z',by go_num,?_,p⟩
       have e:D.eD bF (k+1)=D.eD bF k:=by
        rw [aB.eD,r.o];simp only [aB.si,B.o,if_neg i0,if_neg j0]
       rw [e];exact m.right
      case measure=>simp [intOf];omega
   .have x0:¬ (k:Int)<(bF.length:Int):=Z'
    go_wp2
    go_roundw
    case rel=>
     refine ⟨k+1,Y,Z',by go_num,?_,p⟩
     have e:D.eD bF (k+1)=D.eD bF k:=by
      rw [aB.eD,r.o];simp [aB.si,B3,List.getElem?_eq_none (Nat.le_of_not_lt n0)]
     rw [e];exact m.right
    case measure=>simp [intOf];omega
  .obtain rfl:k=D.wait.length:=Z'
   have k1:=b.cQ 1;have k6:=b.cQ 6;have k7:=b.cQ 7;have k8:=b.cQ 8;have k9:=b.cQ 9;have kf:=b.oL;simp only [Dx.cells] at k1 k6 k7 k8 k9;have o:=b.bJ.1;have H2:=((((b.bJ.2.setCell 1 (O V 0 0)).setCell 6 (I J)).setCell 7 (I K)).setCell 8 (N L 0)).setCell 9 (O V 0 0);clear e1 u C
   go_wp2
   go_end0
   refine ⟨rfl,?_,((((o0.setCell _ _).setCell _ _).setCell _ _).setCell _ _).setCell _ _⟩;have H3:=((H2.lS).aA.right.eU 230 2).eU 3 1;refine ag.devOf (x:={ x with Y:=Y,wv:=O V 0 0,Z:=[],kv:=O V 0 0 }) (ag.jg ⟨o.sec,o.um,rfl,Si0⟩ ?_)
   exact H3.to (by
    simp only [Dx.cells,aB.fU,List.length_nil,bT,iL,List.flatMap_nil,List.map_nil]
    ac_rfl)
end Go.Proofs.Nn
