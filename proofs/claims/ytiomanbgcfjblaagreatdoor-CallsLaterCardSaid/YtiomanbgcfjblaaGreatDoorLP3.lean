/- Steps. -/
import Derived.Test.YtiomanbgcfjblaaGreatDoorLP2
import Derived.Test.YtiomanbgcfjblaaGreatDoorRows
import Derived.Deep.LoopGhost
import Derived.Deep.RegionHeld3
import Derived.Laws.CopyRow
import Derived.Deep.MidRow
set_option linter.all false
set_option maxRecDepth 99999
set_option maxHeartbeats 0
open Go.SL
open Go.Value renaming int->N,slice->O,pointer->G,bool->I
open Go.IntKind renaming i64->L
open Go.Obj renaming cells->M
open Go.Ending renaming returned->H
open Go renaming World->Q,Value->U
open Go.Proofs.Tryz renaming prog->R
open Option renaming some->X,none->V
open Bool renaming true->J,false->K
open Go.SL renaming Om0->Z'
open Go.Proofs.Tryz
open Prod renaming fst->A1
open List renaming length_cons->B3,getD->D8,length_map->D5,map_set->E5,eq_nil_of_length_eq_zero->G3,getElem?_eq_getElem->H7
open UInt8 renaming ofInt->D9
open Go.Value renaming int->D7
open Nat renaming zero_add->D6
open Int renaming pow_pos->D4,mul_nonneg->D3,mul_le_mul_of_nonneg_right->D2,eq_ofNat_of_zero_le->D1,toNat_natCast->E3,emod_add_mul_ediv->H8
open Array renaming getElem?_setIfInBounds->E4
open Go.World renaming size_alloc->E2,block_lt_of_cell?->H6
open List.Perm renaming refl->E1
open BitVec renaming toNat_ofInt->H9
namespace Go.SL
open RowKit
variable {v v' xv:U} {P:Program} {ops:Array Oper} {o:Oper}
def bB (n:Nat) (l:List UInt8):List UInt8:=(l++zs n).take n
def bT (n:Nat) (l:List UInt8):(bB n l).length=n:=by simp [bB,aX]
def ia {n:Nat} {l:List UInt8} (h:l.length=n):bB n l=l:=by rw [bB,List.take_left' h]
def az {w:Q} {F:ai} {T:TypeId} {sz n:Nat} {xs:List U} (h:ah w (sl T sz v n xs*F)):∃ a c,v = O a n c:=by
 rcases h.cH with ⟨rfl,rfl,_,_⟩|⟨g,b,e,rfl,_⟩
 .exact ⟨_,_,rfl⟩
 .exact ⟨_,_,rfl⟩
def re {w:Q} {F:ai} {T:TypeId} {b n:Nat} {e:List U} (h:ah w (sl T b v n e*F)) (j:0<n):∃ g c,v = O (X ⟨g,0,V⟩) n c:=by
 rcases h.cH with ⟨rfl,rfl,_,_⟩|⟨g,f,i,rfl,_⟩
 .omega
 .exact ⟨_,_,rfl⟩
def fI {w g:Q} {rest:List Oper} {a:Act} {b:Exit->Act->Q->Prop} {c e f:TypeId}
  (l:(Builtin.copy_ #[c,e] f #[v,v']).run P w = .ok xv g) (s x:Operand)
  (j:o.guard=V) (p:o.type=f) (k:o.op=Op.call { callee:=Callee.builtin Builtin.copy,args:=#[s,x],argTypes:=#[c,e] })
  (m:a.eval s=v) (q:a.eval x=v')
  (h:wpList P ops b rest (a.put o.dst xv) g):wpList P ops b (o :: rest) a w:=by
 refine wpList_plain j fun r i=>?_;subst p m q;unfold Oper.wp;simp [execOp,k,resolve,invoke,builtin,l,Result.andThen];exact i _ _ h
def nf {a:Act} {w f:Q} {b:Act->Q->Prop} {g:Exit->Act->Q->Prop} {E:Prop} {c e ty:TypeId}
  (l:(Builtin.append_ #[c,e] ty #[v,v']).run P w = .ok xv f) (j:o.guard=V) (d s:Operand) (p:o.type=ty)
  (k:o.op = .call { callee:=.builtin .append,args:=#[d,s],argTypes:=#[c,e] }) (i:a.eval d=v) (m:a.eval s=v')
  (h:b (a.put o.dst xv) f):if Region.wanted o (yielded ops a.tmps)=J then Oper.wp P o a w b g else E:=by
 have q:Region.wanted o (yielded ops a.tmps)=J:=by simp [Region.wanted,j]
 rw [if_pos q];subst p i m;unfold Oper.wp;simp [execOp,k,resolve,invoke,builtin,l,Result.andThen];exact h
def enters {f:FuncId} {b:Func} {c:Code} (i:P.funcs[f]?=X b) (j:(b.name == "runtime.NumGoroutine")=K) (h:b.body=X c):∀ e w,(callFunc f e).run P w = .ok (.enter f e) w:=by
 intro e w;have g:b.name ≠ "runtime.NumGoroutine" := by simpa using j
 simp [callFunc,i,g,h,mark]
def pP {a:Act} {w:Q} {g:Act->Q->Prop} {j:Exit->Act->Q->Prop} {E:Prop} {n:FuncId} {f:Array U} {i:Ending->Q->Prop}
  (q:Calls P n f w i) (s:∀ b w,(callFunc n b).run P w = .ok (.enter n b) w) (t:o.guard=V) (b:Array Operand) (ts:Array TypeId)
  (u:o.op = .call { callee:=.value (.func n),args:=b,argTypes:=ts }) (m:b.toList.map a.eval=f.toList)
  (h:∀ e c,i e c->∃ v,e = H v/\g (a.put o.dst v) c) :
  if Region.wanted o (yielded ops a.tmps)=J then Oper.wp P o a w g j else E:=by
 have A:Region.wanted o (yielded ops a.tmps)=J:=by simp [Region.wanted,t]
 rw [if_pos A]
 have p:b.map a.eval=f:=by
  apply Array.toList_inj.1;rw [Array.toList_map];exact m
 subst p;unfold Oper.wp
 have r:(execOp a.eval o).run P w = .ok (.enter n (b.map a.eval)) w:=by
  simp [execOp,u,resolve,invoke,Act.eval,Deferred.ofValue,go_sem,s]
 rw [r,Oper.upon_enter];apply q.mono;intro e c l;obtain ⟨v,rfl,k⟩:=h e c l;exact k
def Rd.shape {w:Q} {l:List UInt8} (h:Rd w v l):∃ a c,v = O a l.length c:=by
 rcases h.2 with ⟨rfl,b⟩|⟨a,c,rfl,_⟩
 .exact ⟨_,_,by rw [b]⟩
 .exact ⟨_,_,rfl⟩
def Rd.aH {w b:Q} {l:List UInt8} {P:ai} (h:Rd w v l) (s:ah b (P*whole w)):Rd b v l:=nt.carry h fun a u c=>s.bX c
def s5 (l:List UInt8):∀ v ∈ l.map u8,v.oneCell'=J:=by
 intro v hv;obtain ⟨x,_,rfl⟩:=List.mem_map.1 hv
 rfl
def At.take {w:Q} {a:Addr} {xs:List U} (h:At w a xs) (n:Nat):At w a (xs.take n):=fun j u b=>h j u (by
 rw [List.getElem?_take] at b
 split at b
 .exact b
 .cases b)
def OL {w:Q} {g:Nat} {l:List UInt8} {T dT:TypeId} {F:ai} (j:P.underlying dT=X (.slice T)) (i:(P.info? T).map (·.size)=X 1)
  (h:ah w (pt g (M (dP (zs 512)) T (0,0))*F)) (b:Rd w v l) (e:TypeId) :
  ∃ f p,(Builtin.copy_ #[dT,dT] e #[O (X ⟨g,0,V⟩) 512 512,v]).run P w = .ok p f/\ah f (pt g (M (dP (bB 512 l)) T (0,0))*F)/\ak w f:=by
 obtain ⟨q,b⟩:=b;rcases b with ⟨rfl,k⟩|⟨a,c,rfl,o⟩
 .have:l=[]:=G3 k
  subst this;refine ⟨w,_,run_copy_nil (P:=P) w dT dT e T ⟨g,0,V⟩ 512 512 j (by rw [i];rfl),?_,ak.refl w⟩;rw [bB,List.nil_append,List.take_of_length_le (by rw [aX];exact Nat.le_refl _)];exact h
 .have:=run_copy_row (P:=P) w dT dT e T g 0 512 512 a l.length c (dP (zs 512)) T ((l.take 512).map u8) j i h.heap (by simp [Nat.min_comm]) (by rw [List.map_take];exact o.take 512)
   (by simp [eX,aX];omega) (s5 _)
  refine ⟨_,_,this,?_,(ak.refl w).setRow _ _⟩;have m:=h.setRow (cs':=((dP (zs 512)).toList.take 0++(l.take 512).map u8++(dP (zs 512)).toList.drop (0+((l.take 512).map u8).length)).toArray);refine m.to ?_;congr 3;simp only [dP,bB,zs,List.take_zero,List.nil_append,D6,D5,List.length_take,List.map_append,List.map_take,List.take_append,List.map_replicate,List.drop_replicate,List.take_replicate,List.toList_toArray];congr 3;omega
def kL (v:U) (w:Q) (e:Ending) (b:Q):Prop:=e = H v/\ah b (whole w)/\ak w b
def cO (n:Int) (j:Nat):List UInt8:=(List.range j).map fun i=>D9 (n/(256:Int) ^ i)
def aT (n:Int) (j:Nat):(cO n j).length=j:=by simp [cO]
def C6 (n:Int) (j:Nat):cO n (j+1)=cO n j++[D9 (n/(256:Int) ^ j)]:=by simp [cO,List.range_succ]
def ah.cU {w w':Q} {b:ai} (h:ah w' (SL.whole w)) (g:ah w b):ah w' b:=(ah.under (h.to (cy _).symm) g).to (cy _)
def gE (l:List UInt8):Nat->Int
 | 0=>0
 | j+1=>gE l j+((l.getD j 0).toNat:Int)*(256:Int) ^ j
def gw (l:List UInt8) (j:Nat):0<=gE l j/\gE l j<(256:Int) ^ j:=by
 induction j with
 | zero=>simp [gE]
 | succ j h=>
  have c:((l.getD j 0).toNat:Int)<256:=by have:=UInt8.toNat_lt (l.getD j 0);omega
  have b:0<=((l.getD j 0).toNat:Int):=Z'
  have g:0<(256:Int) ^ j:=D4 De0;rw [gE,Int.pow_succ];generalize ((l.getD j 0).toNat:Int)=x at *;generalize (256:Int) ^ j=p at *;have e:0<=x*p:=D3 b Z';have f:x*p<=255*p:=D2 Z' Z';omega
def yr {j:Nat} (h:j<=6):(256:Int) ^ j<=281474976710656:=by
 obtain rfl|rfl|rfl|rfl|rfl|rfl|rfl:j=0\/j=1\/j=2\/j=3\/j=4\/j=5\/j=6:=Z'
 all_goals decide
def N7 {a x:Int} {i:Nat} (h:0<=a) (m:a<2 ^ i) (l:0<=x) (k:x*2 ^ i+a<18446744073709551616):bits .or .u64 a (x*2 ^ i)=a+x*2 ^ i:=by
 obtain ⟨A,rfl⟩:=D1 h;obtain ⟨b,rfl⟩:=D1 l;have c:(b:Int)*2 ^ i=((2 ^ i*b:Nat):Int):=by rw [Nat.mul_comm];simp
 rw [c] at k ⊢
 have g:A<2 ^ i:=by
  have:((2 ^ i:Nat):Int)=(2:Int) ^ i:=Si0
  omega
 have j:=Nat.two_pow_add_eq_or_of_lt g b;show IntKind.u64.wrap ((BitVec.ofInt 64 (A:Int) ||| BitVec.ofInt 64 ((2 ^ i*b:Nat):Int)).toNat:Nat)=_
 rw [BitVec.toNat_or,H9,H9];have e:((A:Int)%((2 ^ 64:Nat):Int)).toNat=A:=Z'
 have f:(((2 ^ i*b:Nat):Int)%((2 ^ 64:Nat):Int)).toNat=2 ^ i*b:=Z'
 rw [e,f,Nat.or_comm,<- j,IntKind.wrap_u64];omega
def Qv (l:List UInt8) (b j:Nat) (r:j<6) :
  bits .or .u64 (gE (l.drop b) j) (IntKind.u64.wrap (IntKind.u64.wrap ((l[b+j]?.getD 0).toNat:Int)*2 ^ (8*j)))=gE (l.drop b) (j+1):=by
 have s:((l[b+j]?.getD 0).toNat:Int)<256:=by have:=UInt8.toNat_lt (l[b+j]?.getD 0);omega
 have c:0<=((l[b+j]?.getD 0).toNat:Int):=Z'
 obtain ⟨o,e⟩:=gw (l.drop b) j;have h:(l.drop b).getD j 0=l[b+j]?.getD 0:=by simp [D8]
 rw [gE,h];have m:(256:Int) ^ j=2 ^ (8*j):=by rw [Int.pow_mul];rfl
 have i:=yr (j:=j) Z';have k:0<(256:Int) ^ j:=D4 De0;generalize ((l[b+j]?.getD 0).toNat:Int)=x at *;rw [m] at e i k ⊢;have p:0<=x*2 ^ (8*j):=D3 c Z';have q:x*2 ^ (8*j)<=255*2 ^ (8*j):=D2 Z' Z';have f:IntKind.u64.wrap x=x:=by rw [IntKind.wrap_u64];omega
 have g:IntKind.u64.wrap (x*2 ^ (8*j))=x*2 ^ (8*j):=by rw [IntKind.wrap_u64];omega
 rw [f,g];exact N7 o e c Z'
def xN (n:Int) (j:Nat):n%(256:Int) ^ (j+1)=n%(256:Int) ^ j+(n/(256:Int) ^ j%256)*(256:Int) ^ j:=by
 have b:0<(256:Int) ^ j:=D4 De0;rw [Int.pow_succ];generalize (256:Int) ^ j=p at b;have h:=H8 n p;have g:=H8 (n/p) 256;have i:=Int.emod_nonneg n (by omega:p≠0);have h4:=Int.emod_lt_of_pos n b;have h5:=Int.emod_nonneg (n/p) (by decide:(256:Int)≠0);have k:=Int.emod_lt_of_pos (n/p) (by decide:(0:Int)<256);have l:0<=(n/p%256)*p:=D3 h5 Z';have m:(n/p%256)*p<=255*p:=D2 Z' Z'
 have e:n=(n%p+(n/p%256)*p)+(p*256)*(n/p/256):=by
  have o:p*(n/p)=(n/p%256)*p+(p*256)*(n/p/256):=by
   conv=>lhs;rw [<- g]
   rw [Int.mul_add,<- Int.mul_assoc,Int.mul_comm p]
  omega
 generalize r:n/p/256=q at e;generalize s:n%p+n/p%256*p=x at e;have c:0<=x:=Z'
 have f:x<p*256:=Z'
 rw [e,Int.add_mul_emod_self_left,Int.emod_eq_of_lt c f]
def NV (n:Int):((D9 n).toNat:Int)=n%256:=by
 simp [D9,UInt8.toNat_ofNat'];omega
def jR (n:Int) (s:Nat) (rest:List UInt8):∀ j,j<=s->gE (cO n s++rest) j=n%(256:Int) ^ j:=by
 intro j
 induction j with
 | zero=>intro _;simp [gE]
 | succ j b=>
  intro c;rw [gE,b Z',xN];congr 1
  have:(cO n s++rest).getD j 0=D9 (n/(256:Int) ^ j):=by
   rw [D8,List.getElem?_append_left (by rw [aT];omega)];simp [cO,List.getElem?_map,List.getElem?_range (show j<s by omega)]
  rw [this,NV]
def ints (l:List Int):Array U:=(l.map (D7 L)).toArray
def ed (l:List Int):(ints l).size=l.length:=by simp [ints]
def dH (l:List Int) (i:Nat):(ints l)[i]?=l[i]?.map (D7 L):=by simp [ints]
def eS (l:List Int) (i:Nat) (x:Int):(ints l).setIfInBounds i (N L x)=ints (l.set i x):=by simp [ints,E5]
def aY {l:List Int} {i:Nat} (h:i<l.length):(ints l)[i]?=X (N L (l.getD i 0)):=by
 rw [dH,D8,H7 h];rfl
def I9 (n:Nat):madeCells (D7 L 0).cells (n*1)=ints (List.replicate n 0):=by
 apply Array.ext
 .simp [size_madeCells,ed]
 .intro i b c
  simp [madeCells,ints,Value.cells,Nat.mod_one]
def lB (n:Int) (w:Q) (e:Ending) (b:Q):Prop:=e = H (N L n)/\w=b
abbrev ax (b:Nat):U:=G (X ⟨b,0,V⟩)
def pL (w:Q) (v:U) (l:List Int):Prop:=
 (∃ x c,v = O x 0 c/\l=[])\/∃ g o c,v = O (X ⟨g,o,V⟩) l.length c/\l.length<=c/\c<=maxLen/\∀ k,k<l.length->w.cell? ⟨g,o+k,V⟩=X (N L (l.getD k 0))
def fQ:Array U->Nat->List U->Array U
 | b,_,[]=>b
 | b,o,v :: c=>fQ (b.setIfInBounds o v) (o+1) c
def vZ:∀ (c:List U) (b:Array U) (o:Nat),(fQ b o c).size=b.size
 | [],b,o=>rfl
 | v :: c,b,o=>by rw [fQ,vZ c];simp
def jl:∀ (b:List U) (c:Array U) (o k:Nat),o+b.length<=c.size->(fQ c o b)[k]?=if o<=k/\k<o+b.length then b[k-o]? else c[k]?
 | [],c,o,k,h=>by rw [fQ,if_neg Si0]
 | v :: b,c,o,k,h=>by
  simp only [B3] at h;rw [fQ,jl b _ (o+1) k (by simp;omega)]
  by_cases f:k=o
  .subst f
   rw [if_neg Z',if_pos Si0];simp [E4,show k<c.size by omega]
  .by_cases e:o<=k/\k<o+(v :: b).length
   .simp only [B3] at e
    rw [if_pos Z',if_pos (by simp only [B3];omega)];rw [show k-o=(k-(o+1))+1 by omega,List.getElem?_cons_succ]
   .simp only [B3] at e
    rw [if_neg Z',if_neg (by simp only [B3];omega)];rw [E4,if_neg Z']
def ah.setCells:∀ (c:List U) (o:Nat) {w:Q} {g:Nat} {b:Array U} {T:TypeId} {F:ai},ah w (pt g (M b T (0,0))*F)->ah (w.setCells g o c) (pt g (M (fQ b o c) T (0,0))*F)
 | [],o,w,g,b,T,F,h=>h
 | v :: c,o,w,g,b,T,F,h=>ah.setCells c (o+1) (h.setCell o v)
def ak.setCells:∀ (c:List U) (o:Nat) {a b:Q} (g:Nat),ak a b->ak a (b.setCells g o c)
 | [],o,a,b,g,h=>h
 | v :: c,o,a,b,g,h=>ak.setCells c (o+1) g (h.setCell ⟨g,o,V⟩ v)
def ah.there {w:Q} {g:Nat} {b:Array U} {T:TypeId} {F:ai} (h:ah w (pt g (M b T (0,0))*F)) {o n:Nat} (e:o+n<=b.size):w.there g o n:=fun j c=>
 ⟨by rw [h.cell,Array.getElem?_eq_getElem Z'];rfl,h.frozen _⟩
end Go.SL
namespace Go.Proofs.Ba
open RowKit SL
def gW:(prog.info? 5).map (fun i=>(i.zero,i.size,i.bytes))=X (X (N .u8 0),1,1):=Kr0
def fm (n:Nat) (g:n<=281474976710656) (w:Q):(Instr.makeSlice 23 (N L n) (N L n)).run R w =
  .ok (O (X ⟨w.heap.size,0,V⟩) n n) (w.alloc (M (dP (zs n)) 5 (0,0))):=by
 obtain ⟨i,c,f,e,b⟩:=info_parts gW;have:=run_make (P:=R) w 23 5 i _ underlying23 c f L L n n Z' Z' (by rw [b];omega) Z';rw [this,e];simp only [E3];rw [jS]
def Ud (w:Q) (l:List UInt8) (e:Ending) (b:Q):Prop:=∃ v,e = H v/\ah b (bs 5 v l*whole w)/\ak w b
def jY (w:Q) (v:U) (l:List UInt8) (b:Rd w v l) (j:l.length<=1000000000) :
  Calls R 244 #[v] w (Ud w l):=by
 obtain ⟨C,i,o,m,h⟩:=info_parts gW;obtain ⟨s,b⟩:=b;rcases b with ⟨rfl,q⟩|⟨a,c,rfl,r⟩
 .have:l=[]:=G3 q
  subst this;have t:=fun w=>Lib.run_eql_slice_nil (P:=R) w 23 5 V 0 0 0 0 underlying23;clear j
  go_in
  go_wp2
  go_ret
  exact ⟨_,rfl,(ah.whole w).dR _ _,ak.refl w⟩
 .have g:nt (w.alloc (M #[] 5 (0,0))) 1 (O (X a) l.length c) l.length (l.map u8):=
   nt.alloc ⟨s,.inr ⟨a,c,rfl,r⟩⟩ _
  have e:=(ah.whole w).alloc (M #[] 5 (0,0));have f:=ah.nz (n:=0) (cap:=0) (sz:=1) e (Nat.le_refl _) De0 rfl;obtain ⟨B,E,k,u,A⟩:=ah.append (P:=R) (ty:=23) underlying23 i o m h rfl f g (by simp [u8,Value.oneCell']) (by unfold maxLen;omega) Z';have p:=ae k;clear k e f g i o m h j;have t:=fun w=>Lib.run_eql_slice_nil (P:=R) w 23 5 (X a) l.length c 0 0 underlying23
  go_in
  go_wp2_with (at_builtin;refine wpList_append_run p.o _ _ rfl rfl rfl rfl rfl ?_)
  go_ret
  refine ⟨B,rfl,u.to ?_,((ak.refl w).alloc _).trans A⟩;simp [bs]
def Qs (w:Q) (f:KV) (e:Ending) (b:Q):Prop:=∃ c D,e = H (.map (X c))/\D.Perm f/\ah b (mp c D*whole w)/\ak w b
def KY (w:Q) (b:Nat) (o:Obj) (c:KV) (k:Nat) (wr:Q):Prop:=
 ∃ D e,c.length<=D.length+k/\Iter b o c D e/\ah wr (pt (w.heap.size+1) e*(mp w.heap.size D*whole w))/\ak w wr
def mR (w:Q) (v:U) (c:KV) (hr:XQ w v c) :
  Calls R 241 #[v] w (Qs w c):=by
 have b0:=@jg R _ _ _ underlying207;rcases hr with ⟨rfl,rfl⟩|⟨b,o,rfl,e,q⟩
 .have g:∀ w,(Instr.range 207 (.map V)).run R w = .ok (G (X ⟨w.heap.size,0,V⟩)) (w.alloc (.mapIter V 0 #[] 0)):=by
   intro w;simp [Instr.range,run_underlying underlying207]
  have r:∀ B,(Instr.next (G (X ⟨w.heap.size+1,0,V⟩)) K B).run R ((w.alloc (.map #[] 0)).alloc (.mapIter V 0 #[] 0)) = .ok (.tuple #[I K]) ((w.alloc (.map #[] 0)).alloc (.mapIter V 0 #[] 0)):=by
   intro B;have:=(ah.whole (w.alloc (.map #[] 0))).alloc (.mapIter V 0 #[] 0);have h:=this.heap;rw [E2] at h;simp only [Instr.next,getObj,Sem.run_bind,Sem.run,h,Result.andThen]
   rfl
  go_in
  go_wp2
  refine wp_loop_rounds 1 ?_;rw [rounds_succ]
  go_wp2
  go_ret
  exact ⟨_,[],rfl,E1 _,(((ah.whole w).alloc (.map #[] 0)).xw isMap_empty |>.alloc (.mapIter V 0 #[] 0)).right,((ak.refl w).alloc _).alloc _⟩
 .have k:=((ah.whole w).alloc (.map #[] 0)).xw isMap_empty
  have f:(w.alloc (.map #[] 0)).heap[b]?=X o:=k.Iq e;obtain ⟨A,g,C⟩:=ju (P:=R) underlying207 f q;rw [E2] at g;have W:=C9 (P:=R) e q underlying207 3;have H1:=ae f;clear f
  go_in
  go_wp2
  go_loopg [] c.length (fun h0 wr=>KY w b o c h0 wr)
  case atStart=>
   have j:=k.alloc A;rw [E2] at j;exact ⟨[],A,Si0,C,j,((ak.refl w).alloc _).alloc _⟩
  case round=>
   obtain ⟨D,n0,l0,E,i,u⟩:=hrel;clear g b0 W;have l:wr.heap[b]?=X o:=(i.to (ar _ _ _).symm).Iq e;rcases i.next (P:=R) l E with ⟨s,r⟩|⟨p,g0,w2,hp,c0,r,d0,m,e0,i0,k0⟩
   .have Hp:=ae s;clear s
    go_wp2
    go_ret
    exact ⟨_,D,rfl,Hp.o,i.right,u⟩
   .obtain ⟨w3,m0,t,f0,_⟩:=ah.mapUpdate (P:=R) underlying207 underlying3 (d0.to (aE _ _ _)) p.1 p.2
    clear l
    go_wp2
    have P:=uS m;rw [List.length_append,List.length_singleton] at P
    go_roundg (gk-1)
    case measure=>omega
    case rel=>
     refine ⟨D++[p],g0,by simp;omega,m,?_,(u.trans e0).trans f0⟩;rw [QD c0] at t;exact t.to (aE _ _ _)
end Go.Proofs.Ba
namespace Go.SL
open RowKit
variable {rd v:U} {P:Program} {k:IntKind}
abbrev CB:=List (Int × List UInt8)
def aL (T:TypeId) (S:Hp) (v:U) (sh:Bool) (C:CB):ai:=fun h=>∃ Z:List (Int × U × List UInt8),
  (Z.map fun z=>(z.1,z.2.2)).Perm C/\(Z.map A1).Nodup/\(∀ z ∈ Z,qJ T S z.2.1 z.2.2) /\
  ((v = .map V/\Z=[]/\h=fun _=>V) \/
   (∃ m o,v = .map (X m)/\sh=J/\S m=X o/\IsMap o (Z.map fun z=>(z.1,z.2.1))/\h=fun _=>V) \/
   (∃ m,v = .map (X m)/\sh=K/\mp m (Z.map fun z=>(z.1,z.2.1)) h))
def im {T:TypeId} {S S':Hp} {sh:Bool} {C:CB} (e:Ext S S') (h:Hp) (b:aL T S v sh C h):aL T S' v sh C h:=by
 obtain ⟨Z,c,f,g,h4⟩:=b;refine ⟨Z,c,f,fun z l=>(g z l).mono e,?_⟩;rcases h4 with h4|⟨m,o,h5,i,j,k⟩|h4
 .exact .inl h4
 .exact .inr (.inl ⟨m,o,h5,i,e _ _ j,k⟩)
 .exact .inr (.inr h4)
def Jy (T:TypeId) (S:Hp) (b:Bool):aL T S (.map V) b [] (fun _=>V):=⟨[],E1 _,List.nodup_nil,Si0,.inl ⟨rfl,rfl,rfl⟩⟩
def ah.mi {T:TypeId} {w:Q} {S:Hp} {j:Bool} {C:CB} {F:ai} (h:ah w (aL T S v j C*(al S*F))) :
    ∃ Z:List (Int × U × List UInt8),(Z.map fun z=>(z.1,z.2.2)).Perm C/\(Z.map A1).Nodup/\(∀ z ∈ Z,qJ T S z.2.1 z.2.2) /\
      XQ w v (Z.map fun z=>(z.1,z.2.1)) /\
      ((v = .map V/\ah w (al S*F))\/(j=J/\ah w (al S*F)) \/
       (∃ m,v = .map (X m)/\j=K/\ah w (mp m (Z.map fun z=>(z.1,z.2.1))*(al S*F)))):=by
  obtain ⟨k,a,p,l,⟨Z,q,r,z3,z4⟩,f,d,rfl⟩:=h;have i:ah w (al S*F):=⟨l,fun b o s=>a b o (by rcases d b with e|e <;> simp_all [join]),f⟩
  refine ⟨Z,q,r,z3,?_,?_⟩
  · rcases z4 with ⟨rfl,rfl,_⟩|⟨m,o,rfl,_,c,g,_⟩|⟨m,rfl,_,c⟩
    · exact .inl ⟨rfl,rfl⟩
    · exact .inr ⟨m,o,rfl,i.GM c,g⟩
    · obtain ⟨o,g,rfl⟩:=c
      exact .inr ⟨m,o,rfl,a m o (by simp [join,one]),g⟩
  · rcases z4 with ⟨rfl,rfl,_⟩|⟨m,o,rfl,rfl,c,g,_⟩|⟨m,rfl,rfl,c⟩
    · exact .inl ⟨rfl,i⟩
    · exact .inr (.inl ⟨rfl,i⟩)
    · exact .inr (.inr ⟨m,rfl,rfl,_,a,p,l,c,f,d,rfl⟩)
def ah.AM {T:TypeId} {w:Q} {S:Hp} {C:CB} {F:ai} {m:Nat} {Z:List (Int × U × List UInt8)} (h:ah w (mp m (Z.map fun z=>(z.1,z.2.1))*F))
  (b:(Z.map fun z=>(z.1,z.2.2)).Perm C) (c:(Z.map A1).Nodup) (e:∀ z ∈ Z,qJ T S z.2.1 z.2.2):ah w (aL T S (.map (X m)) K C*F):=
 h.ib fun k f=>⟨Z,b,c,e,.inr (.inr ⟨m,rfl,rfl,f⟩)⟩
structure Bx where
 wv:Value
 ws:Bool
 tv:Value
 ts:Bool
 av:Value
def fD (av:U):ai:=fun h=>(av = .map V/\h=fun _=>V)\/∃ m,av = .map (X m)/\mp m [] h
def Bx.cells (x:Bx) (rd:U) (b:Int):Array U:=#[rd,N L b,x.wv,I x.ws,x.tv,I x.ts,x.av]
def aR (c T:TypeId) (S:Hp) (b:Nat) (rd:U) (e:Int) (W D:CB):ai:=
 ex fun x:Bx=>pt b (M (x.cells rd e) c (0,0))*(aL T S x.wv x.ws W*(aL T S x.tv x.ts D*fD x.av))
def ah.dZ {w:Q} {c T:TypeId} {S:Hp} {b:Nat} {e:Int} {W D:CB} {F:ai} (h:ah w (aR c T S b rd e W D*F)) :
  ∃ x:Bx,ah w (pt b (M (x.cells rd e) c (0,0))*(aL T S x.wv x.ws W*(aL T S x.tv x.ts D*(fD x.av*F)))):=by
 obtain ⟨x,h⟩:=ah.aq.1 h;exact ⟨x,h.to Ac0⟩
def ah.iD {w:Q} {c T:TypeId} {S:Hp} {b:Nat} {e:Int} {W D:CB} {F:ai} (x:Bx)
  (h:ah w (pt b (M (x.cells rd e) c (0,0))*(aL T S x.wv x.ws W*(aL T S x.tv x.ts D*(fD x.av*F))))):ah w (aR c T S b rd e W D*F):=
 ah.aq.2 ⟨x,h.to Ac0⟩
def n8 {c T:TypeId} {S S':Hp} {b:Nat} {f:Int} {W D:CB} (e:Ext S S') (h:Hp) (p:aR c T S b rd f W D h):aR c T S' b rd f W D h:=by
 obtain ⟨x,k,l,t,⟨m,h4,u,⟨h5,o,v,A,j,s⟩,i,r⟩,g,q⟩:=p;exact ⟨x,k,l,t,⟨m,h4,im e _ u,⟨h5,o,im e _ v,A,j,s⟩,i,r⟩,g,q⟩
def ah.Ps {w c:Q} {T:TypeId} {S:Hp} {b:Nat} {o:Obj} {x:Bx} {W D:CB} {F:ai} {l:List UInt8}
  (p:ah w (pt b o*(aL T S x.wv x.ws W*(aL T S x.tv x.ts D*(fD x.av*(al S*F))))))
  (m:ah c (bs T v l*SL.whole w)) (k:small l) :
  ∃ S',Ext S S'/\qJ T S' v l/\ah c (pt b o*(aL T S' x.wv x.ws W*(al S'*(aL T S' x.tv x.ts D*(fD x.av*F))))) /\
   ah c (pt b o*(aL T S' x.tv x.ts D*(al S'*(aL T S' x.wv x.ws W*(fD x.av*F))))):=by
 have g:=m.under p;obtain ⟨S',e,j,h⟩:=ah.AS (S:=S) (F:=pt b o*(aL T S x.wv x.ws W*(aL T S x.tv x.ts D*(fD x.av*F)))) (g.to Ac0) k;refine ⟨S',e,j,?_⟩;have i:ah c (aL T S x.wv x.ws W*(pt b o*(aL T S x.tv x.ts D*(fD x.av*(al S'*F))))):=h.to Ac0;have h4:=i.ib (im e);have h5:ah c (aL T S x.tv x.ts D*(pt b o*(aL T S' x.wv x.ws W*(fD x.av*(al S'*F))))):=h4.to Ac0;have f:=h5.ib (im e);exact ⟨f.to Ac0,f.to Ac0⟩
def BN {w:Q} {t j e:TypeId} (g:P.underlying t=X (.map j e)) (f:P.underlying j=X (.int k)) {z:U} (i:(zeroValue e).run P w = .ok z w) {c:KV} (h:XQ w v c) (x:Int) (ok:Bool) :
  (Instr.lookup t v (N L x) ok).run P w = .ok (if ok then .tuple #[(aA c x).getD z,I (aA c x).isSome] else (aA c x).getD z) w:=by
 rcases h with ⟨rfl,rfl⟩|⟨b,o,rfl,l,m⟩
 .rw [kD g f i];rfl
 .exact eU g f i l m x ok
def ah.kq {T:TypeId} {w:Q} {S:Hp} {s:Bool} {C:CB} {F:ai} (h:ah w (aL T S v s C*(al S*F)))
  {t m e:TypeId} (r:P.underlying t=X (.map m e)) (p:P.underlying m=X (.int k)) (c:(zeroValue e).run P w = .ok (O V 0 0) w) (b:Int) :
  (aA C b=V->(Instr.lookup t v (N L b) J).run P w = .ok (.tuple #[O V 0 0,I K]) w) /\
  (∀ l,aA C b=X l->∃ f,(Instr.lookup t v (N L b) J).run P w = .ok (.tuple #[f,I J]) w/\qJ T S f l):=by
 obtain ⟨Z,u,A,z3,q,_⟩:=h.mi
 have g:aA C b=(aA Z b).map fun z=>z.2:=by
  rw [<- oE u (by rw [List.map_map];exact A),gR (fun z:U × List UInt8=>z.2)]
 have o:aA (Z.map fun z=>(z.1,z.2.1)) b=(aA Z b).map fun z=>z.1:=gR (fun z:U × List UInt8=>z.1) Z b;rw [BN r p c q b J,o];constructor
 .intro j
  have:aA Z b=V:=by rw [g] at j;simpa using j
  rw [this];rfl
 .intro l i
  rw [g] at i;obtain ⟨z,c,rfl⟩:=Option.map_eq_some_iff.1 i;exact ⟨z.1,by rw [c];rfl,z3 _ (nH c)⟩
def ah.uO {T:TypeId} {w:Q} {S:Hp} {sh:Bool} {C:CB} {F:ai} (h:ah w (aL T S v sh C*F)):∃ r,v = .map r:=by
 obtain ⟨k,a,b,c,⟨Z,e,g,z3,z4⟩,f,d,rfl⟩:=h;rcases z4 with ⟨rfl,_⟩|⟨m,o,rfl,_⟩|⟨m,rfl,_⟩ <;> exact ⟨_,rfl⟩
def ah.yV {T:TypeId} {w:Q} {S:Hp} {sh:Bool} {C:CB} {F:ai} (h:ah w (aL T S v sh C*(al S*F))) :
  ∃ S',Ext S S'/\ah w (aL T S' v J C*(aL T S' v J C*(al S'*F))):=by
 obtain ⟨k,a,P,s,⟨Z,j,l,z3,z4⟩,f,d,rfl⟩:=h;have t:ah w (al S*F):=⟨s,fun b o W=>a b o (by rcases d b with e|e <;> simp_all [join]),f⟩
 have c:∀ {S':Hp} {r:ai},(aL T S' v J C (fun _=>V))->ah w r->ah w (aL T S' v J C*r):=fun p q=>(q.to (cy _).symm).ib fun k A=>by rw [A];exact p
 rcases z4 with ⟨rfl,rfl,_⟩|⟨m,o,rfl,rfl,g,i,_⟩|⟨m,rfl,rfl,g⟩
 .have p:aL T S (.map V) J C (fun _=>V):=⟨[],j,l,z3,.inl ⟨rfl,rfl,rfl⟩⟩
  exact ⟨S,Ext.refl S,c p (c p t)⟩
 .have p:aL T S (.map (X m)) J C (fun _=>V):=⟨Z,j,l,z3,.inr (.inl ⟨m,o,rfl,rfl,g,i,rfl⟩)⟩
  exact ⟨S,Ext.refl S,c p (c p t)⟩
 .obtain ⟨o,i,rfl⟩:=g
  have B:ah w (al S*(pt m o*F)):=ah.to (⟨_,a,one m o,s,rfl,f,d,rfl⟩:ah w (pt m o*(al S*F))) (aE _ _ _);obtain ⟨u,h4⟩:=B.Ik;have p:aL T (join S (one m o)) (.map (X m)) J C (fun _=>V):=⟨Z,j,l,fun z E=>(z3 z E).mono (wz _ _ _),.inr (.inl ⟨m,o,rfl,rfl,h4,i,rfl⟩)⟩
  exact ⟨_,wz _ _ _,c p (c p u)⟩
def ah.Bj {T:TypeId} {w:Q} {S:Hp} {v v':U} {sh sh':Bool} {C C':CB} {F:ai} (h:ah w (aL T S v sh C*(aL T S v' sh' C'*(al S*F)))) :
  ∃ S',Ext S S'/\ah w (aL T S' v J C*(aL T S' v J C*(aL T S' v' J C'*(aL T S' v' J C'*(al S'*F))))):=by
 obtain ⟨b,f,g⟩:=ah.yV (T:=T) (S:=S) (v:=v) (sh:=sh) (C:=C) (F:=aL T S v' sh' C'*F) (h.to Ac0);have i:ah w (aL T b v' sh' C'*(aL T b v J C*(aL T b v J C*(al b*F)))):=ah.ib (P:=aL T S v' sh' C') (g.to Ac0) (im f);obtain ⟨c,e,j⟩:=ah.yV (T:=T) (S:=b) (v:=v') (sh:=sh') (C:=C') (F:=aL T b v J C*(aL T b v J C*F)) (i.to Ac0);have h4:ah w (aL T c v J C*(aL T b v J C*(aL T c v' J C'*(aL T c v' J C'*(al c*F))))):=ah.ib (P:=aL T b v J C) (j.to Ac0) (im e);have h5:ah w (aL T c v J C*(aL T c v J C*(aL T c v' J C'*(aL T c v' J C'*(al c*F))))):=ah.ib (P:=aL T b v J C) (h4.to Ac0) (im e);exact ⟨c,f.trans e,h5⟩
end Go.SL
namespace Go.Proofs.Ba
open RowKit SL
variable {v:U} {W:CB}
def Xr (S:Hp) (b o:Nat) (f:Array U) (C:CB) (g:Int) (l:List UInt8) (F:ai) (w:Q) (e:Ending) (c:Q):Prop:=
 ∃ m,e = H (.tuple #[])/\ah c (pt b (M ((f.setIfInBounds o (.map (X m))).setIfInBounds (o+1) (I K)) 211 (0,0))*(aL 5 S (.map (X m)) K (SL.dM C g l)*(al S*F)))/\ak w c
def CJ {b:Array U} {o:Nat} (h:b[o]?=X v):b.setIfInBounds o v=b:=by
 apply Array.ext_getElem?;intro i;rw [E4]
 split
 .rename_i e;subst e;split
  .exact h.symm
  .rename_i c;exact absurd (Array.getElem?_eq_some_iff.1 h).1 c
 .rfl
def sy {g k:Type} (f:g->k) {D E:List k} (h:D.Perm E):∀ {Z:List g},Z.map f=E->∃ b:List g,b.Perm Z/\b.map f=D:=by
 induction h with
 | nil=>intro Z e;exact ⟨Z,E1 _,e⟩
 | cons x h q=>
  intro Z e
  cases Z with
  | nil=>cases e
  | cons z Z=>
   simp only [List.map_cons,List.cons.injEq] at e;obtain ⟨b,i,j⟩:=q e.2;exact ⟨z :: b,i.cons z,by simp [j,e.1]⟩
 | swap x y l=>
  intro Z e
  match Z,e with
  | a :: c :: Z,e=>
   simp only [List.map_cons,List.cons.injEq] at e;exact ⟨c :: a :: Z,List.Perm.swap _ _ _,by simp [e.1,e.2.1,e.2.2]⟩
 | trans i j r s=>
  intro Z e;obtain ⟨v,t,o⟩:=s e;obtain ⟨m,u,p⟩:=r o;exact ⟨m,u.trans t,p⟩
def qG {Z:List (Int × U × List UInt8)} {S:Hp} {T:TypeId} (f:(Z.map fun z=>(z.1,z.2.2)).Perm W) (e:(Z.map A1).Nodup) (g:∀ z ∈ Z,qJ T S z.2.1 z.2.2) (b:Int) {l:List UInt8} (hv:qJ T S v l) :
  ((SL.dM Z b (v,l)).map fun z=>(z.1,z.2.2)).Perm (SL.dM W b l)/\((SL.dM Z b (v,l)).map A1).Nodup/\(∀ z ∈ SL.dM Z b (v,l),qJ T S z.2.1 z.2.2) /\
  SL.dM (Z.map fun z=>(z.1,z.2.1)) b v=(SL.dM Z b (v,l)).map fun z=>(z.1,z.2.1):=by
 refine ⟨?_,gr e _ _,?_,?_⟩
 .rw [<- sd (fun z:U × List UInt8=>z.2) Z b (v,l)]
  exact NG f (by rw [List.map_map];exact e) b l
 .intro z c
  rcases ri c with rfl|c
  .exact hv
  .exact g z c
 .exact sd (fun z:U × List UInt8=>z.1) Z b (v,l)
def fA (w:Q) (S:Hp) (b o:Nat) (m:Array U) (bv:U) (sh:Bool) (C:CB) (f:Int) (B:U) (l:List UInt8) (F:ai)
  (h:ah w (pt b (M m 211 (0,0))*(aL 5 S bv sh C*(al S*F)))) (j:m[o]?=X bv) (k:m[o+1]?=X (I sh)) (hv:qJ 5 S B l) :
  Calls R 284 #[G (X ⟨b,o,V⟩),N L f,B] w (Xr S b o m C f l F w):=by
 have E:w.cell? ⟨b,o,V⟩=X bv:=(h.cell o).trans j;have P:w.cell? ⟨b,o+1,V⟩=X (I sh):=(h.cell (o+1)).trans k;have W:∀ o,w.frozen? ⟨b,o,V⟩=K:=h.frozen;have q0:o≠o+1:=Z'
 obtain ⟨Z,z1,z2,z3,e0,p0⟩:=(h.t00 (aL 5 S bv sh C*(al S*(pt b (M m 211 (0,0))*F)))).mi;rcases p0 with ⟨rfl,u⟩|⟨rfl,u⟩|⟨i0,rfl,rfl,u⟩
 .skip
  have f0:∀ w,(binOp .eql 207 (.map V) (.map V)).run R w = .ok (I J) w:=fun w=>run_eql_map_nil (P:=R) w 207 3 23 _ underlying207;have b0:b<w.heap.size:=h.lt;have d0:=ae j;have H1:=ae k;clear j k;have m0:(o == o+1)=K:=Si0
  go_in
  go_wp2_with fail
  apply (mR w _ _ e0).mono;rintro l0 i ⟨c,D,rfl,s,e,v⟩;have Hp:=ae s;clear s;have p:=e.under h;have g0:i.cell? ⟨b,o,V⟩=X (.map V):=e.bX E;have g1:i.cell? ⟨b,o+1,V⟩=X (I sh):=e.bX P;have gf:∀ o,i.frozen? ⟨b,o,V⟩=K:=fun o=>(e.sw b0).trans (W o);clear E P W;have q:=((p.to (aE _ _ _)).setCell o (.map (X c))).setCell (o+1) (I K);have r:=q.to (aE _ _ _);obtain ⟨w2,h0,t,c0,_⟩:=ah.mapUpdate (P:=R) underlying207 underlying3 r f B;clear p q r h e u
  go_wp2
  go_end0
  obtain ⟨k0,g,p2⟩:=sy _ Hp.o rfl;subst p2;obtain ⟨u1,u2,u3,u4⟩:=qG ((g.map _).trans z1) ((g.map A1).nodup_iff.2 z2) (fun z hz=>z3 z (g.mem_iff.1 hz)) f hv;refine ⟨c,rfl,?_,((v.setCell _ _).setCell _ _).trans c0⟩;rw [u4] at t;have:=ah.AM t u1 u2 u3;exact (this.t00 (aL 5 S (.map V) sh C*(pt b (M ((m.setIfInBounds o (.map (X c))).setIfInBounds (o+1) (I K)) 211 (0,0))*(aL 5 S (.map (X c)) K (SL.dM C f l)*(al S*F))))).right
 .obtain ⟨A,rfl⟩:∃ A,bv = .map A:=by
   rcases e0 with ⟨rfl,_⟩|⟨i0,_,rfl,_⟩
   .exact ⟨_,rfl⟩
   .exact ⟨_,rfl⟩
  rcases A with _|A
  .skip
   have f0:∀ w,(binOp .eql 207 (.map V) (.map V)).run R w = .ok (I J) w:=fun w=>run_eql_map_nil (P:=R) w 207 3 23 _ underlying207;have b0:b<w.heap.size:=h.lt;have d0:=ae j;have H1:=ae k;clear j k;have m0:(o == o+1)=K:=Si0
   go_in
   go_wp2_with fail
   apply (mR w _ _ e0).mono;rintro l0 i ⟨c,D,rfl,s,e,v⟩;have Hp:=ae s;clear s;have p:=e.under h;have g0:i.cell? ⟨b,o,V⟩=X (.map V):=e.bX E;have g1:i.cell? ⟨b,o+1,V⟩=X (I J):=e.bX P;have gf:∀ o,i.frozen? ⟨b,o,V⟩=K:=fun o=>(e.sw b0).trans (W o);clear E P W;have q:=((p.to (aE _ _ _)).setCell o (.map (X c))).setCell (o+1) (I K);have r:=q.to (aE _ _ _);obtain ⟨w2,h0,t,c0,_⟩:=ah.mapUpdate (P:=R) underlying207 underlying3 r f B;clear p q r h e u
   go_wp2
   go_end0
   obtain ⟨k0,g,p2⟩:=sy _ Hp.o rfl;subst p2;obtain ⟨u1,u2,u3,u4⟩:=qG ((g.map _).trans z1) ((g.map A1).nodup_iff.2 z2) (fun z hz=>z3 z (g.mem_iff.1 hz)) f hv;refine ⟨c,rfl,?_,((v.setCell _ _).setCell _ _).trans c0⟩;rw [u4] at t;have:=ah.AM t u1 u2 u3;exact (this.t00 (aL 5 S (.map V) J C*(pt b (M ((m.setIfInBounds o (.map (X c))).setIfInBounds (o+1) (I K)) 211 (0,0))*(aL 5 S (.map (X c)) K (SL.dM C f l)*(al S*F))))).right
  .skip
   have f0:∀ w,(binOp .eql 207 (.map (X A)) (.map V)).run R w = .ok (I K) w:=fun w=>run_eql_map_nil (P:=R) w 207 3 23 _ underlying207;have b0:b<w.heap.size:=h.lt;have d0:=ae j;have H1:=ae k;clear j k;have m0:(o == o+1)=K:=Si0
   go_in
   go_wp2_with fail
   apply (mR w _ _ e0).mono;rintro l0 i ⟨c,D,rfl,s,e,v⟩;have Hp:=ae s;clear s;have p:=e.under h;have g0:i.cell? ⟨b,o,V⟩=X (.map (X A)):=e.bX E;have g1:i.cell? ⟨b,o+1,V⟩=X (I J):=e.bX P;have gf:∀ o,i.frozen? ⟨b,o,V⟩=K:=fun o=>(e.sw b0).trans (W o);clear E P W;have q:=((p.to (aE _ _ _)).setCell o (.map (X c))).setCell (o+1) (I K);have r:=q.to (aE _ _ _);obtain ⟨w2,h0,t,c0,_⟩:=ah.mapUpdate (P:=R) underlying207 underlying3 r f B;clear p q r h e u
   go_wp2
   go_end0
   obtain ⟨k0,g,p2⟩:=sy _ Hp.o rfl;subst p2;obtain ⟨u1,u2,u3,u4⟩:=qG ((g.map _).trans z1) ((g.map A1).nodup_iff.2 z2) (fun z hz=>z3 z (g.mem_iff.1 hz)) f hv;refine ⟨c,rfl,?_,((v.setCell _ _).setCell _ _).trans c0⟩;rw [u4] at t;have:=ah.AM t u1 u2 u3;exact (this.t00 (aL 5 S (.map (X A)) J C*(pt b (M ((m.setIfInBounds o (.map (X c))).setIfInBounds (o+1) (I K)) 211 (0,0))*(aL 5 S (.map (X c)) K (SL.dM C f l)*(al S*F))))).right
 .obtain ⟨u1,u2,u3,u4⟩:=qG z1 z2 z3 f hv
  obtain ⟨w',h0,n0,v,_⟩:=ah.mapUpdate (P:=R) underlying207 underlying3 u f B;have f0:=run_eql_map_nil (P:=R) w 207 3 23 (X i0) underlying207;have d0:=ae j;have H1:=ae k;have o0:=ae u4;clear j k u4 q0 u
  go_in
  go_wp2
  go_end0
  refine ⟨i0,rfl,?_,v⟩;rw [CJ d0.o,CJ H1.o];rw [o0.o] at n0;exact (ah.AM n0 u1 u2 u3).u00
def ik (b c:Int) (l:List UInt8):Int:=if b≠0 then b else if c<0\/l.length≠480 then 1 else 0
def vF (c b:Int) (l:List UInt8) (W:CB):CB:=if c=0/\0<=b/\l.length=480 then SL.dM W b l else W
def oB {b c:Int} {l:List UInt8} (h:¬ (b=0/\0<=c/\l.length=480)):vF b c l W=W:=if_neg h
def vu {c b:Int} {l:List UInt8} (h:c=0/\0<=b/\l.length=480):vF c b l W=SL.dM W b l:=if_pos h
def iu (S:Hp) (b:Nat) (rd:U) (c:Int) (W D:CB) (id:Int) (l:List UInt8) (F:ai) (w:Q) (e:Ending) (f:Q):Prop:=
 ∃ S',Ext S S'/\e = H (N L (ik c id l))/\ah f (aR 211 5 S' b rd c (vF c id l W) D*(al S'*F))/\ak w f
def oZ (w:Q) (S:Hp) (b:Nat) (rd:U) (i:Int) (W D:CB) (id:Int) (m:U) (l:List UInt8) (F:ai)
  (h:ah w (aR 211 5 S b rd i W D*(al S*F))) (f:Rd w m l) :
  Calls R 221 #[G (X ⟨b,0,V⟩),N L id,m] w (iu S b rd i W D id l F w):=by
 obtain ⟨x,s⟩:=h.dZ;have g0:w.cell? ⟨b,1,V⟩=X (N L i):=s.cell 1
 obtain ⟨a,c,rfl⟩:∃ a c,m = O a l.length c:=by
  rcases f.2 with ⟨rfl,u⟩|⟨a,c,rfl,_⟩
  .exact ⟨V,0,by rw [u]⟩
  .exact ⟨_,_,rfl⟩
 by_cases k:i=0
 .subst k
  by_cases P:id<0
  .go_in
   have q:=ae f;clear f
   go_wp2
   go_ret
   exact ⟨S,Ext.refl S,by simp [ik,P],by rw [oB Z'];exact h,ak.refl w⟩
  .by_cases j:l.length=480
   .have p:0<=id:=Z'
    have f0:((480:Int) != 480)=K:=De0
    have r:Rd w (O a 480 c) l:=by rw [<- j];exact f
    have t:=ae r;have g:=ae j;clear f r j;have d0:small l:=by unfold small;rw [g.o];decide
    have C:Hid (l.length<=1000000000):=by show l.length<=_;rw [g.o];decide
    go_in
    rw [g.o]
    go_wp2
    go_region_held3 (fun _=>True) (trivial)
     (first
      | (go_at_call 244;apply (jY w.drew _ l (nt.drew t.o) C).mono;rintro e w1 ⟨v1,rfl,b0,xL⟩)
      | (go_at_call 284;obtain ⟨S',v,B,A,_⟩:=ah.Ps (w:=w.drew) s b0 d0;apply (fA _ S' b 2 _ _ _ W id v1 l (aL 5 S' x.tv x.ts D*(fD x.av*F)) A rfl rfl B).mono;rintro e w2 ⟨e0,rfl,c0,E⟩))
    go_wp2
    go_ret
    refine ⟨S',v,?_,?_,((ak.refl w).drew.trans xL).trans E⟩
    .simp [ik,p,g.o,Int.not_lt.2 p]
    .rw [vu ⟨rfl,p,g.o⟩]
     exact ah.iD { x with wv:=.map (X e0),ws:=K } (c0.u00)
   .have i0:((l.length:Int) != 480)=J:=by rw [bne_iff_ne];omega
    go_in
    have q:=ae f;have g:=ae j;clear f j
    go_wp2
    go_ret
    exact ⟨S,Ext.refl S,by simp [ik,g.o],by rw [oB (fun o=>g.o o.2.2)];exact h,ak.refl w⟩
 .have h0:(i != 0)=J:=by simpa using k
  go_in
  have q:=ae f;clear f
  go_wp2
  go_ret
  exact ⟨S,Ext.refl S,by simp [ik,k],by rw [oB (fun o=>k o.1)];exact h,ak.refl w⟩
def sorted (l:List Int):List Int:=l.mergeSort fun x y=>decide (x<=y)
def eG (l:List Int):(sorted l).length=l.length:=List.length_mergeSort ..
def sorted_perm (l:List Int):(sorted l).Perm l:=List.mergeSort_perm ..
def np (l:List Int):(sorted l).Pairwise (·<=·):=by
 have:=List.pairwise_mergeSort (le:=fun x y:Int=>decide (x<=y)) (by intro a b c e f;simp at *;omega) (by intro a b;simp;omega) l;exact this.imp Si0
def z8 {l m:List Int} (h:l.Perm m):sorted l=sorted m:=
 List.Perm.eq_of_pairwise (le:=(·<=·)) (fun a b _ _ c e=>Z') (np l) (np m) ((sorted_perm l).trans (h.trans (sorted_perm m).symm))
def iI (C:CB):CB:=(sorted (C.map A1)).map fun k=>(k,(aA C k).getD [])
end Go.Proofs.Ba
namespace Go.SL
open RowKit
abbrev bP (n:Int):Int:=wrap64 n
structure aw where
 sec:List (List UInt8)
 wait:List (Int × List UInt8)
 jI:List (Int × Unit)
 cr:Int
 cw:Int
 cf:Int
 down:Bool
 eO:Bool
 left:Int
 aH:List Int
def aw.fresh (n:Nat):aw:=⟨List.replicate n [],[],[],0,0,0,K,K,0,[]⟩
def aw.done (D:aw) (x:Int × List UInt8):aw:={ D with sec:=D.sec.set x.1.toNat x.2,jI:=del D.jI x.1 }
def aw.bY (D:aw) (l:List (Int × List UInt8)):aw:=l.foldl aw.done D
def aw.Oa (D:aw) (x:Int × List UInt8):aw:={ D with jI:=SL.dM D.jI x.1 () }
def aw.vH (D:aw) (f:Int) (x:Int × List UInt8):aw:=if f=1 then D.done x else if f=2 then D.Oa x else D
def aw.dF (D:aw) (aH:List Int):Nat->aw
 | 0=>D
 | k+1=>match D.wait[k]? with
  | some p=>(D.dF aH k).vH (aH.getD k 0) p
  | none=>D.dF aH k
def aw.fY (D:aw) (aH:List Int):aw:={ D.dF aH D.wait.length with wait:=[],down:=J,eO:=K,left:=0,aH:=[] }
def aw.cY (D:aw):aw:=if !D.down && D.eO && D.left == 0 then D.fY D.aH else D
def aw.begun (D:aw):aw:=if D.cY.down then D.cY else if D.cY.eO then { D.cY with left:=bP (D.cY.left-1) } else D.cY
def aw.dh (D:aw):Int:=if D.cY.down then 2 else 0
def aw.has (D:aw) (b:Int):Prop:=0<=b/\b<D.sec.length
instance (D:aw) (a:Int):Decidable (D.has a):=inferInstanceAs (Decidable (_/\_))
def dg (l:List (Int × List UInt8)) (a:Int):Option (List UInt8):=(l.reverse.find? fun x=>x.1 == a).map Prod.snd
def aw.aG (D:aw) (a:Int):Int × List UInt8:=
 match dg D.wait a with
 | some l=>(0,bB 512 l)
 | none=>if (aA D.jI a).isSome then (3,[]) else (0,bB 512 (D.sec.getD a.toNat []))
def aw.read (D:aw) (a:Int):(Int × List UInt8) × aw:=
 if D.has a then (if D.dh=0 then (D.begun.aG a,{ D.begun with cr:=bP (D.begun.cr+1) }) else ((2,[]),D.begun)) else ((1,[]),D)
def aw.write (D:aw) (a:Int) (l:List UInt8):Int × aw:=
 if D.has a/\l.length=512 then (if D.dh=0 then (0,{ D.begun with cw:=bP (D.begun.cw+1),wait:=D.begun.wait++[(a,l)] }) else (2,D.begun)) else (1,D)
def aw.ay (D:aw):aw:={ ({ D with cf:=bP (D.cf+1) }:aw).bY D.wait with wait:=[] }
def aw.flush (D:aw):Int × aw:=if D.dh=0 then (0,D.begun.ay) else (2,D.begun)
structure aw.Ok (D:aw):Prop where
 n:D.sec.length<=20000
 wait:∀ x ∈ D.wait,D.has x.1
 many:D.wait.length<=1000000
 aH:D.aH.length<=4611686018427387904
def aw.KR {D:aw} (h:D.dh=0):D.cY=D:=by
 unfold aw.dh at h
 by_cases b:(!D.down && D.eO && D.left == 0)=J
 .rw [aw.cY,if_pos b] at h;simp [aw.fY] at h
 .rw [aw.cY,if_neg b]
def aw.Ci {D:aw} (h:D.dh=0):D.begun={ D with left:=D.begun.left }:=by
 have c:=aw.KR h
 have b:D.down=K:=by
  unfold aw.dh at h;rw [c] at h
  cases e:D.down with
  | false=>rfl
  | true=>simp [e] at h
 obtain ⟨sec,wait,jI,cr,cw,cf,down,eO,left,aH⟩:=D;simp only at b;subst b;unfold aw.begun;rw [c];cases eO <;> rfl
def aw.Ok.up {D:aw} (h:D.Ok) (e:D.dh=0):D.begun.Ok:=by
 rw [aw.Ci e];exact ⟨h.n,h.wait,h.many,h.aH⟩
def aw.mB (D:aw):D.dh=0\/D.dh=2:=by
 unfold aw.dh;split <;> simp
abbrev Zs:=List (Int × U × List UInt8)
def bK (Z:Zs):List U:=Z.flatMap fun z=>[N L z.1,z.2.1]
def rN (Z:Zs):(bK Z).length=Z.length*2:=by
 induction Z with
 | nil=>rfl
 | cons z Z b=>simp only [bK,List.flatMap_cons,List.length_append,B3,List.length_nil] at b ⊢;omega
def yA:∀ (Z:Zs) (i:Nat) (h:i<Z.length),(bK Z)[i*2]?=X (N L Z[i].1)/\(bK Z)[i*2+1]?=X Z[i].2.1:=by
 intro Z
 induction Z with
 | nil=>intro i h;simp at h
 | cons z Z b=>
  intro i h
  cases i with
  | zero=>simp [bK]
  | succ i=>
   have:=b i (by simpa using h);rw [show (i+1)*2=i*2+1+1 by omega];simpa [bK] using this
def ah.kI {w:Q} {f:TypeId} {n:Nat} {Z:Zs} {F:ai} {g c m:Nat} (h:ah w (sl f 2 (O (X ⟨g,0,V⟩) m c) n (bK Z)*F)) {i:Nat} (k:i<Z.length) :
  w.cell? ⟨g,i*2,V⟩=X (N L Z[i].1)/\w.cell? ⟨g,i*2+1,V⟩=X Z[i].2.1:=by
 obtain ⟨a,b⟩:=yA Z i k;obtain ⟨_,l⟩:=h.ny;rcases l with ⟨hv,q⟩|⟨o,p,j,e⟩
 .cases hv
 .cases j
  exact ⟨by have:=e _ _ a;rwa [Addr.add_lit,D6] at this,by have:=e _ _ b;rwa [Addr.add_lit,D6] at this⟩
structure Dx where
 sg:Nat
 tm:Nat
 wv:Value
 kv:Value
 Y:List (Value × List UInt8)
 Z:Zs
def Dx.cells (x:Dx) (D:aw):Array U:=
 #[O (X ⟨x.sg,0,V⟩) x.Y.length x.Y.length,x.wv,.map (X x.tm),N L D.cr,N L D.cw,N L D.cf,I D.down,I D.eO,N L D.left,x.kv]
def ir (t:List (Int × Unit)):KV:=t.map fun p=>(p.1,.agg #[])
def ja (l:List Int):List U:=l.map (D7 L)
structure Dx.Fit (x:Dx) (T:TypeId) (S:Hp) (D:aw):Prop where
 sec:x.Y.map Prod.snd=D.sec
 sP:∀ y ∈ x.Y,qJ T S y.1 y.2
 wait:x.Z.map (fun z=>(z.1,z.2.2))=D.wait
 mm:∀ z ∈ x.Z,qJ T S z.2.1 z.2.2
def Dx.Fit.mono {x:Dx} {T:TypeId} {S S':Hp} {D:aw} (h:x.Fit T S D) (e:Ext S S'):x.Fit T S' D:=
 ⟨h.sec,fun y hy=>(h.sP y hy).mono e,h.wait,fun z b=>(h.mm z b).mono e⟩
def Ev (t:List (Int × Unit)) (a:Int):SL.dM (ir t) a (.agg #[])=ir (SL.dM t a ()):=by
 have:=sd (fun _:Unit=>Value.agg #[]) t a ();simpa [ir] using this
def EE (t:List (Int × Unit)) (a:Int):del (ir t) a=ir (del t a):=by
 simp only [ir,del,List.filter_map];rfl
def FG (t:List (Int × Unit)) (a:Int):(aA (ir t) a).isSome=(aA t a).isSome:=by
 have:=gR (fun _:Unit=>Value.agg #[]) t a;rw [ir,this,Option.isSome_map]
def RF (x:Dx) (D:aw) (d:Nat):ai:=
 pt d (M (x.cells D) 99 (0,0))*(pt x.sg (M (x.Y.map A1).toArray 23 (0,0))*(sl 111 2 x.wv x.Z.length (bK x.Z)*(mp x.tm (ir D.jI)*sl 3 1 x.kv D.aH.length (ja D.aH))))
def gC (x:Dx) (S:Hp) (d:Nat) (D:aw):ai:=fact (x.Fit 5 S D)*RF x D d
def aD (S:Hp) (d:Nat) (D:aw):ai:=ex fun x:Dx=>gC x S d D
section
variable {w:Q} {S S':Hp} {d:Nat} {D:aw} {F:ai} {x:Dx}
def ah.bk (h:ah w (gC x S d D*F)):x.Fit 5 S D/\ah w (pt d (M (x.cells D) 99 (0,0))*(pt x.sg (M (x.Y.map A1).toArray 23 (0,0))*(sl 111 2 x.wv x.Z.length (bK x.Z)*(mp x.tm (ir D.jI)*(sl 3 1 x.kv D.aH.length (ja D.aH)*F))))):=by
 obtain ⟨b,c⟩:=ah.ao.1 (h.to (ar _ _ _));exact ⟨b,c.to (by unfold RF;ac_rfl)⟩
def ah.iN (b:x.Fit 5 S D) (h:ah w (pt d (M (x.cells D) 99 (0,0))*(pt x.sg (M (x.Y.map A1).toArray 23 (0,0))*(sl 111 2 x.wv x.Z.length (bK x.Z)*(mp x.tm (ir D.jI)*(sl 3 1 x.kv D.aH.length (ja D.aH)*F)))))):ah w (gC x S d D*F):=
 (ah.ao.2 ⟨b,h.to (by unfold RF;ac_rfl:_=RF x D d*F)⟩:ah w (fact _*_)).to (ar _ _ _).symm
def ah.tQ (h:ah w (aD S d D*F)):∃ x,ah w (gC x S d D*F):=ah.aq.1 h
def ah.devOf (h:ah w (gC x S d D*F)):ah w (aD S d D*F):=ah.aq.2 ⟨x,h⟩
def KA (e:Ext S S') (h:Hp) (p:gC x S d D h):gC x S' d D h:=by
 obtain ⟨b,c,⟨f,g⟩,i,j,k⟩:=p;exact ⟨b,c,⟨f.mono e,g⟩,i,j,k⟩
def yE (e:Ext S S') (h:Hp) (p:aD S d D h):aD S' d D h:=by
 obtain ⟨x,p⟩:=p;exact ⟨x,KA e h p⟩
def ah.cL (h:ah w (gC x S d D*F)) (i:Nat):w.cell? ⟨d,i,V⟩=(x.cells D)[i]?:=h.bk.2.cell i
def ah.mG (h:ah w (gC x S d D*F)) (i:Nat):w.frozen? ⟨d,i,V⟩=K:=h.bk.2.frozen i
def ah.GO (h:ah w (gC x S d D*F)):x.Y.length=D.sec.length:=by rw [<- h.bk.1.sec,D5]
def ah.rB (h:ah w (gC x S d D*F)):x.Z.length=D.wait.length:=by rw [<- h.bk.1.wait,D5]
def ah.Vm (h:ah w (gC x S d D*F)):∃ a c,x.wv = O a D.wait.length c:=by
 have:=az h.bk.2.au
 rwa [h.rB] at this
end
end Go.SL
namespace Go.Proofs.Nn
open RowKit SL
def jw (w:Q) (S:Hp) (d:Nat) (D:aw) (F:ai) (h:ah w (aD S d D*F)) :
  Calls R 155 #[G (X ⟨d,0,V⟩)] w fun e b=>e = H (N L D.sec.length)/\w=b:=by
 obtain ⟨x,h⟩:=h.tQ;have c:w.cell? ⟨d,0,V⟩=X (O (X ⟨x.sg,0,V⟩) D.sec.length D.sec.length):=by rw [h.cL,<- h.GO];rfl
 clear h
 go_in
 go_wp2
 go_ret
 exact ⟨rfl,rfl⟩
def vS (b:Bool) (w:Q) (e:Ending) (c:Q):Prop:=e = H (I b)/\w=c
def mS (w:Q) (S:Hp) (d:Nat) (D:aw) (a:Int) (F:ai) (h:ah w (aD S d D*F)) :
  Calls R 259 #[G (X ⟨d,0,V⟩),N L a] w (vS (decide (D.has a)) w):=by
 have f:=jw w S d D F h;clear h
 by_cases g:0<=a
 .by_cases c:a<D.sec.length
  .have b:decide (D.has a)=J:=by simp [aw.has,g,c]
   rw [b];clear b
   go_in
   go_wp2_with (go_at_call 155;apply f.mono;rintro e i ⟨rfl,rfl⟩)
   go_ret
   exact ⟨rfl,rfl⟩
  .have b:decide (D.has a)=K:=by simp [aw.has,c]
   rw [b];clear b;have j:decide (a<D.sec.length)=K:=by simpa using c
   go_in
   go_wp2_with (go_at_call 155;apply f.mono;rintro e i ⟨rfl,rfl⟩)
   go_ret
   exact ⟨rfl,rfl⟩
 .have b:decide (D.has a)=K:=by simp [aw.has,g]
  rw [b];clear b f
  go_in
  go_wp2
  go_ret
  exact ⟨rfl,rfl⟩
def Ot (w:Q) (l:List UInt8) (e:Ending) (b:Q):Prop:=∃ g,e = H (O (X ⟨g,0,V⟩) 512 512)/\ah b (pt g (M (dP (bB 512 l)) 5 (0,0))*whole w)/\ak w b
def gW:(prog.info? 5).map (fun i=>(i.zero,i.size,i.bytes))=X (X (N .u8 0),1,1):=Kr0
def KM:(prog.info? 5).map (·.size)=X 1:=Kr0
def Ei:(prog.info? 23).map (fun i=>(i.zero,i.size,i.bytes))=X (X (O V 0 0),1,24):=Kr0
def fm (n:Nat) (g:n<=281474976710656) (w:Q):(Instr.makeSlice 23 (N L n) (N L n)).run R w =
  .ok (O (X ⟨w.heap.size,0,V⟩) n n) (w.alloc (M (dP (zs n)) 5 (0,0))):=by
 obtain ⟨i,c,f,e,b⟩:=info_parts gW;have:=run_make (P:=R) w 23 5 i _ underlying23 c f L L n n Z' Z' (by rw [b];omega) Z';rw [this,e];simp only [E3];rw [jS]
def lC (w:Q) (v:U) (l:List UInt8) (j:Rd w v l) (k:l.length<=9223372036854775807) :
  Calls R 261 #[v] w (Ot w l):=by
 have m:∀ w,(Instr.makeSlice 23 (N L 512) (N L 512)).run R w =
  .ok (O (X ⟨w.heap.size,0,V⟩) 512 512) (w.alloc (M (dP (zs 512)) 5 (0,0))):=fm 512 Z'
 have c:Rd (w.alloc (M (dP (zs 512)) 5 (0,0))) v l:=nt.alloc j _;have b:=(ah.whole w).alloc (M (dP (zs 512)) 5 (0,0));obtain ⟨p,o,e,i,h⟩:=OL (P:=R) (dT:=23) (T:=5) underlying23 KM b c 3;have g:=(ak.refl w).alloc (M (dP (zs 512)) 5 (0,0));have f:=ae e;clear e c b
 go_in
 go_wp2_with (refine fI f.o _ _ rfl rfl rfl rfl rfl ?_)
 go_ret
 exact ⟨_,rfl,i,g.trans h⟩
def jk {T:TypeId} {S:Hp} {v:U} {l:List UInt8} (h:qJ T S v l):∃ a c,v = O a l.length c:=by
 rcases h.2 with ⟨rfl,rfl⟩|⟨g,b,e,rfl,_⟩
 .exact ⟨_,_,rfl⟩
 .exact ⟨_,_,rfl⟩
def WI (x:Dx) (S:Hp) (d:Nat) (D:aw) (p:Int × List UInt8) (c:U) (F:ai) (w:Q) (e:Ending) (b:Q):Prop:=
 e = H (.tuple #[])/\ah b (gC { x with Y:=x.Y.set p.1.toNat (c,p.2) } S d (D.done p)*F)/\ak w b
def C5 (w:Q) (S:Hp) (d:Nat) (D:aw) (x:Dx) (p:Int × List UInt8) (o:U) (F:ai) (h:ah w (gC x S d D*F)) (hv:qJ 5 S o p.2) (t:D.has p.1) :
  Calls R 58 #[G (X ⟨d,0,V⟩),.agg #[N L p.1,o]] w (WI x S d D p o F w):=by
 obtain ⟨i0,l⟩:=p;obtain ⟨a,rfl⟩:=D1 t.1;have e0:(a:Int)<(x.Y.length:Int):=by rw [h.GO];exact t.2
 have u:a<x.Y.length:=Z'
 obtain ⟨k,hs⟩:=h.bk;obtain ⟨b,c,rfl⟩:=jk hv;obtain ⟨r,s⟩:∃ r,(x.Y.map A1)[a]?=X r:=⟨_,H7 (by simpa using u)⟩
 have g:=hs.alloc (M #[N L a,O b l.length c] 111 (0,0));have v:=(ak.refl w).alloc (M #[N L a,O b l.length c] 111 (0,0))
 go_in
 go_wp2
 generalize g0:w.alloc (M #[N L a,O b l.length c] 111 (0,0))=e at g v ⊢;generalize w.heap.size=f at g ⊢;have k0:e.cell? ⟨d,0,V⟩=X (O (X ⟨x.sg,0,V⟩) x.Y.length x.Y.length):=g.aj.cell 0;have c0:e.cell? ⟨f,0,V⟩=X (N L a):=g.cell 0;have d0:e.cell? ⟨f,1,V⟩=X (O b l.length c):=g.cell 1;have ks:e.cell? ⟨x.sg,a,V⟩=X r:=(g.au.cell a).trans (by simpa using s);have kf:e.frozen? ⟨x.sg,a,V⟩=K:=g.au.frozen a;have i:=(g.au.setCell a (O b l.length c)).yq;have B:(e.setCell ⟨x.sg,a,V⟩ (O b l.length c)).cell? ⟨d,0,V⟩=X (O (X ⟨x.sg,0,V⟩) x.Y.length x.Y.length):=i.aj.cell 0;have q:(e.setCell ⟨x.sg,a,V⟩ (O b l.length c)).cell? ⟨f,0,V⟩=X (N L a):=i.cell 0;have E:(e.setCell ⟨x.sg,a,V⟩ (O b l.length c)).cell? ⟨f,1,V⟩=X (O b l.length c):=i.cell 1;have C:(e.setCell ⟨x.sg,a,V⟩ (O b l.length c)).cell? ⟨d,2,V⟩=X (.map (X x.tm)):=i.aj.cell 2;clear s u
 go_region_held3 (fun j=>j.cell? ⟨d,0,V⟩=X (O (X ⟨x.sg,0,V⟩) x.Y.length x.Y.length)/\j.cell? ⟨f,0,V⟩=X (N L a)/\j.cell? ⟨f,1,V⟩=X (O b l.length c)) (first|go_keep|exact ⟨k0,c0,d0⟩|exact ⟨B,q,E⟩) (fail)
 have A:=(v.setCell ⟨x.sg,a,V⟩ (O b l.length c)).drew;generalize h0:(e.setCell ⟨x.sg,a,V⟩ (O b l.length c))=w2 at i A B q E C ⊢;obtain ⟨P,f0,W,b0,_⟩:=ah.delete (P:=R) underlying96 underlying3 0 3 (w:=w2.drew.drew) (ah.aI i) (a:Int);have m:=W.yN;have t0:P.cell? ⟨f,0,V⟩=X (N L a):=m.cell 0;have t2:P.cell? ⟨d,2,V⟩=X (.map (X x.tm)):=m.aj.cell 2
 go_wp2
 go_region_held3 (fun j=>j.cell? ⟨f,0,V⟩=X (N L a)/\j.cell? ⟨d,2,V⟩=X (.map (X x.tm))) (first|go_keep|exact ⟨q,C⟩|exact ⟨t0,t2⟩) (fail)
 go_wp2
 go_end0
 refine ⟨rfl,ah.iN ⟨?_,?_,k.wait,k.mm⟩ (m.right.to ?_),A.drew.trans b0⟩
 .show (x.Y.set (a:Int).toNat (O b l.length c,l)).map Prod.snd=D.sec.set (a:Int).toNat l
  rw [E5,k.sec]
 .intro y hy
  rcases List.mem_or_eq_of_mem_set hy with hy|rfl
  .exact k.sP y hy
  .exact hv
 .simp only [EE,Dx.cells,aw.done,List.length_set,E3,E5,List.setIfInBounds_toArray]
def Tw (x:Dx) (S:Hp) (d:Nat) (D:aw) (F:ai) (kv:U) (aH:List Int):Prop:=
 ∃ a c,kv = O a aH.length c/\aH.length<=9223372036854775807/\∀ i,i<aH.length->∃ b f,a=X ⟨b,f,V⟩ /\
  ∀ g Y e,e.aH=D.aH->ah g (gC { x with Y:=Y } S d e*F)->g.cell? ⟨b,f+i,V⟩=X (N L (aH.getD i 0))
def U7 (x:Dx) (S:Hp) (d:Nat) (D:aw) (aH:List Int) (F:ai) (w:Q) (e:Ending) (b:Q):Prop:=
 e = H (.tuple #[])/\ah b (aD S d (D.fY aH)*F)/\ak w b
def MP (x:Dx) (S:Hp) (d:Nat) (D:aw) (aH:List Int) (F:ai) (w:Q) (n:Nat) (u:U) (wr:Q):Prop:=
 ∃ (k:Nat) (Y:List (U × List UInt8)),k<=n/\u = N L k/\ah wr (gC { x with Y:=Y } S d (D.dF aH k)*F)/\ak w wr
def iw (D:aw) (aH:List Int):∀ k,(D.dF aH k).aH=D.aH/\(D.dF aH k).wait=D.wait/\(D.dF aH k).sec.length=D.sec.length
 | 0=>⟨rfl,rfl,rfl⟩
 | k+1=>by
  obtain ⟨b,c,e⟩:=iw D aH k;unfold aw.dF
  split
  .unfold aw.vH
   split
   .exact ⟨b,c,by simp [aw.done,e]⟩
   .split
    .exact ⟨b,c,e⟩
    .exact ⟨b,c,e⟩
  .exact ⟨b,c,e⟩
def yK (w:Q) (S:Hp) (d:Nat) (D:aw) (x:Dx) (aH:List Int) (kv:U) (F:ai) (h:ah w (gC x S d D*F)) (hD:D.Ok) (hk:Tw x S d D F kv aH) :
  Calls R 19 #[G (X ⟨d,0,V⟩),kv] w (U7 x S d D aH F w):=by
 obtain ⟨ka,kc,rfl,R0,g0⟩:=hk;obtain ⟨wa,wc,P⟩:=h.Vm;have hn:(D.wait.length:Int)<=1000000:=by have:=hD.many;omega
 have k1:w.cell? ⟨d,1,V⟩=X (O wa D.wait.length wc):=(h.cL 1).trans (by simp only [Dx.cells,P];rfl);have c0:=ae P;have q0:=ae g0;clear P g0
 go_in
 go_wp2
 go_loopw [14] (fun b0 wr=>MP x S d D aH F w D.wait.length b0 wr) (fun b0 _=>D.wait.length-(intOf b0).toNat)
 case atStart=>exact ⟨0,x.Y,Nat.zero_le _,rfl,h,ak.refl w⟩
 case round=>
  obtain ⟨k,Y,S0,rfl,b,p0⟩:=hrel;clear k1;obtain ⟨e1,u,C⟩:=iw D aH k
  by_cases T0:k<D.wait.length
  .have V0:(k:Int)<(D.wait.length:Int):=Z'
   have W0:x.Z.length=D.wait.length:=b.rB.trans (by rw [u]);have W:k<x.Z.length:=Z'
   obtain ⟨g,H0⟩:∃ g,wa=X ⟨g,0,V⟩:=by
    have F0:0<x.Z.length:=Z'
    have:=re b.bk.2.au F0;obtain ⟨g,c,hh⟩:=this;rw [c0.o] at hh;exact ⟨_,(Value.slice.inj hh).1⟩
   subst H0
   have x0:wr.cell? ⟨g,k*2,V⟩=X (N L x.Z[k].1)/\wr.cell? ⟨g,k*2+1,V⟩=X x.Z[k].2.1:=by
    have:=b.bk.2.au;simp only [c0.o] at this;exact this.kI W
   obtain ⟨e0,f0⟩:=x0
   have q:D.wait[k]?=X (x.Z[k].1,x.Z[k].2.2):=by
    rw [<- u,<- b.bk.1.wait];simp [W]
   have A:qJ 5 S x.Z[k].2.1 x.Z[k].2.2:=b.bk.1.mm _ (List.getElem_mem W);obtain ⟨j,l,h0⟩:=jk A;rw [h0] at f0 A
   have l0:(D.dF aH k).has x.Z[k].1:=by
    have:=hD.wait _ (List.mem_of_getElem? q);unfold aw.has at this ⊢;rw [C];exact this
   generalize x.Z[k].1=f at e0 q l0;generalize x.Z[k].2.2=i at f0 q A;have r:=ae q;have K0:∀ (s:Array U),(wr.alloc (M s 111 (0,0))).cell? ⟨wr.heap.size,0,V⟩=s[0]?:=fun s=>(b.alloc (M s 111 (0,0))).cell 0;clear q h0 e1 u C K0;have L0:g<wr.heap.size:=H6 wr _ e0;have m:=b.alloc (M #[N L f,O j i.length l] 111 (0,0));have p:=p0.alloc (M #[N L f,O j i.length l] 111 (0,0))
   by_cases o0:k<aH.length
   .have D0:(k:Int)<(aH.length:Int):=Z'
    obtain ⟨kb,ko,rfl,n0⟩:=q0.o k o0;have m0:=n0 wr Y _ (iw D aH k).1 b;have N0:kb<wr.heap.size:=H6 wr _ m0;clear n0;generalize hf:aH.getD k 0=d0 at m0;have B:=ae hf;clear hf
    by_cases i0:d0=1
    .subst i0
     go_wp2_with (go_at_call 58;apply (C5 _ S d _ _ (f,i) _ _ m.right A l0).mono;rintro e w2 ⟨rfl,v,t⟩)
     go_roundw
     case rel=>
      refine ⟨k+1,Y.set f.toNat (O j i.length l,i),Z',by go_num,?_,p.trans t⟩
      have e:D.dF aH (k+1)=(D.dF aH k).done (f,i):=by
       rw [aw.dF,r.o];simp only [aw.vH,B.o,if_true]
      rw [e];exact v
     case measure=>simp [intOf];omega
    .by_cases k0:d0=2
     .subst k0
      have o:=m.aj.bk.1;obtain ⟨w2,G0,v,t,E⟩:=ah.mapUpdate (P:=R) underlying96 underlying3 (w:=(wr.alloc (M #[N L f,O j i.length l] 111 (0,0))).drew) m.aj.bk.2.aC f (.agg #[]);have c2:(wr.alloc (M #[N L f,O j i.length l] 111 (0,0))).cell? ⟨d,2,V⟩=X (.map (X x.tm)):=m.aj.cL 2;have cb:(wr.alloc (M #[N L f,O j i.length l] 111 (0,0))).cell? ⟨wr.heap.size,0,V⟩=X (N L f):=m.cell 0;have r0:w2.cell? ⟨d,2,V⟩=X (.map (X x.tm)):=(E.1 _).trans c2;have s0:w2.cell? ⟨wr.heap.size,0,V⟩=X (N L f):=(E.1 _).trans cb;clear E
      go_wp2_with fail
      generalize u0:wr.alloc (M #[N L f,O j i.length l] 111 (0,0))=W1 at G0 c2 cb t p ⊢;clear u0
      go_region_held3 (fun w'=>w'.cell? ⟨d,2,V⟩=X (.map (X x.tm))/\w'.cell? ⟨wr.heap.size,0,V⟩=X (N L f)) (first|go_keep|exact ⟨r0,s0⟩) (fail)
      go_wp2
      go_roundw
      case rel=>
       refine ⟨k+1,Y,Z',by go_num,?_,p.drew.trans t⟩
       have e:D.dF aH (k+1)=(D.dF aH k).Oa (f,i):=by
        rw [aw.dF,r.o];simp only [aw.vH,B.o];rfl
       rw [e];rw [Ev] at v;exact (ah.iN (D:=(D.dF aH k).Oa (f,i)) ⟨o.sec,o.sP,o.wait,o.mm⟩ v.ur).fT
      case measure=>simp [intOf];omega
     .go_wp2
      go_roundw
      case rel=>
       refine ⟨k+1,Y,Z',by go_num,?_,p⟩
       have e:D.dF aH (k+1)=D.dF aH k:=by
        rw [aw.dF,r.o];simp only [aw.vH,B.o,if_neg i0,if_neg k0]
       rw [e];exact m.right
      case measure=>simp [intOf];omega
   .have D0:¬ (k:Int)<(aH.length:Int):=Z'
    go_wp2
    go_roundw
    case rel=>
     refine ⟨k+1,Y,Z',by go_num,?_,p⟩
     have e:D.dF aH (k+1)=D.dF aH k:=by
      rw [aw.dF,r.o];simp [aw.vH,D8,List.getElem?_eq_none (Nat.le_of_not_lt o0)]
     rw [e];exact m.right
    case measure=>simp [intOf];omega
  .obtain rfl:k=D.wait.length:=Z'
   have k1:=b.cL 1;have k6:=b.cL 6;have k7:=b.cL 7;have k8:=b.cL 8;have k9:=b.cL 9;have kf:=b.mG;simp only [Dx.cells] at k1 k6 k7 k8 k9;have o:=b.bk.1;have H2:=((((b.bk.2.setCell 1 (O V 0 0)).setCell 6 (I J)).setCell 7 (I K)).setCell 8 (N L 0)).setCell 9 (O V 0 0);clear e1 u C
   go_wp2
   go_end0
   refine ⟨rfl,?_,((((p0.setCell _ _).setCell _ _).setCell _ _).setCell _ _).setCell _ _⟩;have H3:=((H2.ly).aC.right.dR 111 2).dR 3 1;refine ah.devOf (x:={ x with Y:=Y,wv:=O V 0 0,Z:=[],kv:=O V 0 0 }) (ah.iN ⟨o.sec,o.sP,rfl,Si0⟩ ?_)
   exact H3.to (by
    simp only [Dx.cells,aw.fY,List.length_nil,bK,ja,List.flatMap_nil,List.map_nil]
    ac_rfl)
end Go.Proofs.Nn
