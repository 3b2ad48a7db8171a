/- Steps. -/
import Derived.Test.YtiomanbgcfjblaaGreatDoorLP1
import Derived.Maps.RangeRun
set_option linter.all false
set_option maxRecDepth 99999
set_option maxHeartbeats 0
open Go.SL
open Go.Value renaming int->X
open Go.IntKind renaming i64->Z'
open Go renaming World->W,Value->Y
open Option renaming some->Z,none->V
open Bool renaming false->Y'
open Prod renaming fst->A1,snd->H7,ext->H1
open List renaming getElem?_eq_getElem->B3,getElem?_map->D8,map_cons->D6,map_map->D5,nodup_append->D4,map_append->D3,getElem_of_mem->D1,findIdx?_cons->D0,find?_cons->E5,ext_getElem?->E4,getElem?_inj->E3,nodup_cons->G0,length->H9,nodup_nil->H6,map_congr_left->H5,map->H0,mem_map_of_mem->J4,getElem?_modify->J2,getElem?_eq_none->K9,filter_eq_self->K8,nodup_iff_pairwise_ne->K6,perm_ext_iff_of_nodup->K5,mem_erase_of_ne->K3,length_erase_of_mem->K2,length_pos_of_mem->K1
open Option renaming map_some->D9,bind->E1,map_eq_none_iff->J3,isSome_map->K0
open Go.Value renaming int->D7
open Array renaming getElem?_setIfInBounds->D2,getElem?_eq_getElem->F0,toList_modify->G3,toList_push->H4,getElem?_toList->H3,length_toList->J5,eq_empty_of_size_eq_zero->K4
open Bool renaming false_eq_true->E2
open Go.World renaming cell?->H8,frozen?->H2,drew->J7
open List.Pairwise renaming map->K7
namespace Go.SL
open RowKit
variable {α β:Type} {T kt t:TypeId} {k:IntKind} {dv v:Y} {x:Int} {l:List UInt8} {A:Int × List UInt8}
abbrev KV:=List (Int × Y)
def aA (M:List (Int × α)) (x:Int):Option α:=(M.find? fun p=>p.1 == x).map H7
def dM (M:List (Int × α)) (x:Int) (v:α):List (Int × α):=if (aA M x).isSome then M.map (fun p=>if p.1 == x then (x,v) else p) else M++[(x,v)]
def del (M:List (Int × α)) (x:Int):List (Int × α):=M.filter fun p => !(p.1 == x)
def raw (M:KV):List (Y × Y):=M.map fun p=>(X Z' p.1,p.2)
def IsMap (o:Obj) (M:KV):Prop:=∃ a b,o = .map a b/\a.toList.map (fun e=>(e.key,e.val))=raw M/\(M.map A1).Nodup /\
 (∀ x ∈ a.toList,x.born<b)/\(a.toList.map (·.born)).Nodup
def mp (b:Nat) (M:KV):ai:=fun h=>∃ o,IsMap o M/\h=one b o
def isMap_empty:IsMap (.map #[] 0) []:=⟨#[],0,rfl,rfl,H6,Si0,Si0⟩
section
variable {P:Program} {w:W}
def nR (k:IntKind) (x:Int):∀ (a:List MapEntry) (M:KV) (i:Nat),a.map (fun e=>(e.key,e.val))=raw M ->
  Instr.findNow (.int k) (X Z' x) a i=Z (((M.findIdx? fun p=>p.1 == x).bind fun j=>(M[j]?).map fun p=>(i+j,p.2))):=by
 intro a
 induction a with
 | nil=>intro M i h;cases M with
  | nil=>rfl
  | cons p M=>simp [raw] at h
 | cons e a l=>intro M i h;cases M with
  | nil=>simp [raw] at h
  | cons p M=>
   simp only [raw,D6,List.cons.injEq,Prod.mk.injEq] at h;obtain ⟨⟨b,hv⟩,c⟩:=h;have m:=l M (i+1) c;unfold Instr.findNow;rw [b]
   by_cases d:x=p.1
   .subst d
    simp [Instr.sameNow,D0,hv]
   .have:(p.1 == x)=Y':=by simp;omega
    have f:(x == p.1)=Y':=by simp;omega
    simp only [Instr.sameNow,if_true,f,m,D0,this]
    cases n:M.findIdx? (fun p=>p.1 == x) with
    | none=>simp
    | some j=>simp [Nat.add_assoc,Nat.add_comm 1 j]
def look_eq (M:KV) (x:Int):aA M x=(M.findIdx? fun p=>p.1 == x).bind fun j=>(M[j]?).map H7:=by
 unfold aA
 induction M with
 | nil=>rfl
 | cons p M b=>
  simp only [E5,D0]
  by_cases a:(p.1 == x)=true
  .simp [a]
  .simp only [Bool.not_eq_true] at a
   simp only [a,b]
   cases c:M.findIdx? (fun p=>p.1 == x) with
   | none=>simp
   | some j=>simp
def du (a:Bool) (n:Nat) (b:P.underlying t=Z (.int k)) (v:Y):(Instr.checkKey a (n+1) t v).run P w = .ok () w:=by
 unfold Instr.checkKey;simp [run_underlying b]
def eB (b:P.underlying t=Z (.int k)) (x:Int) {a:List MapEntry} {M:KV} (h:a.map (fun e=>(e.key,e.val))=raw M) :
  (Instr.findKey t (X Z' x) a).run P w = .ok ((M.findIdx? fun p=>p.1 == x).bind fun j=>(M[j]?).map fun p=>(j,p.2)) w:=by
 unfold Instr.findKey;simp [run_underlying b,nR k x a M 0 h]
def run_getObj_map {b:Nat} {c:Array MapEntry} {a:Nat} (h:w.heap[b]?=Z (.map c a)):(getObj b).run P w = .ok (.map c a) w:=by
 simp [getObj,Sem.run,h]
def eU (i:P.underlying t=Z (.map T kt)) (a:P.underlying T=Z (.int k)) {z:Y} (l:(zeroValue kt).run P w = .ok z w)
  {b:Nat} {o:Obj} {M:KV} (c:w.heap[b]?=Z o) (h:IsMap o M) (x:Int) (ok:Bool) :
  (Instr.lookup t (.map (Z b)) (X Z' x) ok).run P w = .ok (if ok then .tuple #[(aA M x).getD z,.bool (aA M x).isSome] else (aA M x).getD z) w:=by
 obtain ⟨n,m,rfl,d,q,_⟩:=h;simp only [Instr.lookup,Sem.run_bind,run_underlying i,run_getObj_map c,Sem.run_pure,Result.andThen,du _ _ a,eB a x d];rw [look_eq]
 cases e:M.findIdx? (fun p=>p.1 == x) with
 | none=>simp [l]
 | some j=>
  have f:j<M.length:=by
   have:=List.findIdx?_eq_some_iff_findIdx_eq.1 e;exact this.1
  simp [B3 f]
def kD (b:P.underlying t=Z (.map T kt)) (a:P.underlying T=Z (.int k)) (c:(zeroValue kt).run P w = .ok dv w)
  (x:Int) (ok:Bool) :
  (Instr.lookup t (.map V) (X Z' x) ok).run P w = .ok (if ok then .tuple #[dv,.bool Y'] else dv) w:=by
 simp only [Instr.lookup,Sem.run_bind,run_underlying b,Sem.run_pure,Result.andThen,du _ _ a];simp [Instr.findKey,Instr.findNow,run_underlying a,c]
def vG (M:List (Int × α)) (x:Int) (v:α):(dM M x v).map A1=if (aA M x).isSome then M.map A1 else M.map A1++[x]:=by
 unfold dM
 split
 .rw [D5]
  apply H5;intro p _;show (if (p.1 == x)=true then (x,v) else p).1=p.1
  split
  .rename_i h;exact (by simpa using h:p.1=x).symm
  .rfl
 .simp
def eD {M:List (Int × α)}:aA M x=V↔x ∉ M.map A1:=by
 unfold aA;simp only [J3,List.find?_eq_none,List.mem_map,beq_iff_eq,not_exists,not_and]
def getElem?_modify' (l:List α) (j i:Nat) (f:α->α):(l.modify j f)[i]?=if j=i then l[i]?.map f else l[i]?:=by
 rw [J2]
 by_cases h:j=i
 .simp [h]
 .simp [h]
def gr {M:List (Int × α)} (h:(M.map A1).Nodup) (x:Int) (v:α):((dM M x v).map A1).Nodup:=by
 rw [vG]
 split
 .exact h
 .rename_i f
  have:aA M x=V:=by simpa using f
  rw [eD] at this;rw [D4];exact ⟨h,Si0,by intro a d b c;simp at c;subst c;exact fun e=>this (e▸d)⟩
def qm {M:KV} (n:(M.map A1).Nodup) {j:Nat} (c:M.findIdx? (fun p=>p.1 == x)=Z j) (v:Y):dM M x v=M.modify j fun _=>(x,v):=by
 have m:(aA M x).isSome=true:=by
  rw [look_eq,c];have k:=(List.findIdx?_eq_some_iff_findIdx_eq.1 c).1;simp [B3 k]
 unfold dM;rw [if_pos m];apply E4;intro i;rw [D8,getElem?_modify'];have l:=List.findIdx?_eq_some_iff_getElem.1 c;obtain ⟨d,e,r⟩:=l
 by_cases a:i<M.length
 .rw [B3 a]
  by_cases b:j=i
  .subst b
   simp only [D9,e,if_true]
  .have:(M[i].1 == x)=Y':=by
    rw [Bool.eq_false_iff];intro q;apply b;have f:M[i].1=x:=by simpa using q
    have h:M[j].1=x:=by simpa using e
    exact (E3 (l:=M.map A1) (by simpa using d) n).1 (by simp [B3 d,B3 a,f,h])
   simp only [D9,this,if_neg b,E2,if_false]
 .simp [K9 (Nat.le_of_not_lt a)]
def iW (U:P.underlying t=Z (.map T kt)) (D:P.underlying T=Z (.int k))
  {b:Nat} {o:Obj} {M:KV} (B:w.heap[b]?=Z o) (Q:IsMap o M) (x:Int) (v:Y) :
  ∃ f,(Instr.mapUpdate t (.map (Z b)) (X Z' x) v).run P w = .ok () { w with heap:=w.heap.setIfInBounds b f }/\IsMap f (dM M x v):=by
 obtain ⟨e,H,rfl,h,A,r,C⟩:=Q;have E:∀ f,(setObj b f).run P w = .ok () { w with heap:=w.heap.setIfInBounds b f }:=fun f=>by simp [setObj,Sem.run,B]
 simp only [Instr.mapUpdate,Sem.run_bind,run_underlying U,run_getObj_map B,Result.andThen,du _ _ D,eB D x h];have N:e.toList.length=M.length:=by have:=congrArg H9 h;simpa [raw] using this
 cases m:M.findIdx? (fun p=>p.1 == x) with
 | none=>
  refine ⟨_,by simp only [E1];exact E _,e.push _,_,rfl,?_,gr A x v,?_,?_⟩
  .have O:aA M x=V:=by rw [look_eq,m];rfl
   simp [dM,O,raw,h]
  .intro y hy
   simp only [H4,List.mem_append,List.mem_singleton] at hy;rcases hy with hy|rfl
   .have:=r y hy;omega
   .simp
  .simp only [H4,D3,D6,List.map_nil]
   rw [D4];refine ⟨C,Si0,?_⟩;intro a I c J;simp at J;obtain ⟨y,hy,rfl⟩:=List.mem_map.1 I;have:=r y hy;omega
 | some j=>
  have q:=(List.findIdx?_eq_some_iff_findIdx_eq.1 m).1;have K:=(List.findIdx?_eq_some_iff_getElem.1 m).2.1;have u:j<e.size:=by rw [<- J5,N];exact q
  have L:e[j].key = X Z' x:=by
   have:=congrArg (fun l=>l[j]?) h;simp only [raw,D8,H3,F0 u,B3 q,D9,Option.some.injEq,Prod.mk.injEq] at this;rw [this.1];have:M[j].1=x:=by simpa using K
   rw [this]
  have R:(Instr.keyThatStays (X Z' x) (X Z' x)).run P w = .ok (X Z' x) w:=by
   simp [Instr.keyThatStays,Instr.sameBits]
  refine ⟨_,by
   simp only [E1,B3 q,D9,F0 u,Option.getD_some,L,Sem.run_bind,R,Result.andThen];exact E _,e.modify j _,H,rfl,?_,gr A x v,?_,?_⟩
  .rw [qm A m]
   simp only [G3];apply E4;intro i;have d:=congrArg (fun l=>l[i]?) h;simp only [raw,D8] at d;simp only [D8,getElem?_modify',raw]
   by_cases n:j=i
   .subst n
    simp only [H3,F0 u,B3 q];simp
   .simp only [n,if_false]
    exact d
  .intro y hy
   rw [G3] at hy;obtain ⟨i,d⟩:=List.mem_iff_getElem?.1 hy;rw [getElem?_modify'] at d
   cases s:e.toList[i]? with
   | none=>rw [s] at d;simp at d
   | some z=>
    rw [s] at d;have G:=r z (List.mem_iff_getElem?.2 ⟨i,s⟩)
    split at d
    .simp only [D9,Option.some.injEq] at d
     subst d;exact G
    .simp only [Option.some.injEq] at d
     subst d;exact G
  .have:(e.modify j fun kt=>{ kt with key:=D7 Z' x,val:=v }).toList.map (·.born)=e.toList.map (·.born):=by
    rw [G3];apply E4;intro i;simp only [D8,getElem?_modify']
    cases e.toList[i]? with
    | none=>simp
    | some z=>by_cases n:j=i <;> simp [n]
   rw [this];exact C
def ah.qh {b:Nat} {M:KV} {F:ai} (h:ah w (mp b M*F)):∃ o,IsMap o M/\w.heap[b]?=Z o/\ah w (pt b o*F):=by
 obtain ⟨m,a,i,c,⟨o,e,rfl⟩,f,d,rfl⟩:=h;exact ⟨o,e,a b o (by simp [join,one]),_,a,one b o,c,rfl,f,d,rfl⟩
def ah.xw {b:Nat} {M:KV} {F:ai} {o:Obj} (h:ah w (pt b o*F)) (c:IsMap o M):ah w (mp b M*F):=h.ib fun _ a=>⟨o,c,a⟩
def ah.setObj {b:Nat} {o:Obj} {F:ai} (h:ah w (pt b o*F)) (a:Obj):ah { w with heap:=w.heap.setIfInBounds b a } (pt b a*F):=
 h.dM (by simp [h.lt]) fun c d=>by simp only [D2];rw [if_neg Om0]
def jm (w b:W):Prop:=(∀ a,b.cell? a=w.cell? a)/\∀ a,b.frozen? a=w.frozen? a
def gz {w:W} {b:Nat} {o k:Obj} {M l:KV} (e:w.heap[b]?=Z o) (n:IsMap o M) (p:IsMap k l):jm w { w with heap:=w.heap.setIfInBounds b k }:=by
 obtain ⟨r,q,rfl,_⟩:=n;obtain ⟨i,f,rfl,_⟩:=p;have m:b<w.heap.size:=(Array.getElem?_eq_some_iff.1 e).1
 have d:∀ c,(w.heap.setIfInBounds b (.map i f))[c]?=if b=c then Z (.map i f) else w.heap[c]?:=by
  intro c;rw [D2]
  by_cases j:b=c
  .subst j;simp [m]
  .simp [j]
 constructor <;> intro a <;> by_cases h:b=a.block
 .subst h;simp only [H8,e,d,if_true]
 .simp only [H8,d,if_neg h]
 .subst h;simp only [H2,e,d,if_true]
 .simp only [H2,d,if_neg h]
def la (w:W) (b:Nat) (o:Obj):ak w { w with heap:=w.heap.setIfInBounds b o }:=⟨rfl,rfl,rfl,Si0⟩
def ah.lookup {t a e:TypeId} {k:IntKind} (i:P.underlying t=Z (.map a e)) (d:P.underlying a=Z (.int k)) {z:Y} (j:(zeroValue e).run P w = .ok z w)
  {b:Nat} {M:KV} {F:ai} (h:ah w (mp b M*F)) (x:Int) (ok:Bool) :
  (Instr.lookup t (.map (Z b)) (X Z' x) ok).run P w = .ok (if ok then .tuple #[(aA M x).getD z,.bool (aA M x).isSome] else (aA M x).getD z) w:=by
 obtain ⟨o,f,c,_⟩:=h.qh;exact eU i d j c f x ok
def ah.mapUpdate {t i e:TypeId} {k:IntKind} (n:P.underlying t=Z (.map i e)) (j:P.underlying i=Z (.int k))
  {b:Nat} {M:KV} {F:ai} (h:ah w (mp b M*F)) (x:Int) (v:Y) :
  ∃ a,(Instr.mapUpdate t (.map (Z b)) (X Z' x) v).run P w = .ok () a/\ah a (mp b (SL.dM M x v)*F)/\ak w a/\jm w a:=by
 obtain ⟨o,d,c,l⟩:=h.qh;obtain ⟨p,m,f⟩:=iW n j c d x v;exact ⟨_,m,(l.setObj p).xw f,la _ _ _,gz c d f⟩
def C9 {b:Nat} {o:Obj} {M:KV} (c:w.heap[b]?=Z o) (f:IsMap o M) (h:P.underlying t=Z (.map T kt)) (i:TypeId) :
  (Builtin.len_ #[t] i #[.map (Z b)]).run P w = .ok (X Z' M.length) w:=by
 obtain ⟨a,j,rfl,d,_⟩:=f;have e:a.size=M.length:=by have:=congrArg H9 d;simpa [raw] using this
 simp [Builtin.len_,run_underlying h,run_getObj_map c,e,goInt]
def ah.Wb {b:Nat} {M:KV} {F:ai} (h:ah w (mp b M*F)) (f:P.underlying t=Z (.map T kt)) (i:TypeId) :
  (Builtin.len_ #[t] i #[.map (Z b)]).run P w = .ok (X Z' M.length) w:=by
 obtain ⟨o,⟨a,j,rfl,d,_⟩,c,_⟩:=h.qh;have e:a.size=M.length:=by have:=congrArg H9 d;simpa [raw] using this
 simp [Builtin.len_,run_underlying f,run_getObj_map c,e,goInt]
def del_eq {M:KV} (b:(M.map A1).Nodup) {j:Nat} (a:M.findIdx? (fun p=>p.1 == x)=Z j):del M x=M.eraseIdx j:=by
 induction M generalizing j with
 | nil=>simp at a
 | cons p M k=>
  rw [D0] at a
  by_cases h:(p.1 == x)=true
  .simp only [h,if_true,Option.some.injEq] at a
   subst a;have f:p.1=x:=by simpa using h
   unfold del;simp only [List.filter_cons,h,Bool.not_true,E2,if_false,List.eraseIdx_cons_zero];rw [K8];intro q d;simp only [D6,G0] at b;have:q.1≠x:=fun e=>b.1 (f▸e▸J4 d);simpa using this
  .simp only [h,E2,if_false,Option.map_eq_some_iff] at a
   obtain ⟨i,c,rfl⟩:=a;simp only [D6,G0] at b;have:=k b.2 c;unfold del at this ⊢;simp only [List.filter_cons,h,Bool.not_false,if_true,List.eraseIdx_cons_succ,this]
def CG {M:KV} (a:M.findIdx? (fun p=>p.1 == x)=V):del M x=M:=by
 unfold del;rw [K8];intro p b;have:=List.findIdx?_eq_none_iff.1 a p b;simpa using this
def xx (J:P.underlying t=Z (.map T kt)) (C:P.underlying T=Z (.int k)) (L u:TypeId)
  {b:Nat} {o:Obj} {M:KV} (v:w.heap[b]?=Z o) (I:IsMap o M) (x:Int) :
  ∃ d,(Builtin.delete_ #[t,u] L #[.map (Z b),X Z' x]).run P w = .ok (.tuple #[]) { w with heap:=w.heap.setIfInBounds b d }/\IsMap d (del M x):=by
 obtain ⟨c,r,rfl,e,m,A,z⟩:=I;have D:∀ d,(setObj b d).run P w = .ok () { w with heap:=w.heap.setIfInBounds b d }:=fun d=>by simp [setObj,Sem.run,v]
 have H:c.toList.length=M.length:=by have:=congrArg H9 e;simpa [raw] using this
 simp only [Builtin.delete_,Sem.run_bind,run_underlying J,run_getObj_map v,Result.andThen,du _ _ C,eB C x e,List.getElem?_toArray,List.getElem?_cons_zero,List.getElem?_cons_succ]
 cases h:M.findIdx? (fun p=>p.1 == x) with
 | none=>
  refine ⟨_,by simp only [E1,Sem.run_bind,D,Result.andThen,Sem.run_pure],c,r,rfl,?_,?_,A,z⟩
  .rw [CG h];exact e
  .rw [CG h];exact m
 | some j=>
  have B:=(List.findIdx?_eq_some_iff_findIdx_eq.1 h).1
  have n:(c.eraseIdxIfInBounds j).toList=c.toList.eraseIdx j:=by
   have G:j<c.size:=by rw [<- J5,H];exact B
   simp [Array.eraseIdxIfInBounds,G]
  refine ⟨_,by simp only [E1,B3 B,D9,Sem.run_bind,D,Result.andThen,Sem.run_pure],c.eraseIdxIfInBounds j,r,rfl,?_,?_,?_,?_⟩
  .rw [del_eq m h,n]
   unfold raw at e ⊢
   have s:∀ {q E:Type} (f:q->E) (l:List q) (i:Nat),(l.eraseIdx i).map f=(l.map f).eraseIdx i:=by
    intro q E f l
    induction l with
    | nil=>intro i;simp
    | cons a l K=>intro i;cases i with
     | zero=>rfl
     | succ i=>simp [K]
   rw [s,s,e]
  .exact m.sublist (List.filter_sublist.map _)
  .intro y hy
   rw [n] at hy;exact A y (List.mem_of_mem_eraseIdx hy)
  .rw [n]
   exact z.sublist ((List.eraseIdx_sublist _ _).map _)
def ah.delete (m:P.underlying t=Z (.map T kt)) (i:P.underlying T=Z (.int k)) (f u:TypeId)
  {b:Nat} {M:KV} {F:ai} (h:ah w (mp b M*F)) (x:Int) :
  ∃ a,(Builtin.delete_ #[t,u] f #[.map (Z b),X Z' x]).run P w = .ok (.tuple #[]) a/\ah a (mp b (del M x)*F)/\ak w a/\jm w a:=by
 obtain ⟨o,d,c,j⟩:=h.qh;obtain ⟨n,l,e⟩:=xx m i f u c d x;exact ⟨_,l,(j.setObj n).xw e,la _ _ _,gz c d e⟩
def Iter (b:Nat) (o:Obj) (M D:KV) (f:Obj):Prop:=∃ a c,∃ d:List MapEntry,o = .map a c/\a.toList.map (fun e=>(e.key,e.val))=raw M/\(M.map A1).Nodup /\
 (∀ x ∈ a.toList,x.born<c)/\(a.toList.map (·.born)).Nodup/\f = .mapIter (Z b) c (d.map (·.born)).toArray c /\
 (∀ x ∈ d,x ∈ a.toList)/\(d.map (·.born)).Nodup/\d.map (fun e=>(e.key,e.val))=raw D
def ju (l:P.underlying t=Z (.map T kt)) {b:Nat} {o:Obj} {M:KV} (e:w.heap[b]?=Z o) (j:IsMap o M) :
  ∃ c,(Instr.range t (.map (Z b))).run P w = .ok (.pointer (Z ⟨w.heap.size,0,V⟩)) (w.alloc c)/\Iter b o M [] c:=by
 obtain ⟨d,a,rfl,i,k,h,f⟩:=j;refine ⟨.mapIter (Z b) a #[] a,?_,d,a,[],rfl,i,k,h,f,rfl,Si0,H6,rfl⟩;simp [Instr.range,run_underlying l,run_getObj_map e]
def fh {b:Nat} {o:Obj} {M D:KV} {T:Obj} (h:Iter b o M D T):(D.map A1).Nodup/\(∀ p ∈ D,p ∈ M):=by
 obtain ⟨d,U,f,rfl,v,N,c0,b0,rfl,n,C,t⟩:=h
 have R:∀ p ∈ D,p ∈ M:=by
  intro p O;have r:(D7 Z' p.1,p.2) ∈ raw D:=List.mem_map.2 ⟨p,O,rfl⟩;rw [<- t] at r;obtain ⟨e,G,H⟩:=List.mem_map.1 r;have s:(e.key,e.val) ∈ raw M:=by rw [<- v];exact List.mem_map.2 ⟨e,n e G,rfl⟩
  rw [H] at s;obtain ⟨q,Q,m⟩:=List.mem_map.1 s;simp at m;have:q=p:=H1 m.1 m.2;exact this▸Q
 refine ⟨?_,R⟩
 have L:(d.toList.map (·.key)).Nodup:=by
  have y:d.toList.map (·.key)=(M.map A1).map (D7 Z'):=by
   have:=congrArg (H0 A1) v;simpa [raw,D5,Function.comp_def] using this
  rw [y];exact K7 _ (fun a b l e=>l (by simpa using e)) N
 have z:f.map (·.key)=(D.map A1).map (D7 Z'):=by
  have:=congrArg (H0 A1) t;simpa [raw,D5,Function.comp_def] using this
 have u:(f.map (·.key)).Nodup:=by
  have E:f.Nodup:=by
   have:f.Pairwise (fun a b=>a.born≠b.born):=List.pairwise_map.1 C;exact this.imp fun h e=>h (by rw [e])
  have I:∀ a ∈ d.toList,∀ c ∈ d.toList,a.key=c.key->a=c:=by
   intro a k c B K;obtain ⟨i,x,rfl⟩:=D1 k;obtain ⟨j,J,rfl⟩:=D1 B
   have:=(E3 (l:=d.toList.map (·.key)) (i:=i) (j:=j) (by simpa using x) L).1 (by
    simp only [D8,B3 x,B3 J,D9,K])
   subst this;rfl
  rw [K6,List.pairwise_map];exact E.imp_of_mem fun k A l e=>l (I _ (n _ k) _ (n _ A) e)
 rw [z] at u;exact (List.pairwise_map.1 u).imp (fun h e=>h (by rw [e]))
theorem ah.next {b r:Nat} {o it:Obj} {M D:KV} {F:ai} (h:ah w (pt r it*F)) (hb:w.heap[b]?=some o) (hi:Iter b o M D it) :
  (D.Perm M/\∀ ty,(Instr.next (.pointer (some ⟨r,0,none⟩)) false ty).run P w = .ok (.tuple #[.bool false]) w) \/
  ∃ p it' w',p ∈ M/\p.1 ∉ D.map A1/\(∀ ty,(Instr.next (.pointer (some ⟨r,0,none⟩)) false ty).run P w = .ok (.tuple #[.bool true,.int .i64 p.1,p.2]) w') /\
   ah w' (pt r it'*F)/\Iter b o M (D++[p]) it'/\ak w w'/\w'.heap[b]?=some o /\
   (Instr.entry (.pointer (some ⟨r,0,none⟩))).run P w' = .ok (.tuple #[.int .i64 p.1,p.2]) w':=by
 have hnd0:=fh hi;obtain ⟨es,clock,ds,rfl,hes,hnd,hborn,hbn,rfl,hsub,hdn,hD⟩:=hi;have hr:=h.heap;have hrb:r≠b:=by rintro rfl;rw [hr] at hb;cases hb
 rcases run_next_at (P:=P) w 0 r b clock clock _ es clock hr hb hborn (Nat.le_refl _) with ⟨hz,hrun⟩|⟨e,he,w1,hw1,hrun⟩
 .left
  refine ⟨?_,fun ty=>hrun⟩;have hMn:M.Nodup:=(List.pairwise_map.1 hnd).imp (fun h e=>h (by rw [e]));have hDn:D.Nodup:=(List.pairwise_map.1 hnd0.1).imp (fun h e=>h (by rw [e]));rw [K5 hDn hMn];intro p;refine ⟨hnd0.2 p,fun hp=>?_⟩;have h1:(D7 .i64 p.1,p.2) ∈ raw M:=List.mem_map.2 ⟨p,hp,rfl⟩;rw [<- hes] at h1;obtain ⟨e,he,hep⟩:=List.mem_map.1 h1;have hsz:leftOf es (ds.map (·.born)).toArray=#[]:=K4 hz
  have hin:e.born ∈ ds.map (·.born):=by
   apply Classical.byContradiction;intro hn
   have:e ∈ leftOf es (ds.map (·.born)).toArray:=by
    unfold leftOf;rw [Array.mem_filter];exact ⟨by simpa using he,by simpa using hn⟩
   rw [hsz] at this;simp at this
  obtain ⟨d,hd,hdb⟩:=List.mem_map.1 hin
  have hde:d=e:=by
   obtain ⟨i,hi,rfl⟩:=D1 (hsub d hd);obtain ⟨j,hj,rfl⟩:=D1 he
   have:=(E3 (l:=es.toList.map (·.born)) (i:=i) (j:=j) (by simpa using hi) hbn).1 (by
    simp only [D8,B3 hi,B3 hj,D9,hdb])
   subst this;rfl
  have h2:(D7 .i64 p.1,p.2) ∈ raw D:=by rw [<- hD,<- hep,<- hde];exact List.mem_map.2 ⟨d,hd,rfl⟩
  obtain ⟨q,hq,hqp⟩:=List.mem_map.1 h2;simp at hqp;have:q=p:=H1 hqp.1 hqp.2;exact this▸hq
 .right
  have he':e ∈ es.toList/\e.born ∉ ds.map (·.born):=by
   unfold leftOf at he;simpa using he
  have h1:(e.key,e.val) ∈ raw M:=by rw [<- hes];exact List.mem_map.2 ⟨e,he'.1,rfl⟩
  obtain ⟨p,hp,hpe⟩:=List.mem_map.1 h1;simp only [Prod.mk.injEq] at hpe
  have hS:ah (Go.ChangeMaps.setBlock w1 r (.mapIter (some b) clock (((ds.map (·.born)).toArray).push e.born) clock)) (pt r (.mapIter (some b) clock (((ds.map (·.born)).toArray).push e.born) clock)*F):=by
   refine h.dM ?_ fun c hc=>?_
   .rcases hw1 with rfl|rfl <;> simp [Go.ChangeMaps.setBlock,h.lt]
   .rcases hw1 with rfl|rfl <;> (simp only [Go.ChangeMaps.setBlock,D2,J7];rw [if_neg (by omega)])
  have hI:Iter b (.map es clock) M (D++[p]) (.mapIter (some b) clock (((ds.map (·.born)).toArray).push e.born) clock):=by
   refine ⟨es,clock,ds++[e],rfl,hes,hnd,hborn,hbn,by simp,?_,?_,?_⟩
   .intro x hx
    rcases List.mem_append.1 hx with hx|hx
    .exact hsub x hx
    .simp at hx;exact hx▸he'.1
   .rw [D3,D4]
    refine ⟨hdn,by simp,?_⟩;intro a ha c hc;simp at hc;exact fun e'=>he'.2 (hc▸e'▸ha)
   .rw [D3,hD]
    simp [raw,hpe.1,hpe.2]
  have hbb:(Go.ChangeMaps.setBlock w1 r (.mapIter (some b) clock (((ds.map (·.born)).toArray).push e.born) clock)).heap[b]?=some (.map es clock):=by
   rcases hw1 with rfl|rfl <;> (simp only [Go.ChangeMaps.setBlock,D2,J7];rw [if_neg (by omega)];exact hb)
  refine ⟨p,_,_,hp,?_,fun ty=>by rw [hpe.1,hpe.2];exact hrun,hS,hI,?_,hbb,?_⟩
  .have:=(fh hI).1
   rw [D3,D4] at this;intro hin;exact this.2.2 _ hin p.1 (by simp) rfl
  .rcases hw1 with rfl|rfl <;> exact ⟨rfl,rfl,rfl,by simp [Go.ChangeMaps.setBlock]⟩
  .rw [hpe.1,hpe.2]
   exact run_entry_at _ r b clock _ es clock e hS.heap hbb he'.1 hbn
def jg {t k e:TypeId} (a:P.underlying t=Z (.map k e)) (b:IntKind) (n:Int) (w:W):(Instr.makeMap t (Z (.int b n))).run P w = .ok (.map (Z w.heap.size)) (w.alloc (.map #[] 0)):=by
 simp [Instr.makeMap,run_underlying a,asInt,asIntOf]
def kC {l m:List Int} (h:l.Nodup) (c:∀ x ∈ l,x ∈ m):l.length<=m.length:=by
 induction l generalizing m with
 | nil=>simp
 | cons a l e=>
  rw [G0] at h;have b:=c a Si0;have:=e (m:=m.erase a) h.2 (fun x d=>(K3 (by rintro rfl;exact h.1 d)).2 (c x (by simp [d])));rw [K2 b] at this;have:=K1 b;simp;omega
def uS {b:Nat} {o:Obj} {M D:KV} {f:Obj} (h:Iter b o M D f):D.length<=M.length:=by
 obtain ⟨a,c⟩:=fh h;have:=kC (m:=M.map A1) a (fun x e=>by obtain ⟨p,d,rfl⟩:=List.mem_map.1 e;exact J4 (c p d));simpa using this
def XQ (w:W) (v:Y) (M:KV):Prop:=(v = .map V/\M=[])\/∃ b o,v = .map (Z b)/\w.heap[b]?=Z o/\IsMap o M
def QD {M:List (Int × α)} (h:x ∉ M.map A1) (v:α):SL.dM M x v=M++[(x,v)]:=by
 unfold SL.dM;rw [if_neg];rw [eD.2 h];simp
def oE {M D:List (Int × α)} (h:M.Perm D) (b:(M.map A1).Nodup) (x:Int):aA M x=aA D x:=by
 induction h with
 | nil=>rfl
 | cons p h d=>
  simp only [D6,G0] at b;have:=d b.2;unfold aA at this ⊢;simp only [E5]
  split
  .rfl
  .exact this
 | swap p q l=>
  simp only [D6,G0,List.mem_cons,not_or] at b;unfold aA;simp only [E5]
  by_cases a:(p.1 == x)=true <;> by_cases c:(q.1 == x)=true
  .exact absurd ((by simpa using c:q.1=x).trans (by simpa using a:p.1=x).symm) b.1.1
  .simp [a,c]
  .simp [a,c]
  .simp [a,c]
 | trans a c e f=>rw [e b,f ((a.map A1).nodup_iff.1 b)]
def NG {M D:List (Int × α)} (h:M.Perm D) (a:(M.map A1).Nodup) (x:Int) (v:α):(SL.dM M x v).Perm (SL.dM D x v):=by
 unfold SL.dM;rw [oE h a x]
 split
 .exact h.map _
 .exact h.append_right _
def gR (f:α->β) (M:List (Int × α)) (x:Int):aA (M.map fun p=>(p.1,f p.2)) x=(aA M x).map f:=by
 unfold aA;rw [List.find?_map];simp only [Function.comp_def,Option.map_map]
def sd (f:α->β) (M:List (Int × α)) (x:Int) (v:α):SL.dM (M.map fun p=>(p.1,f p.2)) x (f v)=(SL.dM M x v).map fun p=>(p.1,f p.2):=by
 unfold SL.dM;rw [gR];simp only [K0]
 split
 .rw [D5,D5]
  apply H5;intro p _;simp only [Function.comp_def]
  split <;> rfl
 .simp
def nH {M:List (Int × α)} {v:α} (h:aA M x=Z v):(x,v) ∈ M:=by
 unfold aA at h;obtain ⟨p,a,rfl⟩:=Option.map_eq_some_iff.1 h;have b:=List.mem_of_find?_eq_some a;have c:=List.find?_some a;have:p.1=x:=by simpa using c
 exact this▸b
def ri {M:List (Int × α)} {v:α} {p:Int × α} (h:p ∈ SL.dM M x v):p=(x,v)\/p ∈ M:=by
 unfold SL.dM at h
 split at h
 .obtain ⟨q,a,rfl⟩:=List.mem_map.1 h
  split
  .exact .inl rfl
  .exact .inr a
 .rcases List.mem_append.1 h with h|h
  .exact .inr h
  .exact .inl (by simpa using h)
def mU (M:List (Int × α)) (x y:Int) (v:α):aA (M.map fun p=>if p.1 == x then (x,v) else p) y=if y=x then (aA M x).map fun _=>v else aA M y:=by
 induction M with
 | nil=>simp [aA]
 | cons p M f=>
  have c:∀ (q:Int × α) (L:List (Int × α)) (z:Int),aA (q :: L) z=if q.1=z then Z q.2 else aA L z:=by
   intro q L z;unfold aA;simp only [E5]
   by_cases h:q.1=z
   .simp [h]
   .have:(q.1 == z)=Y':=by simpa using h
    simp [this,h]
  rw [D6,c,c,c,f]
  by_cases b:p.1=x
  .simp only [b,beq_self_eq_true,if_true]
   by_cases a:x=y
   .subst a;simp
   .have:¬ y=x:=fun e=>a e.symm
    simp [a,this]
  .have d:(p.1 == x)=Y':=by simpa using b
   simp only [d,E2,if_false,b]
   by_cases a:p.1=y
   .have:¬ y=x:=fun e=>b (a.trans e)
    simp [a,this]
   .simp [a]
def eM (M:List (Int × α)) (x y:Int) (v:α):aA (SL.dM M x v) y=if y=x then Z v else aA M y:=by
 unfold SL.dM
 split
 .rename_i a
  rw [mU]
  split
  .obtain ⟨z,e⟩:=Option.isSome_iff_exists.1 a
   rw [e];rfl
  .rfl
 .rename_i a
  have b:aA M x=V:=by simpa using a
  unfold aA at b ⊢;rw [List.find?_append]
  by_cases c:y=x
  .subst c
   have:List.find? (fun p=>p.1 == y) M=V:=by simpa using b
   simp [this]
  .have d:(x == y)=Y':=by simp;omega
   simp [d,c]
def Er (M:List (Int × α)) (x:Int) (v:α):(SL.dM M x v).length=if (aA M x).isSome then M.length else M.length+1:=by
 unfold SL.dM;split <;> simp
end
def al (S:Hp):ai:=fun h=>h=S
def Ext (S S':Hp):Prop:=∀ k x,S k=Z x->S' k=Z x
def Ext.refl (S:Hp):Ext S S:=fun _ _ h=>h
def Ext.trans {a b c:Hp} (h:Ext a b) (k:Ext b c):Ext a c:=fun i x d=>k i x (h i x d)
def wz (S:Hp) (g:Nat) (o:Obj):Ext S (join S (one g o)):=fun k x h=>by simp [join,h]
section
variable {w:W} {S S' F:ai} {g:Nat} {o:Obj}
def ah.GM {S:Hp} (h:ah w (al S*F)) (b:S g=Z o):w.heap[g]?=Z o:=by
 obtain ⟨m,a,rfl⟩:=h.left;exact a g o b
def ah.Ik {S:Hp} (h:ah w (al S*(pt g o*F))):ah w (al (join S (one g o))*F)/\join S (one g o) g=Z o:=by
 obtain ⟨m,a,b,k,rfl,⟨l,h4,rfl,f,c,rfl⟩,d,rfl⟩:=h;obtain ⟨i,j⟩:=gB.1 d;refine ⟨⟨join (join b (one g o)) h4,?_,join b (one g o),h4,rfl,f,eC.2 ⟨j,c⟩,rfl⟩,?_⟩
 .rw [join_assoc];exact a
 .rcases i g with e|e
  .simp [join,one,e]
  .simp [one] at e
def ah.zY (h:ah w F):ah w (al (fun _=>V)*F):=h.to (cy F).symm
end
def small (l:List UInt8):Prop:=l.length<=1000000
def qJ (T:TypeId) (S:Hp) (v:Y) (l:List UInt8):Prop:=small l/\((v = .slice V 0 0/\l=[]) \/
 ∃ g b a,v = .slice (Z ⟨g,0,V⟩) l.length b/\S g=Z (.cells a T (0,0))/\a.toList.take l.length=l.map u8)
def qJ.mono {S S':Hp} (h:qJ T S v l) (e:Ext S S'):qJ T S' v l:=by
 refine ⟨h.1,?_⟩;rcases h.2 with h|⟨g,a,b,c,d,f⟩
 .exact .inl h
 .exact .inr ⟨g,a,b,c,e _ _ d,f⟩
def wD {w:W} {g n:Nat} {b:Array Y} {c:Nat × Nat} (h:w.heap[g]?=Z (.cells b t c)):At w ⟨g,0,V⟩ (b.toList.take n):=by
 intro j u a;rw [Addr.add_lit,Nat.zero_add];rw [List.getElem?_take] at a
 split at a
 .simp only [H8,h];simpa using a
 .cases a
def qJ.rd {S:Hp} {w:W} {F:ai} (h:qJ T S v l) (s:ah w (al S*F)):Rd w v l:=by
 refine ⟨Si0,?_⟩;rcases h.2 with ⟨rfl,rfl⟩|⟨g,c,d,rfl,a,b⟩
 .exact .inl ⟨rfl,rfl⟩
 .exact .inr ⟨_,_,rfl,b▸wD (s.GM a)⟩
def ah.AS {w:W} {S:Hp} {F:ai} (h:ah w (al S*(bs T v l*F))) (b:small l) :
  ∃ S',Ext S S'/\qJ T S' v l/\ah w (al S'*F):=by
 rcases (h.to (aE _ _ _)).cH with ⟨rfl,e,_,a⟩|⟨g,c,d,rfl,k,h4,h5,f,a⟩
 .exact ⟨S,Ext.refl S,⟨b,.inl ⟨rfl,List.eq_nil_of_length_eq_zero e⟩⟩,a⟩
 .obtain ⟨i,j⟩:=(a.to (aE _ _ _)).Ik
  exact ⟨_,wz _ _ _,⟨b,.inr ⟨g,c,d,rfl,j,by simpa using f⟩⟩,i⟩
def nL (T:TypeId) (A:Int × List UInt8) (a:Y):ai:=fun h=>(A.1=0/\bs T a A.2 h)\/(A.1≠0/\a = .slice V 0 0/\h=fun _=>V)
def ah.BW {w:W} {F:ai} (h:ah w (nL t A dv*F)):∃ a k c,dv = .slice a k c:=by
 obtain ⟨m,_,e,f,p,_,_,_⟩:=h;rcases p with ⟨_,p⟩|⟨_,rfl,_⟩
 .rcases p with ⟨rfl,_⟩|⟨g,b,d,rfl,_⟩
  .exact ⟨_,_,_,rfl⟩
  .exact ⟨_,_,_,rfl⟩
 .exact ⟨_,_,_,rfl⟩
def ah.n9 {w:W} {F:ai} (h:ah w (nL t (0,l) dv*F)):ah w (bs t dv l*F):=
 h.ib fun _ a=>by rcases a with ⟨_,h⟩|⟨h,_⟩;exact h;exact absurd rfl h
def ah.tJ {w:W} {F:ai} (h:ah w (bs t dv l*F)):ah w (nL t (0,l) dv*F):=h.ib fun _ a=>.inl ⟨rfl,a⟩
def ah.xn {w:W} {F:ai} (h:ah w (nL t A dv*F)) (a:A.1≠0):dv = .slice V 0 0/\ah w F:=by
 refine ⟨?_,h.right⟩;obtain ⟨m,_,b,c,p,_,_,_⟩:=h;rcases p with ⟨e,_⟩|⟨_,e,_⟩
 .exact absurd e a
 .exact e
def ah.jH {w:W} {F:ai} (h:ah w F) (a:A.1≠0):ah w (nL t A (.slice V 0 0)*F):=
 (h.to (cy F).symm).ib fun _ b=>.inr ⟨a,rfl,b⟩
def ah.mI {w:W} {F:ai} (h:ah w (bs t dv l*F)):Rd w dv l:=ah.ny h
end Go.SL
namespace Go.SU
open RowKit
open SL (ai Hp one pt join ah ak star ar eV aE)
variable {α β:Type} {e kt t:TypeId} {k:IntKind} {z:Y} {x:Int}
abbrev KV:=List (Int × Y)
def aA (M:List (Int × α)) (x:Int):Option α:=(M.find? fun p=>p.1 == x).map H7
def dM (M:List (Int × α)) (x:Int) (v:α):List (Int × α):=if (aA M x).isSome then M.map (fun p=>if p.1 == x then (x,v) else p) else M++[(x,v)]
def raw (M:KV):List (Y × Y):=M.map fun p=>(X .u32 p.1,p.2)
def IsMap (o:Obj) (M:KV):Prop:=∃ a b,o = .map a b/\a.toList.map (fun e=>(e.key,e.val))=raw M/\(M.map A1).Nodup /\
 (∀ x ∈ a.toList,x.born<b)/\(a.toList.map (·.born)).Nodup
def mp (b:Nat) (M:KV):ai:=fun h=>∃ o,IsMap o M/\h=one b o
def isMap_empty:IsMap (.map #[] 0) []:=⟨#[],0,rfl,rfl,H6,Si0,Si0⟩
section
variable {P:Program} {w:W}
def nR (k:IntKind) (x:Int):∀ (a:List MapEntry) (M:KV) (i:Nat),a.map (fun e=>(e.key,e.val))=raw M ->
  Instr.findNow (.int k) (X .u32 x) a i=Z (((M.findIdx? fun p=>p.1 == x).bind fun j=>(M[j]?).map fun p=>(i+j,p.2))):=by
 intro a
 induction a with
 | nil=>intro M i h;cases M with
  | nil=>rfl
  | cons p M=>simp [raw] at h
 | cons e a l=>intro M i h;cases M with
  | nil=>simp [raw] at h
  | cons p M=>
   simp only [raw,D6,List.cons.injEq,Prod.mk.injEq] at h;obtain ⟨⟨b,hv⟩,c⟩:=h;have m:=l M (i+1) c;unfold Instr.findNow;rw [b]
   by_cases d:x=p.1
   .subst d
    simp [Instr.sameNow,D0,hv]
   .have:(p.1 == x)=Y':=by simp;omega
    have f:(x == p.1)=Y':=by simp;omega
    simp only [Instr.sameNow,if_true,f,m,D0,this]
    cases n:M.findIdx? (fun p=>p.1 == x) with
    | none=>simp
    | some j=>simp [Nat.add_assoc,Nat.add_comm 1 j]
def look_eq (M:KV) (x:Int):aA M x=(M.findIdx? fun p=>p.1 == x).bind fun j=>(M[j]?).map H7:=by
 unfold aA
 induction M with
 | nil=>rfl
 | cons p M b=>
  simp only [E5,D0]
  by_cases a:(p.1 == x)=true
  .simp [a]
  .simp only [Bool.not_eq_true] at a
   simp only [a,b]
   cases c:M.findIdx? (fun p=>p.1 == x) with
   | none=>simp
   | some j=>simp
def du (a:Bool) (n:Nat) (b:P.underlying t=Z (.int k)) (v:Y):(Instr.checkKey a (n+1) t v).run P w = .ok () w:=by
 unfold Instr.checkKey;simp [run_underlying b]
def eB (b:P.underlying t=Z (.int k)) (x:Int) {a:List MapEntry} {M:KV} (h:a.map (fun e=>(e.key,e.val))=raw M) :
  (Instr.findKey t (X .u32 x) a).run P w = .ok ((M.findIdx? fun p=>p.1 == x).bind fun j=>(M[j]?).map fun p=>(j,p.2)) w:=by
 unfold Instr.findKey;simp [run_underlying b,nR k x a M 0 h]
def run_getObj_map {b:Nat} {c:Array MapEntry} {a:Nat} (h:w.heap[b]?=Z (.map c a)):(getObj b).run P w = .ok (.map c a) w:=by
 simp [getObj,Sem.run,h]
def eU (l:P.underlying t=Z (.map kt e)) (a:P.underlying kt=Z (.int k)) (m:(zeroValue e).run P w = .ok z w)
  {b:Nat} {o:Obj} {M:KV} (c:w.heap[b]?=Z o) (i:IsMap o M) (x:Int) (ok:Bool) :
  (Instr.lookup t (.map (Z b)) (X .u32 x) ok).run P w = .ok (if ok then .tuple #[(aA M x).getD z,.bool (aA M x).isSome] else (aA M x).getD z) w:=by
 obtain ⟨q,n,rfl,d,r,_⟩:=i;simp only [Instr.lookup,Sem.run_bind,run_underlying l,run_getObj_map c,Sem.run_pure,Result.andThen,du _ _ a,eB a x d];rw [look_eq]
 cases f:M.findIdx? (fun p=>p.1 == x) with
 | none=>simp [m]
 | some j=>
  have h:j<M.length:=by
   have:=List.findIdx?_eq_some_iff_findIdx_eq.1 f;exact this.1
  simp [B3 h]
def vG (M:List (Int × α)) (x:Int) (v:α):(dM M x v).map A1=if (aA M x).isSome then M.map A1 else M.map A1++[x]:=by
 unfold dM
 split
 .rw [D5]
  apply H5;intro p _;show (if (p.1 == x)=true then (x,v) else p).1=p.1
  split
  .rename_i h;exact (by simpa using h:p.1=x).symm
  .rfl
 .simp
def eD {M:List (Int × α)}:aA M x=V↔x ∉ M.map A1:=by
 unfold aA;simp only [J3,List.find?_eq_none,List.mem_map,beq_iff_eq,not_exists,not_and]
def getElem?_modify' (l:List α) (j i:Nat) (f:α->α):(l.modify j f)[i]?=if j=i then l[i]?.map f else l[i]?:=by
 rw [J2]
 by_cases h:j=i
 .simp [h]
 .simp [h]
def gr {M:List (Int × α)} (h:(M.map A1).Nodup) (x:Int) (v:α):((dM M x v).map A1).Nodup:=by
 rw [vG]
 split
 .exact h
 .rename_i f
  have:aA M x=V:=by simpa using f
  rw [eD] at this;rw [D4];exact ⟨h,Si0,by intro a d b c;simp at c;subst c;exact fun e=>this (e▸d)⟩
def qm {M:KV} (n:(M.map A1).Nodup) {j:Nat} (c:M.findIdx? (fun p=>p.1 == x)=Z j) (v:Y):dM M x v=M.modify j fun _=>(x,v):=by
 have m:(aA M x).isSome=true:=by
  rw [look_eq,c];have k:=(List.findIdx?_eq_some_iff_findIdx_eq.1 c).1;simp [B3 k]
 unfold dM;rw [if_pos m];apply E4;intro i;rw [D8,getElem?_modify'];have l:=List.findIdx?_eq_some_iff_getElem.1 c;obtain ⟨d,e,r⟩:=l
 by_cases a:i<M.length
 .rw [B3 a]
  by_cases b:j=i
  .subst b
   simp only [D9,e,if_true]
  .have:(M[i].1 == x)=Y':=by
    rw [Bool.eq_false_iff];intro q;apply b;have f:M[i].1=x:=by simpa using q
    have h:M[j].1=x:=by simpa using e
    exact (E3 (l:=M.map A1) (by simpa using d) n).1 (by simp [B3 d,B3 a,f,h])
   simp only [D9,this,if_neg b,E2,if_false]
 .simp [K9 (Nat.le_of_not_lt a)]
def iW (U:P.underlying t=Z (.map kt e)) (E:P.underlying kt=Z (.int k))
  {b:Nat} {o:Obj} {M:KV} (C:w.heap[b]?=Z o) (R:IsMap o M) (x:Int) (v:Y) :
  ∃ h,(Instr.mapUpdate t (.map (Z b)) (X .u32 x) v).run P w = .ok () { w with heap:=w.heap.setIfInBounds b h }/\IsMap h (dM M x v):=by
 obtain ⟨f,I,rfl,m,B,s,D⟩:=R;have G:∀ h,(setObj b h).run P w = .ok () { w with heap:=w.heap.setIfInBounds b h }:=fun h=>by simp [setObj,Sem.run,C]
 simp only [Instr.mapUpdate,Sem.run_bind,run_underlying U,run_getObj_map C,Result.andThen,du _ _ E,eB E x m];have O:f.toList.length=M.length:=by have:=congrArg H9 m;simpa [raw] using this
 cases n:M.findIdx? (fun p=>p.1 == x) with
 | none=>
  refine ⟨_,by simp only [E1];exact G _,f.push _,_,rfl,?_,gr B x v,?_,?_⟩
  .have Q:aA M x=V:=by rw [look_eq,n];rfl
   simp [dM,Q,raw,m]
  .intro y hy
   simp only [H4,List.mem_append,List.mem_singleton] at hy;rcases hy with hy|rfl
   .have:=s y hy;omega
   .simp
  .simp only [H4,D3,D6,List.map_nil]
   rw [D4];refine ⟨D,Si0,?_⟩;intro a J c K;simp at K;obtain ⟨y,hy,rfl⟩:=List.mem_map.1 J;have:=s y hy;omega
 | some j=>
  have r:=(List.findIdx?_eq_some_iff_findIdx_eq.1 n).1;have L:=(List.findIdx?_eq_some_iff_getElem.1 n).2.1;have A:j<f.size:=by rw [<- J5,O];exact r
  have N:f[j].key = X .u32 x:=by
   have:=congrArg (fun l=>l[j]?) m;simp only [raw,D8,H3,F0 A,B3 r,D9,Option.some.injEq,Prod.mk.injEq] at this;rw [this.1];have:M[j].1=x:=by simpa using L
   rw [this]
  have T:(Instr.keyThatStays (X .u32 x) (X .u32 x)).run P w = .ok (X .u32 x) w:=by
   simp [Instr.keyThatStays,Instr.sameBits]
  refine ⟨_,by
   simp only [E1,B3 r,D9,F0 A,Option.getD_some,N,Sem.run_bind,T,Result.andThen];exact G _,f.modify j _,I,rfl,?_,gr B x v,?_,?_⟩
  .rw [qm B n]
   simp only [G3];apply E4;intro i;have d:=congrArg (fun l=>l[i]?) m;simp only [raw,D8] at d;simp only [D8,getElem?_modify',raw]
   by_cases q:j=i
   .subst q
    simp only [H3,F0 A,B3 r];simp
   .simp only [q,if_false]
    exact d
  .intro y hy
   rw [G3] at hy;obtain ⟨i,d⟩:=List.mem_iff_getElem?.1 hy;rw [getElem?_modify'] at d
   cases u:f.toList[i]? with
   | none=>rw [u] at d;simp at d
   | some z=>
    rw [u] at d;have H:=s z (List.mem_iff_getElem?.2 ⟨i,u⟩)
    split at d
    .simp only [D9,Option.some.injEq] at d
     subst d;exact H
    .simp only [Option.some.injEq] at d
     subst d;exact H
  .have:(f.modify j fun e=>{ e with key:=D7 .u32 x,val:=v }).toList.map (·.born)=f.toList.map (·.born):=by
    rw [G3];apply E4;intro i;simp only [D8,getElem?_modify']
    cases f.toList[i]? with
    | none=>simp
    | some z=>by_cases q:j=i <;> simp [q]
   rw [this];exact D
def _root_.Go.SL.ah.zI {b:Nat} {M:KV} {F:ai} (h:ah w (mp b M*F)):∃ o,IsMap o M/\w.heap[b]?=Z o/\ah w (pt b o*F):=by
 obtain ⟨m,a,i,c,⟨o,e,rfl⟩,f,d,rfl⟩:=h;exact ⟨o,e,a b o (by simp [join,one]),_,a,one b o,c,rfl,f,d,rfl⟩
def _root_.Go.SL.ah.G4 {b:Nat} {M:KV} {F:ai} {o:Obj} (h:ah w (pt b o*F)) (c:IsMap o M):ah w (mp b M*F):=h.ib fun _ a=>⟨o,c,a⟩
def _root_.Go.SL.ah.Qr {b:Nat} {o:Obj} {F:ai} (h:ah w (pt b o*F)) (a:Obj):ah { w with heap:=w.heap.setIfInBounds b a } (pt b a*F):=
 h.dM (by simp [h.lt]) fun c d=>by simp only [D2];rw [if_neg Om0]
def jm (w b:W):Prop:=(∀ a,b.cell? a=w.cell? a)/\∀ a,b.frozen? a=w.frozen? a
def gz {w:W} {b:Nat} {o k:Obj} {M l:KV} (e:w.heap[b]?=Z o) (n:IsMap o M) (p:IsMap k l):jm w { w with heap:=w.heap.setIfInBounds b k }:=by
 obtain ⟨r,q,rfl,_⟩:=n;obtain ⟨i,f,rfl,_⟩:=p;have m:b<w.heap.size:=(Array.getElem?_eq_some_iff.1 e).1
 have d:∀ c,(w.heap.setIfInBounds b (.map i f))[c]?=if b=c then Z (.map i f) else w.heap[c]?:=by
  intro c;rw [D2]
  by_cases j:b=c
  .subst j;simp [m]
  .simp [j]
 constructor <;> intro a <;> by_cases h:b=a.block
 .subst h;simp only [H8,e,d,if_true]
 .simp only [H8,d,if_neg h]
 .subst h;simp only [H2,e,d,if_true]
 .simp only [H2,d,if_neg h]
def la (w:W) (b:Nat) (o:Obj):ak w { w with heap:=w.heap.setIfInBounds b o }:=⟨rfl,rfl,rfl,Si0⟩
def _root_.Go.SL.ah.Am (f:P.underlying t=Z (.map kt e)) (c:P.underlying kt=Z (.int k)) (i:(zeroValue e).run P w = .ok z w)
  {b:Nat} {M:KV} {F:ai} (h:ah w (mp b M*F)) (x:Int) (ok:Bool) :
  (Instr.lookup t (.map (Z b)) (X .u32 x) ok).run P w = .ok (if ok then .tuple #[(aA M x).getD z,.bool (aA M x).isSome] else (aA M x).getD z) w:=by
 obtain ⟨o,d,a,_⟩:=h.zI;exact eU f c i a d x ok
def _root_.Go.SL.ah.ve (m:P.underlying t=Z (.map kt e)) (i:P.underlying kt=Z (.int k))
  {b:Nat} {M:KV} {F:ai} (h:ah w (mp b M*F)) (x:Int) (v:Y) :
  ∃ a,(Instr.mapUpdate t (.map (Z b)) (X .u32 x) v).run P w = .ok () a/\ah a (mp b (SU.dM M x v)*F)/\ak w a/\jm w a:=by
 obtain ⟨o,d,c,j⟩:=h.zI;obtain ⟨n,l,f⟩:=iW m i c d x v;exact ⟨_,l,(j.Qr n).G4 f,la _ _ _,gz c d f⟩
def Iter (b:Nat) (o:Obj) (M D:KV) (f:Obj):Prop:=∃ a c,∃ d:List MapEntry,o = .map a c/\a.toList.map (fun e=>(e.key,e.val))=raw M/\(M.map A1).Nodup /\
 (∀ x ∈ a.toList,x.born<c)/\(a.toList.map (·.born)).Nodup/\f = .mapIter (Z b) c (d.map (·.born)).toArray c /\
 (∀ x ∈ d,x ∈ a.toList)/\(d.map (·.born)).Nodup/\d.map (fun e=>(e.key,e.val))=raw D
def ju (m:P.underlying t=Z (.map kt e)) {b:Nat} {o:Obj} {M:KV} (f:w.heap[b]?=Z o) (k:IsMap o M) :
  ∃ c,(Instr.range t (.map (Z b))).run P w = .ok (.pointer (Z ⟨w.heap.size,0,V⟩)) (w.alloc c)/\Iter b o M [] c:=by
 obtain ⟨d,a,rfl,j,l,i,h⟩:=k;refine ⟨.mapIter (Z b) a #[] a,?_,d,a,[],rfl,j,l,i,h,rfl,Si0,H6,rfl⟩;simp [Instr.range,run_underlying m,run_getObj_map f]
def fh {b:Nat} {o:Obj} {M D:KV} {T:Obj} (h:Iter b o M D T):(D.map A1).Nodup/\(∀ p ∈ D,p ∈ M):=by
 obtain ⟨d,U,f,rfl,v,N,c0,b0,rfl,n,C,t⟩:=h
 have R:∀ p ∈ D,p ∈ M:=by
  intro p O;have r:(D7 .u32 p.1,p.2) ∈ raw D:=List.mem_map.2 ⟨p,O,rfl⟩;rw [<- t] at r;obtain ⟨e,G,H⟩:=List.mem_map.1 r;have s:(e.key,e.val) ∈ raw M:=by rw [<- v];exact List.mem_map.2 ⟨e,n e G,rfl⟩
  rw [H] at s;obtain ⟨q,Q,m⟩:=List.mem_map.1 s;simp at m;have:q=p:=H1 m.1 m.2;exact this▸Q
 refine ⟨?_,R⟩
 have L:(d.toList.map (·.key)).Nodup:=by
  have y:d.toList.map (·.key)=(M.map A1).map (D7 .u32):=by
   have:=congrArg (H0 A1) v;simpa [raw,D5,Function.comp_def] using this
  rw [y];exact K7 _ (fun a b l e=>l (by simpa using e)) N
 have z:f.map (·.key)=(D.map A1).map (D7 .u32):=by
  have:=congrArg (H0 A1) t;simpa [raw,D5,Function.comp_def] using this
 have u:(f.map (·.key)).Nodup:=by
  have E:f.Nodup:=by
   have:f.Pairwise (fun a b=>a.born≠b.born):=List.pairwise_map.1 C;exact this.imp fun h e=>h (by rw [e])
  have I:∀ a ∈ d.toList,∀ c ∈ d.toList,a.key=c.key->a=c:=by
   intro a k c B K;obtain ⟨i,x,rfl⟩:=D1 k;obtain ⟨j,J,rfl⟩:=D1 B
   have:=(E3 (l:=d.toList.map (·.key)) (i:=i) (j:=j) (by simpa using x) L).1 (by
    simp only [D8,B3 x,B3 J,D9,K])
   subst this;rfl
  rw [K6,List.pairwise_map];exact E.imp_of_mem fun k A l e=>l (I _ (n _ k) _ (n _ A) e)
 rw [z] at u;exact (List.pairwise_map.1 u).imp (fun h e=>h (by rw [e]))
theorem _root_.Go.SL.ah.WA {b r:Nat} {o it:Obj} {M D:KV} {F:ai} (h:ah w (pt r it*F)) (hb:w.heap[b]?=some o) (hi:Iter b o M D it) :
  (D.Perm M/\∀ ty,(Instr.next (.pointer (some ⟨r,0,none⟩)) false ty).run P w = .ok (.tuple #[.bool false]) w) \/
  ∃ p it' w',p ∈ M/\p.1 ∉ D.map A1/\(∀ ty,(Instr.next (.pointer (some ⟨r,0,none⟩)) false ty).run P w = .ok (.tuple #[.bool true,.int .u32 p.1,p.2]) w') /\
   ah w' (pt r it'*F)/\Iter b o M (D++[p]) it'/\ak w w'/\w'.heap[b]?=some o /\
   (Instr.entry (.pointer (some ⟨r,0,none⟩))).run P w' = .ok (.tuple #[.int .u32 p.1,p.2]) w':=by
 have hnd0:=fh hi;obtain ⟨es,clock,ds,rfl,hes,hnd,hborn,hbn,rfl,hsub,hdn,hD⟩:=hi;have hr:=h.heap;have hrb:r≠b:=by rintro rfl;rw [hr] at hb;cases hb
 rcases run_next_at (P:=P) w 0 r b clock clock _ es clock hr hb hborn (Nat.le_refl _) with ⟨hz,hrun⟩|⟨e,he,w1,hw1,hrun⟩
 .left
  refine ⟨?_,fun ty=>hrun⟩;have hMn:M.Nodup:=(List.pairwise_map.1 hnd).imp (fun h e=>h (by rw [e]));have hDn:D.Nodup:=(List.pairwise_map.1 hnd0.1).imp (fun h e=>h (by rw [e]));rw [K5 hDn hMn];intro p;refine ⟨hnd0.2 p,fun hp=>?_⟩;have h1:(D7 .u32 p.1,p.2) ∈ raw M:=List.mem_map.2 ⟨p,hp,rfl⟩;rw [<- hes] at h1;obtain ⟨e,he,hep⟩:=List.mem_map.1 h1;have hsz:leftOf es (ds.map (·.born)).toArray=#[]:=K4 hz
  have hin:e.born ∈ ds.map (·.born):=by
   apply Classical.byContradiction;intro hn
   have:e ∈ leftOf es (ds.map (·.born)).toArray:=by
    unfold leftOf;rw [Array.mem_filter];exact ⟨by simpa using he,by simpa using hn⟩
   rw [hsz] at this;simp at this
  obtain ⟨d,hd,hdb⟩:=List.mem_map.1 hin
  have hde:d=e:=by
   obtain ⟨i,hi,rfl⟩:=D1 (hsub d hd);obtain ⟨j,hj,rfl⟩:=D1 he
   have:=(E3 (l:=es.toList.map (·.born)) (i:=i) (j:=j) (by simpa using hi) hbn).1 (by
    simp only [D8,B3 hi,B3 hj,D9,hdb])
   subst this;rfl
  have h2:(D7 .u32 p.1,p.2) ∈ raw D:=by rw [<- hD,<- hep,<- hde];exact List.mem_map.2 ⟨d,hd,rfl⟩
  obtain ⟨q,hq,hqp⟩:=List.mem_map.1 h2;simp at hqp;have:q=p:=H1 hqp.1 hqp.2;exact this▸hq
 .right
  have he':e ∈ es.toList/\e.born ∉ ds.map (·.born):=by
   unfold leftOf at he;simpa using he
  have h1:(e.key,e.val) ∈ raw M:=by rw [<- hes];exact List.mem_map.2 ⟨e,he'.1,rfl⟩
  obtain ⟨p,hp,hpe⟩:=List.mem_map.1 h1;simp only [Prod.mk.injEq] at hpe
  have hS:ah (Go.ChangeMaps.setBlock w1 r (.mapIter (some b) clock (((ds.map (·.born)).toArray).push e.born) clock)) (pt r (.mapIter (some b) clock (((ds.map (·.born)).toArray).push e.born) clock)*F):=by
   refine h.dM ?_ fun c hc=>?_
   .rcases hw1 with rfl|rfl <;> simp [Go.ChangeMaps.setBlock,h.lt]
   .rcases hw1 with rfl|rfl <;> (simp only [Go.ChangeMaps.setBlock,D2,J7];rw [if_neg (by omega)])
  have hI:Iter b (.map es clock) M (D++[p]) (.mapIter (some b) clock (((ds.map (·.born)).toArray).push e.born) clock):=by
   refine ⟨es,clock,ds++[e],rfl,hes,hnd,hborn,hbn,by simp,?_,?_,?_⟩
   .intro x hx
    rcases List.mem_append.1 hx with hx|hx
    .exact hsub x hx
    .simp at hx;exact hx▸he'.1
   .rw [D3,D4]
    refine ⟨hdn,by simp,?_⟩;intro a ha c hc;simp at hc;exact fun e'=>he'.2 (hc▸e'▸ha)
   .rw [D3,hD]
    simp [raw,hpe.1,hpe.2]
  have hbb:(Go.ChangeMaps.setBlock w1 r (.mapIter (some b) clock (((ds.map (·.born)).toArray).push e.born) clock)).heap[b]?=some (.map es clock):=by
   rcases hw1 with rfl|rfl <;> (simp only [Go.ChangeMaps.setBlock,D2,J7];rw [if_neg (by omega)];exact hb)
  refine ⟨p,_,_,hp,?_,fun ty=>by rw [hpe.1,hpe.2];exact hrun,hS,hI,?_,hbb,?_⟩
  .have:=(fh hI).1
   rw [D3,D4] at this;intro hin;exact this.2.2 _ hin p.1 (by simp) rfl
  .rcases hw1 with rfl|rfl <;> exact ⟨rfl,rfl,rfl,by simp [Go.ChangeMaps.setBlock]⟩
  .rw [hpe.1,hpe.2]
   exact run_entry_at _ r b clock _ es clock e hS.heap hbb he'.1 hbn
def kC {l m:List Int} (h:l.Nodup) (c:∀ x ∈ l,x ∈ m):l.length<=m.length:=by
 induction l generalizing m with
 | nil=>simp
 | cons a l e=>
  rw [G0] at h;have b:=c a Si0;have:=e (m:=m.erase a) h.2 (fun x d=>(K3 (by rintro rfl;exact h.1 d)).2 (c x (by simp [d])));rw [K2 b] at this;have:=K1 b;simp;omega
def uS {b:Nat} {o:Obj} {M D:KV} {f:Obj} (h:Iter b o M D f):D.length<=M.length:=by
 obtain ⟨a,c⟩:=fh h;have:=kC (m:=M.map A1) a (fun x e=>by obtain ⟨p,d,rfl⟩:=List.mem_map.1 e;exact J4 (c p d));simpa using this
def gR (f:α->β) (M:List (Int × α)) (x:Int):aA (M.map fun p=>(p.1,f p.2)) x=(aA M x).map f:=by
 unfold aA;rw [List.find?_map];simp only [Function.comp_def,Option.map_map]
def sd (f:α->β) (M:List (Int × α)) (x:Int) (v:α):SU.dM (M.map fun p=>(p.1,f p.2)) x (f v)=(SU.dM M x v).map fun p=>(p.1,f p.2):=by
 unfold SU.dM;rw [gR];simp only [K0]
 split
 .rw [D5,D5]
  apply H5;intro p _;simp only [Function.comp_def]
  split <;> rfl
 .simp
def ri {M:List (Int × α)} {v:α} {p:Int × α} (h:p ∈ SU.dM M x v):p=(x,v)\/p ∈ M:=by
 unfold SU.dM at h
 split at h
 .obtain ⟨q,a,rfl⟩:=List.mem_map.1 h
  split
  .exact .inl rfl
  .exact .inr a
 .rcases List.mem_append.1 h with h|h
  .exact .inr h
  .exact .inl (by simpa using h)
def mU (M:List (Int × α)) (x y:Int) (v:α):aA (M.map fun p=>if p.1 == x then (x,v) else p) y=if y=x then (aA M x).map fun _=>v else aA M y:=by
 induction M with
 | nil=>simp [aA]
 | cons p M f=>
  have c:∀ (q:Int × α) (L:List (Int × α)) (z:Int),aA (q :: L) z=if q.1=z then Z q.2 else aA L z:=by
   intro q L z;unfold aA;simp only [E5]
   by_cases h:q.1=z
   .simp [h]
   .have:(q.1 == z)=Y':=by simpa using h
    simp [this,h]
  rw [D6,c,c,c,f]
  by_cases b:p.1=x
  .simp only [b,beq_self_eq_true,if_true]
   by_cases a:x=y
   .subst a;simp
   .have:¬ y=x:=fun e=>a e.symm
    simp [a,this]
  .have d:(p.1 == x)=Y':=by simpa using b
   simp only [d,E2,if_false,b]
   by_cases a:p.1=y
   .have:¬ y=x:=fun e=>b (a.trans e)
    simp [a,this]
   .simp [a]
def eM (M:List (Int × α)) (x y:Int) (v:α):aA (SU.dM M x v) y=if y=x then Z v else aA M y:=by
 unfold SU.dM
 split
 .rename_i a
  rw [mU]
  split
  .obtain ⟨z,e⟩:=Option.isSome_iff_exists.1 a
   rw [e];rfl
  .rfl
 .rename_i a
  have b:aA M x=V:=by simpa using a
  unfold aA at b ⊢;rw [List.find?_append]
  by_cases c:y=x
  .subst c
   have:List.find? (fun p=>p.1 == y) M=V:=by simpa using b
   simp [this]
  .have d:(x == y)=Y':=by simp;omega
   simp [d,c]
end
end Go.SU
