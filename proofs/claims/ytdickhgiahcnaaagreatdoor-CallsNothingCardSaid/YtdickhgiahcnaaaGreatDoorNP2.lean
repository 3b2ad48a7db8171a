/- Steps. -/
import Derived.Test.YtdickhgiahcnaaaGreatDoorNP1
import Derived.Maps.RangeRun
set_option linter.all false
set_option maxRecDepth 99999
set_option maxHeartbeats 0
open Go.SL
open Go.Value renaming int->W
open Go.IntKind renaming i64->Z'
open Go renaming World->X,Value->Y
open Option renaming some->Z,none->Y'
open Prod renaming fst->A3
open List renaming getElem?_eq_getElem->A2,map_cons->B3,getElem?_map->B2,map_map->D9,nodup_cons->D8,findIdx?_cons->D7,find?_cons->D6,nodup_append->D5,length->D3,map_append->D1,getElem_of_mem->E5,ext_getElem?->E2,getElem?_inj->E1,map_congr_left->H9,getElem?_modify->H8,filter_eq_self->H5,mem_map_of_mem->H4
open Option renaming map_some->A1,bind->D2
open Go.Value renaming int->B1
open Bool renaming false_eq_true->D4
open Array renaming getElem?_setIfInBounds->D0,getElem?_eq_getElem->F0,toList_modify->G3,length_toList->H7,getElem?_toList->H6
open Go.World renaming cell?->G0
namespace Go.SL
open RowKit
variable {α β:Type} {T kt t:TypeId} {k:IntKind} {dv v:Y} {x:Int} {l:List UInt8} {A:Int × List UInt8}
abbrev KV:=List (Int × Y)
def aM (M:List (Int × α)) (x:Int):Option α:=(M.find? fun p=>p.1 == x).map Prod.snd
def fC (M:List (Int × α)) (x:Int) (v:α):List (Int × α):=if (aM M x).isSome then M.map (fun p=>if p.1 == x then (x,v) else p) else M++[(x,v)]
def del (M:List (Int × α)) (x:Int):List (Int × α):=M.filter fun p => !(p.1 == x)
def raw (M:KV):List (Y × Y):=M.map fun p=>(W Z' p.1,p.2)
def IsMap (o:Obj) (M:KV):Prop:=∃ a b,o = .map a b/\a.toList.map (fun e=>(e.key,e.val))=raw M/\(M.map A3).Nodup /\
 (∀ x ∈ a.toList,x.born<b)/\(a.toList.map (·.born)).Nodup
def mp (b:Nat) (M:KV):ai:=fun h=>∃ o,IsMap o M/\h=one b o
def isMap_empty:IsMap (.map #[] 0) []:=⟨#[],0,rfl,rfl,List.nodup_nil,Si0,Si0⟩
section
variable {P:Program} {w:X}
def Bi (k:IntKind) (x:Int):∀ (a:List MapEntry) (M:KV) (i:Nat),a.map (fun e=>(e.key,e.val))=raw M ->
  Instr.findNow (.int k) (W Z' x) a i=Z (((M.findIdx? fun p=>p.1 == x).bind fun j=>(M[j]?).map fun p=>(i+j,p.2))):=by
 intro a
 induction a with
 | nil=>intro M i h;cases M with
  | nil=>rfl
  | cons p M=>simp [raw] at h
 | cons e a l=>intro M i h;cases M with
  | nil=>simp [raw] at h
  | cons p M=>
   simp only [raw,B3,List.cons.injEq,Prod.mk.injEq] at h;obtain ⟨⟨b,hv⟩,c⟩:=h;have m:=l M (i+1) c;unfold Instr.findNow;rw [b]
   by_cases d:x=p.1
   .subst d
    simp [Instr.sameNow,D7,hv]
   .have:(p.1 == x)=false:=by simp;omega
    have f:(x == p.1)=false:=by simp;omega
    simp only [Instr.sameNow,if_true,f,m,D7,this]
    cases n:M.findIdx? (fun p=>p.1 == x) with
    | none=>simp
    | some j=>simp [Nat.add_assoc,Nat.add_comm 1 j]
def look_eq (M:KV) (x:Int):aM M x=(M.findIdx? fun p=>p.1 == x).bind fun j=>(M[j]?).map Prod.snd:=by
 unfold aM
 induction M with
 | nil=>rfl
 | cons p M b=>
  simp only [D6,D7]
  by_cases a:(p.1 == x)=true
  .simp [a]
  .simp only [Bool.not_eq_true] at a
   simp only [a,b]
   cases c:M.findIdx? (fun p=>p.1 == x) with
   | none=>simp
   | some j=>simp
def gu (a:Bool) (n:Nat) (b:P.underlying t=Z (.int k)) (v:Y):(Instr.checkKey a (n+1) t v).run P w = .ok () w:=by
 unfold Instr.checkKey;simp [run_underlying b]
def jy (b:P.underlying t=Z (.int k)) (x:Int) {a:List MapEntry} {M:KV} (h:a.map (fun e=>(e.key,e.val))=raw M) :
  (Instr.findKey t (W Z' x) a).run P w = .ok ((M.findIdx? fun p=>p.1 == x).bind fun j=>(M[j]?).map fun p=>(j,p.2)) w:=by
 unfold Instr.findKey;simp [run_underlying b,Bi k x a M 0 h]
def run_getObj_map {b:Nat} {c:Array MapEntry} {a:Nat} (h:w.heap[b]?=Z (.map c a)):(getObj b).run P w = .ok (.map c a) w:=by
 simp [getObj,Sem.run,h]
def iC (i:P.underlying t=Z (.map T kt)) (a:P.underlying T=Z (.int k)) {z:Y} (l:(zeroValue kt).run P w = .ok z w)
  {b:Nat} {o:Obj} {M:KV} (c:w.heap[b]?=Z o) (h:IsMap o M) (x:Int) (ok:Bool) :
  (Instr.lookup t (.map (Z b)) (W Z' x) ok).run P w = .ok (if ok then .tuple #[(aM M x).getD z,.bool (aM M x).isSome] else (aM M x).getD z) w:=by
 obtain ⟨n,m,rfl,d,q,_⟩:=h;simp only [Instr.lookup,Sem.run_bind,run_underlying i,run_getObj_map c,Sem.run_pure,Result.andThen,gu _ _ a,jy a x d];rw [look_eq]
 cases e:M.findIdx? (fun p=>p.1 == x) with
 | none=>simp [l]
 | some j=>
  have f:j<M.length:=by
   have:=List.findIdx?_eq_some_iff_findIdx_eq.1 e;exact this.1
  simp [A2 f]
def kh (b:P.underlying t=Z (.map T kt)) (a:P.underlying T=Z (.int k)) (c:(zeroValue kt).run P w = .ok dv w)
  (x:Int) (ok:Bool) :
  (Instr.lookup t (.map Y') (W Z' x) ok).run P w = .ok (if ok then .tuple #[dv,.bool false] else dv) w:=by
 simp only [Instr.lookup,Sem.run_bind,run_underlying b,Sem.run_pure,Result.andThen,gu _ _ a];simp [Instr.findKey,Instr.findNow,run_underlying a,c]
def KY (M:List (Int × α)) (x:Int) (v:α):(fC M x v).map A3=if (aM M x).isSome then M.map A3 else M.map A3++[x]:=by
 unfold fC
 split
 .rw [D9]
  apply H9;intro p _;show (if (p.1 == x)=true then (x,v) else p).1=p.1
  split
  .rename_i h;exact (by simpa using h:p.1=x).symm
  .rfl
 .simp
def gr {M:List (Int × α)}:aM M x=Y'↔x ∉ M.map A3:=by
 unfold aM;simp only [Option.map_eq_none_iff,List.find?_eq_none,List.mem_map,beq_iff_eq,not_exists,not_and]
def getElem?_modify' (l:List α) (j i:Nat) (f:α->α):(l.modify j f)[i]?=if j=i then l[i]?.map f else l[i]?:=by
 rw [H8]
 by_cases h:j=i
 .simp [h]
 .simp [h]
def sD {M:List (Int × α)} (h:(M.map A3).Nodup) (x:Int) (v:α):((fC M x v).map A3).Nodup:=by
 rw [KY]
 split
 .exact h
 .rename_i f
  have:aM M x=Y':=by simpa using f
  rw [gr] at this;rw [D5];exact ⟨h,Si0,by intro a d b c;simp at c;subst c;exact fun e=>this (e▸d)⟩
def DN {M:KV} (n:(M.map A3).Nodup) {j:Nat} (c:M.findIdx? (fun p=>p.1 == x)=Z j) (v:Y):fC M x v=M.modify j fun _=>(x,v):=by
 have m:(aM M x).isSome=true:=by
  rw [look_eq,c];have k:=(List.findIdx?_eq_some_iff_findIdx_eq.1 c).1;simp [A2 k]
 unfold fC;rw [if_pos m];apply E2;intro i;rw [B2,getElem?_modify'];have l:=List.findIdx?_eq_some_iff_getElem.1 c;obtain ⟨d,e,r⟩:=l
 by_cases a:i<M.length
 .rw [A2 a]
  by_cases b:j=i
  .subst b
   simp only [A1,e,if_true]
  .have:(M[i].1 == x)=false:=by
    rw [Bool.eq_false_iff];intro q;apply b;have f:M[i].1=x:=by simpa using q
    have h:M[j].1=x:=by simpa using e
    exact (E1 (l:=M.map A3) (by simpa using d) n).1 (by simp [A2 d,A2 a,f,h])
   simp only [A1,this,if_neg b,D4,if_false]
 .simp [List.getElem?_eq_none (Nat.le_of_not_lt a)]
def rT (U:P.underlying t=Z (.map T kt)) (D:P.underlying T=Z (.int k))
  {b:Nat} {o:Obj} {M:KV} (B:w.heap[b]?=Z o) (Q:IsMap o M) (x:Int) (v:Y) :
  ∃ f,(Instr.mapUpdate t (.map (Z b)) (W Z' x) v).run P w = .ok () { w with heap:=w.heap.setIfInBounds b f }/\IsMap f (fC M x v):=by
 obtain ⟨e,H,rfl,h,A,r,C⟩:=Q;have E:∀ f,(setObj b f).run P w = .ok () { w with heap:=w.heap.setIfInBounds b f }:=fun f=>by simp [setObj,Sem.run,B]
 simp only [Instr.mapUpdate,Sem.run_bind,run_underlying U,run_getObj_map B,Result.andThen,gu _ _ D,jy D x h];have N:e.toList.length=M.length:=by have:=congrArg D3 h;simpa [raw] using this
 cases m:M.findIdx? (fun p=>p.1 == x) with
 | none=>
  refine ⟨_,by simp only [D2];exact E _,e.push _,_,rfl,?_,sD A x v,?_,?_⟩
  .have O:aM M x=Y':=by rw [look_eq,m];rfl
   simp [fC,O,raw,h]
  .intro y hy
   simp only [Array.toList_push,List.mem_append,List.mem_singleton] at hy;rcases hy with hy|rfl
   .have:=r y hy;omega
   .simp
  .simp only [Array.toList_push,D1,B3,List.map_nil]
   rw [D5];refine ⟨C,Si0,?_⟩;intro a I c J;simp at J;obtain ⟨y,hy,rfl⟩:=List.mem_map.1 I;have:=r y hy;omega
 | some j=>
  have q:=(List.findIdx?_eq_some_iff_findIdx_eq.1 m).1;have K:=(List.findIdx?_eq_some_iff_getElem.1 m).2.1;have u:j<e.size:=by rw [<- H7,N];exact q
  have L:e[j].key = W Z' x:=by
   have:=congrArg (fun l=>l[j]?) h;simp only [raw,B2,H6,F0 u,A2 q,A1,Option.some.injEq,Prod.mk.injEq] at this;rw [this.1];have:M[j].1=x:=by simpa using K
   rw [this]
  have R:(Instr.keyThatStays (W Z' x) (W Z' x)).run P w = .ok (W Z' x) w:=by
   simp [Instr.keyThatStays,Instr.sameBits]
  refine ⟨_,by
   simp only [D2,A2 q,A1,F0 u,Option.getD_some,L,Sem.run_bind,R,Result.andThen];exact E _,e.modify j _,H,rfl,?_,sD A x v,?_,?_⟩
  .rw [DN A m]
   simp only [G3];apply E2;intro i;have d:=congrArg (fun l=>l[i]?) h;simp only [raw,B2] at d;simp only [B2,getElem?_modify',raw]
   by_cases n:j=i
   .subst n
    simp only [H6,F0 u,A2 q];simp
   .simp only [n,if_false]
    exact d
  .intro y hy
   rw [G3] at hy;obtain ⟨i,d⟩:=List.mem_iff_getElem?.1 hy;rw [getElem?_modify'] at d
   cases s:e.toList[i]? with
   | none=>rw [s] at d;simp at d
   | some z=>
    rw [s] at d;have G:=r z (List.mem_iff_getElem?.2 ⟨i,s⟩)
    split at d
    .simp only [A1,Option.some.injEq] at d
     subst d;exact G
    .simp only [Option.some.injEq] at d
     subst d;exact G
  .have:(e.modify j fun kt=>{ kt with key:=B1 Z' x,val:=v }).toList.map (·.born)=e.toList.map (·.born):=by
    rw [G3];apply E2;intro i;simp only [B2,getElem?_modify']
    cases e.toList[i]? with
    | none=>simp
    | some z=>by_cases n:j=i <;> simp [n]
   rw [this];exact C
def ag.n9 {b:Nat} {M:KV} {F:ai} (h:ag w (mp b M*F)):∃ o,IsMap o M/\w.heap[b]?=Z o/\ag w (pt b o*F):=by
 obtain ⟨m,a,i,c,⟨o,e,rfl⟩,f,d,rfl⟩:=h;exact ⟨o,e,a b o (by simp [join,one]),_,a,one b o,c,rfl,f,d,rfl⟩
def ag.ui {b:Nat} {M:KV} {F:ai} {o:Obj} (h:ag w (pt b o*F)) (c:IsMap o M):ag w (mp b M*F):=h.gZ fun _ a=>⟨o,c,a⟩
def ag.setObj {b:Nat} {o:Obj} {F:ai} (h:ag w (pt b o*F)) (a:Obj):ag { w with heap:=w.heap.setIfInBounds b a } (pt b a*F):=
 h.fC (by simp [h.lt]) fun c d=>by simp only [D0];rw [if_neg Om0]
def oI (w b:X):Prop:=(∀ a,b.cell? a=w.cell? a)/\∀ a,b.frozen? a=w.frozen? a
def lJ {w:X} {b:Nat} {o k:Obj} {M l:KV} (e:w.heap[b]?=Z o) (n:IsMap o M) (p:IsMap k l):oI w { w with heap:=w.heap.setIfInBounds b k }:=by
 obtain ⟨r,q,rfl,_⟩:=n;obtain ⟨i,f,rfl,_⟩:=p;have m:b<w.heap.size:=(Array.getElem?_eq_some_iff.1 e).1
 have d:∀ c,(w.heap.setIfInBounds b (.map i f))[c]?=if b=c then Z (.map i f) else w.heap[c]?:=by
  intro c;rw [D0]
  by_cases j:b=c
  .subst j;simp [m]
  .simp [j]
 constructor <;> intro a <;> by_cases h:b=a.block
 .subst h;simp only [G0,e,d,if_true]
 .simp only [G0,d,if_neg h]
 .subst h;simp only [World.frozen?,e,d,if_true]
 .simp only [World.frozen?,d,if_neg h]
def tB (w:X) (b:Nat) (o:Obj):aj w { w with heap:=w.heap.setIfInBounds b o }:=⟨rfl,rfl,rfl,Si0⟩
def ag.lookup {t a e:TypeId} {k:IntKind} (i:P.underlying t=Z (.map a e)) (d:P.underlying a=Z (.int k)) {z:Y} (j:(zeroValue e).run P w = .ok z w)
  {b:Nat} {M:KV} {F:ai} (h:ag w (mp b M*F)) (x:Int) (ok:Bool) :
  (Instr.lookup t (.map (Z b)) (W Z' x) ok).run P w = .ok (if ok then .tuple #[(aM M x).getD z,.bool (aM M x).isSome] else (aM M x).getD z) w:=by
 obtain ⟨o,f,c,_⟩:=h.n9;exact iC i d j c f x ok
def ag.mapUpdate {t i e:TypeId} {k:IntKind} (n:P.underlying t=Z (.map i e)) (j:P.underlying i=Z (.int k))
  {b:Nat} {M:KV} {F:ai} (h:ag w (mp b M*F)) (x:Int) (v:Y) :
  ∃ a,(Instr.mapUpdate t (.map (Z b)) (W Z' x) v).run P w = .ok () a/\ag a (mp b (SL.fC M x v)*F)/\aj w a/\oI w a:=by
 obtain ⟨o,d,c,l⟩:=h.n9;obtain ⟨p,m,f⟩:=rT n j c d x v;exact ⟨_,m,(l.setObj p).ui f,tB _ _ _,lJ c d f⟩
def BU {b:Nat} {o:Obj} {M:KV} (c:w.heap[b]?=Z o) (f:IsMap o M) (h:P.underlying t=Z (.map T kt)) (i:TypeId) :
  (Builtin.len_ #[t] i #[.map (Z b)]).run P w = .ok (W Z' M.length) w:=by
 obtain ⟨a,j,rfl,d,_⟩:=f;have e:a.size=M.length:=by have:=congrArg D3 d;simpa [raw] using this
 simp [Builtin.len_,run_underlying h,run_getObj_map c,e,goInt]
def ag.Vv {b:Nat} {M:KV} {F:ai} (h:ag w (mp b M*F)) (f:P.underlying t=Z (.map T kt)) (i:TypeId) :
  (Builtin.len_ #[t] i #[.map (Z b)]).run P w = .ok (W Z' M.length) w:=by
 obtain ⟨o,⟨a,j,rfl,d,_⟩,c,_⟩:=h.n9;have e:a.size=M.length:=by have:=congrArg D3 d;simpa [raw] using this
 simp [Builtin.len_,run_underlying f,run_getObj_map c,e,goInt]
def del_eq {M:KV} (b:(M.map A3).Nodup) {j:Nat} (a:M.findIdx? (fun p=>p.1 == x)=Z j):del M x=M.eraseIdx j:=by
 induction M generalizing j with
 | nil=>simp at a
 | cons p M k=>
  rw [D7] at a
  by_cases h:(p.1 == x)=true
  .simp only [h,if_true,Option.some.injEq] at a
   subst a;have f:p.1=x:=by simpa using h
   unfold del;simp only [List.filter_cons,h,Bool.not_true,D4,if_false,List.eraseIdx_cons_zero];rw [H5];intro q d;simp only [B3,D8] at b;have:q.1≠x:=fun e=>b.1 (f▸e▸H4 d);simpa using this
  .simp only [h,D4,if_false,Option.map_eq_some_iff] at a
   obtain ⟨i,c,rfl⟩:=a;simp only [B3,D8] at b;have:=k b.2 c;unfold del at this ⊢;simp only [List.filter_cons,h,Bool.not_false,if_true,List.eraseIdx_cons_succ,this]
def AN {M:KV} (a:M.findIdx? (fun p=>p.1 == x)=Y'):del M x=M:=by
 unfold del;rw [H5];intro p b;have:=List.findIdx?_eq_none_iff.1 a p b;simpa using this
def we (J:P.underlying t=Z (.map T kt)) (C:P.underlying T=Z (.int k)) (L u:TypeId)
  {b:Nat} {o:Obj} {M:KV} (v:w.heap[b]?=Z o) (I:IsMap o M) (x:Int) :
  ∃ d,(Builtin.delete_ #[t,u] L #[.map (Z b),W Z' x]).run P w = .ok (.tuple #[]) { w with heap:=w.heap.setIfInBounds b d }/\IsMap d (del M x):=by
 obtain ⟨c,r,rfl,e,m,A,z⟩:=I;have D:∀ d,(setObj b d).run P w = .ok () { w with heap:=w.heap.setIfInBounds b d }:=fun d=>by simp [setObj,Sem.run,v]
 have H:c.toList.length=M.length:=by have:=congrArg D3 e;simpa [raw] using this
 simp only [Builtin.delete_,Sem.run_bind,run_underlying J,run_getObj_map v,Result.andThen,gu _ _ C,jy C x e,List.getElem?_toArray,List.getElem?_cons_zero,List.getElem?_cons_succ]
 cases h:M.findIdx? (fun p=>p.1 == x) with
 | none=>
  refine ⟨_,by simp only [D2,Sem.run_bind,D,Result.andThen,Sem.run_pure],c,r,rfl,?_,?_,A,z⟩
  .rw [AN h];exact e
  .rw [AN h];exact m
 | some j=>
  have B:=(List.findIdx?_eq_some_iff_findIdx_eq.1 h).1
  have n:(c.eraseIdxIfInBounds j).toList=c.toList.eraseIdx j:=by
   have G:j<c.size:=by rw [<- H7,H];exact B
   simp [Array.eraseIdxIfInBounds,G]
  refine ⟨_,by simp only [D2,A2 B,A1,Sem.run_bind,D,Result.andThen,Sem.run_pure],c.eraseIdxIfInBounds j,r,rfl,?_,?_,?_,?_⟩
  .rw [del_eq m h,n]
   unfold raw at e ⊢
   have s:∀ {q E:Type} (f:q->E) (l:List q) (i:Nat),(l.eraseIdx i).map f=(l.map f).eraseIdx i:=by
    intro q E f l
    induction l with
    | nil=>intro i;simp
    | cons a l K=>intro i;cases i with
     | zero=>rfl
     | succ i=>simp [K]
   rw [s,s,e]
  .exact m.sublist (List.filter_sublist.map _)
  .intro y hy
   rw [n] at hy;exact A y (List.mem_of_mem_eraseIdx hy)
  .rw [n]
   exact z.sublist ((List.eraseIdx_sublist _ _).map _)
def ag.delete (m:P.underlying t=Z (.map T kt)) (i:P.underlying T=Z (.int k)) (f u:TypeId)
  {b:Nat} {M:KV} {F:ai} (h:ag w (mp b M*F)) (x:Int) :
  ∃ a,(Builtin.delete_ #[t,u] f #[.map (Z b),W Z' x]).run P w = .ok (.tuple #[]) a/\ag a (mp b (del M x)*F)/\aj w a/\oI w a:=by
 obtain ⟨o,d,c,j⟩:=h.n9;obtain ⟨n,l,e⟩:=we m i f u c d x;exact ⟨_,l,(j.setObj n).ui e,tB _ _ _,lJ c d e⟩
def Iter (b:Nat) (o:Obj) (M D:KV) (f:Obj):Prop:=∃ a c,∃ d:List MapEntry,o = .map a c/\a.toList.map (fun e=>(e.key,e.val))=raw M/\(M.map A3).Nodup /\
 (∀ x ∈ a.toList,x.born<c)/\(a.toList.map (·.born)).Nodup/\f = .mapIter (Z b) c (d.map (·.born)).toArray c /\
 (∀ x ∈ d,x ∈ a.toList)/\(d.map (·.born)).Nodup/\d.map (fun e=>(e.key,e.val))=raw D
def lv (l:P.underlying t=Z (.map T kt)) {b:Nat} {o:Obj} {M:KV} (e:w.heap[b]?=Z o) (j:IsMap o M) :
  ∃ c,(Instr.range t (.map (Z b))).run P w = .ok (.pointer (Z ⟨w.heap.size,0,Y'⟩)) (w.alloc c)/\Iter b o M [] c:=by
 obtain ⟨d,a,rfl,i,k,h,f⟩:=j;refine ⟨.mapIter (Z b) a #[] a,?_,d,a,[],rfl,i,k,h,f,rfl,Si0,List.nodup_nil,rfl⟩;simp [Instr.range,run_underlying l,run_getObj_map e]
def mT {b:Nat} {o:Obj} {M D:KV} {T:Obj} (h:Iter b o M D T):(D.map A3).Nodup/\(∀ p ∈ D,p ∈ M):=by
 obtain ⟨d,U,f,rfl,v,N,b0,V,rfl,n,C,t⟩:=h
 have R:∀ p ∈ D,p ∈ M:=by
  intro p O;have r:(B1 Z' p.1,p.2) ∈ raw D:=List.mem_map.2 ⟨p,O,rfl⟩;rw [<- t] at r;obtain ⟨e,G,H⟩:=List.mem_map.1 r;have s:(e.key,e.val) ∈ raw M:=by rw [<- v];exact List.mem_map.2 ⟨e,n e G,rfl⟩
  rw [H] at s;obtain ⟨q,Q,m⟩:=List.mem_map.1 s;simp at m;have:q=p:=Prod.ext m.1 m.2;exact this▸Q
 refine ⟨?_,R⟩
 have L:(d.toList.map (·.key)).Nodup:=by
  have y:d.toList.map (·.key)=(M.map A3).map (B1 Z'):=by
   have:=congrArg (List.map A3) v;simpa [raw,D9,Function.comp_def] using this
  rw [y];exact List.Pairwise.map _ (fun a b l e=>l (by simpa using e)) N
 have z:f.map (·.key)=(D.map A3).map (B1 Z'):=by
  have:=congrArg (List.map A3) t;simpa [raw,D9,Function.comp_def] using this
 have u:(f.map (·.key)).Nodup:=by
  have E:f.Nodup:=by
   have:f.Pairwise (fun a b=>a.born≠b.born):=List.pairwise_map.1 C;exact this.imp fun h e=>h (by rw [e])
  have I:∀ a ∈ d.toList,∀ c ∈ d.toList,a.key=c.key->a=c:=by
   intro a k c B K;obtain ⟨i,x,rfl⟩:=E5 k;obtain ⟨j,J,rfl⟩:=E5 B
   have:=(E1 (l:=d.toList.map (·.key)) (i:=i) (j:=j) (by simpa using x) L).1 (by
    simp only [B2,A2 x,A2 J,A1,K])
   subst this;rfl
  rw [List.nodup_iff_pairwise_ne,List.pairwise_map];exact E.imp_of_mem fun k A l e=>l (I _ (n _ k) _ (n _ A) e)
 rw [z] at u;exact (List.pairwise_map.1 u).imp (fun h e=>h (by rw [e]))
theorem ag.next {b r:Nat} {o it:Obj} {M D:KV} {F:ai} (h:ag w (pt r it*F)) (hb:w.heap[b]?=some o) (hi:Iter b o M D it) :
  (D.Perm M/\∀ ty,(Instr.next (.pointer (some ⟨r,0,none⟩)) false ty).run P w = .ok (.tuple #[.bool false]) w) \/
  ∃ p it' w',p ∈ M/\p.1 ∉ D.map A3/\(∀ ty,(Instr.next (.pointer (some ⟨r,0,none⟩)) false ty).run P w = .ok (.tuple #[.bool true,.int .i64 p.1,p.2]) w') /\
   ag w' (pt r it'*F)/\Iter b o M (D++[p]) it'/\aj w w'/\w'.heap[b]?=some o /\
   (Instr.entry (.pointer (some ⟨r,0,none⟩))).run P w' = .ok (.tuple #[.int .i64 p.1,p.2]) w':=by
 have hnd0:=mT hi;obtain ⟨es,clock,ds,rfl,hes,hnd,hborn,hbn,rfl,hsub,hdn,hD⟩:=hi;have hr:=h.heap;have hrb:r≠b:=by rintro rfl;rw [hr] at hb;cases hb
 rcases run_next_at (P:=P) w 0 r b clock clock _ es clock hr hb hborn (Nat.le_refl _) with ⟨hz,hrun⟩|⟨e,he,w1,hw1,hrun⟩
 .left
  refine ⟨?_,fun ty=>hrun⟩;have hMn:M.Nodup:=(List.pairwise_map.1 hnd).imp (fun h e=>h (by rw [e]));have hDn:D.Nodup:=(List.pairwise_map.1 hnd0.1).imp (fun h e=>h (by rw [e]));rw [List.perm_ext_iff_of_nodup hDn hMn];intro p;refine ⟨hnd0.2 p,fun hp=>?_⟩;have h1:(B1 .i64 p.1,p.2) ∈ raw M:=List.mem_map.2 ⟨p,hp,rfl⟩;rw [<- hes] at h1;obtain ⟨e,he,hep⟩:=List.mem_map.1 h1;have hsz:leftOf es (ds.map (·.born)).toArray=#[]:=Array.eq_empty_of_size_eq_zero hz
  have hin:e.born ∈ ds.map (·.born):=by
   apply Classical.byContradiction;intro hn
   have:e ∈ leftOf es (ds.map (·.born)).toArray:=by
    unfold leftOf;rw [Array.mem_filter];exact ⟨by simpa using he,by simpa using hn⟩
   rw [hsz] at this;simp at this
  obtain ⟨d,hd,hdb⟩:=List.mem_map.1 hin
  have hde:d=e:=by
   obtain ⟨i,hi,rfl⟩:=E5 (hsub d hd);obtain ⟨j,hj,rfl⟩:=E5 he
   have:=(E1 (l:=es.toList.map (·.born)) (i:=i) (j:=j) (by simpa using hi) hbn).1 (by
    simp only [B2,A2 hi,A2 hj,A1,hdb])
   subst this;rfl
  have h2:(B1 .i64 p.1,p.2) ∈ raw D:=by rw [<- hD,<- hep,<- hde];exact List.mem_map.2 ⟨d,hd,rfl⟩
  obtain ⟨q,hq,hqp⟩:=List.mem_map.1 h2;simp at hqp;have:q=p:=Prod.ext hqp.1 hqp.2;exact this▸hq
 .right
  have he':e ∈ es.toList/\e.born ∉ ds.map (·.born):=by
   unfold leftOf at he;simpa using he
  have h1:(e.key,e.val) ∈ raw M:=by rw [<- hes];exact List.mem_map.2 ⟨e,he'.1,rfl⟩
  obtain ⟨p,hp,hpe⟩:=List.mem_map.1 h1;simp only [Prod.mk.injEq] at hpe
  have hS:ag (Go.ChangeMaps.setBlock w1 r (.mapIter (some b) clock (((ds.map (·.born)).toArray).push e.born) clock)) (pt r (.mapIter (some b) clock (((ds.map (·.born)).toArray).push e.born) clock)*F):=by
   refine h.fC ?_ fun c hc=>?_
   .rcases hw1 with rfl|rfl <;> simp [Go.ChangeMaps.setBlock,h.lt]
   .rcases hw1 with rfl|rfl <;> (simp only [Go.ChangeMaps.setBlock,D0,World.drew];rw [if_neg (by omega)])
  have hI:Iter b (.map es clock) M (D++[p]) (.mapIter (some b) clock (((ds.map (·.born)).toArray).push e.born) clock):=by
   refine ⟨es,clock,ds++[e],rfl,hes,hnd,hborn,hbn,by simp,?_,?_,?_⟩
   .intro x hx
    rcases List.mem_append.1 hx with hx|hx
    .exact hsub x hx
    .simp at hx;exact hx▸he'.1
   .rw [D1,D5]
    refine ⟨hdn,by simp,?_⟩;intro a ha c hc;simp at hc;exact fun e'=>he'.2 (hc▸e'▸ha)
   .rw [D1,hD]
    simp [raw,hpe.1,hpe.2]
  have hbb:(Go.ChangeMaps.setBlock w1 r (.mapIter (some b) clock (((ds.map (·.born)).toArray).push e.born) clock)).heap[b]?=some (.map es clock):=by
   rcases hw1 with rfl|rfl <;> (simp only [Go.ChangeMaps.setBlock,D0,World.drew];rw [if_neg (by omega)];exact hb)
  refine ⟨p,_,_,hp,?_,fun ty=>by rw [hpe.1,hpe.2];exact hrun,hS,hI,?_,hbb,?_⟩
  .have:=(mT hI).1
   rw [D1,D5] at this;intro hin;exact this.2.2 _ hin p.1 (by simp) rfl
  .rcases hw1 with rfl|rfl <;> exact ⟨rfl,rfl,rfl,by simp [Go.ChangeMaps.setBlock]⟩
  .rw [hpe.1,hpe.2]
   exact run_entry_at _ r b clock _ es clock e hS.heap hbb he'.1 hbn
def iU {t k e:TypeId} (a:P.underlying t=Z (.map k e)) (b:IntKind) (n:Int) (w:X):(Instr.makeMap t (Z (.int b n))).run P w = .ok (.map (Z w.heap.size)) (w.alloc (.map #[] 0)):=by
 simp [Instr.makeMap,run_underlying a,asInt,asIntOf]
def vQ {l m:List Int} (h:l.Nodup) (c:∀ x ∈ l,x ∈ m):l.length<=m.length:=by
 induction l generalizing m with
 | nil=>simp
 | cons a l e=>
  rw [D8] at h;have b:=c a Si0;have:=e (m:=m.erase a) h.2 (fun x d=>(List.mem_erase_of_ne (by rintro rfl;exact h.1 d)).2 (c x (by simp [d])));rw [List.length_erase_of_mem b] at this;have:=List.length_pos_of_mem b;simp;omega
def zK {b:Nat} {o:Obj} {M D:KV} {f:Obj} (h:Iter b o M D f):D.length<=M.length:=by
 obtain ⟨a,c⟩:=mT h;have:=vQ (m:=M.map A3) a (fun x e=>by obtain ⟨p,d,rfl⟩:=List.mem_map.1 e;exact H4 (c p d));simpa using this
def Wv (w:X) (v:Y) (M:KV):Prop:=(v = .map Y'/\M=[])\/∃ b o,v = .map (Z b)/\w.heap[b]?=Z o/\IsMap o M
def Ph {M:List (Int × α)} (h:x ∉ M.map A3) (v:α):SL.fC M x v=M++[(x,v)]:=by
 unfold SL.fC;rw [if_neg];rw [gr.2 h];simp
def oP {M D:List (Int × α)} (h:M.Perm D) (b:(M.map A3).Nodup) (x:Int):aM M x=aM D x:=by
 induction h with
 | nil=>rfl
 | cons p h d=>
  simp only [B3,D8] at b;have:=d b.2;unfold aM at this ⊢;simp only [D6]
  split
  .rfl
  .exact this
 | swap p q l=>
  simp only [B3,D8,List.mem_cons,not_or] at b;unfold aM;simp only [D6]
  by_cases a:(p.1 == x)=true <;> by_cases c:(q.1 == x)=true
  .exact absurd ((by simpa using c:q.1=x).trans (by simpa using a:p.1=x).symm) b.1.1
  .simp [a,c]
  .simp [a,c]
  .simp [a,c]
 | trans a c e f=>rw [e b,f ((a.map A3).nodup_iff.1 b)]
def MQ {M D:List (Int × α)} (h:M.Perm D) (a:(M.map A3).Nodup) (x:Int) (v:α):(SL.fC M x v).Perm (SL.fC D x v):=by
 unfold SL.fC;rw [oP h a x]
 split
 .exact h.map _
 .exact h.append_right _
def ku (f:α->β) (M:List (Int × α)) (x:Int):aM (M.map fun p=>(p.1,f p.2)) x=(aM M x).map f:=by
 unfold aM;rw [List.find?_map];simp only [Function.comp_def,Option.map_map]
def zQ (f:α->β) (M:List (Int × α)) (x:Int) (v:α):SL.fC (M.map fun p=>(p.1,f p.2)) x (f v)=(SL.fC M x v).map fun p=>(p.1,f p.2):=by
 unfold SL.fC;rw [ku];simp only [Option.isSome_map]
 split
 .rw [D9,D9]
  apply H9;intro p _;simp only [Function.comp_def]
  split <;> rfl
 .simp
def lO {M:List (Int × α)} {v:α} (h:aM M x=Z v):(x,v) ∈ M:=by
 unfold aM at h;obtain ⟨p,a,rfl⟩:=Option.map_eq_some_iff.1 h;have b:=List.mem_of_find?_eq_some a;have c:=List.find?_some a;have:p.1=x:=by simpa using c
 exact this▸b
def zr {M:List (Int × α)} {v:α} {p:Int × α} (h:p ∈ SL.fC M x v):p=(x,v)\/p ∈ M:=by
 unfold SL.fC at h
 split at h
 .obtain ⟨q,a,rfl⟩:=List.mem_map.1 h
  split
  .exact .inl rfl
  .exact .inr a
 .rcases List.mem_append.1 h with h|h
  .exact .inr h
  .exact .inl (by simpa using h)
def zo (M:List (Int × α)) (x y:Int) (v:α):aM (M.map fun p=>if p.1 == x then (x,v) else p) y=if y=x then (aM M x).map fun _=>v else aM M y:=by
 induction M with
 | nil=>simp [aM]
 | cons p M f=>
  have c:∀ (q:Int × α) (L:List (Int × α)) (z:Int),aM (q :: L) z=if q.1=z then Z q.2 else aM L z:=by
   intro q L z;unfold aM;simp only [D6]
   by_cases h:q.1=z
   .simp [h]
   .have:(q.1 == z)=false:=by simpa using h
    simp [this,h]
  rw [B3,c,c,c,f]
  by_cases b:p.1=x
  .simp only [b,beq_self_eq_true,if_true]
   by_cases a:x=y
   .subst a;simp
   .have:¬ y=x:=fun e=>a e.symm
    simp [a,this]
  .have d:(p.1 == x)=false:=by simpa using b
   simp only [d,D4,if_false,b]
   by_cases a:p.1=y
   .have:¬ y=x:=fun e=>b (a.trans e)
    simp [a,this]
   .simp [a]
def nF (M:List (Int × α)) (x y:Int) (v:α):aM (SL.fC M x v) y=if y=x then Z v else aM M y:=by
 unfold SL.fC
 split
 .rename_i a
  rw [zo]
  split
  .obtain ⟨z,e⟩:=Option.isSome_iff_exists.1 a
   rw [e];rfl
  .rfl
 .rename_i a
  have b:aM M x=Y':=by simpa using a
  unfold aM at b ⊢;rw [List.find?_append]
  by_cases c:y=x
  .subst c
   have:List.find? (fun p=>p.1 == y) M=Y':=by simpa using b
   simp [this]
  .have d:(x == y)=false:=by simp;omega
   simp [d,c]
def vZ (M:List (Int × α)) (x:Int) (v:α):(SL.fC M x v).length=if (aM M x).isSome then M.length else M.length+1:=by
 unfold SL.fC;split <;> simp
end
def al (S:Hp):ai:=fun h=>h=S
def Ext (S S':Hp):Prop:=∀ k x,S k=Z x->S' k=Z x
def Ext.refl (S:Hp):Ext S S:=fun _ _ h=>h
def Ext.trans {a b c:Hp} (h:Ext a b) (k:Ext b c):Ext a c:=fun i x d=>k i x (h i x d)
def vO (S:Hp) (g:Nat) (o:Obj):Ext S (join S (one g o)):=fun k x h=>by simp [join,h]
section
variable {w:X} {S S' F:ai} {g:Nat} {o:Obj}
def ag.F2 {S:Hp} (h:ag w (al S*F)) (b:S g=Z o):w.heap[g]?=Z o:=by
 obtain ⟨m,a,rfl⟩:=h.left;exact a g o b
def ag.F7 {S:Hp} (h:ag w (al S*(pt g o*F))):ag w (al (join S (one g o))*F)/\join S (one g o) g=Z o:=by
 obtain ⟨m,a,b,k,rfl,⟨l,h4,rfl,f,c,rfl⟩,d,rfl⟩:=h;obtain ⟨i,j⟩:=gx.1 d;refine ⟨⟨join (join b (one g o)) h4,?_,join b (one g o),h4,rfl,f,eK.2 ⟨j,c⟩,rfl⟩,?_⟩
 .rw [join_assoc];exact a
 .rcases i g with e|e
  .simp [join,one,e]
  .simp [one] at e
def ag.zL (h:ag w F):ag w (al (fun _=>Y')*F):=h.to (cl F).symm
end
def small (l:List UInt8):Prop:=l.length<=1000000
def rC (T:TypeId) (S:Hp) (v:Y) (l:List UInt8):Prop:=small l/\((v = .slice Y' 0 0/\l=[]) \/
 ∃ g b a,v = .slice (Z ⟨g,0,Y'⟩) l.length b/\S g=Z (.cells a T (0,0))/\a.toList.take l.length=l.map u8)
def rC.mono {S S':Hp} (h:rC T S v l) (e:Ext S S'):rC T S' v l:=by
 refine ⟨h.1,?_⟩;rcases h.2 with h|⟨g,a,b,c,d,f⟩
 .exact .inl h
 .exact .inr ⟨g,a,b,c,e _ _ d,f⟩
def xd {w:X} {g n:Nat} {b:Array Y} {c:Nat × Nat} (h:w.heap[g]?=Z (.cells b t c)):At w ⟨g,0,Y'⟩ (b.toList.take n):=by
 intro j u a;rw [Addr.add_lit,Nat.zero_add];rw [List.getElem?_take] at a
 split at a
 .simp only [G0,h];simpa using a
 .cases a
def rC.rd {S:Hp} {w:X} {F:ai} (h:rC T S v l) (s:ag w (al S*F)):Rd w v l:=by
 refine ⟨Si0,?_⟩;rcases h.2 with ⟨rfl,rfl⟩|⟨g,c,d,rfl,a,b⟩
 .exact .inl ⟨rfl,rfl⟩
 .exact .inr ⟨_,_,rfl,b▸xd (s.F2 a)⟩
def ag.z8 {w:X} {S:Hp} {F:ai} (h:ag w (al S*(bs T v l*F))) (b:small l) :
  ∃ S',Ext S S'/\rC T S' v l/\ag w (al S'*F):=by
 rcases (h.to (aD _ _ _)).dq with ⟨rfl,e,_,a⟩|⟨g,c,d,rfl,k,h4,h5,f,a⟩
 .exact ⟨S,Ext.refl S,⟨b,.inl ⟨rfl,List.eq_nil_of_length_eq_zero e⟩⟩,a⟩
 .obtain ⟨i,j⟩:=(a.to (aD _ _ _)).F7
  exact ⟨_,vO _ _ _,⟨b,.inr ⟨g,c,d,rfl,j,by simpa using f⟩⟩,i⟩
def pS (T:TypeId) (A:Int × List UInt8) (a:Y):ai:=fun h=>(A.1=0/\bs T a A.2 h)\/(A.1≠0/\a = .slice Y' 0 0/\h=fun _=>Y')
def ag.AU {w:X} {F:ai} (h:ag w (pS t A dv*F)):∃ a k c,dv = .slice a k c:=by
 obtain ⟨m,_,e,f,p,_,_,_⟩:=h;rcases p with ⟨_,p⟩|⟨_,rfl,_⟩
 .rcases p with ⟨rfl,_⟩|⟨g,b,d,rfl,_⟩
  .exact ⟨_,_,_,rfl⟩
  .exact ⟨_,_,_,rfl⟩
 .exact ⟨_,_,_,rfl⟩
def ag.uY {w:X} {F:ai} (h:ag w (pS t (0,l) dv*F)):ag w (bs t dv l*F):=
 h.gZ fun _ a=>by rcases a with ⟨_,h⟩|⟨h,_⟩;exact h;exact absurd rfl h
def ag.tN {w:X} {F:ai} (h:ag w (bs t dv l*F)):ag w (pS t (0,l) dv*F):=h.gZ fun _ a=>.inl ⟨rfl,a⟩
def ag.Cv {w:X} {F:ai} (h:ag w (pS t A dv*F)) (a:A.1≠0):dv = .slice Y' 0 0/\ag w F:=by
 refine ⟨?_,h.right⟩;obtain ⟨m,_,b,c,p,_,_,_⟩:=h;rcases p with ⟨e,_⟩|⟨_,e,_⟩
 .exact absurd e a
 .exact e
def ag.jC {w:X} {F:ai} (h:ag w F) (a:A.1≠0):ag w (pS t A (.slice Y' 0 0)*F):=
 (h.to (cl F).symm).gZ fun _ b=>.inr ⟨a,rfl,b⟩
def ag.pA {w:X} {F:ai} (h:ag w (bs t dv l*F)):Rd w dv l:=ag.oa h
end Go.SL
namespace Go.SU
open RowKit
open SL (ai Hp one pt join ag aj star ay eM aD)
section
variable {P:Program} {w:X}
def getElem?_modify' {a:Type} (l:List a) (j i:Nat) (f:a->a):(l.modify j f)[i]?=if j=i then l[i]?.map f else l[i]?:=by
 rw [H8]
 by_cases h:j=i
 .simp [h]
 .simp [h]
end
end Go.SU
