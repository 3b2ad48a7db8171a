/- Steps. -/
import Derived.Test.YtebfaobobccikaaGreatDoorLP1
import Derived.Maps.RangeRun
set_option linter.all false
set_option maxRecDepth 99999
set_option maxHeartbeats 0
open Go.SL
open Go.Value renaming int->W
open Go renaming World->X,Value->Y
open Option renaming some->Z,none->Z'
open Prod renaming fst->D0
open List renaming getElem?_eq_getElem->F0,map_cons->H0,getElem?_map->K0,map_map->N0,nodup_cons->R0,findIdx?_cons->S0,find?_cons->T0,nodup_append->V0,length->X0,map_append->Z0,getElem_of_mem->B1,ext_getElem?->D1,getElem?_inj->E1,map_congr_left->M1,getElem?_modify->N1,filter_eq_self->S1,mem_map_of_mem->T1
open Option renaming map_some->G0,bind->Y0
open Go.Value renaming int->L0
open Bool renaming false_eq_true->W0
open Array renaming getElem?_setIfInBounds->A1,getElem?_eq_getElem->H1,toList_modify->K1,length_toList->O1,getElem?_toList->R1
open Go.World renaming cell?->L1
namespace Go.SL
open RowKit
variable {α β:Type} {T kt t:TypeId} {k:IntKind} {dv v:Y} {x:Int} {l:List UInt8} {A:Int × List UInt8}
abbrev KV:=List (Int × Y)
def aP (M:List (Int × α)) (x:Int):Option α:=(M.find? fun p=>p.1 == x).map Prod.snd
def fw (M:List (Int × α)) (x:Int) (v:α):List (Int × α):=if (aP M x).isSome then M.map (fun p=>if p.1 == x then (x,v) else p) else M++[(x,v)]
def del (M:List (Int × α)) (x:Int):List (Int × α):=M.filter fun p => !(p.1 == x)
def raw (M:KV):List (Y × Y):=M.map fun p=>(W .i64 p.1,p.2)
def IsMap (o:Obj) (M:KV):Prop:=∃ a b,o = .map a b/\a.toList.map (fun e=>(e.key,e.val))=raw M/\(M.map D0).Nodup /\
 (∀ x ∈ a.toList,x.born<b)/\(a.toList.map (·.born)).Nodup
def mp (b:Nat) (M:KV):ai:=fun h=>∃ o,IsMap o M/\h=one b o
theorem isMap_empty:IsMap (.map #[] 0) []:=⟨#[],0,rfl,rfl,List.nodup_nil,by simp,by simp⟩
section
variable {P:Program} {w:X}
theorem AO (k:IntKind) (x:Int):∀ (a:List MapEntry) (M:KV) (i:Nat),a.map (fun e=>(e.key,e.val))=raw M ->
  Instr.findNow (.int k) (W .i64 x) a i=Z (((M.findIdx? fun p=>p.1 == x).bind fun j=>(M[j]?).map fun p=>(i+j,p.2))):=by
 intro a
 induction a with
 | nil=>intro M i h;cases M with
  | nil=>rfl
  | cons p M=>simp [raw] at h
 | cons e a m=>intro M i h;cases M with
  | nil=>simp [raw] at h
  | cons p M=>
   simp only [raw,H0,List.cons.injEq,Prod.mk.injEq] at h;obtain ⟨⟨b,d⟩,c⟩:=h;have n:=m M (i+1) c;unfold Instr.findNow;rw [b]
   by_cases f:x=p.1
   .subst f
    simp [Instr.sameNow,S0,d]
   .have:(p.1 == x)=false:=by simp;omega
    have l:(x == p.1)=false:=by simp;omega
    simp only [Instr.sameNow,if_true,l,n,S0,this]
    cases q:M.findIdx? (fun p=>p.1 == x) with
    | none=>simp
    | some j=>simp [Nat.add_assoc,Nat.add_comm 1 j]
theorem look_eq (M:KV) (x:Int):aP M x=(M.findIdx? fun p=>p.1 == x).bind fun j=>(M[j]?).map Prod.snd:=by
 unfold aP
 induction M with
 | nil=>rfl
 | cons p M b=>
  simp only [T0,S0]
  by_cases a:(p.1 == x)=true
  .simp [a]
  .simp only [Bool.not_eq_true] at a
   simp only [a,b]
   cases c:M.findIdx? (fun p=>p.1 == x) with
   | none=>simp
   | some j=>simp
theorem gw (a:Bool) (n:Nat) (b:P.underlying t=Z (.int k)) (v:Y):(Instr.checkKey a (n+1) t v).run P w = .ok () w:=by
 unfold Instr.checkKey;simp [run_underlying b]
theorem ju (b:P.underlying t=Z (.int k)) (x:Int) {a:List MapEntry} {M:KV} (h:a.map (fun e=>(e.key,e.val))=raw M) :
  (Instr.findKey t (W .i64 x) a).run P w = .ok ((M.findIdx? fun p=>p.1 == x).bind fun j=>(M[j]?).map fun p=>(j,p.2)) w:=by
 unfold Instr.findKey;simp [run_underlying b,AO k x a M 0 h]
theorem run_getObj_map {b:Nat} {c:Array MapEntry} {a:Nat} (h:w.heap[b]?=Z (.map c a)):(getObj b).run P w = .ok (.map c a) w:=by
 simp [getObj,Sem.run,h]
theorem iB (i:P.underlying t=Z (.map T kt)) (a:P.underlying T=Z (.int k)) {z:Y} (l:(zeroValue kt).run P w = .ok z w)
  {b:Nat} {o:Obj} {M:KV} (c:w.heap[b]?=Z o) (h:IsMap o M) (x:Int) (ok:Bool) :
  (Instr.lookup t (.map (Z b)) (W .i64 x) ok).run P w = .ok (if ok then .tuple #[(aP M x).getD z,.bool (aP M x).isSome] else (aP M x).getD z) w:=by
 obtain ⟨n,m,rfl,d,q,_⟩:=h;simp only [Instr.lookup,Sem.run_bind,run_underlying i,run_getObj_map c,Sem.run_pure,Result.andThen,gw _ _ a,ju a x d];rw [look_eq]
 cases e:M.findIdx? (fun p=>p.1 == x) with
 | none=>simp [l]
 | some j=>
  have f:j<M.length:=by
   have:=List.findIdx?_eq_some_iff_findIdx_eq.1 e;exact this.1
  simp [F0 f]
theorem kg (b:P.underlying t=Z (.map T kt)) (a:P.underlying T=Z (.int k)) (c:(zeroValue kt).run P w = .ok dv w)
  (x:Int) (ok:Bool) :
  (Instr.lookup t (.map Z') (W .i64 x) ok).run P w = .ok (if ok then .tuple #[dv,.bool false] else dv) w:=by
 simp only [Instr.lookup,Sem.run_bind,run_underlying b,Sem.run_pure,Result.andThen,gw _ _ a];simp [Instr.findKey,Instr.findNow,run_underlying a,c]
theorem Mc (M:List (Int × α)) (x:Int) (v:α):(fw M x v).map D0=if (aP M x).isSome then M.map D0 else M.map D0++[x]:=by
 unfold fw
 split
 .rw [N0]
  apply M1;intro p _;show (if (p.1 == x)=true then (x,v) else p).1=p.1
  split
  .rename_i h;exact (by simpa using h:p.1=x).symm
  .rfl
 .simp
theorem gn {M:List (Int × α)}:aP M x=Z'↔x ∉ M.map D0:=by
 unfold aP;simp only [Option.map_eq_none_iff,List.find?_eq_none,List.mem_map,beq_iff_eq,not_exists,not_and]
theorem getElem?_modify' (l:List α) (j i:Nat) (f:α->α):(l.modify j f)[i]?=if j=i then l[i]?.map f else l[i]?:=by
 rw [N1]
 by_cases h:j=i
 .simp [h]
 .simp [h]
theorem sE {M:List (Int × α)} (h:(M.map D0).Nodup) (x:Int) (v:α):((fw M x v).map D0).Nodup:=by
 rw [Mc]
 split
 .exact h
 .rename_i f
  have:aP M x=Z':=by simpa using f
  rw [gn] at this;rw [V0];exact ⟨h,by simp,by intro a d b c;simp at c;subst c;exact fun e=>this (e▸d)⟩
theorem CR {M:KV} (n:(M.map D0).Nodup) {j:Nat} (c:M.findIdx? (fun p=>p.1 == x)=Z j) (v:Y):fw M x v=M.modify j fun _=>(x,v):=by
 have m:(aP M x).isSome=true:=by
  rw [look_eq,c];have k:=(List.findIdx?_eq_some_iff_findIdx_eq.1 c).1;simp [F0 k]
 unfold fw;rw [if_pos m];apply D1;intro i;rw [K0,getElem?_modify'];have l:=List.findIdx?_eq_some_iff_getElem.1 c;obtain ⟨d,e,r⟩:=l
 by_cases a:i<M.length
 .rw [F0 a]
  by_cases b:j=i
  .subst b
   simp only [G0,e,if_true]
  .have:(M[i].1 == x)=false:=by
    rw [Bool.eq_false_iff];intro q;apply b;have f:M[i].1=x:=by simpa using q
    have h:M[j].1=x:=by simpa using e
    exact (E1 (l:=M.map D0) (by simpa using d) n).1 (by simp [F0 d,F0 a,f,h])
   simp only [G0,this,if_neg b,W0,if_false]
 .simp [List.getElem?_eq_none (Nat.le_of_not_lt a)]
theorem qC (V:P.underlying t=Z (.map T kt)) (E:P.underlying T=Z (.int k))
  {b:Nat} {o:Obj} {M:KV} (C:w.heap[b]?=Z o) (R:IsMap o M) (x:Int) (v:Y) :
  ∃ h,(Instr.mapUpdate t (.map (Z b)) (W .i64 x) v).run P w = .ok () { w with heap:=w.heap.setIfInBounds b h }/\IsMap h (fw M x v):=by
 obtain ⟨e,I,rfl,m,B,s,D⟩:=R;have G:∀ h,(setObj b h).run P w = .ok () { w with heap:=w.heap.setIfInBounds b h }:=fun h=>by simp [setObj,Sem.run,C]
 simp only [Instr.mapUpdate,Sem.run_bind,run_underlying V,run_getObj_map C,Result.andThen,gw _ _ E,ju E x m];have O:e.toList.length=M.length:=by have:=congrArg X0 m;simpa [raw] using this
 cases n:M.findIdx? (fun p=>p.1 == x) with
 | none=>
  refine ⟨_,by simp only [Y0];exact G _,e.push _,_,rfl,?_,sE B x v,?_,?_⟩
  .have Q:aP M x=Z':=by rw [look_eq,n];rfl
   simp [fw,Q,raw,m]
  .intro y f
   simp only [Array.toList_push,List.mem_append,List.mem_singleton] at f;rcases f with f|rfl
   .have:=s y f;omega
   .simp
  .simp only [Array.toList_push,Z0,H0,List.map_nil]
   rw [V0];refine ⟨D,by simp,?_⟩;intro a J c K;simp at K;obtain ⟨y,f,rfl⟩:=List.mem_map.1 J;have:=s y f;omega
 | some j=>
  have r:=(List.findIdx?_eq_some_iff_findIdx_eq.1 n).1;have L:=(List.findIdx?_eq_some_iff_getElem.1 n).2.1;have A:j<e.size:=by rw [<- O1,O];exact r
  have N:e[j].key = W .i64 x:=by
   have:=congrArg (fun l=>l[j]?) m;simp only [raw,K0,R1,H1 A,F0 r,G0,Option.some.injEq,Prod.mk.injEq] at this;rw [this.1];have:M[j].1=x:=by simpa using L
   rw [this]
  have U:(Instr.keyThatStays (W .i64 x) (W .i64 x)).run P w = .ok (W .i64 x) w:=by
   simp [Instr.keyThatStays,Instr.sameBits]
  refine ⟨_,by
   simp only [Y0,F0 r,G0,H1 A,Option.getD_some,N,Sem.run_bind,U,Result.andThen];exact G _,e.modify j _,I,rfl,?_,sE B x v,?_,?_⟩
  .rw [CR B n]
   simp only [K1];apply D1;intro i;have d:=congrArg (fun l=>l[i]?) m;simp only [raw,K0] at d;simp only [K0,getElem?_modify',raw]
   by_cases q:j=i
   .subst q
    simp only [R1,H1 A,F0 r];simp
   .simp only [q,if_false]
    exact d
  .intro y f
   rw [K1] at f;obtain ⟨i,d⟩:=List.mem_iff_getElem?.1 f;rw [getElem?_modify'] at d
   cases u:e.toList[i]? with
   | none=>rw [u] at d;simp at d
   | some z=>
    rw [u] at d;have H:=s z (List.mem_iff_getElem?.2 ⟨i,u⟩)
    split at d
    .simp only [G0,Option.some.injEq] at d
     subst d;exact H
    .simp only [Option.some.injEq] at d
     subst d;exact H
  .have:(e.modify j fun kt=>{ kt with key:=L0 .i64 x,val:=v }).toList.map (·.born)=e.toList.map (·.born):=by
    rw [K1];apply D1;intro i;simp only [K0,getElem?_modify']
    cases e.toList[i]? with
    | none=>simp
    | some z=>by_cases q:j=i <;> simp [q]
   rw [this];exact D
theorem ag.mY {b:Nat} {M:KV} {F:ai} (h:ag w (mp b M*F)):∃ o,IsMap o M/\w.heap[b]?=Z o/\ag w (pt b o*F):=by
 obtain ⟨m,a,i,c,⟨o,e,rfl⟩,f,d,rfl⟩:=h;exact ⟨o,e,a b o (by simp [join,one]),_,a,one b o,c,rfl,f,d,rfl⟩
theorem ag.tD {b:Nat} {M:KV} {F:ai} {o:Obj} (h:ag w (pt b o*F)) (c:IsMap o M):ag w (mp b M*F):=h.fp fun _ a=>⟨o,c,a⟩
theorem ag.setObj {b:Nat} {o:Obj} {F:ai} (h:ag w (pt b o*F)) (a:Obj):ag { w with heap:=w.heap.setIfInBounds b a } (pt b a*F):=
 h.fw (by simp [h.lt]) fun c d=>by simp only [A1];rw [if_neg (by omega)]
def n8 (w b:X):Prop:=(∀ a,b.cell? a=w.cell? a)/\∀ a,b.frozen? a=w.frozen? a
theorem lf {w:X} {b:Nat} {o k:Obj} {M l:KV} (e:w.heap[b]?=Z o) (n:IsMap o M) (p:IsMap k l):n8 w { w with heap:=w.heap.setIfInBounds b k }:=by
 obtain ⟨r,q,rfl,_⟩:=n;obtain ⟨i,f,rfl,_⟩:=p;have m:b<w.heap.size:=(Array.getElem?_eq_some_iff.1 e).1
 have d:∀ c,(w.heap.setIfInBounds b (.map i f))[c]?=if b=c then Z (.map i f) else w.heap[c]?:=by
  intro c;rw [A1]
  by_cases j:b=c
  .subst j;simp [m]
  .simp [j]
 constructor <;> intro a <;> by_cases h:b=a.block
 .subst h;simp only [L1,e,d,if_true]
 .simp only [L1,d,if_neg h]
 .subst h;simp only [World.frozen?,e,d,if_true]
 .simp only [World.frozen?,d,if_neg h]
theorem ta (w:X) (b:Nat) (o:Obj):aj w { w with heap:=w.heap.setIfInBounds b o }:=⟨rfl,rfl,rfl,by simp⟩
theorem ag.lookup {t a e:TypeId} {k:IntKind} (i:P.underlying t=Z (.map a e)) (d:P.underlying a=Z (.int k)) {z:Y} (j:(zeroValue e).run P w = .ok z w)
  {b:Nat} {M:KV} {F:ai} (h:ag w (mp b M*F)) (x:Int) (ok:Bool) :
  (Instr.lookup t (.map (Z b)) (W .i64 x) ok).run P w = .ok (if ok then .tuple #[(aP M x).getD z,.bool (aP M x).isSome] else (aP M x).getD z) w:=by
 obtain ⟨o,f,c,_⟩:=h.mY;exact iB i d j c f x ok
theorem ag.mapUpdate {t i e:TypeId} {k:IntKind} (n:P.underlying t=Z (.map i e)) (j:P.underlying i=Z (.int k))
  {b:Nat} {M:KV} {F:ai} (h:ag w (mp b M*F)) (x:Int) (v:Y) :
  ∃ a,(Instr.mapUpdate t (.map (Z b)) (W .i64 x) v).run P w = .ok () a/\ag a (mp b (SL.fw M x v)*F)/\aj w a/\n8 w a:=by
 obtain ⟨o,d,c,l⟩:=h.mY;obtain ⟨p,m,f⟩:=qC n j c d x v;exact ⟨_,m,(l.setObj p).tD f,ta _ _ _,lf c d f⟩
theorem CC {b:Nat} {o:Obj} {M:KV} (c:w.heap[b]?=Z o) (f:IsMap o M) (h:P.underlying t=Z (.map T kt)) (i:TypeId) :
  (Builtin.len_ #[t] i #[.map (Z b)]).run P w = .ok (W .i64 M.length) w:=by
 obtain ⟨a,j,rfl,d,_⟩:=f;have e:a.size=M.length:=by have:=congrArg X0 d;simpa [raw] using this
 simp [Builtin.len_,run_underlying h,run_getObj_map c,e,goInt]
theorem ag.Th {b:Nat} {M:KV} {F:ai} (h:ag w (mp b M*F)) (f:P.underlying t=Z (.map T kt)) (i:TypeId) :
  (Builtin.len_ #[t] i #[.map (Z b)]).run P w = .ok (W .i64 M.length) w:=by
 obtain ⟨o,⟨a,j,rfl,d,_⟩,c,_⟩:=h.mY;have e:a.size=M.length:=by have:=congrArg X0 d;simpa [raw] using this
 simp [Builtin.len_,run_underlying f,run_getObj_map c,e,goInt]
theorem del_eq {M:KV} (b:(M.map D0).Nodup) {j:Nat} (a:M.findIdx? (fun p=>p.1 == x)=Z j):del M x=M.eraseIdx j:=by
 induction M generalizing j with
 | nil=>simp at a
 | cons p M k=>
  rw [S0] at a
  by_cases h:(p.1 == x)=true
  .simp only [h,if_true,Option.some.injEq] at a
   subst a;have f:p.1=x:=by simpa using h
   unfold del;simp only [List.filter_cons,h,Bool.not_true,W0,if_false,List.eraseIdx_cons_zero];rw [S1];intro q d;simp only [H0,R0] at b;have:q.1≠x:=fun e=>b.1 (f▸e▸T1 d);simpa using this
  .simp only [h,W0,if_false,Option.map_eq_some_iff] at a
   obtain ⟨i,c,rfl⟩:=a;simp only [H0,R0] at b;have:=k b.2 c;unfold del at this ⊢;simp only [List.filter_cons,h,Bool.not_false,if_true,List.eraseIdx_cons_succ,this]
theorem B7 {M:KV} (a:M.findIdx? (fun p=>p.1 == x)=Z'):del M x=M:=by
 unfold del;rw [S1];intro p b;have:=List.findIdx?_eq_none_iff.1 a p b;simpa using this
theorem wj (K:P.underlying t=Z (.map T kt)) (C:P.underlying T=Z (.int k)) (N u:TypeId)
  {b:Nat} {o:Obj} {M:KV} (v:w.heap[b]?=Z o) (J:IsMap o M) (x:Int) :
  ∃ d,(Builtin.delete_ #[t,u] N #[.map (Z b),W .i64 x]).run P w = .ok (.tuple #[]) { w with heap:=w.heap.setIfInBounds b d }/\IsMap d (del M x):=by
 obtain ⟨c,r,rfl,e,m,A,z⟩:=J;have D:∀ d,(setObj b d).run P w = .ok () { w with heap:=w.heap.setIfInBounds b d }:=fun d=>by simp [setObj,Sem.run,v]
 have I:c.toList.length=M.length:=by have:=congrArg X0 e;simpa [raw] using this
 simp only [Builtin.delete_,Sem.run_bind,run_underlying K,run_getObj_map v,Result.andThen,gw _ _ C,ju C x e,List.getElem?_toArray,List.getElem?_cons_zero,List.getElem?_cons_succ]
 cases h:M.findIdx? (fun p=>p.1 == x) with
 | none=>
  refine ⟨_,by simp only [Y0,Sem.run_bind,D,Result.andThen,Sem.run_pure],c,r,rfl,?_,?_,A,z⟩
  .rw [B7 h];exact e
  .rw [B7 h];exact m
 | some j=>
  have B:=(List.findIdx?_eq_some_iff_findIdx_eq.1 h).1
  have n:(c.eraseIdxIfInBounds j).toList=c.toList.eraseIdx j:=by
   have H:j<c.size:=by rw [<- O1,I];exact B
   simp [Array.eraseIdxIfInBounds,H]
  refine ⟨_,by simp only [Y0,F0 B,G0,Sem.run_bind,D,Result.andThen,Sem.run_pure],c.eraseIdxIfInBounds j,r,rfl,?_,?_,?_,?_⟩
  .rw [del_eq m h,n]
   unfold raw at e ⊢
   have s:∀ {q G:Type} (f:q->G) (l:List q) (i:Nat),(l.eraseIdx i).map f=(l.map f).eraseIdx i:=by
    intro q G f l
    induction l with
    | nil=>intro i;simp
    | cons a l L=>intro i;cases i with
     | zero=>rfl
     | succ i=>simp [L]
   rw [s,s,e]
  .exact m.sublist (List.filter_sublist.map _)
  .intro y E
   rw [n] at E;exact A y (List.mem_of_mem_eraseIdx E)
  .rw [n]
   exact z.sublist ((List.eraseIdx_sublist _ _).map _)
theorem ag.delete (m:P.underlying t=Z (.map T kt)) (i:P.underlying T=Z (.int k)) (f u:TypeId)
  {b:Nat} {M:KV} {F:ai} (h:ag w (mp b M*F)) (x:Int) :
  ∃ a,(Builtin.delete_ #[t,u] f #[.map (Z b),W .i64 x]).run P w = .ok (.tuple #[]) a/\ag a (mp b (del M x)*F)/\aj w a/\n8 w a:=by
 obtain ⟨o,d,c,j⟩:=h.mY;obtain ⟨n,l,e⟩:=wj m i f u c d x;exact ⟨_,l,(j.setObj n).tD e,ta _ _ _,lf c d e⟩
def Iter (b:Nat) (o:Obj) (M D:KV) (f:Obj):Prop:=∃ a c,∃ d:List MapEntry,o = .map a c/\a.toList.map (fun e=>(e.key,e.val))=raw M/\(M.map D0).Nodup /\
 (∀ x ∈ a.toList,x.born<c)/\(a.toList.map (·.born)).Nodup/\f = .mapIter (Z b) c (d.map (·.born)).toArray c /\
 (∀ x ∈ d,x ∈ a.toList)/\(d.map (·.born)).Nodup/\d.map (fun e=>(e.key,e.val))=raw D
theorem kW (l:P.underlying t=Z (.map T kt)) {b:Nat} {o:Obj} {M:KV} (e:w.heap[b]?=Z o) (j:IsMap o M) :
  ∃ c,(Instr.range t (.map (Z b))).run P w = .ok (.pointer (Z ⟨w.heap.size,0,Z'⟩)) (w.alloc c)/\Iter b o M [] c:=by
 obtain ⟨d,a,rfl,i,k,h,f⟩:=j;refine ⟨.mapIter (Z b) a #[] a,?_,d,a,[],rfl,i,k,h,f,rfl,by simp,List.nodup_nil,rfl⟩;simp [Instr.range,run_underlying l,run_getObj_map e]
theorem mf {b:Nat} {o:Obj} {M D:KV} {T:Obj} (h:Iter b o M D T):(D.map D0).Nodup/\(∀ p ∈ D,p ∈ M):=by
 obtain ⟨d,U,f,rfl,v,N,b0,V,rfl,n,C,t⟩:=h
 have R:∀ p ∈ D,p ∈ M:=by
  intro p O;have r:(L0 .i64 p.1,p.2) ∈ raw D:=List.mem_map.2 ⟨p,O,rfl⟩;rw [<- t] at r;obtain ⟨e,G,H⟩:=List.mem_map.1 r;have s:(e.key,e.val) ∈ raw M:=by rw [<- v];exact List.mem_map.2 ⟨e,n e G,rfl⟩
  rw [H] at s;obtain ⟨q,Q,m⟩:=List.mem_map.1 s;simp at m;have:q=p:=Prod.ext m.1 m.2;exact this▸Q
 refine ⟨?_,R⟩
 have L:(d.toList.map (·.key)).Nodup:=by
  have y:d.toList.map (·.key)=(M.map D0).map (L0 .i64):=by
   have:=congrArg (List.map D0) v;simpa [raw,N0,Function.comp_def] using this
  rw [y];exact List.Pairwise.map _ (fun a b l e=>l (by simpa using e)) N
 have z:f.map (·.key)=(D.map D0).map (L0 .i64):=by
  have:=congrArg (List.map D0) t;simpa [raw,N0,Function.comp_def] using this
 have u:(f.map (·.key)).Nodup:=by
  have E:f.Nodup:=by
   have:f.Pairwise (fun a b=>a.born≠b.born):=List.pairwise_map.1 C;exact this.imp fun h e=>h (by rw [e])
  have I:∀ a ∈ d.toList,∀ c ∈ d.toList,a.key=c.key->a=c:=by
   intro a k c B K;obtain ⟨i,x,rfl⟩:=B1 k;obtain ⟨j,J,rfl⟩:=B1 B
   have:=(E1 (l:=d.toList.map (·.key)) (i:=i) (j:=j) (by simpa using x) L).1 (by
    simp only [K0,F0 x,F0 J,G0,K])
   subst this;rfl
  rw [List.nodup_iff_pairwise_ne,List.pairwise_map];exact E.imp_of_mem fun k A l e=>l (I _ (n _ k) _ (n _ A) e)
 rw [z] at u;exact (List.pairwise_map.1 u).imp (fun h e=>h (by rw [e]))
theorem ag.next {b r:Nat} {o it:Obj} {M D:KV} {F:ai} (h:ag w (pt r it*F)) (hb:w.heap[b]?=some o) (hi:Iter b o M D it) :
  (D.Perm M/\∀ ty,(Instr.next (.pointer (some ⟨r,0,none⟩)) false ty).run P w = .ok (.tuple #[.bool false]) w) \/
  ∃ p it' w',p ∈ M/\p.1 ∉ D.map D0/\(∀ ty,(Instr.next (.pointer (some ⟨r,0,none⟩)) false ty).run P w = .ok (.tuple #[.bool true,.int .i64 p.1,p.2]) w') /\
   ag w' (pt r it'*F)/\Iter b o M (D++[p]) it'/\aj w w'/\w'.heap[b]?=some o /\
   (Instr.entry (.pointer (some ⟨r,0,none⟩))).run P w' = .ok (.tuple #[.int .i64 p.1,p.2]) w':=by
 have hnd0:=mf hi;obtain ⟨es,clock,ds,rfl,hes,hnd,hborn,hbn,rfl,hsub,hdn,hD⟩:=hi;have hr:=h.heap;have hrb:r≠b:=by rintro rfl;rw [hr] at hb;cases hb
 rcases run_next_at (P:=P) w 0 r b clock clock _ es clock hr hb hborn (Nat.le_refl _) with ⟨hz,hrun⟩|⟨e,he,w1,hw1,hrun⟩
 .left
  refine ⟨?_,fun ty=>hrun⟩;have hMn:M.Nodup:=(List.pairwise_map.1 hnd).imp (fun h e=>h (by rw [e]));have hDn:D.Nodup:=(List.pairwise_map.1 hnd0.1).imp (fun h e=>h (by rw [e]));rw [List.perm_ext_iff_of_nodup hDn hMn];intro p;refine ⟨hnd0.2 p,fun hp=>?_⟩;have h1:(L0 .i64 p.1,p.2) ∈ raw M:=List.mem_map.2 ⟨p,hp,rfl⟩;rw [<- hes] at h1;obtain ⟨e,he,hep⟩:=List.mem_map.1 h1;have hsz:leftOf es (ds.map (·.born)).toArray=#[]:=Array.eq_empty_of_size_eq_zero hz
  have hin:e.born ∈ ds.map (·.born):=by
   apply Classical.byContradiction;intro hn
   have:e ∈ leftOf es (ds.map (·.born)).toArray:=by
    unfold leftOf;rw [Array.mem_filter];exact ⟨by simpa using he,by simpa using hn⟩
   rw [hsz] at this;simp at this
  obtain ⟨d,hd,hdb⟩:=List.mem_map.1 hin
  have hde:d=e:=by
   obtain ⟨i,hi,rfl⟩:=B1 (hsub d hd);obtain ⟨j,hj,rfl⟩:=B1 he
   have:=(E1 (l:=es.toList.map (·.born)) (i:=i) (j:=j) (by simpa using hi) hbn).1 (by
    simp only [K0,F0 hi,F0 hj,G0,hdb])
   subst this;rfl
  have h2:(L0 .i64 p.1,p.2) ∈ raw D:=by rw [<- hD,<- hep,<- hde];exact List.mem_map.2 ⟨d,hd,rfl⟩
  obtain ⟨q,hq,hqp⟩:=List.mem_map.1 h2;simp at hqp;have:q=p:=Prod.ext hqp.1 hqp.2;exact this▸hq
 .right
  have he':e ∈ es.toList/\e.born ∉ ds.map (·.born):=by
   unfold leftOf at he;simpa using he
  have h1:(e.key,e.val) ∈ raw M:=by rw [<- hes];exact List.mem_map.2 ⟨e,he'.1,rfl⟩
  obtain ⟨p,hp,hpe⟩:=List.mem_map.1 h1;simp only [Prod.mk.injEq] at hpe
  have hS:ag (Go.ChangeMaps.setBlock w1 r (.mapIter (some b) clock (((ds.map (·.born)).toArray).push e.born) clock)) (pt r (.mapIter (some b) clock (((ds.map (·.born)).toArray).push e.born) clock)*F):=by
   refine h.fw ?_ fun c hc=>?_
   .rcases hw1 with rfl|rfl <;> simp [Go.ChangeMaps.setBlock,h.lt]
   .rcases hw1 with rfl|rfl <;> (simp only [Go.ChangeMaps.setBlock,A1,World.drew];rw [if_neg (by omega)])
  have hI:Iter b (.map es clock) M (D++[p]) (.mapIter (some b) clock (((ds.map (·.born)).toArray).push e.born) clock):=by
   refine ⟨es,clock,ds++[e],rfl,hes,hnd,hborn,hbn,by simp,?_,?_,?_⟩
   .intro x hx
    rcases List.mem_append.1 hx with hx|hx
    .exact hsub x hx
    .simp at hx;exact hx▸he'.1
   .rw [Z0,V0]
    refine ⟨hdn,by simp,?_⟩;intro a ha c hc;simp at hc;exact fun e'=>he'.2 (hc▸e'▸ha)
   .rw [Z0,hD]
    simp [raw,hpe.1,hpe.2]
  have hbb:(Go.ChangeMaps.setBlock w1 r (.mapIter (some b) clock (((ds.map (·.born)).toArray).push e.born) clock)).heap[b]?=some (.map es clock):=by
   rcases hw1 with rfl|rfl <;> (simp only [Go.ChangeMaps.setBlock,A1,World.drew];rw [if_neg (by omega)];exact hb)
  refine ⟨p,_,_,hp,?_,fun ty=>by rw [hpe.1,hpe.2];exact hrun,hS,hI,?_,hbb,?_⟩
  .have:=(mf hI).1
   rw [Z0,V0] at this;intro hin;exact this.2.2 _ hin p.1 (by simp) rfl
  .rcases hw1 with rfl|rfl <;> exact ⟨rfl,rfl,rfl,by simp [Go.ChangeMaps.setBlock]⟩
  .rw [hpe.1,hpe.2]
   exact run_entry_at _ r b clock _ es clock e hS.heap hbb he'.1 hbn
theorem iO {t k e:TypeId} (a:P.underlying t=Z (.map k e)) (b:IntKind) (n:Int) (w:X):(Instr.makeMap t (Z (.int b n))).run P w = .ok (.map (Z w.heap.size)) (w.alloc (.map #[] 0)):=by
 simp [Instr.makeMap,run_underlying a,asInt,asIntOf]
theorem vN {l m:List Int} (h:l.Nodup) (c:∀ x ∈ l,x ∈ m):l.length<=m.length:=by
 induction l generalizing m with
 | nil=>simp
 | cons a l e=>
  rw [R0] at h;have b:=c a (by simp);have:=e (m:=m.erase a) h.2 (fun x d=>(List.mem_erase_of_ne (by rintro rfl;exact h.1 d)).2 (c x (by simp [d])));rw [List.length_erase_of_mem b] at this;have:=List.length_pos_of_mem b;simp;omega
theorem zJ {b:Nat} {o:Obj} {M D:KV} {f:Obj} (h:Iter b o M D f):D.length<=M.length:=by
 obtain ⟨a,c⟩:=mf h;have:=vN (m:=M.map D0) a (fun x e=>by obtain ⟨p,d,rfl⟩:=List.mem_map.1 e;exact T1 (c p d));simpa using this
def UN (w:X) (v:Y) (M:KV):Prop:=(v = .map Z'/\M=[])\/∃ b o,v = .map (Z b)/\w.heap[b]?=Z o/\IsMap o M
theorem OO {M:List (Int × α)} (h:x ∉ M.map D0) (v:α):SL.fw M x v=M++[(x,v)]:=by
 unfold SL.fw;rw [if_neg];rw [gn.2 h];simp
theorem nW {M D:List (Int × α)} (h:M.Perm D) (b:(M.map D0).Nodup) (x:Int):aP M x=aP D x:=by
 induction h with
 | nil=>rfl
 | cons p h d=>
  simp only [H0,R0] at b;have:=d b.2;unfold aP at this ⊢;simp only [T0]
  split
  .rfl
  .exact this
 | swap p q l=>
  simp only [H0,R0,List.mem_cons,not_or] at b;unfold aP;simp only [T0]
  by_cases a:(p.1 == x)=true <;> by_cases c:(q.1 == x)=true
  .exact absurd ((by simpa using c:q.1=x).trans (by simpa using a:p.1=x).symm) b.1.1
  .simp [a,c]
  .simp [a,c]
  .simp [a,c]
 | trans a c e f=>rw [e b,f ((a.map D0).nodup_iff.1 b)]
theorem Kv {M D:List (Int × α)} (h:M.Perm D) (a:(M.map D0).Nodup) (x:Int) (v:α):(SL.fw M x v).Perm (SL.fw D x v):=by
 unfold SL.fw;rw [nW h a x]
 split
 .exact h.map _
 .exact h.append_right _
theorem j7 (f:α->β) (M:List (Int × α)) (x:Int):aP (M.map fun p=>(p.1,f p.2)) x=(aP M x).map f:=by
 unfold aP;rw [List.find?_map];simp only [Function.comp_def,Option.map_map]
theorem zm (f:α->β) (M:List (Int × α)) (x:Int) (v:α):SL.fw (M.map fun p=>(p.1,f p.2)) x (f v)=(SL.fw M x v).map fun p=>(p.1,f p.2):=by
 unfold SL.fw;rw [j7];simp only [Option.isSome_map]
 split
 .rw [N0,N0]
  apply M1;intro p _;simp only [Function.comp_def]
  split <;> rfl
 .simp
theorem nh {M:List (Int × α)} {v:α} (h:aP M x=Z v):(x,v) ∈ M:=by
 unfold aP at h;obtain ⟨p,a,rfl⟩:=Option.map_eq_some_iff.1 h;have b:=List.mem_of_find?_eq_some a;have c:=List.find?_some a;have:p.1=x:=by simpa using c
 exact this▸b
theorem za {M:List (Int × α)} {v:α} {p:Int × α} (h:p ∈ SL.fw M x v):p=(x,v)\/p ∈ M:=by
 unfold SL.fw at h
 split at h
 .obtain ⟨q,a,rfl⟩:=List.mem_map.1 h
  split
  .exact .inl rfl
  .exact .inr a
 .rcases List.mem_append.1 h with h|h
  .exact .inr h
  .exact .inl (by simpa using h)
theorem zh (M:List (Int × α)) (x y:Int) (v:α):aP (M.map fun p=>if p.1 == x then (x,v) else p) y=if y=x then (aP M x).map fun _=>v else aP M y:=by
 induction M with
 | nil=>simp [aP]
 | cons p M f=>
  have c:∀ (q:Int × α) (L:List (Int × α)) (z:Int),aP (q :: L) z=if q.1=z then Z q.2 else aP L z:=by
   intro q L z;unfold aP;simp only [T0]
   by_cases h:q.1=z
   .simp [h]
   .have:(q.1 == z)=false:=by simpa using h
    simp [this,h]
  rw [H0,c,c,c,f]
  by_cases b:p.1=x
  .simp only [b,beq_self_eq_true,if_true]
   by_cases a:x=y
   .subst a;simp
   .have:¬ y=x:=fun e=>a e.symm
    simp [a,this]
  .have d:(p.1 == x)=false:=by simpa using b
   simp only [d,W0,if_false,b]
   by_cases a:p.1=y
   .have:¬ y=x:=fun e=>b (a.trans e)
    simp [a,this]
   .simp [a]
theorem qq (M:List (Int × α)) (x y:Int) (v:α):aP (SL.fw M x v) y=if y=x then Z v else aP M y:=by
 unfold SL.fw
 split
 .rename_i a
  rw [zh]
  split
  .obtain ⟨z,e⟩:=Option.isSome_iff_exists.1 a
   rw [e];rfl
  .rfl
 .rename_i a
  have b:aP M x=Z':=by simpa using a
  unfold aP at b ⊢;rw [List.find?_append]
  by_cases c:y=x
  .subst c
   have:List.find? (fun p=>p.1 == y) M=Z':=by simpa using b
   simp [this]
  .have d:(x == y)=false:=by simp;omega
   simp [d,c]
theorem CT (M:List (Int × α)) (x:Int) (v:α):(SL.fw M x v).length=if (aP M x).isSome then M.length else M.length+1:=by
 unfold SL.fw;split <;> simp
end
def aq (S:Hp):ai:=fun h=>h=S
def Ext (S S':Hp):Prop:=∀ k x,S k=Z x->S' k=Z x
theorem Ext.refl (S:Hp):Ext S S:=fun _ _ h=>h
theorem Ext.trans {a b c:Hp} (h:Ext a b) (k:Ext b c):Ext a c:=fun i x d=>k i x (h i x d)
theorem wm (S:Hp) (g:Nat) (o:Obj):Ext S (join S (one g o)):=fun k x h=>by simp [join,h]
section
variable {w:X} {S S' F:ai} {g:Nat} {o:Obj}
theorem ag.FE {S:Hp} (h:ag w (aq S*F)) (b:S g=Z o):w.heap[g]?=Z o:=by
 obtain ⟨m,a,rfl⟩:=h.left;exact a g o b
theorem ag.Fy {S:Hp} (h:ag w (aq S*(pt g o*F))):ag w (aq (join S (one g o))*F)/\join S (one g o) g=Z o:=by
 obtain ⟨m,a,b,l,rfl,⟨n,c,rfl,f,i,rfl⟩,d,rfl⟩:=h;obtain ⟨j,k⟩:=gr.1 d;refine ⟨⟨join (join b (one g o)) c,?_,join b (one g o),c,rfl,f,eA.2 ⟨k,i⟩,rfl⟩,?_⟩
 .rw [join_assoc];exact a
 .rcases j g with e|e
  .simp [join,one,e]
  .simp [one] at e
theorem ag.zH (h:ag w F):ag w (aq (fun _=>Z')*F):=h.to (di F).symm
end
def small (l:List UInt8):Prop:=l.length<=1000000
def ru (T:TypeId) (S:Hp) (v:Y) (l:List UInt8):Prop:=small l/\((v = .slice Z' 0 0/\l=[]) \/
 ∃ g b a,v = .slice (Z ⟨g,0,Z'⟩) l.length b/\S g=Z (.cells a T (0,0))/\a.toList.take l.length=l.map u8)
theorem ru.mono {S S':Hp} (h:ru T S v l) (e:Ext S S'):ru T S' v l:=by
 refine ⟨h.1,?_⟩;rcases h.2 with h|⟨g,a,b,c,d,f⟩
 .exact .inl h
 .exact .inr ⟨g,a,b,c,e _ _ d,f⟩
theorem uQ {w:X} {g n:Nat} {b:Array Y} {c:Nat × Nat} (h:w.heap[g]?=Z (.cells b t c)):At w ⟨g,0,Z'⟩ (b.toList.take n):=by
 intro j u a;rw [Addr.add_lit,Nat.zero_add];rw [List.getElem?_take] at a
 split at a
 .simp only [L1,h];simpa using a
 .cases a
theorem ru.rd {S:Hp} {w:X} {F:ai} (h:ru T S v l) (s:ag w (aq S*F)):Rd w v l:=by
 refine ⟨by simp,?_⟩;rcases h.2 with ⟨rfl,rfl⟩|⟨g,c,d,rfl,a,b⟩
 .exact .inl ⟨rfl,rfl⟩
 .exact .inr ⟨_,_,rfl,b▸uQ (s.FE a)⟩
theorem ag.yS {w:X} {S:Hp} {F:ai} (h:ag w (aq S*(bs T v l*F))) (b:small l) :
  ∃ S',Ext S S'/\ru T S' v l/\ag w (aq S'*F):=by
 rcases (h.to (aG _ _ _)).cW with ⟨rfl,e,_,a⟩|⟨g,c,d,rfl,k,m,n,f,a⟩
 .exact ⟨S,Ext.refl S,⟨b,.inl ⟨rfl,List.eq_nil_of_length_eq_zero e⟩⟩,a⟩
 .obtain ⟨i,j⟩:=(a.to (aG _ _ _)).Fy
  exact ⟨_,wm _ _ _,⟨b,.inr ⟨g,c,d,rfl,j,by simpa using f⟩⟩,i⟩
def pN (T:TypeId) (A:Int × List UInt8) (a:Y):ai:=fun h=>(A.1=0/\bs T a A.2 h)\/(A.1≠0/\a = .slice Z' 0 0/\h=fun _=>Z')
theorem ag.AX {w:X} {F:ai} (h:ag w (pN t A dv*F)):∃ a k c,dv = .slice a k c:=by
 obtain ⟨m,_,e,f,p,_,_,_⟩:=h;rcases p with ⟨_,p⟩|⟨_,rfl,_⟩
 .rcases p with ⟨rfl,_⟩|⟨g,b,d,rfl,_⟩
  .exact ⟨_,_,_,rfl⟩
  .exact ⟨_,_,_,rfl⟩
 .exact ⟨_,_,_,rfl⟩
theorem ag.uz {w:X} {F:ai} (h:ag w (pN t (0,l) dv*F)):ag w (bs t dv l*F):=
 h.fp fun _ a=>by rcases a with ⟨_,h⟩|⟨h,_⟩;exact h;exact absurd rfl h
theorem ag.te {w:X} {F:ai} (h:ag w (bs t dv l*F)):ag w (pN t (0,l) dv*F):=h.fp fun _ a=>.inl ⟨rfl,a⟩
theorem ag.Cz {w:X} {F:ai} (h:ag w (pN t A dv*F)) (a:A.1≠0):dv = .slice Z' 0 0/\ag w F:=by
 refine ⟨?_,h.right⟩;obtain ⟨m,_,b,c,p,_,_,_⟩:=h;rcases p with ⟨e,_⟩|⟨_,e,_⟩
 .exact absurd e a
 .exact e
theorem ag.jv {w:X} {F:ai} (h:ag w F) (a:A.1≠0):ag w (pN t A (.slice Z' 0 0)*F):=
 (h.to (di F).symm).fp fun _ b=>.inr ⟨a,rfl,b⟩
theorem ag.ss {w:X} {F:ai} (h:ag w (bs t dv l*F)):Rd w dv l:=ag.oD h
end Go.SL
namespace Go.SU
open RowKit
open SL (ai Hp one pt join ag aj star ay eX aG)
section
variable {P:Program} {w:X}
theorem getElem?_modify' {a:Type} (l:List a) (j i:Nat) (f:a->a):(l.modify j f)[i]?=if j=i then l[i]?.map f else l[i]?:=by
 rw [N1]
 by_cases h:j=i
 .simp [h]
 .simp [h]
end
end Go.SU
