/- Steps. -/
import Derived.Test.YtacliaemfegopaaGreatDoorKP1
import Derived.Maps.RangeRun
set_option linter.unusedVariables false
set_option linter.unusedSimpArgs false
set_option maxRecDepth 100000
set_option maxHeartbeats 40000000
open Go.Proofs Go.SL
namespace Go.SL
open Go.RowKit
abbrev KV:=List (Int × Value)
def aH {α:Type} (M:List (Int × α)) (x:Int):Option α:=(M.find? fun p=>p.1 == x).map Prod.snd
def fw {α:Type} (M:List (Int × α)) (x:Int) (v:α):List (Int × α):=if (aH M x).isSome then M.map (fun p=>if p.1 == x then (x,v) else p) else M++[(x,v)]
def del {α:Type} (M:List (Int × α)) (x:Int):List (Int × α):=M.filter fun p => !(p.1 == x)
def raw (M:KV):List (Value × Value):=M.map fun p=>(.int .i64 p.1,p.2)
def IsMap (o:Obj) (M:KV):Prop:=∃ es clock,o = .map es clock∧es.toList.map (fun e=>(e.key,e.val))=raw M∧(M.map Prod.fst).Nodup ∧
 (∀ x ∈ es.toList,x.born<clock)∧(es.toList.map (·.born)).Nodup
def mp (b:Nat) (M:KV):ah:=fun h=>∃ o,IsMap o M∧h=one b o
theorem isMap_empty:IsMap (.map #[] 0) []:=⟨#[],0,rfl,rfl,List.nodup_nil,by simp,by simp⟩
section
variable {P:Program} {w:World}
theorem zI (k:IntKind) (x:Int):∀ (es:List MapEntry) (M:KV) (i:Nat),es.map (fun e=>(e.key,e.val))=raw M →
  Instr.findNow (.int k) (.int .i64 x) es i=some (((M.findIdx? fun p=>p.1 == x).bind fun j=>(M[j]?).map fun p=>(i+j,p.2))):=by
 intro es
 induction es with
 | nil=>intro M i h;cases M with
  | nil=>rfl
  | cons p M=>simp [raw] at h
 | cons e es ih=>intro M i h;cases M with
  | nil=>simp [raw] at h
  | cons p M=>
   simp only [raw,List.map_cons,List.cons.injEq,Prod.mk.injEq] at h;obtain ⟨⟨hk,hv⟩,hr⟩:=h;have ih':=ih M (i+1) hr;unfold Instr.findNow;rw [hk]
   by_cases hx:x=p.1
   ·subst hx
    simp [Instr.sameNow,List.findIdx?_cons,hv]
   ·have:(p.1 == x)=false:=by simp;omega
    have hxp:(x == p.1)=false:=by simp;omega
    simp only [Instr.sameNow,if_true,hxp,ih',List.findIdx?_cons,this]
    cases hf:M.findIdx? (fun p=>p.1 == x) with
    | none=>simp
    | some j=>simp [Nat.add_assoc,Nat.add_comm 1 j]
theorem look_eq (M:KV) (x:Int):aH M x=(M.findIdx? fun p=>p.1 == x).bind fun j=>(M[j]?).map Prod.snd:=by
 unfold aH
 induction M with
 | nil=>rfl
 | cons p M ih=>
  simp only [List.find?_cons,List.findIdx?_cons]
  by_cases hx:(p.1 == x)=true
  ·simp [hx]
  ·simp only [Bool.not_eq_true] at hx
   simp only [hx,ih]
   cases hf:M.findIdx? (fun p=>p.1 == x) with
   | none=>simp
   | some j=>simp
theorem fL (em:Bool) (n:Nat) {t:TypeId} {k:IntKind} (ht:P.underlying t=some (.int k)) (v:Value):(Instr.checkKey em (n+1) t v).run P w = .ok () w:=by
 unfold Instr.checkKey;simp [run_underlying ht]
theorem iM {t:TypeId} {k:IntKind} (ht:P.underlying t=some (.int k)) (x:Int) {es:List MapEntry} {M:KV} (h:es.map (fun e=>(e.key,e.val))=raw M) :
  (Instr.findKey t (.int .i64 x) es).run P w = .ok ((M.findIdx? fun p=>p.1 == x).bind fun j=>(M[j]?).map fun p=>(j,p.2)) w:=by
 unfold Instr.findKey;simp [run_underlying ht,zI k x es M 0 h]
theorem run_getObj_map {b:Nat} {es:Array MapEntry} {clock:Nat} (h:w.heap[b]?=some (.map es clock)):(getObj b).run P w = .ok (.map es clock) w:=by
 simp [getObj,Sem.run,h]
theorem gK {t kt e:TypeId} {k:IntKind} (ht:P.underlying t=some (.map kt e)) (hk:P.underlying kt=some (.int k)) {z:Value} (hz:(zeroValue e).run P w = .ok z w)
  {b:Nat} {o:Obj} {M:KV} (hb:w.heap[b]?=some o) (hm:IsMap o M) (x:Int) (ok:Bool) :
  (Instr.lookup t (.map (some b)) (.int .i64 x) ok).run P w = .ok (if ok then .tuple #[(aH M x).getD z,.bool (aH M x).isSome] else (aH M x).getD z) w:=by
 obtain ⟨es,clock,rfl,hes,hnd,_⟩:=hm;simp only [Instr.lookup,Sem.run_bind,run_underlying ht,run_getObj_map hb,Sem.run_pure,Result.andThen,fL _ _ hk,iM hk x hes];rw [look_eq]
 cases hf:M.findIdx? (fun p=>p.1 == x) with
 | none=>simp [hz]
 | some j=>
  have hj:j<M.length:=by
   have:=List.findIdx?_eq_some_iff_findIdx_eq.1 hf;exact this.1
  simp [List.getElem?_eq_getElem hj]
theorem jq {t kt e:TypeId} {k:IntKind} (ht:P.underlying t=some (.map kt e)) (hk:P.underlying kt=some (.int k)) {z:Value} (hz:(zeroValue e).run P w = .ok z w)
  (x:Int) (ok:Bool) :
  (Instr.lookup t (.map none) (.int .i64 x) ok).run P w = .ok (if ok then .tuple #[z,.bool false] else z) w:=by
 simp only [Instr.lookup,Sem.run_bind,run_underlying ht,Sem.run_pure,Result.andThen,fL _ _ hk];simp [Instr.findKey,Instr.findNow,run_underlying hk,hz]
theorem IP {α:Type} (M:List (Int × α)) (x:Int) (v:α):(fw M x v).map Prod.fst=if (aH M x).isSome then M.map Prod.fst else M.map Prod.fst++[x]:=by
 unfold fw
 split
 ·rw [List.map_map]
  apply List.map_congr_left;intro p _;show (if (p.1 == x)=true then (x,v) else p).1=p.1
  split
  ·rename_i h;exact (by simpa using h:p.1=x).symm
  ·rfl
 ·simp
theorem fK {α:Type} {M:List (Int × α)} {x:Int}:aH M x=none↔x ∉ M.map Prod.fst:=by
 unfold aH;simp only [Option.map_eq_none_iff,List.find?_eq_none,List.mem_map,beq_iff_eq,not_exists,not_and]
theorem getElem?_modify' {α:Type} (l:List α) (j i:Nat) (f:α→α):(l.modify j f)[i]?=if j=i then l[i]?.map f else l[i]?:=by
 rw [List.getElem?_modify]
 by_cases h:j=i
 ·simp [h]
 ·simp [h]
theorem qI {α:Type} {M:List (Int × α)} (h:(M.map Prod.fst).Nodup) (x:Int) (v:α):((fw M x v).map Prod.fst).Nodup:=by
 rw [IP]
 split
 ·exact h
 ·rename_i hn
  have:aH M x=none:=by simpa using hn
  rw [fK] at this;rw [List.nodup_append];exact ⟨h,by simp,by intro a ha b hb;simp at hb;subst hb;exact fun e=>this (e▸ha)⟩
theorem Av {M:KV} (hnd:(M.map Prod.fst).Nodup) {x:Int} {j:Nat} (hj:M.findIdx? (fun p=>p.1 == x)=some j) (v:Value):fw M x v=M.modify j fun _=>(x,v):=by
 have hl:(aH M x).isSome=true:=by
  rw [look_eq,hj];have hj':=(List.findIdx?_eq_some_iff_findIdx_eq.1 hj).1;simp [List.getElem?_eq_getElem hj']
 unfold fw;rw [if_pos hl];apply List.ext_getElem?;intro i;rw [List.getElem?_map,getElem?_modify'];have hj2:=List.findIdx?_eq_some_iff_getElem.1 hj;obtain ⟨hjl,hjx,hjm⟩:=hj2
 by_cases hi:i<M.length
 ·rw [List.getElem?_eq_getElem hi]
  by_cases hij:j=i
  ·subst hij
   simp only [Option.map_some,hjx,if_true]
  ·have:(M[i].1 == x)=false:=by
    rw [Bool.eq_false_iff];intro hx;apply hij;have h1:M[i].1=x:=by simpa using hx
    have h2:M[j].1=x:=by simpa using hjx
    exact (List.getElem?_inj (l:=M.map Prod.fst) (by simpa using hjl) hnd).1 (by simp [List.getElem?_eq_getElem hjl,List.getElem?_eq_getElem hi,h1,h2])
   simp only [Option.map_some,this,if_neg hij,Bool.false_eq_true,if_false]
 ·simp [List.getElem?_eq_none (Nat.le_of_not_lt hi)]
theorem oW {t kt e:TypeId} {k:IntKind} (ht:P.underlying t=some (.map kt e)) (hk:P.underlying kt=some (.int k))
  {b:Nat} {o:Obj} {M:KV} (hb:w.heap[b]?=some o) (hm:IsMap o M) (x:Int) (v:Value) :
  ∃ o',(Instr.mapUpdate t (.map (some b)) (.int .i64 x) v).run P w = .ok () { w with heap:=w.heap.setIfInBounds b o' }∧IsMap o' (fw M x v):=by
 obtain ⟨es,clock,rfl,hes,hnd,hborn,hbn⟩:=hm;have hset:∀ o',(setObj b o').run P w = .ok () { w with heap:=w.heap.setIfInBounds b o' }:=fun o'=>by simp [setObj,Sem.run,hb]
 simp only [Instr.mapUpdate,Sem.run_bind,run_underlying ht,run_getObj_map hb,Result.andThen,fL _ _ hk,iM hk x hes];have hlen:es.toList.length=M.length:=by have:=congrArg List.length hes;simpa [raw] using this
 cases hf:M.findIdx? (fun p=>p.1 == x) with
 | none=>
  refine ⟨_,by simp only [Option.bind];exact hset _,es.push _,_,rfl,?_,qI hnd x v,?_,?_⟩
  ·have hln:aH M x=none:=by rw [look_eq,hf];rfl
   simp [fw,hln,raw,hes]
  ·intro y hy
   simp only [Array.toList_push,List.mem_append,List.mem_singleton] at hy;rcases hy with hy|rfl
   ·have:=hborn y hy;omega
   ·simp
  ·simp only [Array.toList_push,List.map_append,List.map_cons,List.map_nil]
   rw [List.nodup_append];refine ⟨hbn,by simp,?_⟩;intro a ha c hc;simp at hc;obtain ⟨y,hy,rfl⟩:=List.mem_map.1 ha;have:=hborn y hy;omega
 | some j=>
  have hj:=(List.findIdx?_eq_some_iff_findIdx_eq.1 hf).1;have hjx:=(List.findIdx?_eq_some_iff_getElem.1 hf).2.1;have hje:j<es.size:=by rw [← Array.length_toList,hlen];exact hj
  have hkey:es[j].key = .int .i64 x:=by
   have:=congrArg (fun l=>l[j]?) hes;simp only [raw,List.getElem?_map,Array.getElem?_toList,Array.getElem?_eq_getElem hje,List.getElem?_eq_getElem hj,Option.map_some,Option.some.injEq,Prod.mk.injEq] at this;rw [this.1];have:M[j].1=x:=by simpa using hjx
   rw [this]
  have hstay:(Instr.keyThatStays (.int .i64 x) (.int .i64 x)).run P w = .ok (.int .i64 x) w:=by
   simp [Instr.keyThatStays,Instr.sameBits]
  refine ⟨_,by
   simp only [Option.bind,List.getElem?_eq_getElem hj,Option.map_some,Array.getElem?_eq_getElem hje,Option.getD_some,hkey,Sem.run_bind,hstay,Result.andThen];exact hset _,es.modify j _,clock,rfl,?_,qI hnd x v,?_,?_⟩
  ·rw [Av hnd hf]
   simp only [Array.toList_modify];apply List.ext_getElem?;intro i;have hi:=congrArg (fun l=>l[i]?) hes;simp only [raw,List.getElem?_map] at hi;simp only [List.getElem?_map,getElem?_modify',raw]
   by_cases hij:j=i
   ·subst hij
    simp only [Array.getElem?_toList,Array.getElem?_eq_getElem hje,List.getElem?_eq_getElem hj];simp
   ·simp only [hij,if_false]
    exact hi
  ·intro y hy
   rw [Array.toList_modify] at hy;obtain ⟨i,hi⟩:=List.mem_iff_getElem?.1 hy;rw [getElem?_modify'] at hi
   cases hei:es.toList[i]? with
   | none=>rw [hei] at hi;simp at hi
   | some z=>
    rw [hei] at hi;have hz:=hborn z (List.mem_iff_getElem?.2 ⟨i,hei⟩)
    split at hi
    ·simp only [Option.map_some,Option.some.injEq] at hi
     subst hi;exact hz
    ·simp only [Option.some.injEq] at hi
     subst hi;exact hz
  ·have:(es.modify j fun e=>{ e with key:=Value.int .i64 x,val:=v }).toList.map (·.born)=es.toList.map (·.born):=by
    rw [Array.toList_modify];apply List.ext_getElem?;intro i;simp only [List.getElem?_map,getElem?_modify']
    cases es.toList[i]? with
    | none=>simp
    | some z=>by_cases hij:j=i <;> simp [hij]
   rw [this];exact hbn
theorem Sat.od {b:Nat} {M:KV} {F:ah} (h:Sat w (mp b M*F)):∃ o,IsMap o M∧w.heap[b]?=some o∧Sat w (pt b o*F):=by
 obtain ⟨m,a,h1,h2,⟨o,ho,rfl⟩,f,d,rfl⟩:=h;exact ⟨o,ho,a b o (by simp [join,one]),_,a,one b o,h2,rfl,f,d,rfl⟩
theorem Sat.tH {b:Nat} {M:KV} {F:ah} {o:Obj} (h:Sat w (pt b o*F)) (ho:IsMap o M):Sat w (mp b M*F):=h.fh fun _ hk=>⟨o,ho,hk⟩
theorem Sat.setObj {b:Nat} {o:Obj} {F:ah} (h:Sat w (pt b o*F)) (o':Obj):Sat { w with heap:=w.heap.setIfInBounds b o' } (pt b o'*F):=
 h.fw (by simp [h.lt]) fun c hc=>by simp only [Array.getElem?_setIfInBounds];rw [if_neg (by omega)]
def nj (w w':World):Prop:=(∀ a,w'.cell? a=w.cell? a)∧∀ a,w'.frozen? a=w.frozen? a
theorem kx {w:World} {b:Nat} {o o':Obj} {M M':KV} (hb:w.heap[b]?=some o) (hm:IsMap o M) (hm':IsMap o' M'):nj w { w with heap:=w.heap.setIfInBounds b o' }:=by
 obtain ⟨es,clock,rfl,_⟩:=hm;obtain ⟨es',clock',rfl,_⟩:=hm';have hlt:b<w.heap.size:=(Array.getElem?_eq_some_iff.1 hb).1
 have hg:∀ c,(w.heap.setIfInBounds b (.map es' clock'))[c]?=if b=c then some (.map es' clock') else w.heap[c]?:=by
  intro c;rw [Array.getElem?_setIfInBounds]
  by_cases hc:b=c
  ·subst hc;simp [hlt]
  ·simp [hc]
 constructor <;> intro a <;> by_cases h:b=a.block
 ·subst h;simp only [World.cell?,hb,hg,if_true]
 ·simp only [World.cell?,hg,if_neg h]
 ·subst h;simp only [World.frozen?,hb,hg,if_true]
 ·simp only [World.frozen?,hg,if_neg h]
theorem rD (w:World) (b:Nat) (o:Obj):ai w { w with heap:=w.heap.setIfInBounds b o }:=⟨rfl,rfl,rfl,by simp⟩
theorem Sat.lookup {t kt e:TypeId} {k:IntKind} (ht:P.underlying t=some (.map kt e)) (hk:P.underlying kt=some (.int k)) {z:Value} (hz:(zeroValue e).run P w = .ok z w)
  {b:Nat} {M:KV} {F:ah} (h:Sat w (mp b M*F)) (x:Int) (ok:Bool) :
  (Instr.lookup t (.map (some b)) (.int .i64 x) ok).run P w = .ok (if ok then .tuple #[(aH M x).getD z,.bool (aH M x).isSome] else (aH M x).getD z) w:=by
 obtain ⟨o,ho,hb,_⟩:=h.od;exact gK ht hk hz hb ho x ok
theorem Sat.mapUpdate {t kt e:TypeId} {k:IntKind} (ht:P.underlying t=some (.map kt e)) (hk:P.underlying kt=some (.int k))
  {b:Nat} {M:KV} {F:ah} (h:Sat w (mp b M*F)) (x:Int) (v:Value) :
  ∃ w',(Instr.mapUpdate t (.map (some b)) (.int .i64 x) v).run P w = .ok () w'∧Sat w' (mp b (SL.fw M x v)*F)∧ai w w'∧nj w w':=by
 obtain ⟨o,ho,hb,hp⟩:=h.od;obtain ⟨o',hr,ho'⟩:=oW ht hk hb ho x v;exact ⟨_,hr,(hp.setObj o').tH ho',rD _ _ _,kx hb ho ho'⟩
theorem Ag {b:Nat} {o:Obj} {M:KV} (hb:w.heap[b]?=some o) (hm:IsMap o M) {t kt e:TypeId} (ht:P.underlying t=some (.map kt e)) (ty:TypeId) :
  (Builtin.len_ #[t] ty #[.map (some b)]).run P w = .ok (.int .i64 M.length) w:=by
 obtain ⟨es,clock,rfl,hes,_⟩:=hm;have hlen:es.size=M.length:=by have:=congrArg List.length hes;simpa [raw] using this
 simp [Builtin.len_,run_underlying ht,run_getObj_map hb,hlen,goInt]
theorem Sat.Qj {b:Nat} {M:KV} {F:ah} (h:Sat w (mp b M*F)) {t kt e:TypeId} (ht:P.underlying t=some (.map kt e)) (ty:TypeId) :
  (Builtin.len_ #[t] ty #[.map (some b)]).run P w = .ok (.int .i64 M.length) w:=by
 obtain ⟨o,⟨es,clock,rfl,hes,_⟩,hb,_⟩:=h.od;have hlen:es.size=M.length:=by have:=congrArg List.length hes;simpa [raw] using this
 simp [Builtin.len_,run_underlying ht,run_getObj_map hb,hlen,goInt]
theorem del_eq {M:KV} (hnd:(M.map Prod.fst).Nodup) {x:Int} {j:Nat} (hj:M.findIdx? (fun p=>p.1 == x)=some j):del M x=M.eraseIdx j:=by
 induction M generalizing j with
 | nil=>simp at hj
 | cons p M ih=>
  rw [List.findIdx?_cons] at hj
  by_cases h:(p.1 == x)=true
  ·simp only [h,if_true,Option.some.injEq] at hj
   subst hj;have hx:p.1=x:=by simpa using h
   unfold del;simp only [List.filter_cons,h,Bool.not_true,Bool.false_eq_true,if_false,List.eraseIdx_cons_zero];rw [List.filter_eq_self];intro q hq;simp only [List.map_cons,List.nodup_cons] at hnd;have:q.1≠x:=fun e=>hnd.1 (hx▸e▸List.mem_map_of_mem hq);simpa using this
  ·simp only [h,Bool.false_eq_true,if_false,Option.map_eq_some_iff] at hj
   obtain ⟨i,hi,rfl⟩:=hj;simp only [List.map_cons,List.nodup_cons] at hnd;have:=ih hnd.2 hi;unfold del at this ⊢;simp only [List.filter_cons,h,Bool.not_false,if_true,List.eraseIdx_cons_succ,this]
theorem zM {M:KV} {x:Int} (hj:M.findIdx? (fun p=>p.1 == x)=none):del M x=M:=by
 unfold del;rw [List.filter_eq_self];intro p hp;have:=List.findIdx?_eq_none_iff.1 hj p hp;simpa using this
theorem tI {t kt e:TypeId} {k:IntKind} (ht:P.underlying t=some (.map kt e)) (hk:P.underlying kt=some (.int k)) (ty u:TypeId)
  {b:Nat} {o:Obj} {M:KV} (hb:w.heap[b]?=some o) (hm:IsMap o M) (x:Int) :
  ∃ o',(Builtin.delete_ #[t,u] ty #[.map (some b),.int .i64 x]).run P w = .ok (.tuple #[]) { w with heap:=w.heap.setIfInBounds b o' }∧IsMap o' (del M x):=by
 obtain ⟨es,clock,rfl,hes,hnd,hborn,hbn⟩:=hm;have hset:∀ o',(setObj b o').run P w = .ok () { w with heap:=w.heap.setIfInBounds b o' }:=fun o'=>by simp [setObj,Sem.run,hb]
 have hlen:es.toList.length=M.length:=by have:=congrArg List.length hes;simpa [raw] using this
 simp only [Builtin.delete_,Sem.run_bind,run_underlying ht,run_getObj_map hb,Result.andThen,fL _ _ hk,iM hk x hes,List.getElem?_toArray,List.getElem?_cons_zero,List.getElem?_cons_succ]
 cases hf:M.findIdx? (fun p=>p.1 == x) with
 | none=>
  refine ⟨_,by simp only [Option.bind,Sem.run_bind,hset,Result.andThen,Sem.run_pure],es,clock,rfl,?_,?_,hborn,hbn⟩
  ·rw [zM hf];exact hes
  ·rw [zM hf];exact hnd
 | some j=>
  have hj:=(List.findIdx?_eq_some_iff_findIdx_eq.1 hf).1
  have hsub:(es.eraseIdxIfInBounds j).toList=es.toList.eraseIdx j:=by
   have hje:j<es.size:=by rw [← Array.length_toList,hlen];exact hj
   simp [Array.eraseIdxIfInBounds,hje]
  refine ⟨_,by simp only [Option.bind,List.getElem?_eq_getElem hj,Option.map_some,Sem.run_bind,hset,Result.andThen,Sem.run_pure],es.eraseIdxIfInBounds j,clock,rfl,?_,?_,?_,?_⟩
  ·rw [del_eq hnd hf,hsub]
   unfold raw at hes ⊢
   have em:∀ {α β:Type} (f:α→β) (l:List α) (i:Nat),(l.eraseIdx i).map f=(l.map f).eraseIdx i:=by
    intro α β f l
    induction l with
    | nil=>intro i;simp
    | cons a l ih=>intro i;cases i with
     | zero=>rfl
     | succ i=>simp [ih]
   rw [em,em,hes]
  ·exact hnd.sublist (List.filter_sublist.map _)
  ·intro y hy
   rw [hsub] at hy;exact hborn y (List.mem_of_mem_eraseIdx hy)
  ·rw [hsub]
   exact hbn.sublist ((List.eraseIdx_sublist _ _).map _)
theorem Sat.delete {t kt e:TypeId} {k:IntKind} (ht:P.underlying t=some (.map kt e)) (hk:P.underlying kt=some (.int k)) (ty u:TypeId)
  {b:Nat} {M:KV} {F:ah} (h:Sat w (mp b M*F)) (x:Int) :
  ∃ w',(Builtin.delete_ #[t,u] ty #[.map (some b),.int .i64 x]).run P w = .ok (.tuple #[]) w'∧Sat w' (mp b (del M x)*F)∧ai w w'∧nj w w':=by
 obtain ⟨o,ho,hb,hp⟩:=h.od;obtain ⟨o',hr,ho'⟩:=tI ht hk ty u hb ho x;exact ⟨_,hr,(hp.setObj o').tH ho',rD _ _ _,kx hb ho ho'⟩
def Iter (b:Nat) (o:Obj) (M D:KV) (it:Obj):Prop:=∃ es clock,∃ ds:List MapEntry,o = .map es clock∧es.toList.map (fun e=>(e.key,e.val))=raw M∧(M.map Prod.fst).Nodup ∧
 (∀ x ∈ es.toList,x.born<clock)∧(es.toList.map (·.born)).Nodup∧it = .mapIter (some b) clock (ds.map (·.born)).toArray clock ∧
 (∀ x ∈ ds,x ∈ es.toList)∧(ds.map (·.born)).Nodup∧ds.map (fun e=>(e.key,e.val))=raw D
theorem nG {t kt e:TypeId} (ht:P.underlying t=some (.map kt e)) {b:Nat} {o:Obj} {M:KV} (hb:w.heap[b]?=some o) (hm:IsMap o M) :
  ∃ it,(Instr.range t (.map (some b))).run P w = .ok (.pointer (some ⟨w.heap.size,0,none⟩)) (w.alloc it)∧Iter b o M [] it:=by
 obtain ⟨es,clock,rfl,hes,hnd,hborn,hbn⟩:=hm;refine ⟨.mapIter (some b) clock #[] clock,?_,es,clock,[],rfl,hes,hnd,hborn,hbn,rfl,by simp,List.nodup_nil,rfl⟩;simp [Instr.range,run_underlying ht,run_getObj_map hb]
theorem kU {b:Nat} {o:Obj} {M D:KV} {it:Obj} (h:Iter b o M D it):(D.map Prod.fst).Nodup∧(∀ p ∈ D,p ∈ M):=by
 obtain ⟨es,clock,ds,rfl,hes,hnd,hborn,hbn,rfl,hsub,hdn,hD⟩:=h
 have hsubM:∀ p ∈ D,p ∈ M:=by
  intro p hp;have h1:(Value.int .i64 p.1,p.2) ∈ raw D:=List.mem_map.2 ⟨p,hp,rfl⟩;rw [← hD] at h1;obtain ⟨e,he,hep⟩:=List.mem_map.1 h1;have h2:(e.key,e.val) ∈ raw M:=by rw [← hes];exact List.mem_map.2 ⟨e,hsub e he,rfl⟩
  rw [hep] at h2;obtain ⟨q,hq,hqp⟩:=List.mem_map.1 h2;simp at hqp;have:q=p:=Prod.ext hqp.1 hqp.2;exact this▸hq
 refine ⟨?_,hsubM⟩
 have hkeys:(es.toList.map (·.key)).Nodup:=by
  have e1:es.toList.map (·.key)=(M.map Prod.fst).map (Value.int .i64):=by
   have:=congrArg (List.map Prod.fst) hes;simpa [raw,List.map_map,Function.comp_def] using this
  rw [e1];exact List.Pairwise.map _ (fun a b hab e=>hab (by simpa using e)) hnd
 have e2:ds.map (·.key)=(D.map Prod.fst).map (Value.int .i64):=by
  have:=congrArg (List.map Prod.fst) hD;simpa [raw,List.map_map,Function.comp_def] using this
 have hdk:(ds.map (·.key)).Nodup:=by
  have hds:ds.Nodup:=by
   have:ds.Pairwise (fun a b=>a.born≠b.born):=List.pairwise_map.1 hdn;exact this.imp fun h e=>h (by rw [e])
  have hinj:∀ a ∈ es.toList,∀ c ∈ es.toList,a.key=c.key→a=c:=by
   intro a ha c hc hk;obtain ⟨i,hi,rfl⟩:=List.getElem_of_mem ha;obtain ⟨j,hj,rfl⟩:=List.getElem_of_mem hc
   have:=(List.getElem?_inj (l:=es.toList.map (·.key)) (i:=i) (j:=j) (by simpa using hi) hkeys).1 (by
    simp only [List.getElem?_map,List.getElem?_eq_getElem hi,List.getElem?_eq_getElem hj,Option.map_some,hk])
   subst this;rfl
  rw [List.nodup_iff_pairwise_ne,List.pairwise_map];exact hds.imp_of_mem fun ha hb hab e=>hab (hinj _ (hsub _ ha) _ (hsub _ hb) e)
 rw [e2] at hdk;exact (List.pairwise_map.1 hdk).imp (fun h e=>h (by rw [e]))
theorem Sat.next {b r:Nat} {o it:Obj} {M D:KV} {F:ah} (h:Sat w (pt r it*F)) (hb:w.heap[b]?=some o) (hi:Iter b o M D it) :
  (D.Perm M∧∀ ty,(Instr.next (.pointer (some ⟨r,0,none⟩)) false ty).run P w = .ok (.tuple #[.bool false]) w) ∨
  ∃ p it' w',p ∈ M∧p.1 ∉ D.map Prod.fst∧(∀ ty,(Instr.next (.pointer (some ⟨r,0,none⟩)) false ty).run P w = .ok (.tuple #[.bool true,.int .i64 p.1,p.2]) w') ∧
   Sat w' (pt r it'*F)∧Iter b o M (D++[p]) it'∧ai w w'∧w'.heap[b]?=some o ∧
   (Instr.entry (.pointer (some ⟨r,0,none⟩))).run P w' = .ok (.tuple #[.int .i64 p.1,p.2]) w':=by
 have hnd0:=kU hi;obtain ⟨es,clock,ds,rfl,hes,hnd,hborn,hbn,rfl,hsub,hdn,hD⟩:=hi;have hr:=h.heap;have hrb:r≠b:=by rintro rfl;rw [hr] at hb;cases hb
 rcases run_next_at (P:=P) w 0 r b clock clock _ es clock hr hb hborn (Nat.le_refl _) with ⟨hz,hrun⟩|⟨e,he,w1,hw1,hrun⟩
 ·left
  refine ⟨?_,fun ty=>hrun⟩;have hMn:M.Nodup:=(List.pairwise_map.1 hnd).imp (fun h e=>h (by rw [e]));have hDn:D.Nodup:=(List.pairwise_map.1 hnd0.1).imp (fun h e=>h (by rw [e]));rw [List.perm_ext_iff_of_nodup hDn hMn];intro p;refine ⟨hnd0.2 p,fun hp=>?_⟩;have h1:(Value.int .i64 p.1,p.2) ∈ raw M:=List.mem_map.2 ⟨p,hp,rfl⟩;rw [← hes] at h1;obtain ⟨e,he,hep⟩:=List.mem_map.1 h1;have hsz:leftOf es (ds.map (·.born)).toArray=#[]:=Array.eq_empty_of_size_eq_zero hz
  have hin:e.born ∈ ds.map (·.born):=by
   apply Classical.byContradiction;intro hn
   have:e ∈ leftOf es (ds.map (·.born)).toArray:=by
    unfold leftOf;rw [Array.mem_filter];exact ⟨by simpa using he,by simpa using hn⟩
   rw [hsz] at this;simp at this
  obtain ⟨d,hd,hdb⟩:=List.mem_map.1 hin
  have hde:d=e:=by
   obtain ⟨i,hi,rfl⟩:=List.getElem_of_mem (hsub d hd);obtain ⟨j,hj,rfl⟩:=List.getElem_of_mem he
   have:=(List.getElem?_inj (l:=es.toList.map (·.born)) (i:=i) (j:=j) (by simpa using hi) hbn).1 (by
    simp only [List.getElem?_map,List.getElem?_eq_getElem hi,List.getElem?_eq_getElem hj,Option.map_some,hdb])
   subst this;rfl
  have h2:(Value.int .i64 p.1,p.2) ∈ raw D:=by rw [← hD,← hep,← hde];exact List.mem_map.2 ⟨d,hd,rfl⟩
  obtain ⟨q,hq,hqp⟩:=List.mem_map.1 h2;simp at hqp;have:q=p:=Prod.ext hqp.1 hqp.2;exact this▸hq
 ·right
  have he':e ∈ es.toList∧e.born ∉ ds.map (·.born):=by
   unfold leftOf at he;simpa using he
  have h1:(e.key,e.val) ∈ raw M:=by rw [← hes];exact List.mem_map.2 ⟨e,he'.1,rfl⟩
  obtain ⟨p,hp,hpe⟩:=List.mem_map.1 h1;simp only [Prod.mk.injEq] at hpe
  have hS:Sat (Go.ChangeMaps.setBlock w1 r (.mapIter (some b) clock (((ds.map (·.born)).toArray).push e.born) clock)) (pt r (.mapIter (some b) clock (((ds.map (·.born)).toArray).push e.born) clock)*F):=by
   refine h.fw ?_ fun c hc=>?_
   ·rcases hw1 with rfl|rfl <;> simp [Go.ChangeMaps.setBlock,h.lt]
   ·rcases hw1 with rfl|rfl <;> (simp only [Go.ChangeMaps.setBlock,Array.getElem?_setIfInBounds,World.drew];rw [if_neg (by omega)])
  have hI:Iter b (.map es clock) M (D++[p]) (.mapIter (some b) clock (((ds.map (·.born)).toArray).push e.born) clock):=by
   refine ⟨es,clock,ds++[e],rfl,hes,hnd,hborn,hbn,by simp,?_,?_,?_⟩
   ·intro x hx
    rcases List.mem_append.1 hx with hx|hx
    ·exact hsub x hx
    ·simp at hx;exact hx▸he'.1
   ·rw [List.map_append,List.nodup_append]
    refine ⟨hdn,by simp,?_⟩;intro a ha c hc;simp at hc;exact fun e'=>he'.2 (hc▸e'▸ha)
   ·rw [List.map_append,hD]
    simp [raw,hpe.1,hpe.2]
  have hbb:(Go.ChangeMaps.setBlock w1 r (.mapIter (some b) clock (((ds.map (·.born)).toArray).push e.born) clock)).heap[b]?=some (.map es clock):=by
   rcases hw1 with rfl|rfl <;> (simp only [Go.ChangeMaps.setBlock,Array.getElem?_setIfInBounds,World.drew];rw [if_neg (by omega)];exact hb)
  refine ⟨p,_,_,hp,?_,fun ty=>by rw [hpe.1,hpe.2];exact hrun,hS,hI,?_,hbb,?_⟩
  ·have:=(kU hI).1
   rw [List.map_append,List.nodup_append] at this;intro hin;exact this.2.2 _ hin p.1 (by simp) rfl
  ·rcases hw1 with rfl|rfl <;> exact ⟨rfl,rfl,rfl,by simp [Go.ChangeMaps.setBlock]⟩
  ·rw [hpe.1,hpe.2]
   exact run_entry_at _ r b clock _ es clock e hS.heap hbb he'.1 hbn
theorem iq {t k e:TypeId} (ht:P.underlying t=some (.map k e)) (kd:IntKind) (n:Int) (w:World):(Instr.makeMap t (some (.int kd n))).run P w = .ok (.map (some w.heap.size)) (w.alloc (.map #[] 0)):=by
 simp [Instr.makeMap,run_underlying ht,asInt,asIntOf]
theorem tM {l m:List Int} (h:l.Nodup) (hs:∀ x ∈ l,x ∈ m):l.length≤m.length:=by
 induction l generalizing m with
 | nil=>simp
 | cons a l ih=>
  rw [List.nodup_cons] at h;have ha:=hs a (by simp);have:=ih (m:=m.erase a) h.2 (fun x hx=>(List.mem_erase_of_ne (by rintro rfl;exact h.1 hx)).2 (hs x (by simp [hx])));rw [List.length_erase_of_mem ha] at this;have:=List.length_pos_of_mem ha;simp;omega
theorem CM {b:Nat} {o:Obj} {M D:KV} {it:Obj} (h:Iter b o M D it):D.length≤M.length:=by
 obtain ⟨h1,h2⟩:=kU h;have:=tM (m:=M.map Prod.fst) h1 (fun x hx=>by obtain ⟨p,hp,rfl⟩:=List.mem_map.1 hx;exact List.mem_map_of_mem (h2 p hp));simpa using this
def Q5 (w:World) (v:Value) (M:KV):Prop:=(v = .map none∧M=[])∨∃ b o,v = .map (some b)∧w.heap[b]?=some o∧IsMap o M
theorem KN {α:Type} {M:List (Int × α)} {x:Int} (h:x ∉ M.map Prod.fst) (v:α):SL.fw M x v=M++[(x,v)]:=by
 unfold SL.fw;rw [if_neg];rw [fK.2 h];simp
theorem mM {α:Type} {M D:List (Int × α)} (h:M.Perm D) (hn:(M.map Prod.fst).Nodup) (x:Int):aH M x=aH D x:=by
 induction h with
 | nil=>rfl
 | cons p h ih=>
  simp only [List.map_cons,List.nodup_cons] at hn;have:=ih hn.2;unfold aH at this ⊢;simp only [List.find?_cons]
  split
  ·rfl
  ·exact this
 | swap p q l=>
  simp only [List.map_cons,List.nodup_cons,List.mem_cons,not_or] at hn;unfold aH;simp only [List.find?_cons]
  by_cases h1:(p.1 == x)=true <;> by_cases h2:(q.1 == x)=true
  ·exact absurd ((by simpa using h2:q.1=x).trans (by simpa using h1:p.1=x).symm) hn.1.1
  ·simp [h1,h2]
  ·simp [h1,h2]
  ·simp [h1,h2]
 | trans h1 h2 ih1 ih2=>rw [ih1 hn,ih2 ((h1.map Prod.fst).nodup_iff.1 hn)]
theorem Jd {α:Type} {M D:List (Int × α)} (h:M.Perm D) (hn:(M.map Prod.fst).Nodup) (x:Int) (v:α):(SL.fw M x v).Perm (SL.fw D x v):=by
 unfold SL.fw;rw [mM h hn x]
 split
 ·exact h.map _
 ·exact h.append_right _
theorem ju {α β:Type} (f:α→β) (M:List (Int × α)) (x:Int):aH (M.map fun p=>(p.1,f p.2)) x=(aH M x).map f:=by
 unfold aH;rw [List.find?_map];simp only [Function.comp_def,Option.map_map]
theorem xA {α β:Type} (f:α→β) (M:List (Int × α)) (x:Int) (v:α):SL.fw (M.map fun p=>(p.1,f p.2)) x (f v)=(SL.fw M x v).map fun p=>(p.1,f p.2):=by
 unfold SL.fw;rw [ju];simp only [Option.isSome_map]
 split
 ·rw [List.map_map,List.map_map]
  apply List.map_congr_left;intro p _;simp only [Function.comp_def]
  split <;> rfl
 ·simp
theorem lZ {α:Type} {M:List (Int × α)} {x:Int} {v:α} (h:aH M x=some v):(x,v) ∈ M:=by
 unfold aH at h;obtain ⟨p,hp,rfl⟩:=Option.map_eq_some_iff.1 h;have h1:=List.mem_of_find?_eq_some hp;have h2:=List.find?_some hp;have:p.1=x:=by simpa using h2
 exact this▸h1
theorem xK {α:Type} {M:List (Int × α)} {x:Int} {v:α} {p:Int × α} (h:p ∈ SL.fw M x v):p=(x,v)∨p ∈ M:=by
 unfold SL.fw at h
 split at h
 ·obtain ⟨q,hq,rfl⟩:=List.mem_map.1 h
  split
  ·exact .inl rfl
  ·exact .inr hq
 ·rcases List.mem_append.1 h with h|h
  ·exact .inr h
  ·exact .inl (by simpa using h)
theorem xE {α:Type} (M:List (Int × α)) (x y:Int) (v:α):aH (M.map fun p=>if p.1 == x then (x,v) else p) y=if y=x then (aH M x).map fun _=>v else aH M y:=by
 induction M with
 | nil=>simp [aH]
 | cons p M ih=>
  have hc:∀ (q:Int × α) (L:List (Int × α)) (z:Int),aH (q :: L) z=if q.1=z then some q.2 else aH L z:=by
   intro q L z;unfold aH;simp only [List.find?_cons]
   by_cases h:q.1=z
   ·simp [h]
   ·have:(q.1 == z)=false:=by simpa using h
    simp [this,h]
  rw [List.map_cons,hc,hc,hc,ih]
  by_cases h1:p.1=x
  ·simp only [h1,beq_self_eq_true,if_true]
   by_cases h2:x=y
   ·subst h2;simp
   ·have:¬ y=x:=fun e=>h2 e.symm
    simp [h2,this]
  ·have h1':(p.1 == x)=false:=by simpa using h1
   simp only [h1',Bool.false_eq_true,if_false,h1]
   by_cases h2:p.1=y
   ·have:¬ y=x:=fun e=>h1 (h2.trans e)
    simp [h2,this]
   ·simp [h2]
theorem ki {α:Type} (M:List (Int × α)) (x y:Int) (v:α):aH (SL.fw M x v) y=if y=x then some v else aH M y:=by
 unfold SL.fw
 split
 ·rename_i hs
  rw [xE]
  split
  ·obtain ⟨z,hz⟩:=Option.isSome_iff_exists.1 hs
   rw [hz];rfl
  ·rfl
 ·rename_i hs
  have hn:aH M x=none:=by simpa using hs
  unfold aH at hn ⊢;rw [List.find?_append]
  by_cases hyx:y=x
  ·subst hyx
   have:List.find? (fun p=>p.1 == y) M=none:=by simpa using hn
   simp [this]
  ·have h1:(x == y)=false:=by simp;omega
   simp [h1,hyx]
theorem A0 {α:Type} (M:List (Int × α)) (x:Int) (v:α):(SL.fw M x v).length=if (aH M x).isSome then M.length else M.length+1:=by
 unfold SL.fw;split <;> simp
end
def aj (S:Hp):ah:=fun h=>h=S
def Ext (S S':Hp):Prop:=∀ k x,S k=some x→S' k=some x
theorem Ext.refl (S:Hp):Ext S S:=fun _ _ h=>h
theorem Ext.trans {a b c:Hp} (h:Ext a b) (k:Ext b c):Ext a c:=fun i x hx=>k i x (h i x hx)
theorem uq (S:Hp) (g:Nat) (o:Obj):Ext S (join S (one g o)):=fun k x h=>by simp [join,h]
section
variable {w:World} {S S' F:ah} {g:Nat} {o:Obj}
theorem Sat.Di {S:Hp} (h:Sat w (aj S*F)) (hg:S g=some o):w.heap[g]?=some o:=by
 obtain ⟨m,a,rfl⟩:=h.left;exact a g o hg
theorem Sat.CV {S:Hp} (h:Sat w (aj S*(pt g o*F))):Sat w (aj (join S (one g o))*F)∧join S (one g o) g=some o:=by
 obtain ⟨m,a,h1,h2,rfl,⟨h3,h4,rfl,f,d',rfl⟩,d,rfl⟩:=h;obtain ⟨d1,d2⟩:=fM.1 d;refine ⟨⟨join (join h1 (one g o)) h4,?_,join h1 (one g o),h4,rfl,f,dY.2 ⟨d2,d'⟩,rfl⟩,?_⟩
 ·rw [join_assoc];exact a
 ·rcases d1 g with e|e
  ·simp [join,one,e]
  ·simp [one] at e
theorem Sat.xB (h:Sat w F):Sat w (aj (fun _=>none)*F):=h.to (cU F).symm
end
def small (l:List UInt8):Prop:=l.length≤1000000
def oV (T:TypeId) (S:Hp) (v:Value) (l:List UInt8):Prop:=small l∧((v = .slice none 0 0∧l=[]) ∨
 ∃ g cap cur,v = .slice (some ⟨g,0,none⟩) l.length cap∧S g=some (.cells cur T (0,0))∧cur.toList.take l.length=l.map u8)
theorem oV.mono {T:TypeId} {S S':Hp} {v:Value} {l:List UInt8} (h:oV T S v l) (e:Ext S S'):oV T S' v l:=by
 refine ⟨h.1,?_⟩;rcases h.2 with h|⟨g,cap,cur,h1,h2,h3⟩
 ·exact .inl h
 ·exact .inr ⟨g,cap,cur,h1,e _ _ h2,h3⟩
theorem tD {w:World} {g n:Nat} {cur:Array Value} {T:TypeId} {fr:Nat × Nat} (h:w.heap[g]?=some (.cells cur T fr)):At w ⟨g,0,none⟩ (cur.toList.take n):=by
 intro j u hu;rw [Addr.add_lit,Nat.zero_add];rw [List.getElem?_take] at hu
 split at hu
 ·simp only [World.cell?,h];simpa using hu
 ·cases hu
theorem oV.rd {T:TypeId} {S:Hp} {v:Value} {l:List UInt8} {w:World} {F:ah} (h:oV T S v l) (s:Sat w (aj S*F)):Rd w v l:=by
 refine ⟨by simp,?_⟩;rcases h.2 with ⟨rfl,rfl⟩|⟨g,cap,cur,rfl,h2,h3⟩
 ·exact .inl ⟨rfl,rfl⟩
 ·exact .inr ⟨_,_,rfl,h3▸tD (s.Di h2)⟩
theorem Sat.xM {w:World} {S:Hp} {F:ah} {T:TypeId} {v:Value} {l:List UInt8} (h:Sat w (aj S*(bs T v l*F))) (hl:small l) :
  ∃ S',Ext S S'∧oV T S' v l∧Sat w (aj S'*F):=by
 rcases (h.to (aD _ _ _)).cX with ⟨rfl,h1,_,hs⟩|⟨g,cap,cur,rfl,h3,h4,h5,h6,hs⟩
 ·exact ⟨S,Ext.refl S,⟨hl,.inl ⟨rfl,List.eq_nil_of_length_eq_zero h1⟩⟩,hs⟩
 ·obtain ⟨h7,h8⟩:=(hs.to (aD _ _ _)).CV
  exact ⟨_,uq _ _ _,⟨hl,.inr ⟨g,cap,cur,rfl,h8,by simpa using h6⟩⟩,h7⟩
def nM (T:TypeId) (A:Int × List UInt8) (dv:Value):ah:=fun h=>(A.1=0∧bs T dv A.2 h)∨(A.1≠0∧dv = .slice none 0 0∧h=fun _=>none)
theorem Sat.xZ {w:World} {T:TypeId} {A:Int × List UInt8} {dv:Value} {F:ah} (h:Sat w (nM T A dv*F)):∃ a k c,dv = .slice a k c:=by
 obtain ⟨m,_,h1,h2,p,_,_,_⟩:=h;rcases p with ⟨_,p⟩|⟨_,rfl,_⟩
 ·rcases p with ⟨rfl,_⟩|⟨g,cap,cur,rfl,_⟩
  ·exact ⟨_,_,_,rfl⟩
  ·exact ⟨_,_,_,rfl⟩
 ·exact ⟨_,_,_,rfl⟩
theorem Sat.sm {w:World} {T:TypeId} {l:List UInt8} {dv:Value} {F:ah} (h:Sat w (nM T (0,l) dv*F)):Sat w (bs T dv l*F):=
 h.fh fun _ hk=>by rcases hk with ⟨_,h⟩|⟨h,_⟩;exact h;exact absurd rfl h
theorem Sat.rq {w:World} {T:TypeId} {l:List UInt8} {dv:Value} {F:ah} (h:Sat w (bs T dv l*F)):Sat w (nM T (0,l) dv*F):=h.fh fun _ hk=>.inl ⟨rfl,hk⟩
theorem Sat.y6 {w:World} {T:TypeId} {A:Int × List UInt8} {dv:Value} {F:ah} (h:Sat w (nM T A dv*F)) (hA:A.1≠0):dv = .slice none 0 0∧Sat w F:=by
 refine ⟨?_,h.right⟩;obtain ⟨m,_,h1,h2,p,_,_,_⟩:=h;rcases p with ⟨e,_⟩|⟨_,e,_⟩
 ·exact absurd e hA
 ·exact e
theorem Sat.iL {w:World} {T:TypeId} {A:Int × List UInt8} {F:ah} (h:Sat w F) (hA:A.1≠0):Sat w (nM T A (.slice none 0 0)*F):=
 (h.to (cU F).symm).fh fun _ hk=>.inr ⟨hA,rfl,hk⟩
theorem Sat.oZ {w:World} {T:TypeId} {l:List UInt8} {dv:Value} {F:ah} (h:Sat w (bs T dv l*F)):Rd w dv l:=Sat.nB h
end Go.SL
namespace Go.SU
open Go.RowKit
open Go.SL (ah Hp one pt join Sat ai star aw eC aD)
section
variable {P:Program} {w:World}
theorem getElem?_modify' {α:Type} (l:List α) (j i:Nat) (f:α→α):(l.modify j f)[i]?=if j=i then l[i]?.map f else l[i]?:=by
 rw [List.getElem?_modify]
 by_cases h:j=i
 ·simp [h]
 ·simp [h]
end
end Go.SU
