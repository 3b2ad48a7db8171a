/- Steps. -/
import Derived.WalkKit
import Derived.WalkSpells
import Derived.WalkLawsBesides
import Derived.Laws.BytesString
set_option linter.unusedVariables false
set_option linter.unusedSimpArgs false
set_option maxRecDepth 100000
set_option maxHeartbeats 40000000
namespace Go.Proofs
end Go.Proofs
namespace Go.SL
end Go.SL
open Go.Proofs Go.SL
namespace Go.SL
open Go.RowKit
theorem ae {p:Prop} (h:p):Hid p:=h
abbrev Hp:=Nat→Option Obj
def ah:Type:=Hp→Prop
def join (h k:Hp):Hp:=fun b=>(h b).or (k b)
def apart (h k:Hp):Prop:=∀ b,h b=none∨k b=none
def star (P Q:ah):ah:=fun h=>∃ h1 h2:Hp,P h1∧Q h2∧apart h1 h2∧h=join h1 h2
instance:Mul ah:=⟨star⟩
def one (b:Nat) (o:Obj):Hp:=fun k=>if k=b then some o else none
def pt (b:Nat) (o:Obj):ah:=fun h=>h=one b o
def emp:ah:=fun h=>h=fun _=>none
def fact (p:Prop):ah:=fun h=>p∧h=fun _=>none
def ex {α:Type} (P:α→ah):ah:=fun h=>∃ x,P x h
def whole (W:World):ah:=fun h=>h=fun b=>W.heap[b]?
def Sat (w:World) (P:ah):Prop:=∃ h:Hp,(∀ b o,h b=some o→w.heap[b]?=some o)∧P h
theorem fC {h k:Hp} (d:apart h k):apart k h:=fun b=>(d b).symm
theorem join_comm {h k:Hp} (d:apart h k):join h k=join k h:=by
 funext b;rcases d b with e|e <;> simp [join,e]
theorem join_assoc (h k l:Hp):join (join h k) l=join h (join k l):=by
 funext b;simp [join,Option.or_assoc]
theorem dY {h k l:Hp}:apart (join h k) l↔apart h l∧apart k l:=by
 constructor
 ·intro d
  refine ⟨fun b=>?_,fun b=>?_⟩
  ·rcases d b with e|e
   ·simp [join,Option.or_eq_none_iff] at e;exact .inl e.1
   ·exact .inr e
  ·rcases d b with e|e
   ·simp [join,Option.or_eq_none_iff] at e;exact .inl e.2
   ·exact .inr e
 ·rintro ⟨d1,d2⟩ b
  rcases d1 b with e|e
  ·rcases d2 b with e'|e'
   ·exact .inl (by simp [join,e,e'])
   ·exact .inr e'
  ·exact .inr e
theorem fM {h k l:Hp}:apart h (join k l)↔apart h k∧apart h l:=
  ⟨fun d=>let ⟨a,b⟩:=dY.1 (fC d);⟨fC a,fC b⟩,
   fun ⟨a,b⟩=>fC (dY.2 ⟨fC a,fC b⟩)⟩
theorem eC (P Q:ah):P*Q=Q*P:=by
 funext h;apply propext;constructor
 ·rintro ⟨h1,h2,p,q,d,rfl⟩;exact ⟨h2,h1,q,p,fC d,join_comm d⟩
 ·rintro ⟨h1,h2,p,q,d,rfl⟩;exact ⟨h2,h1,q,p,fC d,join_comm d⟩
theorem aw (P Q R:ah):P*Q*R=P*(Q*R):=by
 funext h;apply propext;constructor
 ·rintro ⟨_,h3,⟨h1,h2,p,q,d,rfl⟩,r,d',rfl⟩
  obtain ⟨d1,d2⟩:=dY.1 d';exact ⟨h1,join h2 h3,p,⟨h2,h3,q,r,d2,rfl⟩,fM.2 ⟨d,d1⟩,join_assoc _ _ _⟩
 ·rintro ⟨h1,_,p,⟨h2,h3,q,r,d,rfl⟩,d',rfl⟩
  obtain ⟨d1,d2⟩:=fM.1 d';exact ⟨join h1 h2,h3,⟨h1,h2,p,q,d1,rfl⟩,r,dY.2 ⟨d2,d⟩,(join_assoc _ _ _).symm⟩
instance:Std.Commutative (α:=ah) (·*·):=⟨eC⟩
instance:Std.Associative (α:=ah) (·*·):=⟨aw⟩
theorem aD (P Q R:ah):P*(Q*R)=Q*(P*R):=by rw [← aw,eC P Q,aw]
theorem oT (P:ah):P*emp=P:=by
 funext h;apply propext;constructor
 ·rintro ⟨h1,h2,p,rfl,d,rfl⟩
  have:join h1 (fun _=>none)=h1:=by funext b;simp [join]
  rw [this];exact p
 ·intro p
  exact ⟨h,fun _=>none,p,rfl,fun b=>.inr rfl,by funext b;simp [join]⟩
theorem cU (P:ah):emp*P=P:=by rw [eC,oT]
theorem KO {α:Type} (P:α→ah) (Q:ah):ex P*Q=ex fun x=>P x*Q:=by
 funext h;apply propext;constructor
 ·rintro ⟨h1,h2,⟨x,p⟩,q,d,rfl⟩;exact ⟨x,h1,h2,p,q,d,rfl⟩
 ·rintro ⟨x,h1,h2,p,q,d,rfl⟩;exact ⟨h1,h2,⟨x,p⟩,q,d,rfl⟩
section
variable {w w':World} {P Q R F:ah} {b c:Nat} {o o':Obj}
theorem Sat.to (h:Sat w P) (e:P=Q):Sat w Q:=e▸h
theorem Sat.imp (h:Sat w P) (e:∀ k,P k→Q k):Sat w Q:=let ⟨k,a,p⟩:=h;⟨k,a,e k p⟩
theorem Sat.left (h:Sat w (P*Q)):Sat w P:=
 let ⟨_,a,h1,h2,p,_,_,e⟩:=h;⟨h1,fun b o hb=>a b o (by rw [e];simp [join,hb]),p⟩
theorem Sat.right (h:Sat w (P*Q)):Sat w Q:=Sat.left (h.to (eC _ _))
theorem Sat.fh (h:Sat w (P*F)) (e:∀ k,P k→Q k):Sat w (Q*F):=
 h.imp fun _ ⟨h1,h2,p,f,d,j⟩=>⟨h1,h2,e _ p,f,d,j⟩
theorem Sat.OJ {α:Type} {P:α→ah}:Sat w (ex P)↔∃ x,Sat w (P x):=
 ⟨fun ⟨h,a,x,p⟩=>⟨x,h,a,p⟩,fun ⟨x,h,a,p⟩=>⟨h,a,x,p⟩⟩
theorem Sat.au {α:Type} {P:α→ah}:Sat w (ex P*F)↔∃ x,Sat w (P x*F):=by
 rw [KO,Sat.OJ]
theorem Sat.ak {p:Prop}:Sat w (fact p*F)↔p∧Sat w F:=by
 constructor
 ·rintro ⟨_,a,h1,h2,⟨hp,rfl⟩,f,d,rfl⟩
  exact ⟨hp,h2,fun b o hb=>a b o (by simp [join,hb]),f⟩
 ·rintro ⟨hp,h2,a,f⟩
  exact ⟨h2,a,fun _=>none,h2,⟨hp,rfl⟩,f,fun _=>.inl rfl,by funext b;simp [join]⟩
theorem Sat.lP (h:Sat w P):Sat w (P*emp):=h.to (oT P).symm
theorem Sat.whole (w:World):Sat w (whole w):=⟨_,fun _ _ h=>h,rfl⟩
theorem Sat.heap (h:Sat w (pt b o*F)):w.heap[b]?=some o:=by
 obtain ⟨h,a,rfl⟩:=h.left;exact a b o (by simp [one])
theorem Sat.lt (h:Sat w (pt b o*F)):b<w.heap.size:=(Array.getElem?_eq_some_iff.1 h.heap).1
theorem Sat.ne (h:Sat w (pt b o*(pt c o'*F))):b≠c:=by
 obtain ⟨_,_,h1,h2,rfl,⟨h3,h4,rfl,_,_,rfl⟩,d,rfl⟩:=h;rintro rfl;rcases d b with e|e <;> simp [one,join] at e
theorem Sat.carry (h:Sat w P) (k:∀ (b:Nat) (o:Obj),w.heap[b]?=some o→w'.heap[b]?=some o):Sat w' P:=
 let ⟨m,a,p⟩:=h;⟨m,fun b o hb=>k b o (a b o hb),p⟩
theorem Sat.of_heap (h:Sat w P) (e:w'.heap=w.heap):Sat w' P:=h.carry fun b o hb=>by rw [e];exact hb
theorem Sat.drew (h:Sat w P):Sat w.drew P:=h
theorem Sat.fw (h:Sat w (pt b o*F)) (e:w'.heap[b]?=some o') (k:∀ c,c≠b→w'.heap[c]?=w.heap[c]?):Sat w' (pt b o'*F):=by
 obtain ⟨_,a,h1,h2,rfl,f,d,rfl⟩:=h;refine ⟨join (one b o') h2,fun c x hc=>?_,one b o',h2,rfl,f,fun c=>?_,rfl⟩
 ·by_cases hcb:c=b
  ·subst hcb
   have h2n:h2 c=none:=by rcases d c with e'|e' <;> simp_all [one]
   simp [join,one] at hc;subst hc;exact e
  ·have:h2 c=some x:=by simpa [join,one,hcb] using hc
   rw [k c hcb];exact a c x (by simp [join,one,hcb,this])
 ·by_cases hcb:c=b
  ·subst hcb
   rcases d c with e'|e'
   ·simp [one] at e'
   ·exact .inr e'
  ·exact .inl (by simp [one,hcb])
theorem Sat.new (h:Sat w P) (e:w'.heap=w.heap.push o):Sat w' (pt w.heap.size o*P):=by
 obtain ⟨m,a,p⟩:=h;have hm:∀ c x,m c=some x→c<w.heap.size:=fun c x hc=>(Array.getElem?_eq_some_iff.1 (a c x hc)).1;refine ⟨join (one w.heap.size o) m,fun c x hc=>?_,one w.heap.size o,m,rfl,p,fun c=>?_,rfl⟩
 ·rw [e,Array.getElem?_push]
  by_cases hcb:c=w.heap.size
  ·subst hcb
   simpa [join,one] using hc
  ·have:m c=some x:=by simpa [join,one,hcb] using hc
   rw [if_neg hcb];exact a c x this
 ·by_cases hcb:c=w.heap.size
  ·right
   match hmc:m c with
   | none=>rfl
   | some x=>exact absurd (hm c x hmc) (by omega)
  ·exact .inl (by simp [one,hcb])
theorem EV {k:Nat} (h:w.heap[k]?=some o) (x:Obj):(w.alloc x).heap[k]?=some o:=by
 rw [heap_alloc_old w x (Array.getElem?_eq_some_iff.1 h).1];exact h
theorem Sat.alloc (h:Sat w P) (o:Obj):Sat (w.alloc o) (pt w.heap.size o*P):=h.new rfl
theorem rK {cs:Array Value} {T:TypeId} {fr:Nat × Nat} (h:w.heap[b]?=some (.cells cs T fr)) (i:Nat) (v:Value) :
  (w.setCell ⟨b,i,none⟩ v).heap[b]?=some (.cells (cs.setIfInBounds i v) T fr):=by
 simp [World.setCell,Array.getElem?_modify,h]
theorem Sat.setCell {cs:Array Value} {T:TypeId} {fr:Nat × Nat} (h:Sat w (pt b (.cells cs T fr)*F)) (i:Nat) (v:Value) :
  Sat (w.setCell ⟨b,i,none⟩ v) (pt b (.cells (cs.setIfInBounds i v) T fr)*F):=
 h.fw (rK h.heap i v) fun c hc=>Below.heap_setCell w ⟨b,i,none⟩ v c hc
theorem Sat.cell {cs:Array Value} {T:TypeId} {fr:Nat × Nat} (h:Sat w (pt b (.cells cs T fr)*F)) (i:Nat):w.cell? ⟨b,i,none⟩=cs[i]?:=by
 simp [World.cell?,h.heap]
theorem Sat.frozen {cs:Array Value} {T:TypeId} (h:Sat w (pt b (.cells cs T (0,0))*F)) (i:Nat):w.frozen? ⟨b,i,none⟩=false:=by
 simp [World.frozen?,h.heap]
theorem Sat.vh {W:World} (h:Sat w (SL.whole W*F)) (k:Nat) (hk:k<W.heap.size):w.heap[k]?=W.heap[k]?:=by
 obtain ⟨m,a,rfl⟩:=h.left;have:W.heap[k]?=some W.heap[k]:=Array.getElem?_eq_getElem hk;rw [this];exact a k _ this
theorem Sat.under {W:World} (h:Sat w (P*SL.whole W)) (g:Sat W Q):Sat w (P*Q):=by
 obtain ⟨_,a,h1,h2,p,rfl,d,rfl⟩:=h;obtain ⟨k,b,q⟩:=g;refine ⟨join h1 k,fun c o hc=>?_,h1,k,p,q,fun c=>?_,rfl⟩
 ·match h1c:h1 c with
  | some x=>exact a c o (by simpa [join,h1c] using hc)
  | none=>
   have hk:k c=some o:=by simpa [join,h1c] using hc
   exact a c o (by simp [join,h1c,b c o hk])
 ·match hkc:k c with
  | none=>exact .inr rfl
  | some x=>
   rcases d c with e|e
   ·exact .inl e
   ·exact absurd ((b c x hkc).symm.trans e) (by simp)
theorem Sat.oz {W:World} (h:Sat w (P*SL.whole W)) (k:Nat) (hk:k<W.heap.size):w.heap[k]?=W.heap[k]?:=Sat.vh (h.to (eC _ _)) k hk
theorem Sat.bD {W:World} (h:Sat w (P*SL.whole W)) {a:Addr} {u:Value} (hc:W.cell? a=some u):w.cell? a=some u:=by
 rw [World.cell?_of_block (h.oz _ (World.block_lt_of_cell? W a hc))];exact hc
theorem Sat.CZ {W:World} (h:Sat w (P*SL.whole W)) {b:Nat} {o:Obj} (hc:W.heap[b]?=some o):w.heap[b]?=some o:=by
 rw [h.oz _ (Array.getElem?_eq_some_iff.1 hc).1];exact hc
theorem Sat.qN {W:World} (h:Sat w (P*SL.whole W)) {a:Addr} (ha:a.block<W.heap.size):w.frozen? a=W.frozen? a:=World.frozen?_of_block (h.oz _ ha)
end
theorem Sat.ag {X1 X2 F:ah} {w:World} (h:Sat w (X1*(X2*F))):Sat w (X2*(X1*F)):=h.to (aD _ _ _)
theorem Sat.JL {X1 X2 F:ah} {w:World} (h:Sat w (X2*(X1*F))):Sat w (X1*(X2*F)):=h.to (by ac_rfl)
theorem Sat.gZ {X1 X2 F:ah} {w:World} (h:Sat w (X1*(X2*F))):Sat w (X1*F):=h.ag.right
theorem Sat.aq {X1 X2 X3 F:ah} {w:World} (h:Sat w (X1*(X2*(X3*F)))):Sat w (X3*(X1*(X2*F))):=h.to (by ac_rfl)
theorem Sat.vG {X1 X2 X3 F:ah} {w:World} (h:Sat w (X3*(X1*(X2*F)))):Sat w (X1*(X2*(X3*F))):=h.to (by ac_rfl)
theorem Sat.kD {X1 X2 X3 F:ah} {w:World} (h:Sat w (X1*(X2*(X3*F)))):Sat w (X1*(X2*F)):=h.aq.right
theorem Sat.aC {X1 X2 X3 X4 F:ah} {w:World} (h:Sat w (X1*(X2*(X3*(X4*F))))):Sat w (X4*(X1*(X2*(X3*F)))):=h.to (by ac_rfl)
theorem Sat.rB {X1 X2 X3 X4 F:ah} {w:World} (h:Sat w (X4*(X1*(X2*(X3*F))))):Sat w (X1*(X2*(X3*(X4*F)))):=h.to (by ac_rfl)
theorem Sat.jE {X1 X2 X3 X4 F:ah} {w:World} (h:Sat w (X1*(X2*(X3*(X4*F))))):Sat w (X1*(X2*(X3*F))):=h.aC.right
theorem Sat.aG {X1 X2 X3 X4 X5 F:ah} {w:World} (h:Sat w (X1*(X2*(X3*(X4*(X5*F)))))):Sat w (X5*(X1*(X2*(X3*(X4*F))))):=h.to (by ac_rfl)
theorem Sat.vp {X1 X2 X3 X4 X5 F:ah} {w:World} (h:Sat w (X5*(X1*(X2*(X3*(X4*F)))))):Sat w (X1*(X2*(X3*(X4*(X5*F))))):=h.to (by ac_rfl)
theorem Sat.Qe {X1 X2 X3 X4 X5 F:ah} {w:World} (h:Sat w (X1*(X2*(X3*(X4*(X5*F)))))):Sat w (X1*(X2*(X3*(X4*F)))):=h.aG.right
theorem Sat.dj {X1 X2 X3 X4 X5 X6 F:ah} {w:World} (h:Sat w (X1*(X2*(X3*(X4*(X5*(X6*F))))))):Sat w (X6*(X1*(X2*(X3*(X4*(X5*F)))))):=h.to (by ac_rfl)
theorem Sat.IK {X1 X2 X3 X4 X5 X6 F:ah} {w:World} (h:Sat w (X6*(X1*(X2*(X3*(X4*(X5*F))))))):Sat w (X1*(X2*(X3*(X4*(X5*(X6*F)))))):=h.to (by ac_rfl)
theorem Sat.QB {X1 X2 X3 X4 X5 X6 F:ah} {w:World} (h:Sat w (X1*(X2*(X3*(X4*(X5*(X6*F))))))):Sat w (X1*(X2*(X3*(X4*(X5*F))))):=h.dj.right
theorem Sat.bM {X1 X2 X3 X4 X5 X6 X7 F:ah} {w:World} (h:Sat w (X1*(X2*(X3*(X4*(X5*(X6*(X7*F)))))))):Sat w (X7*(X1*(X2*(X3*(X4*(X5*(X6*F))))))):=h.to (by ac_rfl)
theorem Sat.dI {X1 X2 X3 X4 X5 X6 X7 X8 F:ah} {w:World} (h:Sat w (X1*(X2*(X3*(X4*(X5*(X6*(X7*(X8*F))))))))):Sat w (X8*(X1*(X2*(X3*(X4*(X5*(X6*(X7*F)))))))):=h.to (by ac_rfl)
theorem Sat.No {X1 X2 X3 X4 X5 X6 X7 X8 F:ah} {w:World} (h:Sat w (X8*(X1*(X2*(X3*(X4*(X5*(X6*(X7*F))))))))):Sat w (X1*(X2*(X3*(X4*(X5*(X6*(X7*(X8*F)))))))):=h.to (by ac_rfl)
theorem Sat.jU {X1 X2 X3 X4 X5 X6 X7 X8 X9 F:ah} {w:World} (h:Sat w (X1*(X2*(X3*(X4*(X5*(X6*(X7*(X8*(X9*F)))))))))):Sat w (X9*(X1*(X2*(X3*(X4*(X5*(X6*(X7*(X8*F))))))))):=h.to (by ac_rfl)
structure ai (w w':World):Prop where
 os:w'.os=w.os
 tape:w'.tape=w.tape
 output:w'.output=w.output
 size:w.heap.size≤w'.heap.size
theorem ai.refl (w:World):ai w w:=⟨rfl,rfl,rfl,Nat.le_refl _⟩
theorem ai.trans {a b c:World} (h:ai a b) (k:ai b c):ai a c:=⟨k.os.trans h.os,k.tape.trans h.tape,k.output.trans h.output,Nat.le_trans h.size k.size⟩
theorem ai.alloc {a b:World} (h:ai a b) (o:Obj):ai a (b.alloc o):=h.trans ⟨rfl,rfl,rfl,by simp⟩
theorem ai.setCell {a b:World} (h:ai a b) (p:Addr) (v:Value):ai a (b.setCell p v):=h.trans ⟨rfl,rfl,rfl,by simp [World.setCell]⟩
theorem ai.drew {a b:World} (h:ai a b):ai a b.drew:=⟨h.os,h.tape,h.output,h.size⟩
theorem ai.drewN {a b:World} (h:ai a b) (n:Nat):ai a (b.drewN n):=⟨h.os,h.tape,h.output,h.size⟩
theorem ai.below {W w':World} {F:ah} (h:ai W w') (s:Sat w' (SL.whole W*F)):Below W.heap.size W w':=
 ⟨h.os,h.tape,h.output,h.size,fun k hk=>s.vh k hk⟩
def u8 (x:UInt8):Value:=.int .u8 (x.toNat:Int)
def dp (l:List UInt8):Array Value:=(l.map u8).toArray
def str (l:List UInt8):ByteArray:=⟨l.toArray⟩
def zs (n:Nat):List UInt8:=List.replicate n 0
theorem ez (l:List UInt8):(dp l).size=l.length:=by simp [dp]
theorem aT (n:Nat):(zs n).length=n:=by simp [zs]
theorem Cz (n:Int):Value.int .u8 (IntKind.u8.wrap n)=u8 (UInt8.ofInt n):=by
 simp [u8,IntKind.wrap_u8]
 have:(UInt8.ofInt n).toNat=(n%256).toNat:=by
  simp [UInt8.ofInt,UInt8.toNat_ofNat'];omega
 rw [this];omega
theorem iS (n:Nat):madeCells (Value.int .u8 0).cells (n*1)=dp (zs n):=by
 apply Array.ext
 ·simp [size_madeCells,ez,aT]
 ·intro i h1 h2
  simp [madeCells,dp,zs,Value.cells,u8,Nat.mod_one]
theorem G1 (k:Nat) (hk:k≤62) (n c:Int) (hc:c=((2 ^ k-1:Nat):Int)):bits .and .i64 n c=n%((2 ^ k:Nat):Int):=by
 subst hc;have hp:(2:Nat) ^ k≤2 ^ 62:=Nat.pow_le_pow_right (by decide) hk;have hpos:0<(2:Nat) ^ k:=Nat.pow_pos (by decide)
 have hm:(BitVec.ofInt 64 ((2 ^ k-1:Nat):Int)).toNat=2 ^ k-1:=by
  rw [BitVec.toNat_ofInt];omega
 have key:(BitVec.ofInt 64 n &&& BitVec.ofInt 64 ((2 ^ k-1:Nat):Int)).toNat=(n%((2 ^ 64:Nat):Int)).toNat%2 ^ k:=by
  rw [BitVec.toNat_and,BitVec.toNat_ofInt,hm,Nat.and_two_pow_sub_one_eq_mod]
 show IntKind.i64.wrap ((BitVec.ofInt 64 n &&& BitVec.ofInt 64 ((2 ^ k-1:Nat):Int)).toNat:Nat)=_
 have hd:(2:Nat) ^ k∣2 ^ 64:=Nat.pow_dvd_pow 2 (by omega)
 have h1:(((n%((2 ^ 64:Nat):Int)).toNat%2 ^ k:Nat):Int)=n%((2 ^ k:Nat):Int):=by
  rw [Int.natCast_emod,Int.toNat_of_nonneg (Int.emod_nonneg _ (by decide))];exact Int.emod_emod_of_dvd n (by exact_mod_cast hd)
 rw [key,h1,IntKind.wrap_i64];have h2:0≤n%((2 ^ k:Nat):Int):=Int.emod_nonneg _ (by omega);have h3:n%((2 ^ k:Nat):Int)<((2 ^ k:Nat):Int):=Int.emod_lt_of_pos _ (by omega);omega
theorem Qx (n:Int):bits .and .i64 n 65535=n%65536:=G1 16 (by decide) n 65535 rfl
def sl (T:TypeId) (sz:Nat) (v:Value) (n:Nat) (xs:List Value):ah:=fun h=>
 (v = .slice none 0 0∧n=0∧xs=[]∧h=fun _=>none) ∨
 ∃ g cap cur,v = .slice (some ⟨g,0,none⟩) n cap∧n≤cap∧cap≤maxLen∧cur.size=cap*sz∧cur.toList.take (n*sz)=xs∧h=one g (.cells cur T (0,0))
def bs (T:TypeId) (v:Value) (l:List UInt8):ah:=sl T 1 v l.length (l.map u8)
section
variable {w w':World} {F:ah} {T:TypeId} {sz n cap g:Nat} {v:Value} {xs:List Value}
theorem OH (T:TypeId) (sz:Nat):sl T sz (.slice none 0 0) 0 [] (fun _=>none):=.inl ⟨rfl,rfl,rfl,rfl⟩
theorem Sat.eA (h:Sat w F) (T:TypeId) (sz:Nat):Sat w (sl T sz (.slice none 0 0) 0 []*F):=
 (h.to (cU F).symm).fh fun k hk=>by rw [hk];exact OH T sz
theorem Sat.cX (h:Sat w (sl T sz v n xs*F)):(v = .slice none 0 0∧n=0∧xs=[]∧Sat w F) ∨
  ∃ g cap cur,v = .slice (some ⟨g,0,none⟩) n cap∧n≤cap∧cap≤maxLen∧cur.size=cap*sz∧cur.toList.take (n*sz)=xs∧Sat w (pt g (.cells cur T (0,0))*F):=by
 obtain ⟨m,a,h1,h2,p,f,d,rfl⟩:=h;rcases p with ⟨rfl,rfl,rfl,rfl⟩|⟨g,cap,cur,rfl,h3,h4,h5,h6,rfl⟩
 ·exact .inl ⟨rfl,rfl,rfl,h2,fun b o hb=>a b o (by simp [join,hb]),f⟩
 ·exact .inr ⟨g,cap,cur,rfl,h3,h4,h5,h6,_,a,_,h2,rfl,f,d,rfl⟩
theorem Sat.l7 {cur:Array Value} (h:Sat w (pt g (.cells cur T (0,0))*F)) (h3:n≤cap) (h4:cap≤maxLen) (h5:cur.size=cap*sz) :
  Sat w (sl T sz (.slice (some ⟨g,0,none⟩) n cap) n (cur.toList.take (n*sz))*F):=
 h.fh fun _ hk=>.inr ⟨g,cap,cur,rfl,h3,h4,h5,rfl,hk⟩
theorem Kl (h:Sat w (sl T sz v n xs*F)):xs.length=n*sz:=by
 rcases h.cX with ⟨_,rfl,rfl,_⟩|⟨g,cap,cur,_,h3,_,h5,h6,_⟩
 ·simp
 ·rw [← h6,List.length_take,Array.length_toList,h5]
  exact Nat.min_eq_left (Nat.mul_le_mul_right _ h3)
theorem Sat.setRow {cs cs':Array Value} {fr:Nat × Nat} (h:Sat w (pt g (.cells cs T fr)*F)):Sat (w.setRow g cs') (pt g (.cells cs' T fr)*F):=by
 refine h.fw ?_ fun c hc=>?_
 ·simp [World.setRow,Array.getElem?_modify,h.heap]
 ·simp only [World.setRow,Array.getElem?_modify];rw [if_neg (by omega)]
theorem ai.setRow {a b:World} (h:ai a b) (g:Nat) (cs:Array Value):ai a (b.setRow g cs):=h.trans ⟨rfl,rfl,rfl,by simp [World.setRow]⟩
def At (w:World) (a:Addr) (xs:List Value):Prop:=∀ j u,xs[j]?=some u→w.cell? (a.add j)=some u
def nA (w:World) (sz:Nat) (v:Value) (n:Nat) (xs:List Value):Prop:=
 xs.length=n*sz∧((v = .slice none 0 0∧n=0)∨∃ a c,v = .slice (some a) n c∧At w a xs)
def Rd (w:World) (v:Value) (l:List UInt8):Prop:=nA w 1 v l.length (l.map u8)
theorem Sat.nB (h:Sat w (sl T sz v n xs*F)):nA w sz v n xs:=by
 refine ⟨Kl h,?_⟩;rcases h.cX with ⟨rfl,rfl,rfl,_⟩|⟨g,cap,cur,rfl,h3,_,h5,rfl,hs⟩
 ·exact .inl ⟨rfl,rfl⟩
 ·refine .inr ⟨_,_,rfl,fun j u hu=>?_⟩
  rw [Addr.add_lit,Nat.zero_add,hs.cell];rw [List.getElem?_take] at hu
  split at hu
  ·simpa using hu
  ·cases hu
theorem nA.carry (h:nA w sz v n xs) (k:∀ a u,w.cell? a=some u→w'.cell? a=some u):nA w' sz v n xs:=by
 refine ⟨h.1,?_⟩;rcases h.2 with h|⟨a,c,hv,ha⟩
 ·exact .inl h
 ·exact .inr ⟨a,c,hv,fun j u hu=>k _ _ (ha j u hu)⟩
theorem bH (w:World) (o:Obj) (a:Addr) (u:Value) (h:w.cell? a=some u):(w.alloc o).cell? a=some u:=by
 have:a.block<w.heap.size:=World.block_lt_of_cell? w a h;rw [World.cell?_of_block (heap_alloc_old w o this)];exact h
theorem nA.alloc (h:nA w sz v n xs) (o:Obj):nA (w.alloc o) sz v n xs:=h.carry fun a u hu=>bH w o a u hu
theorem nA.drew (h:nA w sz v n xs):nA w.drew sz v n xs:=h
end
section
variable {P:Program} {w:World} {F:ah}
theorem Sat.append {t ty e:TypeId} {i:TypeInfo} {z:Value} {sz bytes:Nat} (ht:P.underlying t=some (.slice e)) (hi:P.info? e=some i) (hz:i.zero=some z)
  (hsize:i.size=sz) (hby:i.bytes=bytes) (hzs:z.cells.size=sz)
  {v x:Value} {n m:Nat} {xs news:List Value} (h:Sat w (sl e sz v n xs*F)) (hx:nA w sz x m news) (h1:∀ u ∈ news,u.oneCell'=true)
  (h63:n+m≤maxLen) (hbytes:(n+m)*bytes≤140737488355328) :
  ∃ v' w',(Builtin.append_ #[t,t] ty #[v,x]).run P w = .ok v' w'∧Sat w' (sl e sz v' (n+m) (xs++news)*F)∧ai w w':=by
 subst hsize;subst hby;have hsmall:n+m≤9223372036854775807:=by simp only [maxLen] at h63;omega
 obtain ⟨hl,hx⟩:=hx;have hxs:=Kl h
 have fin:∀ (oz:Nat) (F':ah),Sat w F' →
   Sat (w.drew.alloc (.cells (xs.toArray++news.toArray++Builtin.zeroCells z.cells (grownCap w (n+m) oz e-(n+m))) e))
    (sl e i.size (.slice (some ⟨w.heap.size,0,none⟩) (n+m) (grownCap w (n+m) oz e)) (n+m) (xs++news)*F'):=by
  intro oz F' hF;have hge:=grownCap_ge w (n+m) oz e;have hcm:grownCap w (n+m) oz e≤maxLen:=grownCap_le_maxLen w (n+m) oz e h63;have hA:=hF.drew.alloc (.cells (xs.toArray++news.toArray++Builtin.zeroCells z.cells (grownCap w (n+m) oz e-(n+m))) e)
  have:=Sat.l7 (sz:=i.size) (n:=n+m) hA hge hcm (by
   simp only [Array.size_append,List.size_toArray,size_zeroCells,hzs,hxs,hl,← Nat.add_mul];congr 1;omega)
  refine this.to ?_;congr 2;simp only [Array.toList_append,List.append_assoc];rw [← List.append_assoc];exact List.take_left' (by rw [List.length_append,hxs,hl,Nat.add_mul])
 rcases h.cX with ⟨rfl,rfl,rfl,hF⟩|⟨g,cap,cur,rfl,h3,h4,h5,h6,hF⟩
 ·rcases hx with ⟨rfl,rfl⟩|⟨a,c,rfl,ha⟩
  ·have:news=[]:=List.eq_nil_of_length_eq_zero (by simpa using hl)
   subst this;refine ⟨.slice none 0 0,w,?_,hF.eA _ _,ai.refl w⟩;simp [Builtin.append_,run_underlying ht,sizeOf,typeInfo,hi,Builtin.lenOf,Builtin.firstCells]
  ·by_cases hm:m=0
   ·subst hm
    have:news=[]:=List.eq_nil_of_length_eq_zero (by simpa using hl);subst this;refine ⟨.slice none 0 0,w,?_,hF.eA _ _,ai.refl w⟩;simp [Builtin.append_,run_underlying ht,sizeOf,typeInfo,hi,Builtin.lenOf,Builtin.firstCells,loadCells,loadCellsFrom]
   ·have hr:=run_append_nil (P:=P) w t ty e i z ht hi hz a m c news hl ha (by omega) (by omega) (by have hb:=hbytes;simp only [Nat.zero_add] at hb;omega)
    have:=fin 0 F hF;simp only [Nat.zero_add,List.nil_append] at this ⊢;exact ⟨_,_,hr,by simpa using this,((ai.refl w).drew).alloc _⟩
 ·rcases hx with ⟨rfl,rfl⟩|⟨a,c,rfl,ha⟩
  ·have:news=[]:=List.eq_nil_of_length_eq_zero (by simpa using hl)
   subst this;refine ⟨.slice (some ⟨g,0,none⟩) n cap,w,?_,by simpa using h,ai.refl w⟩;simp [Builtin.append_,run_underlying ht,sizeOf,typeInfo,hi,Builtin.lenOf,Builtin.firstCells,h3,storeCells]
  ·by_cases hroom:n+m≤cap
   ·have hfit:n*i.size+news.length≤cur.size:=by
     rw [hl,h5,← Nat.add_mul];exact Nat.mul_le_mul_right _ hroom
    have hr:=run_append_room (P:=P) w t ty e i ht hi g n cap cur hF.heap a m c news hl ha h1 hroom hfit;refine ⟨_,_,hr,?_,(ai.refl w).setRow _ _⟩;have hlen:(List.take (n*i.size) cur.toList).length=n*i.size:=by simp;omega
    have hS:=Sat.l7 (sz:=i.size) (n:=n+m) (cap:=cap) (hF.setRow (cs':=(cur.toList.take (n*i.size)++news++cur.toList.drop (n*i.size+news.length)).toArray)) hroom h4 (by
     simp;omega)
    refine hS.to ?_;congr 2;simp only [];rw [h6,List.take_left' (by rw [List.length_append,hxs,hl,Nat.add_mul])]
   ·have holds:At w ⟨g,0,none⟩ xs:=by
     have:=h.nB.2;rcases this with ⟨h,_⟩|⟨a',c',h,h'⟩
     ·cases h
     ·cases h;exact h'
    have hfit:Builtin.nextslicecap (n+m) cap*i.bytes≤281474976710656:=growslice_fits (by omega) hbytes;have hr:=run_append_grow (P:=P) w t ty e i z ht hi hz ⟨g,0,none⟩ n cap xs hxs holds a m c news hl ha (by omega) (by omega) hfit;exact ⟨_,_,hr,fin cap F hF.right,((ai.refl w).drew).alloc _⟩
end
theorem wpList_append_run {P:Program} {w w':World} {ops:Array Oper} {rest:List Oper} {o:Oper} {a:Act} {Q:Exit→Act→World→Prop} {v xv v':Value} {t ty:TypeId}
  (hrun:(Builtin.append_ #[t,t] ty #[v,xv]).run P w = .ok v' w') (s x:Operand)
  (hg:o.guard=none) (hty:o.type=ty) (hop:o.op=Op.call { callee:=Callee.builtin Builtin.append,args:=#[s,x],argTypes:=#[t,t] })
  (hs:a.eval s=v) (hx:a.eval x=xv)
  (hK:wpList P ops Q rest (a.put o.dst v') w'):wpList P ops Q (o :: rest) a w:=by
 refine wpList_plain hg fun K hK'=>?_;subst hty hs hx;unfold Oper.wp;simp [execOp,hop,resolve,invoke,builtin,hrun,Result.andThen];exact hK' _ _ hK
theorem nV (p:Program) (fn:Fn) (first cap:Array Value) (w:World):(Instr.makeFunc fn first cap).run p w = .ok (.func fn first cap) w:=rfl
end Go.SL
