/- Steps. -/
import Derived.Test.YtdickhgiahcnaaaGreatDoorNP0
import Derived.WalkKit
import Derived.WalkSpells
import Derived.WalkLawsBesides
import Derived.Laws.BytesString
set_option linter.all false
set_option maxRecDepth 99999
set_option maxHeartbeats 0
open Go.Obj renaming cells->U
open Go.Value renaming slice->S
open Go renaming World->Z,Value->Y
open Option renaming some->X,none->V
open BitVec renaming ofInt->A3,toNat_ofInt->D5
open Nat renaming add_mul->A2,zero_add->B1,mul_le_mul_right->D4
open Array renaming getElem?_modify->A1
open UInt8 renaming ofInt->B3
open Go.World renaming setRow->B2,cell?_of_block->D7,block_lt_of_cell?->D6
open List renaming eq_nil_of_length_eq_zero->D9
open Option renaming or_eq_none_iff->D8
namespace Go.SL
end Go.SL
open Go.SL
namespace Go.SL
open RowKit
variable {a:Addr}
def ae {p:Prop} (h:p):Hid p:=h
abbrev Hp:=Nat->Option Obj
def ai:Type:=Hp->Prop
def join (h k:Hp):Hp:=fun b=>(h b).or (k b)
def apart (h k:Hp):Prop:=∀ b,h b=V\/k b=V
def star (P Q:ai):ai:=fun h=>∃ a d:Hp,P a/\Q d/\apart a d/\h=join a d
instance:Mul ai:=⟨star⟩
def one (b:Nat) (o:Obj):Hp:=fun k=>if k=b then X o else V
def pt (b:Nat) (o:Obj):ai:=fun h=>h=one b o
def emp:ai:=fun h=>h=fun _=>V
def fact (p:Prop):ai:=fun h=>p/\h=fun _=>V
def ex {α:Type} (P:α->ai):ai:=fun h=>∃ x,P x h
def whole (W:Z):ai:=fun h=>h=fun b=>W.heap[b]?
def ag (w:Z) (P:ai):Prop:=∃ h:Hp,(∀ b o,h b=X o->w.heap[b]?=X o)/\P h
def gj {h k:Hp} (d:apart h k):apart k h:=fun b=>(d b).symm
def join_comm {h k:Hp} (d:apart h k):join h k=join k h:=by
 funext b;rcases d b with e|e <;> simp [join,e]
def join_assoc (h k l:Hp):join (join h k) l=join h (join k l):=by
 funext b;simp [join,Option.or_assoc]
def eK {h k l:Hp}:apart (join h k) l↔apart h l/\apart k l:=by
 constructor
 .intro d
  refine ⟨fun b=>?_,fun b=>?_⟩
  .rcases d b with e|e
   .simp [join,D8] at e;exact .inl e.1
   .exact .inr e
  .rcases d b with e|e
   .simp [join,D8] at e;exact .inl e.2
   .exact .inr e
 .rintro ⟨f,i⟩ b
  rcases f b with e|e
  .rcases i b with a|a
   .exact .inl (by simp [join,e,a])
   .exact .inr a
  .exact .inr e
def gx {h k l:Hp}:apart h (join k l)↔apart h k/\apart h l:=
  ⟨fun d=>let ⟨a,b⟩:=eK.1 (gj d);⟨gj a,gj b⟩,
   fun ⟨a,b⟩=>gj (eK.2 ⟨gj a,gj b⟩)⟩
def eM (P Q:ai):P*Q=Q*P:=by
 funext h;apply propext;constructor
 .rintro ⟨a,e,p,q,d,rfl⟩;exact ⟨e,a,q,p,gj d,join_comm d⟩
 .rintro ⟨a,e,p,q,d,rfl⟩;exact ⟨e,a,q,p,gj d,join_comm d⟩
def ay (P Q R:ai):P*Q*R=P*(Q*R):=by
 funext h;apply propext;constructor
 .rintro ⟨_,f,⟨e,a,p,q,d,rfl⟩,r,i,rfl⟩
  obtain ⟨j,k⟩:=eK.1 i;exact ⟨e,join a f,p,⟨a,f,q,r,k,rfl⟩,gx.2 ⟨d,j⟩,join_assoc _ _ _⟩
 .rintro ⟨e,_,p,⟨a,f,q,r,d,rfl⟩,i,rfl⟩
  obtain ⟨j,k⟩:=gx.1 i;exact ⟨join e a,f,⟨e,a,p,q,j,rfl⟩,r,eK.2 ⟨k,d⟩,(join_assoc _ _ _).symm⟩
instance:Std.Commutative (α:=ai) (·*·):=⟨eM⟩
instance:Std.Associative (α:=ai) (·*·):=⟨ay⟩
def aD (P Q R:ai):P*(Q*R)=Q*(P*R):=by rw [<- ay,eM P Q,ay]
def rV (P:ai):P*emp=P:=by
 funext h;apply propext;constructor
 .rintro ⟨a,e,p,rfl,d,rfl⟩
  have:join a (fun _=>V)=a:=by funext b;simp [join]
  rw [this];exact p
 .intro p
  exact ⟨h,fun _=>V,p,rfl,fun b=>.inr rfl,by funext b;simp [join]⟩
def cl (P:ai):emp*P=P:=by rw [eM,rV]
def P0 {α:Type} (P:α->ai) (Q:ai):ex P*Q=ex fun x=>P x*Q:=by
 funext h;apply propext;constructor
 .rintro ⟨a,e,⟨x,p⟩,q,d,rfl⟩;exact ⟨x,a,e,p,q,d,rfl⟩
 .rintro ⟨x,a,e,p,q,d,rfl⟩;exact ⟨a,e,⟨x,p⟩,q,d,rfl⟩
section
variable {w w':Z} {P Q R F:ai} {b c:Nat} {o o':Obj}
def ag.to (h:ag w P) (e:P=Q):ag w Q:=e▸h
def ag.t00 {w:Z} {P:ai} (h:ag w P) (Q:ai) (e:P=Q:=by ac_rfl):ag w Q:=h.to e
def ag.u00 {w:Z} {P Q:ai} (h:ag w P) (e:P=Q:=by ac_rfl):ag w Q:=h.to e
def ag.imp (h:ag w P) (e:∀ k,P k->Q k):ag w Q:=let ⟨k,a,p⟩:=h;⟨k,a,e k p⟩
def ag.left (h:ag w (P*Q)):ag w P:=
 let ⟨_,a,d,i,p,_,_,e⟩:=h;⟨d,fun b o f=>a b o (by rw [e];simp [join,f]),p⟩
def ag.right (h:ag w (P*Q)):ag w Q:=ag.left (h.to (eM _ _))
def ag.gZ (h:ag w (P*F)) (e:∀ k,P k->Q k):ag w (Q*F):=
 h.imp fun _ ⟨a,i,p,f,d,j⟩=>⟨a,i,e _ p,f,d,j⟩
def ag.RX {α:Type} {P:α->ai}:ag w (ex P)↔∃ x,ag w (P x):=
 ⟨fun ⟨h,a,x,p⟩=>⟨x,h,a,p⟩,fun ⟨x,h,a,p⟩=>⟨h,a,x,p⟩⟩
def ag.aw {α:Type} {P:α->ai}:ag w (ex P*F)↔∃ x,ag w (P x*F):=by
 rw [P0,ag.RX]
def ag.aq {p:Prop}:ag w (fact p*F)↔p/\ag w F:=by
 constructor
 .rintro ⟨_,a,j,e,⟨h,rfl⟩,f,d,rfl⟩
  exact ⟨h,e,fun b o i=>a b o (by simp [join,i]),f⟩
 .rintro ⟨h,e,a,f⟩
  exact ⟨e,a,fun _=>V,e,⟨h,rfl⟩,f,fun _=>.inl rfl,by funext b;simp [join]⟩
def ag.mu (h:ag w P):ag w (P*emp):=h.to (rV P).symm
def ag.whole (w:Z):ag w (whole w):=⟨_,fun _ _ h=>h,rfl⟩
def ag.heap (h:ag w (pt b o*F)):w.heap[b]?=X o:=by
 obtain ⟨h,a,rfl⟩:=h.left;exact a b o (by simp [one])
def ag.lt (h:ag w (pt b o*F)):b<w.heap.size:=(Array.getElem?_eq_some_iff.1 h.heap).1
def ag.ne (h:ag w (pt b o*(pt c o'*F))):b≠c:=by
 obtain ⟨_,_,a,f,rfl,⟨i,h4,rfl,_,_,rfl⟩,d,rfl⟩:=h;rintro rfl;rcases d b with e|e <;> simp [one,join] at e
def ag.carry (h:ag w P) (k:∀ (b:Nat) (o:Obj),w.heap[b]?=X o->w'.heap[b]?=X o):ag w' P:=
 let ⟨m,a,p⟩:=h;⟨m,fun b o d=>k b o (a b o d),p⟩
def ag.of_heap (h:ag w P) (e:w'.heap=w.heap):ag w' P:=h.carry fun b o a=>by rw [e];exact a
def ag.drew (h:ag w P):ag w.drew P:=h
def ag.fC (h:ag w (pt b o*F)) (e:w'.heap[b]?=X o') (k:∀ c,c≠b->w'.heap[c]?=w.heap[c]?):ag w' (pt b o'*F):=by
 obtain ⟨_,a,p,l,rfl,f,d,rfl⟩:=h;refine ⟨join (one b o') l,fun c x m=>?_,one b o',l,rfl,f,fun c=>?_,rfl⟩
 .by_cases i:c=b
  .subst i
   have q:l c=V:=by rcases d c with j|j <;> simp_all [one]
   simp [join,one] at m;subst m;exact e
  .have:l c=X x:=by simpa [join,one,i] using m
   rw [k c i];exact a c x (by simp [join,one,i,this])
 .by_cases i:c=b
  .subst i
   rcases d c with j|j
   .simp [one] at j
   .exact .inr j
  .exact .inl (by simp [one,i])
def ag.new (h:ag w P) (e:w'.heap=w.heap.push o):ag w' (pt w.heap.size o*P):=by
 obtain ⟨m,a,p⟩:=h;have i:∀ c x,m c=X x->c<w.heap.size:=fun c x f=>(Array.getElem?_eq_some_iff.1 (a c x f)).1;refine ⟨join (one w.heap.size o) m,fun c x f=>?_,one w.heap.size o,m,rfl,p,fun c=>?_,rfl⟩
 .rw [e,Array.getElem?_push]
  by_cases d:c=w.heap.size
  .subst d
   simpa [join,one] using f
  .have:m c=X x:=by simpa [join,one,d] using f
   rw [if_neg d];exact a c x this
 .by_cases d:c=w.heap.size
  .right
   match j:m c with
   | none=>rfl
   | some x=>exact absurd (i c x j) Om0
  .exact .inl (by simp [one,d])
def GM {k:Nat} (h:w.heap[k]?=X o) (x:Obj):(w.alloc x).heap[k]?=X o:=by
 rw [heap_alloc_old w x (Array.getElem?_eq_some_iff.1 h).1];exact h
def ag.alloc (h:ag w P) (o:Obj):ag (w.alloc o) (pt w.heap.size o*P):=h.new rfl
def uf {a:Array Y} {T:TypeId} {d:Nat × Nat} (h:w.heap[b]?=X (U a T d)) (i:Nat) (v:Y) :
  (w.setCell ⟨b,i,V⟩ v).heap[b]?=X (U (a.setIfInBounds i v) T d):=by
 simp [World.setCell,A1,h]
def ag.setCell {a:Array Y} {T:TypeId} {d:Nat × Nat} (h:ag w (pt b (U a T d)*F)) (i:Nat) (v:Y) :
  ag (w.setCell ⟨b,i,V⟩ v) (pt b (U (a.setIfInBounds i v) T d)*F):=
 h.fC (uf h.heap i v) fun c e=>Below.heap_setCell w ⟨b,i,V⟩ v c e
def ag.cell {a:Array Y} {T:TypeId} {d:Nat × Nat} (h:ag w (pt b (U a T d)*F)) (i:Nat):w.cell? ⟨b,i,V⟩=a[i]?:=by
 simp [World.cell?,h.heap]
def ag.frozen {a:Array Y} {T:TypeId} (h:ag w (pt b (U a T (0,0))*F)) (i:Nat):w.frozen? ⟨b,i,V⟩=false:=by
 simp [World.frozen?,h.heap]
def ag.yE {W:Z} (h:ag w (SL.whole W*F)) (k:Nat) (d:k<W.heap.size):w.heap[k]?=W.heap[k]?:=by
 obtain ⟨m,a,rfl⟩:=h.left;have:W.heap[k]?=X W.heap[k]:=Array.getElem?_eq_getElem d;rw [this];exact a k _ this
def ag.under {W:Z} (h:ag w (P*SL.whole W)) (g:ag W Q):ag w (P*Q):=by
 obtain ⟨_,a,f,r,p,rfl,d,rfl⟩:=h;obtain ⟨k,b,q⟩:=g;refine ⟨join f k,fun c o j=>?_,f,k,p,q,fun c=>?_,rfl⟩
 .match i:f c with
  | some x=>exact a c o (by simpa [join,i] using j)
  | none=>
   have l:k c=X o:=by simpa [join,i] using j
   exact a c o (by simp [join,i,b c o l])
 .match m:k c with
  | none=>exact .inr rfl
  | some x=>
   rcases d c with e|e
   .exact .inl e
   .exact absurd ((b c x m).symm.trans e) Si0
def ag.qz {W:Z} (h:ag w (P*SL.whole W)) (k:Nat) (a:k<W.heap.size):w.heap[k]?=W.heap[k]?:=ag.yE (h.to (eM _ _)) k a
def ag.bV {W:Z} (h:ag w (P*SL.whole W)) {u:Y} (d:W.cell? a=X u):w.cell? a=X u:=by
 rw [D7 (h.qz _ (D6 W a d))];exact d
def ag.GB {W:Z} (h:ag w (P*SL.whole W)) {b:Nat} {o:Obj} (a:W.heap[b]?=X o):w.heap[b]?=X o:=by
 rw [h.qz _ (Array.getElem?_eq_some_iff.1 a).1];exact a
def ag.td {W:Z} (h:ag w (P*SL.whole W)) (d:a.block<W.heap.size):w.frozen? a=W.frozen? a:=World.frozen?_of_block (h.qz _ d)
end
def ag.ah {X1 a F:ai} {w:Z} (h:ag w (X1*(a*F))):ag w (a*(X1*F)):=h.to (aD _ _ _)
def ag.KZ {a d F:ai} {w:Z} (h:ag w (d*(a*F))):ag w (a*(d*F)):=h.to Ac0
def ag.iD {a d F:ai} {w:Z} (h:ag w (a*(d*F))):ag w (a*F):=h.ah.right
def ag.au {a d e F:ai} {w:Z} (h:ag w (a*(d*(e*F)))):ag w (e*(a*(d*F))):=h.to Ac0
def ag.yW {a d e F:ai} {w:Z} (h:ag w (e*(a*(d*F)))):ag w (a*(d*(e*F))):=h.to Ac0
def ag.lS {a d e F:ai} {w:Z} (h:ag w (a*(d*(e*F)))):ag w (a*(d*F)):=h.au.right
def ag.aA {a d e f F:ai} {w:Z} (h:ag w (a*(d*(e*(f*F))))):ag w (f*(a*(d*(e*F)))):=h.to Ac0
def ag.tG {a d e f F:ai} {w:Z} (h:ag w (f*(a*(d*(e*F))))):ag w (a*(d*(e*(f*F)))):=h.to Ac0
def ag.kQ {a d e f F:ai} {w:Z} (h:ag w (a*(d*(e*(f*F))))):ag w (a*(d*(e*F))):=h.aA.right
def ag.aJ {a d e f i F:ai} {w:Z} (h:ag w (a*(d*(e*(f*(i*F)))))):ag w (i*(a*(d*(e*(f*F))))):=h.to Ac0
def ag.yY {a d e f i F:ai} {w:Z} (h:ag w (i*(a*(d*(e*(f*F)))))):ag w (a*(d*(e*(f*(i*F))))):=h.to Ac0
def ag.Vi {a d e f i F:ai} {w:Z} (h:ag w (a*(d*(e*(f*(i*F)))))):ag w (a*(d*(e*(f*F)))):=h.aJ.right
def ag.eu {a d e f i j F:ai} {w:Z} (h:ag w (a*(d*(e*(f*(i*(j*F))))))):ag w (j*(a*(d*(e*(f*(i*F)))))):=h.to Ac0
def ag.M0 {a d e f i j F:ai} {w:Z} (h:ag w (j*(a*(d*(e*(f*(i*F))))))):ag w (a*(d*(e*(f*(i*(j*F)))))):=h.to Ac0
def ag.U3 {a d e f i j F:ai} {w:Z} (h:ag w (a*(d*(e*(f*(i*(j*F))))))):ag w (a*(d*(e*(f*(i*F))))):=h.eu.right
def ag.fh {a d e f i j k F:ai} {w:Z} (h:ag w (a*(d*(e*(f*(i*(j*(k*F)))))))):ag w (k*(a*(d*(e*(f*(i*(j*F))))))):=h.to Ac0
def ag.mX {a d e f i j k l F:ai} {w:Z} (h:ag w (a*(d*(e*(f*(i*(j*(k*(l*F))))))))):ag w (l*(a*(d*(e*(f*(i*(j*(k*F)))))))):=h.to Ac0
def ag.Rl {a d e f i j k l F:ai} {w:Z} (h:ag w (l*(a*(d*(e*(f*(i*(j*(k*F))))))))):ag w (a*(d*(e*(f*(i*(j*(k*(l*F)))))))):=h.to Ac0
def ag.lo {a d e f i j k l m F:ai} {w:Z} (h:ag w (a*(d*(e*(f*(i*(j*(k*(l*(m*F)))))))))):ag w (m*(a*(d*(e*(f*(i*(j*(k*(l*F))))))))):=h.to Ac0
structure aj (w w':World):Prop where
 os:w'.os=w.os
 tape:w'.tape=w.tape
 output:w'.output=w.output
 size:w.heap.size<=w'.heap.size
def aj.refl (w:Z):aj w w:=⟨rfl,rfl,rfl,Nat.le_refl _⟩
def aj.trans {a b c:Z} (h:aj a b) (k:aj b c):aj a c:=⟨k.os.trans h.os,k.tape.trans h.tape,k.output.trans h.output,Nat.le_trans h.size k.size⟩
def aj.alloc {a b:Z} (h:aj a b) (o:Obj):aj a (b.alloc o):=h.trans ⟨rfl,rfl,rfl,Si0⟩
def aj.setCell {a b:Z} (h:aj a b) (p:Addr) (v:Y):aj a (b.setCell p v):=h.trans ⟨rfl,rfl,rfl,by simp [World.setCell]⟩
def aj.drew {a b:Z} (h:aj a b):aj a b.drew:=⟨h.os,h.tape,h.output,h.size⟩
def aj.drewN {a b:Z} (h:aj a b) (n:Nat):aj a (b.drewN n):=⟨h.os,h.tape,h.output,h.size⟩
def aj.below {W w':Z} {F:ai} (h:aj W w') (s:ag w' (SL.whole W*F)):Below W.heap.size W w':=
 ⟨h.os,h.tape,h.output,h.size,fun k a=>s.yE k a⟩
def u8 (x:UInt8):Y:=.int .u8 (x.toNat:Int)
def ed (l:List UInt8):Array Y:=(l.map u8).toArray
def str (l:List UInt8):ByteArray:=⟨l.toArray⟩
def zs (n:Nat):List UInt8:=List.replicate n 0
def fj (l:List UInt8):(ed l).size=l.length:=by simp [ed]
def bg (n:Nat):(zs n).length=n:=by simp [zs]
def Ai (n:Int):Value.int .u8 (IntKind.u8.wrap n)=u8 (B3 n):=by
 simp [u8,IntKind.wrap_u8]
 have:(B3 n).toNat=(n%256).toNat:=by
  simp [B3,UInt8.toNat_ofNat'];omega
 rw [this];omega
def jH (n:Nat):madeCells (Value.int .u8 0).cells (n*1)=ed (zs n):=by
 apply Array.ext
 .simp [size_madeCells,fj,bg]
 .intro i a d
  simp [madeCells,ed,zs,Value.cells,u8,Nat.mod_one]
def Ku (k:Nat) (f:k<=62) (n c:Int) (d:c=((2 ^ k-1:Nat):Int)):bits .and .i64 n c=n%((2 ^ k:Nat):Int):=by
 subst d;have m:(2:Nat) ^ k<=2 ^ 62:=Nat.pow_le_pow_right De0 f;have p:0<(2:Nat) ^ k:=Nat.pow_pos De0
 have h:(A3 64 ((2 ^ k-1:Nat):Int)).toNat=2 ^ k-1:=by
  rw [D5];omega
 have i:(A3 64 n &&& A3 64 ((2 ^ k-1:Nat):Int)).toNat=(n%((2 ^ 64:Nat):Int)).toNat%2 ^ k:=by
  rw [BitVec.toNat_and,D5,h,Nat.and_two_pow_sub_one_eq_mod]
 show IntKind.i64.wrap ((A3 64 n &&& A3 64 ((2 ^ k-1:Nat):Int)).toNat:Nat)=_
 have e:(2:Nat) ^ k∣2 ^ 64:=Nat.pow_dvd_pow 2 Om0
 have a:(((n%((2 ^ 64:Nat):Int)).toNat%2 ^ k:Nat):Int)=n%((2 ^ k:Nat):Int):=by
  rw [Int.natCast_emod,Int.toNat_of_nonneg (Int.emod_nonneg _ De0)];exact Int.emod_emod_of_dvd n (by exact_mod_cast e)
 rw [i,a,IntKind.wrap_i64];have j:0<=n%((2 ^ k:Nat):Int):=Int.emod_nonneg _ Om0;have l:n%((2 ^ k:Nat):Int)<((2 ^ k:Nat):Int):=Int.emod_lt_of_pos _ Om0;omega
def UE (n:Int):bits .and .i64 n 65535=n%65536:=Ku 16 De0 n 65535 rfl
def sl (T:TypeId) (sz:Nat) (v:Y) (n:Nat) (xs:List Y):ai:=fun h=>
 (v = S V 0 0/\n=0/\xs=[]/\h=fun _=>V) \/
 ∃ g cap a,v = S (X ⟨g,0,V⟩) n cap/\n<=cap/\cap<=maxLen/\a.size=cap*sz/\a.toList.take (n*sz)=xs/\h=one g (U a T (0,0))
def bs (T:TypeId) (v:Y) (l:List UInt8):ai:=sl T 1 v l.length (l.map u8)
section
variable {w w':Z} {F:ai} {T:TypeId} {sz n cap g:Nat} {v:Y} {xs:List Y}
def TJ (T:TypeId) (sz:Nat):sl T sz (S V 0 0) 0 [] (fun _=>V):=.inl ⟨rfl,rfl,rfl,rfl⟩
def ag.eU (h:ag w F) (T:TypeId) (sz:Nat):ag w (sl T sz (S V 0 0) 0 []*F):=
 (h.to (cl F).symm).gZ fun k a=>by rw [a];exact TJ T sz
def ag.dq (h:ag w (sl T sz v n xs*F)):(v = S V 0 0/\n=0/\xs=[]/\ag w F) \/
  ∃ g cap e,v = S (X ⟨g,0,V⟩) n cap/\n<=cap/\cap<=maxLen/\e.size=cap*sz/\e.toList.take (n*sz)=xs/\ag w (pt g (U e T (0,0))*F):=by
 obtain ⟨m,a,q,i,p,f,d,rfl⟩:=h;rcases p with ⟨rfl,rfl,rfl,rfl⟩|⟨g,cap,e,rfl,j,h4,h5,k,rfl⟩
 .exact .inl ⟨rfl,rfl,rfl,i,fun b o l=>a b o (by simp [join,l]),f⟩
 .exact .inr ⟨g,cap,e,rfl,j,h4,h5,k,_,a,_,i,rfl,f,d,rfl⟩
def ag.nM {a:Array Y} (h:ag w (pt g (U a T (0,0))*F)) (d:n<=cap) (h4:cap<=maxLen) (h5:a.size=cap*sz) :
  ag w (sl T sz (S (X ⟨g,0,V⟩) n cap) n (a.toList.take (n*sz))*F):=
 h.gZ fun _ e=>.inr ⟨g,cap,a,rfl,d,h4,h5,rfl,e⟩
def Lx (h:ag w (sl T sz v n xs*F)):xs.length=n*sz:=by
 rcases h.dq with ⟨_,rfl,rfl,_⟩|⟨g,cap,e,_,a,_,h5,d,_⟩
 .simp
 .rw [<- d,List.length_take,Array.length_toList,h5]
  exact Nat.min_eq_left (D4 _ a)
def ag.setRow {d cs':Array Y} {a:Nat × Nat} (h:ag w (pt g (U d T a)*F)):ag (w.setRow g cs') (pt g (U cs' T a)*F):=by
 refine h.fC ?_ fun c e=>?_
 .simp [B2,A1,h.heap]
 .simp only [B2,A1];rw [if_neg Om0]
def aj.setRow {a b:Z} (h:aj a b) (g:Nat) (d:Array Y):aj a (b.setRow g d):=h.trans ⟨rfl,rfl,rfl,by simp [B2]⟩
def At (w:Z) (a:Addr) (xs:List Y):Prop:=∀ j u,xs[j]?=X u->w.cell? (a.add j)=X u
def pC (w:Z) (sz:Nat) (v:Y) (n:Nat) (xs:List Y):Prop:=
 xs.length=n*sz/\((v = S V 0 0/\n=0)\/∃ a c,v = S (X a) n c/\At w a xs)
def Rd (w:Z) (v:Y) (l:List UInt8):Prop:=pC w 1 v l.length (l.map u8)
def ag.oa (h:ag w (sl T sz v n xs*F)):pC w sz v n xs:=by
 refine ⟨Lx h,?_⟩;rcases h.dq with ⟨rfl,rfl,rfl,_⟩|⟨g,cap,e,rfl,f,_,h5,rfl,d⟩
 .exact .inl ⟨rfl,rfl⟩
 .refine .inr ⟨_,_,rfl,fun j u a=>?_⟩
  rw [Addr.add_lit,B1,d.cell];rw [List.getElem?_take] at a
  split at a
  .simpa using a
  .cases a
def pC.carry (h:pC w sz v n xs) (k:∀ a u,w.cell? a=X u->w'.cell? a=X u):pC w' sz v n xs:=by
 refine ⟨h.1,?_⟩;rcases h.2 with h|⟨a,c,hv,d⟩
 .exact .inl h
 .exact .inr ⟨a,c,hv,fun j u e=>k _ _ (d j u e)⟩
def bW (w:Z) (o:Obj) (a:Addr) (u:Y) (h:w.cell? a=X u):(w.alloc o).cell? a=X u:=by
 have:a.block<w.heap.size:=D6 w a h;rw [D7 (heap_alloc_old w o this)];exact h
def pC.alloc (h:pC w sz v n xs) (o:Obj):pC (w.alloc o) sz v n xs:=h.carry fun a u d=>bW w o a u d
def pC.drew (h:pC w sz v n xs):pC w.drew sz v n xs:=h
end
section
variable {P:Program} {w:Z} {F:ai}
def ag.append {t ty e:TypeId} {i:TypeInfo} {z:Y} {sz C:Nat} (l:P.underlying t=X (.slice e)) (k:P.info? e=X i) (H:i.zero=X z)
  (f0:i.size=sz) (b0:i.bytes=C) (g0:z.cells.size=sz)
  {v x:Y} {n m:Nat} {xs d:List Y} (h:ag w (sl e sz v n xs*F)) (s:pC w sz x m d) (K:∀ h0 ∈ d,h0.oneCell'=true)
  (E:n+m<=maxLen) (G:(n+m)*C<=140737488355328) :
  ∃ I w',(Builtin.append_ #[t,t] ty #[v,x]).run P w = .ok I w'/\ag w' (sl e sz I (n+m) (xs++d)*F)/\aj w w':=by
 subst f0;subst b0;have j0:n+m<=9223372036854775807:=by simp only [maxLen] at E;omega
 obtain ⟨f,s⟩:=s;have u:=Lx h
 have D:∀ (qz:Nat) (y:ai),ag w y ->
   ag (w.drew.alloc (U (xs.toArray++d.toArray++Builtin.zeroCells z.cells (grownCap w (n+m) qz e-(n+m))) e))
    (sl e i.size (S (X ⟨w.heap.size,0,V⟩) (n+m) (grownCap w (n+m) qz e)) (n+m) (xs++d)*y):=by
  intro qz y j;have d0:=grownCap_ge w (n+m) qz e;have c0:grownCap w (n+m) qz e<=maxLen:=grownCap_le_maxLen w (n+m) qz e E;have N:=j.drew.alloc (U (xs.toArray++d.toArray++Builtin.zeroCells z.cells (grownCap w (n+m) qz e-(n+m))) e)
  have:=ag.nM (sz:=i.size) (n:=n+m) N d0 c0 (by
   simp only [Array.size_append,List.size_toArray,size_zeroCells,g0,u,f,<- A2];congr 1;omega)
  refine this.to ?_;congr 2;simp only [Array.toList_append,List.append_assoc];rw [<- List.append_assoc];exact List.take_left' (by rw [List.length_append,u,f,A2])
 rcases h.dq with ⟨rfl,rfl,rfl,j⟩|⟨g,cap,p,rfl,L,h4,h5,M,j⟩
 .rcases s with ⟨rfl,rfl⟩|⟨a,c,rfl,r⟩
  .have:d=[]:=D9 (by simpa using f)
   subst this;refine ⟨S V 0 0,w,?_,j.eU _ _,aj.refl w⟩;simp [Builtin.append_,run_underlying l,sizeOf,typeInfo,k,Builtin.lenOf,Builtin.firstCells]
  .by_cases hm:m=0
   .subst hm
    have:d=[]:=D9 (by simpa using f);subst this;refine ⟨S V 0 0,w,?_,j.eU _ _,aj.refl w⟩;simp [Builtin.append_,run_underlying l,sizeOf,typeInfo,k,Builtin.lenOf,Builtin.firstCells,loadCells,loadCellsFrom]
   .have q:=run_append_nil (P:=P) w t ty e i z l k H a m c d f r Om0 Om0 (by have W:=G;simp only [B1] at W;omega)
    have:=D 0 F j;simp only [B1,List.nil_append] at this ⊢;exact ⟨_,_,q,by simpa using this,((aj.refl w).drew).alloc _⟩
 .rcases s with ⟨rfl,rfl⟩|⟨a,c,rfl,r⟩
  .have:d=[]:=D9 (by simpa using f)
   subst this;refine ⟨S (X ⟨g,0,V⟩) n cap,w,?_,by simpa using h,aj.refl w⟩;simp [Builtin.append_,run_underlying l,sizeOf,typeInfo,k,Builtin.lenOf,Builtin.firstCells,L,storeCells]
  .by_cases B:n+m<=cap
   .have A:n*i.size+d.length<=p.size:=by
     rw [f,h5,<- A2];exact D4 _ B
    have q:=run_append_room (P:=P) w t ty e i l k g n cap p j.heap a m c d f r K B A;refine ⟨_,_,q,?_,(aj.refl w).setRow _ _⟩;have i0:(List.take (n*i.size) p.toList).length=n*i.size:=by simp;omega
    have O:=ag.nM (sz:=i.size) (n:=n+m) (cap:=cap) (j.setRow (cs':=(p.toList.take (n*i.size)++d++p.toList.drop (n*i.size+d.length)).toArray)) B h4 (by
     simp;omega)
    refine O.to ?_;congr 2;simp only [];rw [M,List.take_left' (by rw [List.length_append,u,f,A2])]
   .have e0:At w ⟨g,0,V⟩ xs:=by
     have:=h.oa.2;rcases this with ⟨h,_⟩|⟨a',c',h,J⟩
     .cases h
     .cases h;exact J
    have A:Builtin.nextslicecap (n+m) cap*i.bytes<=281474976710656:=growslice_fits Om0 G;have q:=run_append_grow (P:=P) w t ty e i z l k H ⟨g,0,V⟩ n cap xs u e0 a m c d f r Om0 Om0 A;exact ⟨_,_,q,D cap F j.right,((aj.refl w).drew).alloc _⟩
end
def wpList_append_run {P:Program} {w w':Z} {d:Array Oper} {rest:List Oper} {o:Oper} {a:Act} {Q:Exit->Act->Z->Prop} {v f e:Y} {t ty:TypeId}
  (l:(Builtin.append_ #[t,t] ty #[v,f]).run P w = .ok e w') (s x:Operand)
  (j:o.guard=V) (p:o.type=ty) (k:o.op=Op.call { callee:=Callee.builtin Builtin.append,args:=#[s,x],argTypes:=#[t,t] })
  (m:a.eval s=v) (q:a.eval x=f)
  (h:wpList P d Q rest (a.put o.dst e) w'):wpList P d Q (o :: rest) a w:=by
 refine wpList_plain j fun K i=>?_;subst p m q;unfold Oper.wp;simp [execOp,k,resolve,invoke,builtin,l,Result.andThen];exact i _ _ h
def nH (p:Program) (a:Fn) (first cap:Array Y) (w:Z):(Instr.makeFunc a first cap).run p w = .ok (.func a first cap) w:=rfl
end Go.SL
