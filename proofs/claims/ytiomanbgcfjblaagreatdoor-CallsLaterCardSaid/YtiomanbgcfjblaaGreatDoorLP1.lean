/- Steps. -/
import Derived.Test.YtiomanbgcfjblaaGreatDoorLP0
import Derived.WalkKit
import Derived.WalkSpells
import Derived.WalkLawsBesides
import Derived.Laws.BytesString
set_option linter.all false
set_option maxRecDepth 99999
set_option maxHeartbeats 0
open Go.Obj renaming cells->U
open Go.Value renaming slice->S
open Go renaming World->Z,Value->Y
open Option renaming some->X,none->V
open Nat renaming add_mul->A1,zero_add->D7,mul_le_mul_right->D2
open Array renaming getElem?_modify->B3
open UInt8 renaming ofInt->D9
open Go.World renaming setRow->D8,cell?_of_block->D4,block_lt_of_cell?->D3
open List renaming eq_nil_of_length_eq_zero->D6
open Option renaming or_eq_none_iff->D5
namespace Go.SL
end Go.SL
open Go.SL
namespace Go.SL
open RowKit
variable {a:Addr}
def ae {p:Prop} (h:p):Hid p:=h
abbrev Hp:=Nat->Option Obj
def ai:Type:=Hp->Prop
def join (h k:Hp):Hp:=fun b=>(h b).or (k b)
def apart (h k:Hp):Prop:=∀ b,h b=V\/k b=V
def star (P Q:ai):ai:=fun h=>∃ a d:Hp,P a/\Q d/\apart a d/\h=join a d
instance:Mul ai:=⟨star⟩
def one (b:Nat) (o:Obj):Hp:=fun k=>if k=b then X o else V
def pt (b:Nat) (o:Obj):ai:=fun h=>h=one b o
def emp:ai:=fun h=>h=fun _=>V
def fact (p:Prop):ai:=fun h=>p/\h=fun _=>V
def ex {α:Type} (P:α->ai):ai:=fun h=>∃ x,P x h
def whole (W:Z):ai:=fun h=>h=fun b=>W.heap[b]?
def ah (w:Z) (P:ai):Prop:=∃ h:Hp,(∀ b o,h b=X o->w.heap[b]?=X o)/\P h
def gg {h k:Hp} (d:apart h k):apart k h:=fun b=>(d b).symm
def join_comm {h k:Hp} (d:apart h k):join h k=join k h:=by
 funext b;rcases d b with e|e <;> simp [join,e]
def join_assoc (h k l:Hp):join (join h k) l=join h (join k l):=by
 funext b;simp [join,Option.or_assoc]
def eC {h k l:Hp}:apart (join h k) l↔apart h l/\apart k l:=by
 constructor
 .intro d
  refine ⟨fun b=>?_,fun b=>?_⟩
  .rcases d b with e|e
   .simp [join,D5] at e;exact .inl e.1
   .exact .inr e
  .rcases d b with e|e
   .simp [join,D5] at e;exact .inl e.2
   .exact .inr e
 .rintro ⟨f,i⟩ b
  rcases f b with e|e
  .rcases i b with a|a
   .exact .inl (by simp [join,e,a])
   .exact .inr a
  .exact .inr e
def gB {h k l:Hp}:apart h (join k l)↔apart h k/\apart h l:=
  ⟨fun d=>let ⟨a,b⟩:=eC.1 (gg d);⟨gg a,gg b⟩,
   fun ⟨a,b⟩=>gg (eC.2 ⟨gg a,gg b⟩)⟩
def eV (P Q:ai):P*Q=Q*P:=by
 funext h;apply propext;constructor
 .rintro ⟨a,e,p,q,d,rfl⟩;exact ⟨e,a,q,p,gg d,join_comm d⟩
 .rintro ⟨a,e,p,q,d,rfl⟩;exact ⟨e,a,q,p,gg d,join_comm d⟩
def ar (P Q R:ai):P*Q*R=P*(Q*R):=by
 funext h;apply propext;constructor
 .rintro ⟨_,f,⟨e,a,p,q,d,rfl⟩,r,i,rfl⟩
  obtain ⟨j,k⟩:=eC.1 i;exact ⟨e,join a f,p,⟨a,f,q,r,k,rfl⟩,gB.2 ⟨d,j⟩,join_assoc _ _ _⟩
 .rintro ⟨e,_,p,⟨a,f,q,r,d,rfl⟩,i,rfl⟩
  obtain ⟨j,k⟩:=gB.1 i;exact ⟨join e a,f,⟨e,a,p,q,j,rfl⟩,r,eC.2 ⟨k,d⟩,(join_assoc _ _ _).symm⟩
instance:Std.Commutative (α:=ai) (·*·):=⟨eV⟩
instance:Std.Associative (α:=ai) (·*·):=⟨ar⟩
def aE (P Q R:ai):P*(Q*R)=Q*(P*R):=by rw [<- ar,eV P Q,ar]
def l7 (P:ai):P*emp=P:=by
 funext h;apply propext;constructor
 .rintro ⟨a,e,p,rfl,d,rfl⟩
  have:join a (fun _=>V)=a:=by funext b;simp [join]
  rw [this];exact p
 .intro p
  exact ⟨h,fun _=>V,p,rfl,fun b=>.inr rfl,by funext b;simp [join]⟩
def cy (P:ai):emp*P=P:=by rw [eV,l7]
def QG {α:Type} (P:α->ai) (Q:ai):ex P*Q=ex fun x=>P x*Q:=by
 funext h;apply propext;constructor
 .rintro ⟨a,e,⟨x,p⟩,q,d,rfl⟩;exact ⟨x,a,e,p,q,d,rfl⟩
 .rintro ⟨x,a,e,p,q,d,rfl⟩;exact ⟨a,e,⟨x,p⟩,q,d,rfl⟩
section
variable {w w':Z} {P Q R F:ai} {b c:Nat} {o o':Obj}
def ah.to (h:ah w P) (e:P=Q):ah w Q:=e▸h
def ah.t00 {w:Z} {P:ai} (h:ah w P) (Q:ai) (e:P=Q:=by ac_rfl):ah w Q:=h.to e
def ah.u00 {w:Z} {P Q:ai} (h:ah w P) (e:P=Q:=by ac_rfl):ah w Q:=h.to e
def ah.imp (h:ah w P) (e:∀ k,P k->Q k):ah w Q:=let ⟨k,a,p⟩:=h;⟨k,a,e k p⟩
def ah.left (h:ah w (P*Q)):ah w P:=
 let ⟨_,a,d,i,p,_,_,e⟩:=h;⟨d,fun b o f=>a b o (by rw [e];simp [join,f]),p⟩
def ah.right (h:ah w (P*Q)):ah w Q:=ah.left (h.to (eV _ _))
def ah.ib (h:ah w (P*F)) (e:∀ k,P k->Q k):ah w (Q*F):=
 h.imp fun _ ⟨a,i,p,f,d,j⟩=>⟨a,i,e _ p,f,d,j⟩
def ah.U1 {α:Type} {P:α->ai}:ah w (ex P)↔∃ x,ah w (P x):=
 ⟨fun ⟨h,a,x,p⟩=>⟨x,h,a,p⟩,fun ⟨x,h,a,p⟩=>⟨h,a,x,p⟩⟩
def ah.aq {α:Type} {P:α->ai}:ah w (ex P*F)↔∃ x,ah w (P x*F):=by
 rw [QG,ah.U1]
def ah.ao {p:Prop}:ah w (fact p*F)↔p/\ah w F:=by
 constructor
 .rintro ⟨_,a,j,e,⟨h,rfl⟩,f,d,rfl⟩
  exact ⟨h,e,fun b o i=>a b o (by simp [join,i]),f⟩
 .rintro ⟨h,e,a,f⟩
  exact ⟨e,a,fun _=>V,e,⟨h,rfl⟩,f,fun _=>.inl rfl,by funext b;simp [join]⟩
def ah.kp (h:ah w P):ah w (P*emp):=h.to (l7 P).symm
def ah.whole (w:Z):ah w (whole w):=⟨_,fun _ _ h=>h,rfl⟩
def ah.heap (h:ah w (pt b o*F)):w.heap[b]?=X o:=by
 obtain ⟨h,a,rfl⟩:=h.left;exact a b o (by simp [one])
def ah.lt (h:ah w (pt b o*F)):b<w.heap.size:=(Array.getElem?_eq_some_iff.1 h.heap).1
def ah.ne (h:ah w (pt b o*(pt c o'*F))):b≠c:=by
 obtain ⟨_,_,a,f,rfl,⟨i,h4,rfl,_,_,rfl⟩,d,rfl⟩:=h;rintro rfl;rcases d b with e|e <;> simp [one,join] at e
def ah.carry (h:ah w P) (k:∀ (b:Nat) (o:Obj),w.heap[b]?=X o->w'.heap[b]?=X o):ah w' P:=
 let ⟨m,a,p⟩:=h;⟨m,fun b o d=>k b o (a b o d),p⟩
def ah.of_heap (h:ah w P) (e:w'.heap=w.heap):ah w' P:=h.carry fun b o a=>by rw [e];exact a
def ah.drew (h:ah w P):ah w.drew P:=h
def ah.dM (h:ah w (pt b o*F)) (e:w'.heap[b]?=X o') (k:∀ c,c≠b->w'.heap[c]?=w.heap[c]?):ah w' (pt b o'*F):=by
 obtain ⟨_,a,p,l,rfl,f,d,rfl⟩:=h;refine ⟨join (one b o') l,fun c x m=>?_,one b o',l,rfl,f,fun c=>?_,rfl⟩
 .by_cases i:c=b
  .subst i
   have q:l c=V:=by rcases d c with j|j <;> simp_all [one]
   simp [join,one] at m;subst m;exact e
  .have:l c=X x:=by simpa [join,one,i] using m
   rw [k c i];exact a c x (by simp [join,one,i,this])
 .by_cases i:c=b
  .subst i
   rcases d c with j|j
   .simp [one] at j
   .exact .inr j
  .exact .inl (by simp [one,i])
def ah.new (h:ah w P) (e:w'.heap=w.heap.push o):ah w' (pt w.heap.size o*P):=by
 obtain ⟨m,a,p⟩:=h;have i:∀ c x,m c=X x->c<w.heap.size:=fun c x f=>(Array.getElem?_eq_some_iff.1 (a c x f)).1;refine ⟨join (one w.heap.size o) m,fun c x f=>?_,one w.heap.size o,m,rfl,p,fun c=>?_,rfl⟩
 .rw [e,Array.getElem?_push]
  by_cases d:c=w.heap.size
  .subst d
   simpa [join,one] using f
  .have:m c=X x:=by simpa [join,one,d] using f
   rw [if_neg d];exact a c x this
 .by_cases d:c=w.heap.size
  .right
   match j:m c with
   | none=>rfl
   | some x=>exact absurd (i c x j) Om0
  .exact .inl (by simp [one,d])
def KZ {k:Nat} (h:w.heap[k]?=X o) (x:Obj):(w.alloc x).heap[k]?=X o:=by
 rw [heap_alloc_old w x (Array.getElem?_eq_some_iff.1 h).1];exact h
def ah.alloc (h:ah w P) (o:Obj):ah (w.alloc o) (pt w.heap.size o*P):=h.new rfl
def uC {a:Array Y} {T:TypeId} {d:Nat × Nat} (h:w.heap[b]?=X (U a T d)) (i:Nat) (v:Y) :
  (w.setCell ⟨b,i,V⟩ v).heap[b]?=X (U (a.setIfInBounds i v) T d):=by
 simp [World.setCell,B3,h]
def ah.setCell {a:Array Y} {T:TypeId} {d:Nat × Nat} (h:ah w (pt b (U a T d)*F)) (i:Nat) (v:Y) :
  ah (w.setCell ⟨b,i,V⟩ v) (pt b (U (a.setIfInBounds i v) T d)*F):=
 h.dM (uC h.heap i v) fun c e=>Below.heap_setCell w ⟨b,i,V⟩ v c e
def ah.cell {a:Array Y} {T:TypeId} {d:Nat × Nat} (h:ah w (pt b (U a T d)*F)) (i:Nat):w.cell? ⟨b,i,V⟩=a[i]?:=by
 simp [World.cell?,h.heap]
def ah.frozen {a:Array Y} {T:TypeId} (h:ah w (pt b (U a T (0,0))*F)) (i:Nat):w.frozen? ⟨b,i,V⟩=false:=by
 simp [World.frozen?,h.heap]
def ah.yT {W:Z} (h:ah w (SL.whole W*F)) (k:Nat) (d:k<W.heap.size):w.heap[k]?=W.heap[k]?:=by
 obtain ⟨m,a,rfl⟩:=h.left;have:W.heap[k]?=X W.heap[k]:=Array.getElem?_eq_getElem d;rw [this];exact a k _ this
def ah.under {W:Z} (h:ah w (P*SL.whole W)) (g:ah W Q):ah w (P*Q):=by
 obtain ⟨_,a,f,r,p,rfl,d,rfl⟩:=h;obtain ⟨k,b,q⟩:=g;refine ⟨join f k,fun c o j=>?_,f,k,p,q,fun c=>?_,rfl⟩
 .match i:f c with
  | some x=>exact a c o (by simpa [join,i] using j)
  | none=>
   have l:k c=X o:=by simpa [join,i] using j
   exact a c o (by simp [join,i,b c o l])
 .match m:k c with
  | none=>exact .inr rfl
  | some x=>
   rcases d c with e|e
   .exact .inl e
   .exact absurd ((b c x m).symm.trans e) Si0
def ah.nu {W:Z} (h:ah w (P*SL.whole W)) (k:Nat) (a:k<W.heap.size):w.heap[k]?=W.heap[k]?:=ah.yT (h.to (eV _ _)) k a
def ah.bX {W:Z} (h:ah w (P*SL.whole W)) {u:Y} (d:W.cell? a=X u):w.cell? a=X u:=by
 rw [D4 (h.nu _ (D3 W a d))];exact d
def ah.Iq {W:Z} (h:ah w (P*SL.whole W)) {b:Nat} {o:Obj} (a:W.heap[b]?=X o):w.heap[b]?=X o:=by
 rw [h.nu _ (Array.getElem?_eq_some_iff.1 a).1];exact a
def ah.sw {W:Z} (h:ah w (P*SL.whole W)) (d:a.block<W.heap.size):w.frozen? a=W.frozen? a:=World.frozen?_of_block (h.nu _ d)
end
def ah.aj {a d F:ai} {w:Z} (h:ah w (a*(d*F))):ah w (d*(a*F)):=h.to (aE _ _ _)
def ah.Pb {a d F:ai} {w:Z} (h:ah w (d*(a*F))):ah w (a*(d*F)):=h.to Ac0
def ah.fT {a d F:ai} {w:Z} (h:ah w (a*(d*F))):ah w (a*F):=h.aj.right
def ah.au {a d e F:ai} {w:Z} (h:ah w (a*(d*(e*F)))):ah w (e*(a*(d*F))):=h.to Ac0
def ah.yq {a d e F:ai} {w:Z} (h:ah w (e*(a*(d*F)))):ah w (a*(d*(e*F))):=h.to Ac0
def ah.ly {a d e F:ai} {w:Z} (h:ah w (a*(d*(e*F)))):ah w (a*(d*F)):=h.au.right
def ah.aC {a d e f F:ai} {w:Z} (h:ah w (a*(d*(e*(f*F))))):ah w (f*(a*(d*(e*F)))):=h.to Ac0
def ah.ur {a d e f F:ai} {w:Z} (h:ah w (f*(a*(d*(e*F))))):ah w (a*(d*(e*(f*F)))):=h.to Ac0
def ah.lv {a d e f F:ai} {w:Z} (h:ah w (a*(d*(e*(f*F))))):ah w (a*(d*(e*F))):=h.aC.right
def ah.aI {a d e f i F:ai} {w:Z} (h:ah w (a*(d*(e*(f*(i*F)))))):ah w (i*(a*(d*(e*(f*F))))):=h.to Ac0
def ah.yN {a d e f i F:ai} {w:Z} (h:ah w (i*(a*(d*(e*(f*F)))))):ah w (a*(d*(e*(f*(i*F))))):=h.to Ac0
def ah.WX {a d e f i F:ai} {w:Z} (h:ah w (a*(d*(e*(f*(i*F)))))):ah w (a*(d*(e*(f*F)))):=h.aI.right
def ah.et {a d e f i j F:ai} {w:Z} (h:ah w (a*(d*(e*(f*(i*(j*F))))))):ah w (j*(a*(d*(e*(f*(i*F)))))):=h.to Ac0
def ah.PL {a d e f i j F:ai} {w:Z} (h:ah w (j*(a*(d*(e*(f*(i*F))))))):ah w (a*(d*(e*(f*(i*(j*F)))))):=h.to Ac0
def ah.Wj {a d e f i j F:ai} {w:Z} (h:ah w (a*(d*(e*(f*(i*(j*F))))))):ah w (a*(d*(e*(f*(i*F))))):=h.et.right
def ah.eN {a d e f i j k F:ai} {w:Z} (h:ah w (a*(d*(e*(f*(i*(j*(k*F)))))))):ah w (k*(a*(d*(e*(f*(i*(j*F))))))):=h.to Ac0
def ah.mE {a d e f i j k l F:ai} {w:Z} (h:ah w (a*(d*(e*(f*(i*(j*(k*(l*F))))))))):ah w (l*(a*(d*(e*(f*(i*(j*(k*F)))))))):=h.to Ac0
def ah.SE {a d e f i j k l F:ai} {w:Z} (h:ah w (l*(a*(d*(e*(f*(i*(j*(k*F))))))))):ah w (a*(d*(e*(f*(i*(j*(k*(l*F)))))))):=h.to Ac0
def ah.lO {a d e f i j k l m F:ai} {w:Z} (h:ah w (a*(d*(e*(f*(i*(j*(k*(l*(m*F)))))))))):ah w (m*(a*(d*(e*(f*(i*(j*(k*(l*F))))))))):=h.to Ac0
structure ak (w w':World):Prop where
 os:w'.os=w.os
 tape:w'.tape=w.tape
 output:w'.output=w.output
 size:w.heap.size<=w'.heap.size
def ak.refl (w:Z):ak w w:=⟨rfl,rfl,rfl,Nat.le_refl _⟩
def ak.trans {a b c:Z} (h:ak a b) (k:ak b c):ak a c:=⟨k.os.trans h.os,k.tape.trans h.tape,k.output.trans h.output,Nat.le_trans h.size k.size⟩
def ak.alloc {a b:Z} (h:ak a b) (o:Obj):ak a (b.alloc o):=h.trans ⟨rfl,rfl,rfl,Si0⟩
def ak.setCell {a b:Z} (h:ak a b) (p:Addr) (v:Y):ak a (b.setCell p v):=h.trans ⟨rfl,rfl,rfl,by simp [World.setCell]⟩
def ak.drew {a b:Z} (h:ak a b):ak a b.drew:=⟨h.os,h.tape,h.output,h.size⟩
def ak.drewN {a b:Z} (h:ak a b) (n:Nat):ak a (b.drewN n):=⟨h.os,h.tape,h.output,h.size⟩
def ak.below {W w':Z} {F:ai} (h:ak W w') (s:ah w' (SL.whole W*F)):Below W.heap.size W w':=
 ⟨h.os,h.tape,h.output,h.size,fun k a=>s.yT k a⟩
def u8 (x:UInt8):Y:=.int .u8 (x.toNat:Int)
def dP (l:List UInt8):Array Y:=(l.map u8).toArray
def str (l:List UInt8):ByteArray:=⟨l.toArray⟩
def zs (n:Nat):List UInt8:=List.replicate n 0
def eX (l:List UInt8):(dP l).size=l.length:=by simp [dP]
def aX (n:Nat):(zs n).length=n:=by simp [zs]
def G6 (n:Int):Value.int .u8 (IntKind.u8.wrap n)=u8 (D9 n):=by
 simp [u8,IntKind.wrap_u8]
 have:(D9 n).toNat=(n%256).toNat:=by
  simp [D9,UInt8.toNat_ofNat'];omega
 rw [this];omega
def jS (n:Nat):madeCells (Value.int .u8 0).cells (n*1)=dP (zs n):=by
 apply Array.ext
 .simp [size_madeCells,eX,aX]
 .intro i a d
  simp [madeCells,dP,zs,Value.cells,u8,Nat.mod_one]
def sl (T:TypeId) (sz:Nat) (v:Y) (n:Nat) (xs:List Y):ai:=fun h=>
 (v = S V 0 0/\n=0/\xs=[]/\h=fun _=>V) \/
 ∃ g cap a,v = S (X ⟨g,0,V⟩) n cap/\n<=cap/\cap<=maxLen/\a.size=cap*sz/\a.toList.take (n*sz)=xs/\h=one g (U a T (0,0))
def bs (T:TypeId) (v:Y) (l:List UInt8):ai:=sl T 1 v l.length (l.map u8)
section
variable {w w':Z} {F:ai} {T:TypeId} {sz n cap g:Nat} {v:Y} {xs:List Y}
def T9 (T:TypeId) (sz:Nat):sl T sz (S V 0 0) 0 [] (fun _=>V):=.inl ⟨rfl,rfl,rfl,rfl⟩
def ah.dR (h:ah w F) (T:TypeId) (sz:Nat):ah w (sl T sz (S V 0 0) 0 []*F):=
 (h.to (cy F).symm).ib fun k a=>by rw [a];exact T9 T sz
def ah.cH (h:ah w (sl T sz v n xs*F)):(v = S V 0 0/\n=0/\xs=[]/\ah w F) \/
  ∃ g cap e,v = S (X ⟨g,0,V⟩) n cap/\n<=cap/\cap<=maxLen/\e.size=cap*sz/\e.toList.take (n*sz)=xs/\ah w (pt g (U e T (0,0))*F):=by
 obtain ⟨m,a,q,i,p,f,d,rfl⟩:=h;rcases p with ⟨rfl,rfl,rfl,rfl⟩|⟨g,cap,e,rfl,j,h4,h5,k,rfl⟩
 .exact .inl ⟨rfl,rfl,rfl,i,fun b o l=>a b o (by simp [join,l]),f⟩
 .exact .inr ⟨g,cap,e,rfl,j,h4,h5,k,_,a,_,i,rfl,f,d,rfl⟩
def ah.nz {a:Array Y} (h:ah w (pt g (U a T (0,0))*F)) (d:n<=cap) (h4:cap<=maxLen) (h5:a.size=cap*sz) :
  ah w (sl T sz (S (X ⟨g,0,V⟩) n cap) n (a.toList.take (n*sz))*F):=
 h.ib fun _ e=>.inr ⟨g,cap,a,rfl,d,h4,h5,rfl,e⟩
def OW (h:ah w (sl T sz v n xs*F)):xs.length=n*sz:=by
 rcases h.cH with ⟨_,rfl,rfl,_⟩|⟨g,cap,e,_,a,_,h5,d,_⟩
 .simp
 .rw [<- d,List.length_take,Array.length_toList,h5]
  exact Nat.min_eq_left (D2 _ a)
def ah.setRow {d cs':Array Y} {a:Nat × Nat} (h:ah w (pt g (U d T a)*F)):ah (w.setRow g cs') (pt g (U cs' T a)*F):=by
 refine h.dM ?_ fun c e=>?_
 .simp [D8,B3,h.heap]
 .simp only [D8,B3];rw [if_neg Om0]
def ak.setRow {a b:Z} (h:ak a b) (g:Nat) (d:Array Y):ak a (b.setRow g d):=h.trans ⟨rfl,rfl,rfl,by simp [D8]⟩
def At (w:Z) (a:Addr) (xs:List Y):Prop:=∀ j u,xs[j]?=X u->w.cell? (a.add j)=X u
def nt (w:Z) (sz:Nat) (v:Y) (n:Nat) (xs:List Y):Prop:=
 xs.length=n*sz/\((v = S V 0 0/\n=0)\/∃ a c,v = S (X a) n c/\At w a xs)
def Rd (w:Z) (v:Y) (l:List UInt8):Prop:=nt w 1 v l.length (l.map u8)
def ah.ny (h:ah w (sl T sz v n xs*F)):nt w sz v n xs:=by
 refine ⟨OW h,?_⟩;rcases h.cH with ⟨rfl,rfl,rfl,_⟩|⟨g,cap,e,rfl,f,_,h5,rfl,d⟩
 .exact .inl ⟨rfl,rfl⟩
 .refine .inr ⟨_,_,rfl,fun j u a=>?_⟩
  rw [Addr.add_lit,D7,d.cell];rw [List.getElem?_take] at a
  split at a
  .simpa using a
  .cases a
def nt.carry (h:nt w sz v n xs) (k:∀ a u,w.cell? a=X u->w'.cell? a=X u):nt w' sz v n xs:=by
 refine ⟨h.1,?_⟩;rcases h.2 with h|⟨a,c,hv,d⟩
 .exact .inl h
 .exact .inr ⟨a,c,hv,fun j u e=>k _ _ (d j u e)⟩
def bF (w:Z) (o:Obj) (a:Addr) (u:Y) (h:w.cell? a=X u):(w.alloc o).cell? a=X u:=by
 have:a.block<w.heap.size:=D3 w a h;rw [D4 (heap_alloc_old w o this)];exact h
def nt.alloc (h:nt w sz v n xs) (o:Obj):nt (w.alloc o) sz v n xs:=h.carry fun a u d=>bF w o a u d
def nt.drew (h:nt w sz v n xs):nt w.drew sz v n xs:=h
end
section
variable {P:Program} {w:Z} {F:ai}
def ah.append {t ty e:TypeId} {i:TypeInfo} {z:Y} {sz C:Nat} (l:P.underlying t=X (.slice e)) (k:P.info? e=X i) (H:i.zero=X z)
  (f0:i.size=sz) (b0:i.bytes=C) (g0:z.cells.size=sz)
  {v x:Y} {n m:Nat} {xs d:List Y} (h:ah w (sl e sz v n xs*F)) (s:nt w sz x m d) (K:∀ h0 ∈ d,h0.oneCell'=true)
  (E:n+m<=maxLen) (G:(n+m)*C<=140737488355328) :
  ∃ I w',(Builtin.append_ #[t,t] ty #[v,x]).run P w = .ok I w'/\ah w' (sl e sz I (n+m) (xs++d)*F)/\ak w w':=by
 subst f0;subst b0;have k0:n+m<=9223372036854775807:=by simp only [maxLen] at E;omega
 obtain ⟨f,s⟩:=s;have u:=OW h
 have D:∀ (nu:Nat) (y:ai),ah w y ->
   ah (w.drew.alloc (U (xs.toArray++d.toArray++Builtin.zeroCells z.cells (grownCap w (n+m) nu e-(n+m))) e))
    (sl e i.size (S (X ⟨w.heap.size,0,V⟩) (n+m) (grownCap w (n+m) nu e)) (n+m) (xs++d)*y):=by
  intro nu y j;have d0:=grownCap_ge w (n+m) nu e;have c0:grownCap w (n+m) nu e<=maxLen:=grownCap_le_maxLen w (n+m) nu e E;have N:=j.drew.alloc (U (xs.toArray++d.toArray++Builtin.zeroCells z.cells (grownCap w (n+m) nu e-(n+m))) e)
  have:=ah.nz (sz:=i.size) (n:=n+m) N d0 c0 (by
   simp only [Array.size_append,List.size_toArray,size_zeroCells,g0,u,f,<- A1];congr 1;omega)
  refine this.to ?_;congr 2;simp only [Array.toList_append,List.append_assoc];rw [<- List.append_assoc];exact List.take_left' (by rw [List.length_append,u,f,A1])
 rcases h.cH with ⟨rfl,rfl,rfl,j⟩|⟨g,cap,p,rfl,L,h4,h5,M,j⟩
 .rcases s with ⟨rfl,rfl⟩|⟨a,c,rfl,r⟩
  .have:d=[]:=D6 (by simpa using f)
   subst this;refine ⟨S V 0 0,w,?_,j.dR _ _,ak.refl w⟩;simp [Builtin.append_,run_underlying l,sizeOf,typeInfo,k,Builtin.lenOf,Builtin.firstCells]
  .by_cases hm:m=0
   .subst hm
    have:d=[]:=D6 (by simpa using f);subst this;refine ⟨S V 0 0,w,?_,j.dR _ _,ak.refl w⟩;simp [Builtin.append_,run_underlying l,sizeOf,typeInfo,k,Builtin.lenOf,Builtin.firstCells,loadCells,loadCellsFrom]
   .have q:=run_append_nil (P:=P) w t ty e i z l k H a m c d f r Om0 Om0 (by have W:=G;simp only [D7] at W;omega)
    have:=D 0 F j;simp only [D7,List.nil_append] at this ⊢;exact ⟨_,_,q,by simpa using this,((ak.refl w).drew).alloc _⟩
 .rcases s with ⟨rfl,rfl⟩|⟨a,c,rfl,r⟩
  .have:d=[]:=D6 (by simpa using f)
   subst this;refine ⟨S (X ⟨g,0,V⟩) n cap,w,?_,by simpa using h,ak.refl w⟩;simp [Builtin.append_,run_underlying l,sizeOf,typeInfo,k,Builtin.lenOf,Builtin.firstCells,L,storeCells]
  .by_cases B:n+m<=cap
   .have A:n*i.size+d.length<=p.size:=by
     rw [f,h5,<- A1];exact D2 _ B
    have q:=run_append_room (P:=P) w t ty e i l k g n cap p j.heap a m c d f r K B A;refine ⟨_,_,q,?_,(ak.refl w).setRow _ _⟩;have i0:(List.take (n*i.size) p.toList).length=n*i.size:=by simp;omega
    have O:=ah.nz (sz:=i.size) (n:=n+m) (cap:=cap) (j.setRow (cs':=(p.toList.take (n*i.size)++d++p.toList.drop (n*i.size+d.length)).toArray)) B h4 (by
     simp;omega)
    refine O.to ?_;congr 2;simp only [];rw [M,List.take_left' (by rw [List.length_append,u,f,A1])]
   .have e0:At w ⟨g,0,V⟩ xs:=by
     have:=h.ny.2;rcases this with ⟨h,_⟩|⟨a',c',h,J⟩
     .cases h
     .cases h;exact J
    have A:Builtin.nextslicecap (n+m) cap*i.bytes<=281474976710656:=growslice_fits Om0 G;have q:=run_append_grow (P:=P) w t ty e i z l k H ⟨g,0,V⟩ n cap xs u e0 a m c d f r Om0 Om0 A;exact ⟨_,_,q,D cap F j.right,((ak.refl w).drew).alloc _⟩
end
def wpList_append_run {P:Program} {w w':Z} {d:Array Oper} {rest:List Oper} {o:Oper} {a:Act} {Q:Exit->Act->Z->Prop} {v f e:Y} {t ty:TypeId}
  (l:(Builtin.append_ #[t,t] ty #[v,f]).run P w = .ok e w') (s x:Operand)
  (j:o.guard=V) (p:o.type=ty) (k:o.op=Op.call { callee:=Callee.builtin Builtin.append,args:=#[s,x],argTypes:=#[t,t] })
  (m:a.eval s=v) (q:a.eval x=f)
  (h:wpList P d Q rest (a.put o.dst e) w'):wpList P d Q (o :: rest) a w:=by
 refine wpList_plain j fun K i=>?_;subst p m q;unfold Oper.wp;simp [execOp,k,resolve,invoke,builtin,l,Result.andThen];exact i _ _ h
def oq (p:Program) (a:Fn) (first cap:Array Y) (w:Z):(Instr.makeFunc a first cap).run p w = .ok (.func a first cap) w:=rfl
end Go.SL
