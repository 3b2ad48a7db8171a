/- Steps. -/
import Derived.Test.YtiomanbgcfjblaaGreatDoorLP13
import Derived.Sort.AssemblyPlain
import Derived.Deep.QuietTactic
set_option linter.all false
set_option maxRecDepth 99999
set_option maxHeartbeats 0
open Go.SL
open Go.Value renaming int->Z
open Option renaming none->Z'
open Go.Proofs.Tryz
open Go.Value renaming int->A1
namespace Go.Proofs.Nn
open RowKit SL Go.Sort
def uA (g:Nat) (d:Array Int) (tl:List Value):ai:=pt g (.cells (d.toList.map (A1 .u32)++tl).toArray 170 (0,0))
section
variable {w:World} {g:Nat} {d:Array Int} {tl:List Value} {F:ai}
def A3 (h:ah w (uA g d tl*F)) {k:Nat} (a:k<d.size):w.cell? ⟨g,k,Z'⟩=some (Z .u32 d[k]!):=by
 have:=ah.cell (show ah w (pt g (.cells (d.toList.map (A1 .u32)++tl).toArray 170 (0,0))*F) from h) k;rw [this];have b:k<(d.toList.map (A1 .u32)).length:=by simpa using a
 rw [List.getElem?_toArray,List.getElem?_append_left b,List.getElem?_map];simp [a]
def sS (h:ah w (uA g d tl*F)) (k:Nat):w.frozen? ⟨g,k,Z'⟩=false:=
 ah.frozen (show ah w (pt g (.cells (d.toList.map (A1 .u32)++tl).toArray 170 (0,0))*F) from h) k
def On (h:ah w (uA g d tl*F)) {k:Nat} (b:k<d.size) (x:Int):ah (w.setCell ⟨g,k,Z'⟩ (Z .u32 x)) (uA g (d.setIfInBounds k x) tl*F):=by
 have:=ah.setCell (show ah w (pt g (.cells (d.toList.map (A1 .u32)++tl).toArray 170 (0,0))*F) from h) k (Z .u32 x);refine this.to ?_;unfold uA;congr 3;have a:k<(d.toList.map (A1 .u32)).length:=by simpa using b
 rw [List.setIfInBounds_toArray,List.set_append_left _ _ a,Array.toList_setIfInBounds,List.map_set]
def Mn (h:ah w (uA g d tl*F)) {i j:Nat} (c:i<d.size) (b:j<d.size) :
  w.cell? ⟨g,i,Z'⟩=some (Z .u32 d[i]!)/\w.cell? ⟨g,j,Z'⟩=some (Z .u32 d[j]!)/\w.frozen? ⟨g,i,Z'⟩=false/\w.frozen? ⟨g,j,Z'⟩=false /\
  (∃ v,(w.setCell ⟨g,i,Z'⟩ (Z .u32 d[j]!)).cell? ⟨g,j,Z'⟩=some v)/\(w.setCell ⟨g,i,Z'⟩ (Z .u32 d[j]!)).frozen? ⟨g,j,Z'⟩=false /\
  ah ((w.setCell ⟨g,i,Z'⟩ (Z .u32 d[j]!)).setCell ⟨g,j,Z'⟩ (Z .u32 d[i]!)) (uA g (swp d i j) tl*F):=by
 have a:=On h c d[j]!;have e:=On a (k:=j) (by simpa using b) d[i]!;exact ⟨A3 h c,A3 h b,sS h i,sS h j,⟨_,A3 a (by simpa using b)⟩,sS a j,e⟩
end
def Mk (g:Nat) (d:Array Int) (tl:List Value) (F:ai) (w:World) (e:Ending) (a:World):Prop:=e = .returned (.tuple #[])/\ah a (uA g d tl*F)/\ak w a
def KH (x:Int) (w:World):Calls prog 376 #[Z .u32 x] w fun e a=>e = .returned (.bool false)/\a=w:=by
 go_in
 go_wp2
 go_ret
 exact ⟨Si0,rfl⟩
def BB (x y:Int) (w:World):Calls prog 364 #[Z .u32 x,Z .u32 y] w fun e a=>e = .returned (.bool (ltInt x y))/\a=w:=by
 go_in
 go_wp2_with (apply (KH _ _).mono;rintro e b ⟨rfl,rfl⟩)
 go_ret
 exact ⟨rfl,rfl⟩
def TT (g:Nat) (c:Array Int) (a b:Nat) (tl:List Value) (F:ai) (w:World) (u6:Value) (wr:World):Prop:=
 ∃ (i:Nat) (d:Array Int),u6 = Z .i64 (i:Int)/\a+1<=i/\i<=c.size+1/\d.size=c.size/\insOuter ltInt a b i d=insertionSort ltInt c a b/\ah wr (uA g d tl*F)/\ak w wr
def Rx (g:Nat) (b c:Array Int) (a i:Nat) (tl:List Value) (F:ai) (w:World) (u7:Value) (wr:World):Prop:=
 ∃ (j:Nat) (d:Array Int),u7 = Z .i64 (j:Int)/\a<=j/\j<=i/\d.size=b.size/\insInner ltInt a j d=insInner ltInt a i c/\ah wr (uA g d tl*F)/\ak w wr
def xU (g:Nat) (c:Array Int) (a b N:Nat) (tl:List Value) (w:World) (F:ai) (h:ah w (uA g c tl*F)) (h0:a<=b) (hb:b<=c.size) (G0:c.size<=1000000000) (m0:c.size<=N) :
  Calls prog 358 #[.slice (some ⟨g,0,Z'⟩) c.size N,Z .i64 (a:Int),Z .i64 (b:Int)] w (Mk g (insertionSort ltInt c a b) tl F w):=by
 have F0:(c.size:Int)<=1000000000:=Om0
 have g0:(a:Int)<=1000000000:=Om0
 have l0:(b:Int)<=(c.size:Int):=Om0
 go_in
 go_wp2_with fail
 go_loopw [6] (fun u6 wr=>TT g c a b tl F w u6 wr) (fun u6 _=>b-(intOf u6).toNat)
 case atStart=>exact ⟨a+1,c,by go_num,Nat.le_refl _,Om0,rfl,rfl,h,ak.refl w⟩
 case round=>
  clear h;obtain ⟨i,d,rfl,i0,o0,T,A,l,n⟩:=hrel
  by_cases W:i<b
  .have D0:(i:Int)<(b:Int):=Om0
   have X:insOuter ltInt a b (i+1) (insInner ltInt a i d)=insertionSort ltInt c a b:=by rw [<- A];exact (by rw [insOuter.eq_1 ltInt a b i,if_pos W])
   have M:=ae X;clear A X
   go_wp2_with fail
   have e0:=ae T;have J:=ae l;clear T l
   go_loopw [7] (fun u7 wr=>Rx g c d a i tl F w u7 wr) (fun u7 _=>(intOf u7).toNat)
   case atStart=>exact ⟨i,d,rfl,Om0,Nat.le_refl _,e0.o,rfl,J.o,n⟩
   case round=>
    clear J n;obtain ⟨j,f,rfl,k0,x0,u,m,l,n⟩:=hrel
    by_cases f0:a<j
    .obtain ⟨k,H⟩:∃ k,j=k+1:=⟨j-1,Om0⟩
     have Q:(a:Int)<(j:Int):=Om0
     have p0:(j:Int)-1=(k:Int):=Om0
     have s0:IntKind.i64.wrap ((j:Int)-1)=(k:Int):=by rw [IntKind.wrap_i64];omega
     have u0:IntKind.i64.wrap (k:Int)=(k:Int):=by rw [IntKind.wrap_i64];omega
     have q0:(j:Int)<(c.size:Int):=Om0
     have r0:(k:Int)<(c.size:Int):=Om0
     obtain ⟨D,E,O,P,⟨v,hv⟩,G,p⟩:=Mn l (i:=j) (j:=k) Om0 Om0
     have Y:(if decide (j > a) && ltInt f[j]! f[k]! then insInner ltInt a k (swp f j k) else f)=insInner ltInt a i d:=by
      rw [<- m];subst H;rw [insInner]
     have U:(swp f j k).size=c.size:=by rw [<- u];simp [swp]
     have x:=ae Y;have H3:=ae U;have y:=ae l;have K:=ae m;have q:=ae u;have L:=ae H;clear p m u Y U l H O P hv G;generalize R:f[j]! = s at *;generalize S:f[k]! = t at *;have c0:=ae R;have d0:=ae S;clear R S;have z:decide (j > a)=true:=by simpa using f0
     cases o:ltInt s t with
     | true=>
      have r:Hid (insInner ltInt a k (swp f j k)=insInner ltInt a i d):=ae (by have:=x.o;rwa [z,o,if_pos De0] at this);have C:Hid (∀ w,Calls prog 364 #[Z .u32 s,Z .u32 t] w fun e I=>e = .returned (.bool true)/\I=w):=ae (fun w=>by have:=BB s t w;rwa [o] at this);clear x K z o
      go_wp2_with fail
      go_quiet ((go_at_call 364;exact Calls.quiet_of_same (C.o _)))
      go_wp2_with fail
      have b0:=n.drewN nq;obtain ⟨wq,B⟩:=Nm (wr.drewN nq)
      have H8:Hid (ah wq (uA g f tl*F)):=ae (B▸y.o.drew);rw [B] at b0;simp only [B];clear D E B;obtain ⟨D,E,O,P,⟨v,hv⟩,G,p⟩:=Mn H8.o (i:=j) (j:=k) (by rw [q.o];omega) (by rw [q.o];omega);rw [c0.o] at D p;rw [d0.o] at E hv G p;have H1:=ae p;clear p
      go_region_law (fail)
      all_goals
       go_wp2
       go_roundw
       case rel=>exact ⟨k,swp f j k,rfl,Om0,by have:=L.o;omega,H3.o,r.o,H1.o.drew,((b0.setCell _ _).setCell _ _).drew⟩
       case measure=>have:=L.o;simp [intOf];omega
     | false=>
      have r:Hid (insInner ltInt a i d=f):=ae (by have:=x.o;rw [z,o,if_neg De0] at this;exact this.symm);have C:Hid (∀ w,Calls prog 364 #[Z .u32 s,Z .u32 t] w fun e I=>e = .returned (.bool false)/\I=w):=ae (fun w=>by have:=BB s t w;rwa [o] at this);clear x K z o
      go_wp2_with fail
      go_quiet ((go_at_call 364;exact Calls.quiet_of_same (C.o _)))
      go_wp2_with fail
      go_roundw
      case rel=>exact ⟨i+1,f,by go_num,Om0,Om0,q.o,by rw [<- r.o];exact M.o,y.o.drew,n.drewN nq⟩
      case measure=>simp [intOf];omega
    .have Q:¬ (a:Int)<(j:Int):=Om0
     have n0:decide ((a:Int)<(j:Int))=false:=by simpa using Q
     obtain rfl:j=a:=Om0
     have V:insInner ltInt j j f=f:=by
      cases j with
      | zero=>rfl
      | succ j=>rw [insInner,if_neg Si0]
     rw [V] at m;have r:=ae m;have y:=ae l;have q:=ae u;clear m l u V
     go_wp2_with fail
     go_quiet (fail)
     go_wp2_with fail
     go_roundw
     case rel=>exact ⟨i+1,f,by go_num,Om0,Om0,q.o,by rw [r.o];exact M.o,y.o.drew,n.drewN nq⟩
     case measure=>simp [intOf];omega
  .have m:insOuter ltInt a b i d=d:=by rw [insOuter.eq_1,if_neg W]
   rw [m] at A
   go_wp2_with fail
   go_end0
   exact ⟨rfl,by rw [<- A];exact l,n⟩
end Go.Proofs.Nn
