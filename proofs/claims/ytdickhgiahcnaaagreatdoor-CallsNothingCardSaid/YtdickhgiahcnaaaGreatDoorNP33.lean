/- Steps. -/
import Derived.Test.YtdickhgiahcnaaaGreatDoorNP29
import Derived.Test.YtdickhgiahcnaaaGreatDoorNP30
set_option linter.all false
set_option maxRecDepth 99999
set_option maxHeartbeats 0
open Go.SL
open Go.Value renaming int->Y',string->Z'
open Go renaming World->X'
open List renaming getElem?_eq_getElem->A3
namespace Go.Proofs.Fs
open RowKit SL Proofs.Ba
abbrev Xh:Value:=.func (.func 82) #[] #[]
def Xd (c:Bool) (w:X') (e:Ending) (a:X'):Prop:=e = .returned (.bool c)/\ag a (whole w)/\aj w a
def Px (x y:aL) (c:Bool) (a:decide (x.nm=y.nm)=c) (w:X'):Calls Tryz.prog 82 #[.agg #[Y' .i64 (x.nd:Int),Z' (str x.nm)],.agg #[Y' .i64 (y.nd:Int),Z' (str y.nm)]] w (Xd c w):=by
 refine aF fun Q d=>?_;have f:=ae (((ag.whole w).alloc (.cells #[Y' .i64 (x.nd:Int),Z' (str x.nm)] 81 (0,0))).alloc (.cells #[Y' .i64 (y.nd:Int),Z' (str y.nm)] 81 (0,0))).right.right;have e:=ae (((aj.refl w).alloc (.cells #[Y' .i64 (x.nd:Int),Z' (str x.nm)] 81 (0,0))).alloc (.cells #[Y' .i64 (y.nd:Int),Z' (str y.nm)] 81 (0,0)));have g:=uy x.nm y.nm;rw [a] at g;have h:=ae a;clear a
 go_in
 exact Zz (d.o _ _ ⟨by first|rfl|simp,f.o,e.o⟩)
def UP (v:Value) (W:List aL) (w0:X') (F:ai) (u5:Value) (wr:X'):Prop:=
 ∃ k:Nat,1<=k/\k<=W.length/\u5 = Y' .i64 (k:Int)/\aj w0 wr/\ag wr (dQ v W*F)
def Oi (v:Value) (W:List aL) (F:ai) (w:X') (e:Ending) (a:X'):Prop:=e = .returned v/\aj w a/\ag a (dQ v W*F)
def CF (v:Value) (W:List aL) (K:(W.map aL.nm).Nodup) (w:X') (F:ai) (hl:W.length<=3990) (h:ag w (dQ v W*F)) :
  Calls Tryz.prog 81 #[v,Xh] w (Oi v W F w):=by
 refine aF fun Q' p=>?_;obtain ⟨va,Q,rfl⟩:=aC h;obtain ⟨N,q⟩:=Nm W.length
 have H:=ae h;have a:=ae q;have U:=ae K;rw [q] at hl H p ⊢;have d0:(N:Int)<=3990:=Om0
 clear h q K
 by_cases h2:N<2
 .have Y:(N:Int)<2:=Om0
  go_in
  exact Zz (p.o _ _ ⟨by first|rfl|simp,aj.refl w,H.o⟩)
 .have Y:¬ (N:Int)<2:=Om0
  go_in
  go_wp2_with fail
  go_loopw [5] (fun u5 wr=>UP (.slice va N Q) W w F u5 wr) (fun u5 _=>N-(intOf u5).toNat)
  case atStart=>exact ⟨1,Nat.le_refl _,by have:=a.o;omega,rfl,aj.refl w,H.o⟩
  case round=>
   obtain ⟨k,f0,b0,rfl,O,d⟩:=hrel;rw [a.o] at b0;clear H
   by_cases J:k<N
   .have g0:(k:Int)<(N:Int):=Om0
    obtain ⟨j,E⟩:∃ j,k=j+1:=⟨k-1,Om0⟩
    have ej:IntKind.i64.wrap ((k:Int)-1)=(j:Int):=by rw [IntKind.wrap_i64];omega
    have e0:(j:Int)<(N:Int):=Om0
    obtain ⟨x,f⟩:∃ x,W[k]?=some x:=⟨_,A3 (by have:=a.o;omega)⟩
    obtain ⟨y,hy⟩:∃ y,W[j]?=some y:=⟨_,A3 (by have:=a.o;omega)⟩
    have M:decide (x.nm=y.nm)=false:=by
     refine decide_eq_false fun h=>?_;have D:=List.nodup_iff_pairwise_ne.1 U.o;rw [List.pairwise_iff_getElem] at D;have I:k<W.length:=by have:=a.o;omega
     have G:j<W.length:=Om0
     have:=D j k (by simpa using G) (by simpa using I) Om0;rw [List.getElem_map,List.getElem_map] at this;rw [A3 I] at f;rw [A3 G] at hy;rw [Option.some.inj f,Option.some.inj hy] at this;exact this h.symm
    obtain ⟨g,c,e,k1,k2,s,t,u,z⟩:=gh d a.o J (by omega:j<N) f hy;simp only [Value.slice.injEq] at e;obtain ⟨rfl,-,rfl⟩:=e;have r:=ae (fun w=>Px x y false M w);have h0:(N:Int)<=(Q:Int):=Om0
    have i:=ae d;have V:=ae f;have X:=ae hy;have T:=ae E;clear d f hy M k1 E
    go_wp2_with fail
    go_region_held3 (fun l=>l.cell? ⟨g,k*2,none⟩=some (Y' .i64 (x.nd:Int))/\l.cell? ⟨g,k*2+1,none⟩=some (Z' (str x.nm))/\l.cell? ⟨g,j*2,none⟩=some (Y' .i64 (y.nd:Int))/\l.cell? ⟨g,j*2+1,none⟩=some (Z' (str y.nm))) (first|exact ⟨s,t,u,z⟩|exact P|go_keep)
     (first|(go_at_call 82;apply (r.o wr.drew).mono;rintro e m ⟨rfl,h5,B⟩;have o:=h5.cM (ag.drew i.o);obtain ⟨g',c',C,-,-,c0⟩:=gh o a.o J (by have:=T.o;omega:j<N) V.o X.o;have P:m.cell? ⟨g,k*2,none⟩=some (Y' .i64 (x.nd:Int))/\m.cell? ⟨g,k*2+1,none⟩=some (Z' (str x.nm))/\m.cell? ⟨g,j*2,none⟩=some (Y' .i64 (y.nd:Int))/\m.cell? ⟨g,j*2+1,none⟩=some (Z' (str y.nm)):=by simp only [Value.slice.injEq,Option.some.injEq,Addr.mk.injEq] at C;obtain ⟨⟨rfl,-⟩,-⟩:=C;exact c0))
    rename_i Z;have R:=ae (O.drew.trans B);have S:=ae o;clear o h5 B P Z r i s t u z
    go_wp2_with fail
    go_roundw
    case rel=>exact ⟨k+1,Om0,by have:=a.o;omega,Si0,R.o,S.o⟩
    case measure=>simp [intOf];omega
   .obtain rfl:k=N:=Om0
    have i:=ae d;clear d
    exact Zz (p.o _ _ ⟨by first|rfl|simp,O,i.o⟩)
section
variable {n:Nat} {x:Fx n} {b k id:Nat} {A:Nat->Option AF} {lk:Int} {L:List aL} {w:X'} {F:ai}
def TI (x:Fx n) (b:Nat) (A:Nat->Option AF) (k:Nat) (L:List aL) (F:ai) (w:X') (e:Ending) (a:X'):Prop:=
 ∃ (u:Value) (W:List aL),e = .returned (.tuple #[u,Y' .i64 0])/\W.Perm L/\eJ jw W/\aj w a/\ag a (dQ u W*(dx x b A k*F))
def JH (h:ag w (dx x b A k*F)) (l:A id=some (eC lk L)) (p:rX L) (e:L.length<=zj) (o:(L.map aL.nm).Nodup) :
  Calls Tryz.prog 33 #[fI b n,Y' .i64 (id:Int)] w (TI x b A k L F w):=by
 refine aF fun Q D=>?_;have m:L.length<=3840:=Nat.le_trans e De0;have d:=h.alloc (cH b n);have J:=ae ((aj.refl w).alloc (cH b n));have q:=ae (jc d.ah l (je p Om0));have R:(w.alloc (cH b n)).cell? ⟨w.heap.size,0,none⟩=some (.pointer (some ⟨b,0,none⟩)):=d.cell 0;have B:=ae m;have C:=ae o;have E:=ae e;clear h d l p m o e;unfold fI
 go_in
 go_wp2_with fail
 apply q.o.mono;generalize w.alloc (cH b n)=S at *;generalize w.heap.size=K at *;rintro r O ⟨u,rfl,f,c⟩;have s:=ae (wR u L O _ E.o c);obtain ⟨M,N,rfl⟩:=aC c;have v:=ae (J.o.trans f);clear q c f
 go_wp2_with fail
 apply s.o.mono;rintro r P ⟨W,rfl,a,t,g,i⟩;have j:=ae (CF _ W ((a.map aL.nm).nodup_iff.2 C.o) P _ (by rw [a.length_eq];have:=B.o;omega) i);have G:=ae a;have H:=ae t;have y:=ae (v.o.trans g);clear s i a t g
 go_wp2_with fail
 apply j.o.mono;rintro r T ⟨rfl,I,h4⟩;have z:=ae h4;clear j h4
 exact Zz (D.o _ _ ⟨_,W,by first|rfl|simp,G.o,H.o,y.o.trans I,(z.o.t00 (pt K (cH b n)*(dQ (.slice M L.length N) W*(dx x b A k*F)))).right⟩)
end
end Go.Proofs.Fs
