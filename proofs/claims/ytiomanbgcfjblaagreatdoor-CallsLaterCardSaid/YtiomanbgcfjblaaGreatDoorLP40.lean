/- Steps. -/
import Derived.Test.YtiomanbgcfjblaaGreatDoorLP37
import Derived.Test.YtiomanbgcfjblaaGreatDoorLP36
set_option linter.all false
set_option maxRecDepth 99999
set_option maxHeartbeats 0
open Go.SL
open Go.Value renaming int->Y',string->Z'
open Go renaming World->X'
open List renaming getElem?_eq_getElem->A1
namespace Go.Proofs.Fs
open RowKit SL Proofs.Ba
abbrev Yr:Value:=.func (.func 103) #[] #[]
def Yu (c:Bool) (w:X') (e:Ending) (a:X'):Prop:=e = .returned (.bool c)/\ah a (whole w)/\ak w a
def Sl (x y:aM) (c:Bool) (a:decide (x.nm=y.nm)=c) (w:X'):Calls Tryz.prog 103 #[.agg #[Y' .i64 (x.nd:Int),Z' (str x.nm)],.agg #[Y' .i64 (y.nd:Int),Z' (str y.nm)]] w (Yu c w):=by
 refine aK fun Q d=>?_;have f:=ae (((ah.whole w).alloc (.cells #[Y' .i64 (x.nd:Int),Z' (str x.nm)] 90 (0,0))).alloc (.cells #[Y' .i64 (y.nd:Int),Z' (str y.nm)] 90 (0,0))).right.right;have e:=ae (((ak.refl w).alloc (.cells #[Y' .i64 (x.nd:Int),Z' (str x.nm)] 90 (0,0))).alloc (.cells #[Y' .i64 (y.nd:Int),Z' (str y.nm)] 90 (0,0)));have g:=uI x.nm y.nm;rw [a] at g;have h:=ae a;clear a
 go_in
 exact Zz (d.o _ _ ⟨by first|rfl|simp,f.o,e.o⟩)
def VR (v:Value) (W:List aM) (w0:X') (F:ai) (u5:Value) (wr:X'):Prop:=
 ∃ k:Nat,1<=k/\k<=W.length/\u5 = Y' .i64 (k:Int)/\ak w0 wr/\ah wr (hU v W*F)
def Ox (v:Value) (W:List aM) (F:ai) (w:X') (e:Ending) (a:X'):Prop:=e = .returned v/\ak w a/\ah a (hU v W*F)
def By (v:Value) (W:List aM) (K:(W.map aM.nm).Nodup) (w:X') (F:ai) (hl:W.length<=3990) (h:ah w (hU v W*F)) :
  Calls Tryz.prog 102 #[v,Yr] w (Ox v W F w):=by
 refine aK fun Q' p=>?_;obtain ⟨va,Q,rfl⟩:=az h;obtain ⟨N,q⟩:=Nm W.length
 have H:=ae h;have a:=ae q;have U:=ae K;rw [q] at hl H p ⊢;have d0:(N:Int)<=3990:=Om0
 clear h q K
 by_cases h2:N<2
 .have Y:(N:Int)<2:=Om0
  go_in
  exact Zz (p.o _ _ ⟨by first|rfl|simp,ak.refl w,H.o⟩)
 .have Y:¬ (N:Int)<2:=Om0
  go_in
  go_wp2_with fail
  go_loopw [5] (fun u5 wr=>VR (.slice va N Q) W w F u5 wr) (fun u5 _=>N-(intOf u5).toNat)
  case atStart=>exact ⟨1,Nat.le_refl _,by have:=a.o;omega,rfl,ak.refl w,H.o⟩
  case round=>
   obtain ⟨k,f0,b0,rfl,O,d⟩:=hrel;rw [a.o] at b0;clear H
   by_cases J:k<N
   .have g0:(k:Int)<(N:Int):=Om0
    obtain ⟨j,E⟩:∃ j,k=j+1:=⟨k-1,Om0⟩
    have ej:IntKind.i64.wrap ((k:Int)-1)=(j:Int):=by rw [IntKind.wrap_i64];omega
    have e0:(j:Int)<(N:Int):=Om0
    obtain ⟨x,f⟩:∃ x,W[k]?=some x:=⟨_,A1 (by have:=a.o;omega)⟩
    obtain ⟨y,hy⟩:∃ y,W[j]?=some y:=⟨_,A1 (by have:=a.o;omega)⟩
    have M:decide (x.nm=y.nm)=false:=by
     refine decide_eq_false fun h=>?_;have D:=List.nodup_iff_pairwise_ne.1 U.o;rw [List.pairwise_iff_getElem] at D;have I:k<W.length:=by have:=a.o;omega
     have G:j<W.length:=Om0
     have:=D j k (by simpa using G) (by simpa using I) Om0;rw [List.getElem_map,List.getElem_map] at this;rw [A1 I] at f;rw [A1 G] at hy;rw [Option.some.inj f,Option.some.inj hy] at this;exact this h.symm
    obtain ⟨g,c,e,k1,k2,s,t,u,z⟩:=CZ d a.o J (by omega:j<N) f hy;simp only [Value.slice.injEq] at e;obtain ⟨rfl,-,rfl⟩:=e;have r:=ae (fun w=>Sl x y false M w);have h0:(N:Int)<=(Q:Int):=Om0
    have i:=ae d;have V:=ae f;have X:=ae hy;have T:=ae E;clear d f hy M k1 E
    go_wp2_with fail
    go_region_held3 (fun l=>l.cell? ⟨g,k*2,none⟩=some (Y' .i64 (x.nd:Int))/\l.cell? ⟨g,k*2+1,none⟩=some (Z' (str x.nm))/\l.cell? ⟨g,j*2,none⟩=some (Y' .i64 (y.nd:Int))/\l.cell? ⟨g,j*2+1,none⟩=some (Z' (str y.nm))) (first|exact ⟨s,t,u,z⟩|exact P|go_keep)
     (first|(go_at_call 103;apply (r.o wr.drew).mono;rintro e m ⟨rfl,h5,B⟩;have o:=h5.cU (ah.drew i.o);obtain ⟨g',c',C,-,-,c0⟩:=CZ o a.o J (by have:=T.o;omega:j<N) V.o X.o;have P:m.cell? ⟨g,k*2,none⟩=some (Y' .i64 (x.nd:Int))/\m.cell? ⟨g,k*2+1,none⟩=some (Z' (str x.nm))/\m.cell? ⟨g,j*2,none⟩=some (Y' .i64 (y.nd:Int))/\m.cell? ⟨g,j*2+1,none⟩=some (Z' (str y.nm)):=by simp only [Value.slice.injEq,Option.some.injEq,Addr.mk.injEq] at C;obtain ⟨⟨rfl,-⟩,-⟩:=C;exact c0))
    rename_i Z;have R:=ae (O.drew.trans B);have S:=ae o;clear o h5 B P Z r i s t u z
    go_wp2_with fail
    go_roundw
    case rel=>exact ⟨k+1,Om0,by have:=a.o;omega,Si0,R.o,S.o⟩
    case measure=>simp [intOf];omega
   .obtain rfl:k=N:=Om0
    have i:=ae d;clear d
    exact Zz (p.o _ _ ⟨by first|rfl|simp,O,i.o⟩)
section
variable {n:Nat} {x:Fx n} {b k id:Nat} {A:Nat->Option AF} {lk:Int} {L:List aM} {w:X'} {F:ai}
def Uk (x:Fx n) (b:Nat) (A:Nat->Option AF) (k:Nat) (L:List aM) (F:ai) (w:X') (e:Ending) (a:X'):Prop:=
 ∃ (u:Value) (W:List aM),e = .returned (.tuple #[u,Y' .i64 0])/\W.Perm L/\kP Cr W/\ak w a/\ah a (hU u W*(eK x b A k*F))
def Ka (h:ah w (eK x b A k*F)) (l:A id=some (iJ lk L)) (p:DP L) (e:L.length<=DJ) (o:(L.map aM.nm).Nodup) :
  Calls Tryz.prog 45 #[iH b n,Y' .i64 (id:Int)] w (Uk x b A k L F w):=by
 refine aK fun Q D=>?_;have m:L.length<=3840:=Nat.le_trans e De0;have d:=h.alloc (dx b n);have J:=ae ((ak.refl w).alloc (dx b n));have q:=ae (kg d.aj l (j0 p Om0));have R:(w.alloc (dx b n)).cell? ⟨w.heap.size,0,none⟩=some (.pointer (some ⟨b,0,none⟩)):=d.cell 0;have B:=ae m;have C:=ae o;have E:=ae e;clear h d l p m o e;unfold iH
 go_in
 go_wp2_with fail
 apply q.o.mono;generalize w.alloc (dx b n)=S at *;generalize w.heap.size=K at *;rintro r O ⟨u,rfl,f,c⟩;have s:=ae (vO u L O _ E.o c);obtain ⟨M,N,rfl⟩:=az c;have v:=ae (J.o.trans f);clear q c f
 go_wp2_with fail
 apply s.o.mono;rintro r P ⟨W,rfl,a,t,g,i⟩;have j:=ae (By _ W ((a.map aM.nm).nodup_iff.2 C.o) P _ (by rw [a.length_eq];have:=B.o;omega) i);have G:=ae a;have H:=ae t;have y:=ae (v.o.trans g);clear s i a t g
 go_wp2_with fail
 apply j.o.mono;rintro r T ⟨rfl,I,h4⟩;have z:=ae h4;clear j h4
 exact Zz (D.o _ _ ⟨_,W,by first|rfl|simp,G.o,H.o,y.o.trans I,(z.o.t00 (pt K (dx b n)*(hU (.slice M L.length N) W*(eK x b A k*F)))).right⟩)
end
end Go.Proofs.Fs
