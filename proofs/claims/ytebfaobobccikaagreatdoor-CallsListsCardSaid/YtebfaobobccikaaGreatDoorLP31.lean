/- Steps. -/
import Derived.Test.YtebfaobobccikaaGreatDoorLP27
import Derived.Test.YtebfaobobccikaaGreatDoorLP28
set_option linter.all false
set_option maxRecDepth 99999
set_option maxHeartbeats 0
open Go.SL
open Go.Value renaming int->Y',string->Z'
open Go renaming World->X'
open Go.Proofs.Tryz
open List renaming getElem?_eq_getElem->D0
namespace Go.Proofs.Fs
open RowKit SL Proofs.Ba
abbrev VI:Value:=.func (.func 96) #[] #[]
def VA (c:Bool) (w:X') (e:Ending) (a:X'):Prop:=e = .returned (.bool c)/\ag a (whole w)/\aj w a
theorem Oa (x y:aH) (c:Bool) (a:decide (x.nm=y.nm)=c) (w:X'):Calls prog 96 #[.agg #[Y' .i64 (x.nd:Int),Z' (str x.nm)],.agg #[Y' .i64 (y.nd:Int),Z' (str y.nm)]] w (VA c w):=by
 refine aJ fun Q d=>?_;have f:=ae (((ag.whole w).alloc (.cells #[Y' .i64 (x.nd:Int),Z' (str x.nm)] 80 (0,0))).alloc (.cells #[Y' .i64 (y.nd:Int),Z' (str y.nm)] 80 (0,0))).right.right;have e:=ae (((aj.refl w).alloc (.cells #[Y' .i64 (x.nd:Int),Z' (str x.nm)] 80 (0,0))).alloc (.cells #[Y' .i64 (y.nd:Int),Z' (str y.nm)] 80 (0,0)));have g:=tR x.nm y.nm;rw [a] at g;have h:=ae a;clear a
 go_enter func96,ntmps96
 go_wp2_with fail
 exact d.out _ _ ⟨by first|rfl|simp,f.out,e.out⟩
def Ty (v:Value) (W:List aH) (w0:X') (F:ai) (u5:Value) (wr:X'):Prop:=
 ∃ k:Nat,1<=k/\k<=W.length/\u5 = Y' .i64 (k:Int)/\aj w0 wr/\ag wr (dJ v W*F)
def Ke (v:Value) (W:List aH) (F:ai) (w:X') (e:Ending) (a:X'):Prop:=e = .returned v/\aj w a/\ag a (dJ v W*F)
theorem Cc (v:Value) (W:List aH) (M:(W.map aH.nm).Nodup) (w:X') (F:ai) (hl:W.length<=3990) (h:ag w (dJ v W*F)) :
  Calls prog 95 #[v,VI] w (Ke v W F w):=by
 refine aJ fun Q' p=>?_;obtain ⟨va,R,rfl⟩:=aE h;obtain ⟨N,q⟩:∃ N,W.length=N:=⟨_,rfl⟩
 have H:=ae h;have a:=ae q;have V:=ae M;rw [q] at hl H p ⊢;have f0:(N:Int)<=3990:=by omega
 clear h q M
 by_cases h2:N<2
 .have Z:(N:Int)<2:=by omega
  go_enter func95,ntmps95
  go_wp2_with fail
  exact p.out _ _ ⟨by first|rfl|simp,aj.refl w,H.out⟩
 .have Z:¬ (N:Int)<2:=by omega
  go_enter func95,ntmps95
  go_wp2_with fail
  go_loopw [5] (fun u5 wr=>Ty (.slice va N R) W w F u5 wr) (fun u5 _=>N-(intOf u5).toNat)
  case atStart=>exact ⟨1,Nat.le_refl _,by have:=a.out;omega,rfl,aj.refl w,H.out⟩
  case round=>
   obtain ⟨k,h0,c0,rfl,P,c⟩:=hrel;rw [a.out] at c0;clear H
   by_cases K:k<N
   .have i0:(k:Int)<(N:Int):=by omega
    obtain ⟨j,G⟩:∃ j,k=j+1:=⟨k-1,by omega⟩
    have ej:IntKind.i64.wrap ((k:Int)-1)=(j:Int):=by rw [IntKind.wrap_i64];omega
    have g0:(j:Int)<(N:Int):=by omega
    obtain ⟨x,d⟩:∃ x,W[k]?=some x:=⟨_,D0 (by have:=a.out;omega)⟩
    obtain ⟨y,f⟩:∃ y,W[j]?=some y:=⟨_,D0 (by have:=a.out;omega)⟩
    have O:decide (x.nm=y.nm)=false:=by
     refine decide_eq_false fun h=>?_;have D:=List.nodup_iff_pairwise_ne.1 V.out;rw [List.pairwise_iff_getElem] at D;have J:k<W.length:=by have:=a.out;omega
     have I:j<W.length:=by omega
     have:=D j k (by simpa using I) (by simpa using J) (by omega);rw [List.getElem_map,List.getElem_map] at this;rw [D0 J] at d;rw [D0 I] at f;rw [Option.some.inj d,Option.some.inj f] at this;exact this h.symm
    obtain ⟨g,e0,e,k1,k2,s,t,u,z⟩:=gg c a.out K (by omega:j<N) d f;simp only [Value.slice.injEq] at e;obtain ⟨rfl,-,rfl⟩:=e;have r:=ae (fun w=>Oa x y false O w);have j0:(N:Int)<=(R:Int):=by omega
    have i:=ae c;have X:=ae d;have Y:=ae f;have U:=ae G;clear c d f O k1 G
    go_wp2_with fail
    go_region_held3 (fun l=>l.cell? ⟨g,k*2,none⟩=some (Y' .i64 (x.nd:Int))/\l.cell? ⟨g,k*2+1,none⟩=some (Z' (str x.nm))/\l.cell? ⟨g,j*2,none⟩=some (Y' .i64 (y.nd:Int))/\l.cell? ⟨g,j*2+1,none⟩=some (Z' (str y.nm))) (first|exact ⟨s,t,u,z⟩|exact Q|go_keep)
     (first|(go_at_call 96;refine (r.out wr.drew).mono ?_;rintro e m ⟨rfl,E,B⟩;have o:=E.du (ag.drew i.out);obtain ⟨g',c',C,-,-,d0⟩:=gg o a.out K (by have:=U.out;omega:j<N) X.out Y.out;have Q:m.cell? ⟨g,k*2,none⟩=some (Y' .i64 (x.nd:Int))/\m.cell? ⟨g,k*2+1,none⟩=some (Z' (str x.nm))/\m.cell? ⟨g,j*2,none⟩=some (Y' .i64 (y.nd:Int))/\m.cell? ⟨g,j*2+1,none⟩=some (Z' (str y.nm)):=by simp only [Value.slice.injEq,Option.some.injEq,Addr.mk.injEq] at C;obtain ⟨⟨rfl,-⟩,-⟩:=C;exact d0))
    rename_i b0;have S:=ae (P.drew.trans B);have T:=ae o;clear o E B Q b0 r i s t u z
    go_wp2_with fail
    go_roundw
    case rel=>exact ⟨k+1,by omega,by have:=a.out;omega,by simp,S.out,T.out⟩
    case measure=>simp [intOf];omega
   .obtain rfl:k=N:=by omega
    have i:=ae c;clear c
    go_wp2_with fail
    exact p.out _ _ ⟨by first|rfl|simp,P,i.out⟩
section
variable {n:Nat} {x:Fx n} {b k id:Nat} {A:Nat->Option AF} {lk:Int} {L:List aH} {w:X'} {F:ai}
def QO (x:Fx n) (b:Nat) (A:Nat->Option AF) (k:Nat) (L:List aH) (F:ai) (w:X') (e:Ending) (a:X'):Prop:=
 ∃ (u:Value) (W:List aH),e = .returned (.tuple #[u,Y' .i64 0])/\W.Perm L/\eG jB W/\aj w a/\ag a (dJ u W*(dS x b A k*F))
theorem GY (h:ag w (dS x b A k*F)) (m:A id=some (eK lk L)) (q:sH L) (e:L.length<=BA) (p:(L.map aH.nm).Nodup) :
  Calls prog 40 #[fS b n,Y' .i64 (id:Int)] w (QO x b A k L F w):=by
 refine aJ fun Q E=>?_;have o:L.length<=3840:=Nat.le_trans e (by decide);have d:=h.alloc (cQ b n);have K:=ae ((aj.refl w).alloc (cQ b n));have s:=ae (iT d.ah m (iY q (by omega)));have S:(w.alloc (cQ b n)).cell? ⟨w.heap.size,0,none⟩=some (.pointer (some ⟨b,0,none⟩)):=d.cell 0;have C:=ae o;have D:=ae p;have G:=ae e;clear h d m q o p e;unfold fS
 go_enter func40,ntmps40
 go_wp2_with fail
 refine s.out.mono ?_;generalize w.alloc (cQ b n)=T at *;generalize w.heap.size=M at *;rintro r P ⟨u,rfl,f,c⟩;have t:=ae (uM u L P _ G.out c);obtain ⟨N,O,rfl⟩:=aE c;have y:=ae (K.out.trans f);clear s c f
 go_wp2_with fail
 refine t.out.mono ?_;rintro r R ⟨W,rfl,a,v,g,i⟩;have l:=ae (Cc _ W ((a.map aH.nm).nodup_iff.2 D.out) R _ (by rw [a.length_eq];have:=C.out;omega) i);have H:=ae a;have I:=ae v;have z:=ae (y.out.trans g);clear t i a v g
 go_wp2_with fail
 refine l.out.mono ?_;rintro r U ⟨rfl,J,j⟩;have B:=ae j;clear l j
 go_wp2_with fail
 exact E.out _ _ ⟨_,W,by first|rfl|simp,H.out,I.out,z.out.trans J,(B.out.to (by ac_rfl:_=pt M (cQ b n)*(dJ (.slice N L.length O) W*(dS x b A k*F)))).right⟩
end
end Go.Proofs.Fs
