/- Steps. -/
import Derived.Test.YtacliaemfegopaaGreatDoorKP28
import Derived.Test.YtacliaemfegopaaGreatDoorKP27
set_option linter.unusedVariables false
set_option linter.unusedSimpArgs false
set_option maxRecDepth 100000
set_option maxHeartbeats 40000000
open Go.Proofs Go.SL
namespace Go.Fs
open Go.RowKit Go.SL Go.Ba
abbrev RA:Value:=.func (.func 104) #[] #[]
def RD (c:Bool) (w:World) (e:Ending) (w':World):Prop:=e = .returned (.bool c)∧Sat w' (whole w)∧ai w w'
theorem La (x y:aM) (c:Bool) (hc:decide (x.nm=y.nm)=c) (w:World):Calls Tryz.prog 104 #[.agg #[.int .i64 (x.nd:Int),.string (str x.nm)],.agg #[.int .i64 (y.nd:Int),.string (str y.nm)]] w (RD c w):=by
 refine aI fun Q HQ=>?_;have hA:=ae (((Sat.whole w).alloc (.cells #[.int .i64 (x.nd:Int),.string (str x.nm)] 99 (0,0))).alloc (.cells #[.int .i64 (y.nd:Int),.string (str y.nm)] 99 (0,0))).right.right;have dA:=ae (((ai.refl w).alloc (.cells #[.int .i64 (x.nd:Int),.string (str x.nm)] 99 (0,0))).alloc (.cells #[.int .i64 (y.nd:Int),.string (str y.nm)] 99 (0,0)));have hb:=rU x.nm y.nm;rw [hc] at hb;have Hc:=ae hc;clear hc
 go_enter Tryz.func104,Tryz.ntmps104
 go_wp2_with fail
 exact HQ.out _ _ ⟨by first|rfl|simp,hA.out,dA.out⟩
def Qu (v:Value) (W:List aM) (w0:World) (F:ah) (u5:Value) (wr:World):Prop:=
 ∃ k:Nat,1≤k∧k≤W.length∧u5 = .int .i64 (k:Int)∧ai w0 wr∧Sat wr (gr v W*F)
def J8 (v:Value) (W:List aM) (F:ah) (w:World) (e:Ending) (w':World):Prop:=e = .returned v∧ai w w'∧Sat w' (gr v W*F)
theorem Aq (v:Value) (W:List aM) (hn:(W.map aM.nm).Nodup) (w:World) (F:ah) (hl:W.length≤3990) (h:Sat w (gr v W*F)) :
  Calls Tryz.prog 103 #[v,RA] w (J8 v W F w):=by
 refine aI fun Q' HQ=>?_;obtain ⟨va,vc,rfl⟩:=aB h;obtain ⟨N,hN⟩:∃ N,W.length=N:=⟨_,rfl⟩
 have H:=ae h;have HN:=ae hN;have Hnd:=ae hn;rw [hN] at hl H HQ ⊢;have hN':(N:Int)≤3990:=by omega
 clear h hN hn
 by_cases h2:N<2
 ·have h2':(N:Int)<2:=by omega
  go_enter Tryz.func103,Tryz.ntmps103
  go_wp2_with fail
  exact HQ.out _ _ ⟨by first|rfl|simp,ai.refl w,H.out⟩
 ·have h2':¬ (N:Int)<2:=by omega
  go_enter Tryz.func103,Tryz.ntmps103
  go_wp2_with fail
  go_loopw [5] (fun u5 wr=>Qu (.slice va N vc) W w F u5 wr) (fun u5 _=>N-(Proofs.intOf u5).toNat)
  case atStart=>exact ⟨1,Nat.le_refl _,by have:=HN.out;omega,rfl,ai.refl w,H.out⟩
  case round=>
   obtain ⟨k,hk1,hk2,rfl,hside,hsat⟩:=hrel;rw [HN.out] at hk2;clear H
   by_cases hlt:k<N
   ·have hlt':(k:Int)<(N:Int):=by omega
    obtain ⟨j,hj⟩:∃ j,k=j+1:=⟨k-1,by omega⟩
    have ej:IntKind.i64.wrap ((k:Int)-1)=(j:Int):=by rw [IntKind.wrap_i64];omega
    have hjN:(j:Int)<(N:Int):=by omega
    obtain ⟨x,hx⟩:∃ x,W[k]?=some x:=⟨_,List.getElem?_eq_getElem (by have:=HN.out;omega)⟩
    obtain ⟨y,hy⟩:∃ y,W[j]?=some y:=⟨_,List.getElem?_eq_getElem (by have:=HN.out;omega)⟩
    have hne:decide (x.nm=y.nm)=false:=by
     refine decide_eq_false fun h=>?_;have h1:=List.nodup_iff_pairwise_ne.1 Hnd.out;rw [List.pairwise_iff_getElem] at h1;have hkl:k<W.length:=by have:=HN.out;omega
     have hjl:j<W.length:=by omega
     have:=h1 j k (by simpa using hjl) (by simpa using hkl) (by omega);rw [List.getElem_map,List.getElem_map] at this;rw [List.getElem?_eq_getElem hkl] at hx;rw [List.getElem?_eq_getElem hjl] at hy;rw [Option.some.inj hx,Option.some.inj hy] at this;exact this h.symm
    obtain ⟨g,c,e,k1,k2,c1,c2,c3,c4⟩:=ya hsat HN.out hlt (by omega:j<N) hx hy;simp only [Value.slice.injEq] at e;obtain ⟨rfl,-,rfl⟩:=e;have HC:=ae (fun w=>La x y false hne w);have k1':(N:Int)≤(vc:Int):=by omega
    have HS:=ae hsat;have Hx:=ae hx;have Hy:=ae hy;have Hj:=ae hj;clear hsat hx hy hne k1 hj
    go_wp2_with fail
    go_region_held3 (fun w'=>w'.cell? ⟨g,k*2,none⟩=some (.int .i64 (x.nd:Int))∧w'.cell? ⟨g,k*2+1,none⟩=some (.string (str x.nm))∧w'.cell? ⟨g,j*2,none⟩=some (.int .i64 (y.nd:Int))∧w'.cell? ⟨g,j*2+1,none⟩=some (.string (str y.nm))) (first|exact ⟨c1,c2,c3,c4⟩|exact kA|go_keep)
     (first|(go_at_call 104;refine (HC.out wr.drew).mono ?_;rintro e w5 ⟨rfl,h5,d5⟩;have H5:=h5.dO (Sat.drew HS.out);obtain ⟨g',c',e',-,-,kA'⟩:=ya H5 HN.out hlt (by have:=Hj.out;omega:j<N) Hx.out Hy.out;have kA:w5.cell? ⟨g,k*2,none⟩=some (.int .i64 (x.nd:Int))∧w5.cell? ⟨g,k*2+1,none⟩=some (.string (str x.nm))∧w5.cell? ⟨g,j*2,none⟩=some (.int .i64 (y.nd:Int))∧w5.cell? ⟨g,j*2+1,none⟩=some (.string (str y.nm)):=by simp only [Value.slice.injEq,Option.some.injEq,Addr.mk.injEq] at e';obtain ⟨⟨rfl,-⟩,-⟩:=e';exact kA'))
    rename_i hHeld;have D5:=ae (hside.drew.trans d5);have HH5:=ae H5;clear H5 h5 d5 kA hHeld HC HS c1 c2 c3 c4
    go_wp2_with fail
    go_roundw
    case rel=>exact ⟨k+1,by omega,by have:=HN.out;omega,by simp,D5.out,HH5.out⟩
    case measure=>simp [Proofs.intOf];omega
   ·obtain rfl:k=N:=by omega
    have HS:=ae hsat;clear hsat
    go_wp2_with fail
    exact HQ.out _ _ ⟨by first|rfl|simp,hside,HS.out⟩
section
variable {n:Nat} {x:Fx n} {b k id:Nat} {A:Nat→Option AF} {lk:Int} {L:List aM} {w:World} {F:ah}
def NC (x:Fx n) (b:Nat) (A:Nat→Option AF) (k:Nat) (L:List aM) (F:ah) (w:World) (e:Ending) (w':World):Prop:=
 ∃ (u:Value) (W:List aM),e = .returned (.tuple #[u,.int .i64 0])∧W.Perm L∧jD zr W∧ai w w'∧Sat w' (gr u W*(et x b A k*F))
theorem Ff (h:Sat w (et x b A k*F)) (hf:A id=some (gO lk L)) (hok:As L) (hs9:L.length≤yz) (hn:(L.map aM.nm).Nodup) :
  Calls Tryz.prog 56 #[gm b n,.int .i64 (id:Int)] w (NC x b A k L F w):=by
 refine aI fun Q HQ=>?_;have hl:L.length≤3840:=Nat.le_trans hs9 (by decide);have hA:=h.alloc (dh b n);have dA:=ae ((ai.refl w).alloc (dh b n));have hr:=ae (ja hA.ag hf (iV hok (by omega)));have c0:(w.alloc (dh b n)).cell? ⟨w.heap.size,0,none⟩=some (.pointer (some ⟨b,0,none⟩)):=hA.cell 0;have HL:=ae hl;have HNd:=ae hn;have HS9:=ae hs9;clear h hA hf hok hl hn hs9;unfold gm
 go_enter Tryz.func56,Tryz.ntmps56
 go_wp2_with fail
 refine hr.out.mono ?_;generalize w.alloc (dh b n)=w1 at *;generalize w.heap.size=ga at *;rintro r w2 ⟨u,rfl,d2,h2⟩;have hs:=ae (sr u L w2 _ HS9.out h2);obtain ⟨ua,uc,rfl⟩:=aB h2;have D2:=ae (dA.out.trans d2);clear hr h2 d2
 go_wp2_with fail
 refine hs.out.mono ?_;rintro r w3 ⟨W,rfl,p3,s3,d3,h3⟩;have hc:=ae (Aq _ W ((p3.map aM.nm).nodup_iff.2 HNd.out) w3 _ (by rw [p3.length_eq];have:=HL.out;omega) h3);have P3:=ae p3;have S3:=ae s3;have D3:=ae (D2.out.trans d3);clear hs h3 p3 s3 d3
 go_wp2_with fail
 refine hc.out.mono ?_;rintro r w4 ⟨rfl,d4,h4⟩;have H4:=ae h4;clear hc h4
 go_wp2_with fail
 exact HQ.out _ _ ⟨_,W,by first|rfl|simp,P3.out,S3.out,D3.out.trans d4,(H4.out.to (by ac_rfl:_=pt ga (dh b n)*(gr (.slice ua L.length uc) W*(et x b A k*F)))).right⟩
end
end Go.Fs
