/- Steps. -/
import Derived.Test.YtacliaemfegopaaGreatDoorKP3
import Derived.Deep.RegionLaw
set_option linter.unusedVariables false
set_option linter.unusedSimpArgs false
set_option maxRecDepth 100000
set_option maxHeartbeats 40000000
open Go.Proofs Go.SL
namespace Go.Nn
open Go.RowKit Go.SL
def N3 (S:Hp) (d:Nat) (D:ay) (v:Value) (F:ah) (w:World) (e:Ending) (w':World):Prop:=
 e = .returned v∧Sat w' (aK S d D*F)∧ai w w'
theorem FG (x:Dx) (S:Hp) (d:Nat) (D:ay) (F:ah) (w:World) (hD:D.Ok) (h:Sat w (fO x S d D*F)):M7 x S d D F x.kv D.aX:=by
 obtain ⟨a,c,hv⟩:=aB h.bd.2.aG;refine ⟨a,c,hv,by have:=hD.aX;omega,fun i hi=>?_⟩;obtain ⟨g,c2,hv2⟩:=po h.bd.2.aG (by omega);refine ⟨g,0,(Value.slice.inj (hv.symm.trans hv2)).1,fun w' Y D' hk hs=>?_⟩;have h5:=hs.bd.2.aG;rw [hk] at h5;obtain ⟨_,hr⟩:=h5.nB;rcases hr with ⟨hn,h0⟩|⟨ad,c',he,ha⟩
 ·rw [show ({ x with Y:=Y }:Dx).kv=x.kv from rfl,hv2] at hn;cases hn
 ·rw [show ({ x with Y:=Y }:Dx).kv=x.kv from rfl,hv2] at he
  have hea:=(Value.slice.inj he).1;cases hea
  have:=ha i (.int .i64 (D.aX.getD i 0)) (by simp [gX,List.getElem?_eq_getElem hi])
  rwa [Addr.add_lit] at this
theorem nk (w:World) (S:Hp) (d:Nat) (D:ay) (F:ah) (h:Sat w (aK S d D*F)) (hD:D.Ok) :
  Calls Tryz.prog 162 #[.pointer (some ⟨d,0,none⟩)] w (N3 S d D.begun (.int .i64 D.cD) F w):=by
 obtain ⟨x,hx⟩:=h.vz;have k6:w.cell? ⟨d,6,none⟩=some (.bool D.down):=hx.cM 6;have k7:w.cell? ⟨d,7,none⟩=some (.bool D.armed):=hx.cM 7;have k8:w.cell? ⟨d,8,none⟩=some (.int .i64 D.left):=hx.cM 8;have k9:w.cell? ⟨d,9,none⟩=some x.kv:=hx.cM 9;have kf:=hx.nt
 by_cases hd:D.down=true
 ·have e1:D.cD=2:=by simp [ay.cD,ay.cV,hd]
  have e2:D.begun=D:=by simp [ay.begun,ay.cV,hd]
  rw [e1,e2];rw [hd] at k6;clear e1 e2 hd hD
  go_enter Tryz.func162,Tryz.ntmps162
  go_wp2
  go_ret
  exact ⟨rfl,h,ai.refl w⟩
 ·simp only [Bool.not_eq_true] at hd
  rw [hd] at k6
  by_cases ha:D.armed=true
  ·rw [ha] at k7
   by_cases hl:D.left=0
   ·have e1:D.cD=2:=by simp [ay.cD,ay.cV,hd,ha,hl,ay.fm]
    have e2:D.begun=D.fm D.aX:=by simp [ay.begun,ay.cV,hd,ha,hl,ay.fm]
    rw [e1,e2];rw [hl] at k8;have hc:=El w S d D x D.aX x.kv F hx hD (FG x S d D F w hD hx);clear e1 e2 hd ha hl hD hx h
    go_enter Tryz.func162,Tryz.ntmps162
    go_wp2_with fail
    refine hc.mono ?_;rintro e w2 ⟨rfl,h2,d2⟩;obtain ⟨x2,hx2⟩:=h2.vz;have k6':w2.cell? ⟨d,6,none⟩=some (.bool true):=hx2.cM 6;clear hc k6 k7 k8 k9 kf hx2
    go_wp2
    go_ret
    exact ⟨rfl,h2,d2⟩
   ·have e1:D.cD=0:=by simp [ay.cD,ay.cV,hd,ha,hl]
    have e2:D.begun={ D with left:=bU (D.left-1) }:=by simp [ay.begun,ay.cV,hd,ha,hl]
    rw [e1,e2];have hfit:=hx.bd.1;have h2:=hx.bd.2.setCell 8 (.int .i64 (bU (D.left-1)));have hlb:(D.left == 0)=false:=by simpa using hl
    have H2:=ae h2;clear e1 e2 hd ha hl hD hx h k9 h2
    go_enter Tryz.func162,Tryz.ntmps162
    go_wp2
    go_ret
    refine ⟨rfl,Sat.devOf (x:=x) (Sat.iC ⟨hfit.sec,hfit.vals,hfit.wait,hfit.wvals⟩ ?_),(ai.refl w).setCell _ _⟩;exact H2.out
  ·simp only [Bool.not_eq_true] at ha
   have e1:D.cD=0:=by simp [ay.cD,ay.cV,hd,ha]
   have e2:D.begun=D:=by simp [ay.begun,ay.cV,hd,ha]
   rw [e1,e2];rw [ha] at k7;clear e1 e2 hd ha hD
   go_enter Tryz.func162,Tryz.ntmps162
   go_wp2
   go_ret
   exact ⟨rfl,h,ai.refl w⟩
theorem xm:(Tryz.prog.info? 230).map (fun i=>(i.zero,i.size,i.bytes))=some (some (.agg #[.int .i64 0,.slice none 0 0]),2,32):=by kernel_rfl
theorem FH (T:TypeId) (g:Nat) {l:List UInt8} (hl:l.length=512):bs T (.slice (some ⟨g,0,none⟩) 512 512) l=sl T 1 (.slice (some ⟨g,0,none⟩) 512 512) 512 ((dp (bJ 512 l)).toList.take (512*1)):=by
 have e:(dp (bJ 512 l)).toList.take (512*1)=l.map u8:=by
  rw [jv hl];exact List.take_of_length_le (by rw [dp,List.toList_toArray,List.length_map,hl];exact Nat.le_refl _)
 rw [e,bs,hl]
theorem zL {w1 w2:World} {S:Hp} {d g:Nat} {D:ay} {x:Dx} {a:Int} {l:List UInt8} {F:ah} (hx:Sat w1 (fO x S d D*(aj S*F))) (hl:l.length=512) (hm:D.wait.length≤1000000)
  (h2:Sat w2 (pt g (.cells (dp (bJ 512 l)) 5 (0,0))*whole w1)) :
  ∃ va vn vc w3,(Builtin.append_ #[103,103] 103 #[x.wv,.slice (some ⟨w2.heap.size,0,none⟩) 1 1]).run Tryz.prog (w2.alloc (.cells #[.int .i64 a,.slice (some ⟨g,0,none⟩) 512 512] 230 (0,0))) = .ok (.slice va vn vc) w3 ∧
   w3.cell? ⟨d,1,none⟩=some x.wv∧(∀ o,w3.frozen? ⟨d,o,none⟩=false)∧ai w2 w3 ∧
   ∃ S',Ext S S'∧Sat (w3.setCell ⟨d,1,none⟩ (.slice va vn vc)) (aK S' d { D with wait:=D.wait++[(a,l)] }*(aj S'*F)):=by
 obtain ⟨i0,hi,hz,hs0,hb0⟩:=info_parts xm;have h3:=h2.under hx;obtain ⟨hfit,h4⟩:=(h3.to (aD _ _ _)).bd;have hZ:x.Z.length=D.wait.length:=by rw [← hfit.wait,List.length_map]
 have hA:=h4.alloc (.cells #[.int .i64 a,.slice (some ⟨g,0,none⟩) 512 512] 230 (0,0))
 have hR:nA (w2.alloc (.cells #[.int .i64 a,.slice (some ⟨g,0,none⟩) 512 512] 230 (0,0))) 2 (.slice (some ⟨w2.heap.size,0,none⟩) 1 1) 1 [.int .i64 a,.slice (some ⟨g,0,none⟩) 512 512]:=
  ⟨rfl,.inr ⟨_,_,rfl,fun j u hu=>by
   rw [Addr.add_lit,Nat.zero_add];exact (hA.cell j).trans (by simpa using hu)⟩⟩
 obtain ⟨v',w3,hrun,h5,d5⟩:=Sat.append (P:=Tryz.prog) (ty:=103) Tryz.underlying103 hi hz hs0 hb0 rfl (hA.right.aq) hR (by simp [Value.oneCell']) (by unfold maxLen;omega) (by omega);have h6:=h5.vG;obtain ⟨va,vc,rfl⟩:=aB h5;refine ⟨_,_,_,w3,hrun,(h6.cell 1).trans rfl,h6.frozen,((ai.refl w2).alloc _).trans d5,?_⟩;have h7:=h6.setCell 1 (.slice va (x.Z.length+1) vc);have h8:=h7.bM.bM
 have hg:Sat (w3.setCell ⟨d,1,none⟩ (.slice va (x.Z.length+1) vc)) (aj S*(bs 5 (.slice (some ⟨g,0,none⟩) 512 512) l*(pt d (.cells ((x.cells D).setIfInBounds 1 (.slice va (x.Z.length+1) vc)) 107 (0,0))*(pt x.sg (.cells (x.Y.map Prod.fst).toArray 37 (0,0))*(sl 230 2 (.slice va (x.Z.length+1) vc) (x.Z.length+1) (bB x.Z++[.int .i64 a,.slice (some ⟨g,0,none⟩) 512 512])*(mp x.tm (gq D.torn)*(sl 3 1 x.kv D.aX.length (gX D.aX)*F))))))):=by
  have h9:Sat _ (pt g (.cells (dp (bJ 512 l)) 5 (0,0))*_):=h8;have h10:=Sat.l7 (sz:=1) (n:=512) (cap:=512) h9 (by omega) (by unfold maxLen;omega) (by simp [ez,bR]);refine h10.to ?_;rw [FH _ g hl]
  ac_rfl
 obtain ⟨S',hE,hV,h11⟩:=Sat.xM hg (by rw [small,hl];omega);refine ⟨S',hE,?_⟩
 have hfit2:({ x with wv:=.slice va (x.Z.length+1) vc,Z:=x.Z++[(a,.slice (some ⟨g,0,none⟩) 512 512,l)] }:Dx).Fit 5 S' { D with wait:=D.wait++[(a,l)] }:=by
  refine ⟨hfit.sec,fun y hy=>(hfit.vals y hy).mono hE,?_,fun z hz=>?_⟩
  ·show (x.Z++[_]).map _=_
   rw [List.map_append,hfit.wait];rfl
  ·rcases List.mem_append.1 hz with hz|hz
   ·exact (hfit.wvals z hz).mono hE
   ·rw [List.mem_singleton.1 hz];exact hV
 refine Sat.devOf (Sat.iC hfit2 (h11.to ?_));simp only [Dx.cells,bB,List.flatMap_append,List.flatMap_cons,List.flatMap_nil,List.append_nil,List.length_append,List.length_cons,List.length_nil,List.setIfInBounds_toArray,List.set_cons_zero,List.set_cons_succ]
 ac_rfl
theorem uG:∀ args w,(callFunc 217 args).run Tryz.prog w = .ok (.enter 217 args) w:=enters Tryz.func217 (by kernel_rfl) rfl
def gp (S:Hp) (d:Nat) (D:ay) (v:Value) (F:ah) (w:World) (e:Ending) (w':World):Prop:=
 ∃ S',Ext S S'∧e = .returned v∧Sat w' (aK S' d D*(aj S'*F))∧ai w w'
theorem gp.of {S:Hp} {d:Nat} {D:ay} {v:Value} {F:ah} {w:World} {e:Ending} {w':World} (h:N3 S d D v (aj S*F) w e w'):gp S d D v F w e w':=
 ⟨S,Ext.refl S,h.1,h.2.1,h.2.2⟩
theorem mO (w:World) (S:Hp) (d:Nat) (D:ay) (a:Int) (bv:Value) (l:List UInt8) (F:ah) (h:Sat w (aK S d D*(aj S*F))) (hD:D.Ok) (hr:Rd w bv l) (hK:∀ w' D',Sat w' (aK S d D'*(aj S*F))→Rd w' bv l) (hl63:l.length≤9223372036854775807) :
  Calls Tryz.prog 161 #[.pointer (some ⟨d,0,none⟩),.int .i64 a,bv] w (gp S d (D.write a l).2 (.int .i64 (D.write a l).1) F w):=by
 obtain ⟨ba,bc,rfl⟩:=hr.shape;have ch:=mH w S d D a _ h
 by_cases hh:D.has a
 ·rw [show decide (D.has a)=true by simpa using hh] at ch
  by_cases hl:l.length=512
  ·have hl':((l.length:Int) != 512)=false:=by simp [hl]
   have cb:=nk w S d D _ h hD;rcases D.kP with hb|hb
   ·have e:D.write a l=(0,{ D.begun with cw:=bU (D.begun.cw+1),wait:=D.begun.wait++[(a,l)] }):=by simp [ay.write,hh,hl,hb]
    rw [e];rw [hb] at cb;have hok:=hD.up hb;have Hl:=ae hl;clear e hb hl hr hh hD;generalize D.begun=D1 at cb hok ⊢
    go_enter Tryz.func161,Tryz.ntmps161
    go_wp2_with (go_at_call 216;refine ch.mono ?_;rintro e w1 ⟨rfl,rfl⟩)
    refine cb.mono ?_;rintro e w2 ⟨rfl,h2,d2⟩;obtain ⟨x2,hx2⟩:=h2.vz;have hfit:=hx2.bd.1;have k4:w2.cell? ⟨d,4,none⟩=some (.int .i64 D1.cw):=hx2.cM 4;have kf:=hx2.nt
    have hx3:Sat (w2.setCell ⟨d,4,none⟩ (.int .i64 (bU (D1.cw+1)))) (fO x2 S d { D1 with cw:=bU (D1.cw+1) }*(aj S*F)):=
     Sat.iC ⟨hfit.sec,hfit.vals,hfit.wait,hfit.wvals⟩ (hx2.bd.2.setCell 4 (.int .i64 (bU (D1.cw+1))))
    have d3:=d2.setCell ⟨d,4,none⟩ (.int .i64 (bU (D1.cw+1)));have hm:D1.wait.length≤1000000:=hok.many;have hr3:Rd (w2.setCell ⟨d,4,none⟩ (.int .i64 (bU (D1.cw+1)))) (.slice ba l.length bc) l:=hK _ _ hx3.devOf;clear cb ch h hx2 hok h2
    go_wp2_with fail
    generalize w2.setCell ⟨d,4,none⟩ (.int .i64 (wrap64 (D1.cw+1)))=w3 at hx3 d3 hr3 ⊢;have k1:w3.cell? ⟨d,1,none⟩=some x2.wv:=hx3.cM 1;have hr4:Rd w3.drew (.slice ba l.length bc) l:=hr3;clear k4 kf d2 hl'
    go_region_law (first
     | (refine nD (jI w3.drew _ l hr4 hl63) uG rfl _ _ rfl (by rfl) ?_;rintro e w4 ⟨g,rfl,h4,d4⟩;refine ⟨_,rfl,?_⟩;have q4:w4.cell? ⟨d,1,none⟩=some x2.wv:=h4.bD (W:=w3.drew) k1;have ql:d<w4.heap.size:=World.block_lt_of_cell? w4 _ q4;obtain ⟨va,vn,vc,w5,hrun,q1,qf,d5,S5,E5,h5⟩:=zL (w1:=w3.drew) (a:=a) (SL.Sat.drew hx3) Hl.out hm h4)
     | (refine lx hrun rfl _ _ rfl rfl (by rfl) (by rfl) ?_))
    all_goals
     go_wp2
     go_ret
     exact ⟨S5,E5,rfl,h5,((d3.drew.trans d4).trans d5).setCell _ _⟩
   ·have e:D.write a l=(2,D.begun):=by simp [ay.write,hh,hl,hb]
    rw [e];rw [hb] at cb;clear e hb hl hr hh hD hK
    go_enter Tryz.func161,Tryz.ntmps161
    go_wp2_with (first
     | (go_at_call 216;refine ch.mono ?_;rintro e w1 ⟨rfl,rfl⟩)
     | (go_at_call 162;refine cb.mono ?_;rintro e w2 ⟨rfl,h2,d2⟩))
    go_ret
    exact ⟨S,Ext.refl S,rfl,h2,d2⟩
  ·have hl':((l.length:Int) != 512)=true:=by simp;omega
   have e:D.write a l=(1,D):=by simp [ay.write,hl]
   rw [e];clear e hl hr hh hD hK
   go_enter Tryz.func161,Tryz.ntmps161
   go_wp2_with (go_at_call 216;refine ch.mono ?_;rintro e w1 ⟨rfl,rfl⟩)
   go_ret
   exact ⟨S,Ext.refl S,rfl,h,ai.refl w⟩
 ·rw [show decide (D.has a)=false by simpa using hh] at ch
  have e:D.write a l=(1,D):=by simp [ay.write,hh]
  rw [e];clear e hr hh hD hK
  go_enter Tryz.func161,Tryz.ntmps161
  go_wp2_with (go_at_call 216;refine ch.mono ?_;rintro e w1 ⟨rfl,rfl⟩)
  go_ret
  exact ⟨S,Ext.refl S,rfl,h,ai.refl w⟩
def IT (x:Dx) (S:Hp) (d:Nat) (D:ay) (F:ah) (w:World) (n:Nat) (u:Value) (wr:World):Prop:=
 ∃ (k:Nat) (Y:List (Value × List UInt8)),k≤n∧u = .int .i64 k∧Sat wr (fO { x with Y:=Y } S d (D.bC (D.wait.take k))*F)∧ai w wr
theorem xr (D:ay) (l:List (Int × List UInt8)):(D.bC l).aX=D.aX∧(D.bC l).wait=D.wait∧(D.bC l).sec.length=D.sec.length∧(D.bC l).left=D.left:=by
 unfold ay.bC
 induction l generalizing D with
 | nil=>exact ⟨rfl,rfl,rfl,rfl⟩
 | cons p l ih=>
  obtain ⟨h1,h2,h3,h4⟩:=ih (D.done p);exact ⟨h1,h2,h3.trans (by simp [ay.done]),h4⟩
theorem mT (w:World) (S:Hp) (d:Nat) (D:ay) (F:ah) (h:Sat w (aK S d D*F)) (hD:D.Ok) :
  Calls Tryz.prog 114 #[.pointer (some ⟨d,0,none⟩)] w (N3 S d D.flush.2 (.int .i64 D.flush.1) F w):=by
 have cb:=nk w S d D _ h hD;rcases D.kP with hb|hb
 ·have e:D.flush=(0,D.begun.aE):=by simp [ay.flush,hb]
  rw [e];rw [hb] at cb;have hok:=hD.up hb;clear e hb hD;generalize D.begun=D1 at cb hok ⊢
  go_enter Tryz.func114,Tryz.ntmps114
  go_wp2_with fail
  refine cb.mono ?_;rintro e w2 ⟨rfl,h2,d2⟩;obtain ⟨x2,hx2⟩:=h2.vz;have hfit:=hx2.bd.1;have k5:w2.cell? ⟨d,5,none⟩=some (.int .i64 D1.cf):=hx2.cM 5;have kf:=hx2.nt
  have hx3:Sat (w2.setCell ⟨d,5,none⟩ (.int .i64 (bU (D1.cf+1)))) (fO x2 S d { D1 with cf:=bU (D1.cf+1) }*F):=
   Sat.iC ⟨hfit.sec,hfit.vals,hfit.wait,hfit.wvals⟩ (hx2.bd.2.setCell 5 (.int .i64 (bU (D1.cf+1))))
  have d3:=d2.setCell ⟨d,5,none⟩ (.int .i64 (bU (D1.cf+1)));have hok2:({ D1 with cf:=bU (D1.cf+1) }:ay).Ok:=⟨hok.n,hok.wait,hok.many,hok.aX⟩
  obtain ⟨wa,wc,hwv⟩:=hx3.Ov;have k1:(w2.setCell ⟨d,5,none⟩ (.int .i64 (bU (D1.cf+1)))).cell? ⟨d,1,none⟩=some (.slice wa D1.wait.length wc):=(hx3.cM 1).trans (by simp only [Dx.cells,hwv];rfl);have hn:(D1.wait.length:Int)≤1000000:=by have:=hok.many;omega
  have Hwv:=ae hwv;clear cb hx2 hok h2 h hwv
  go_wp2_with fail
  generalize w2.setCell ⟨d,5,none⟩ (.int .i64 (wrap64 (D1.cf+1)))=w3 at hx3 d3 k1 ⊢;change Sat w3 (fO x2 S d { D1 with cf:=bU (D1.cf+1) }*F) at hx3;obtain ⟨D2,hD2⟩:∃ D2,D2=({ D1 with cf:=bU (D1.cf+1) }:ay):=⟨_,rfl⟩
  have hw2:D1.wait=D2.wait:=by rw [hD2]
  have hq:D1.aE={ D2.bC D2.wait with wait:=[] }:=by rw [hD2];rfl
  have Hq:=ae hq;rw [← hD2] at hx3 hok2;rw [hw2] at k1 hn ⊢;have Hwv2:Hid (x2.wv = .slice wa D2.wait.length wc):=by rw [← hw2];exact Hwv.out
  clear hD2 hw2 k5 kf d2 hq Hwv
  go_loopw [27] (fun u wr=>IT x2 S d D2 F w D2.wait.length u wr) (fun u _=>D2.wait.length-(intOf u).toNat)
  case atStart=>exact ⟨0,x2.Y,Nat.zero_le _,rfl,hx3,d3⟩
  case round=>
   obtain ⟨k,Y,hkn,rfl,hsat,hside⟩:=hrel;clear k1 hx3 d3;obtain ⟨e1,e2,e3,e4⟩:=xr D2 (D2.wait.take k)
   by_cases hlt:k<D2.wait.length
   ·have hlt':(k:Int)<(D2.wait.length:Int):=by omega
    have hzn:x2.Z.length=D2.wait.length:=hsat.oE.trans (by rw [e2]);have hzl:k<x2.Z.length:=by omega
    obtain ⟨g,hwa⟩:∃ g,wa=some ⟨g,0,none⟩:=by
     have hpos:0<x2.Z.length:=by omega
     have:=po hsat.bd.2.aq hpos;obtain ⟨g,c,hh⟩:=this;rw [Hwv2.out] at hh;exact ⟨_,(Value.slice.inj hh).1⟩
    subst hwa
    have hcz:wr.cell? ⟨g,k*2,none⟩=some (.int .i64 x2.Z[k].1)∧wr.cell? ⟨g,k*2+1,none⟩=some x2.Z[k].2.1:=by
     have:=hsat.bd.2.aq;simp only [Hwv2.out] at this;exact this.jm hzl
    obtain ⟨hc0,hc1⟩:=hcz
    have hwk:D2.wait[k]?=some (x2.Z[k].1,x2.Z[k].2.2):=by
     rw [← e2,← hsat.bd.1.wait];simp [hzl]
    have hval:oV 5 S x2.Z[k].2.1 x2.Z[k].2.2:=hsat.bd.1.wvals _ (List.getElem_mem hzl);obtain ⟨da,dc,hdv⟩:=ij hval;rw [hdv] at hc1 hval
    have hhas:(D2.bC (D2.wait.take k)).has x2.Z[k].1:=by
     have:=hok2.wait _ (List.mem_of_getElem? hwk);unfold ay.has at this ⊢;rw [e3];exact this
    generalize x2.Z[k].1=at' at hc0 hwk hhas;generalize x2.Z[k].2.2=dl at hc1 hwk hval;have Hwk:=ae hwk;clear hwk hdv e1 e2 e3 e4;have hgl:g<wr.heap.size:=World.block_lt_of_cell? wr _ hc0;have hA:=hsat.alloc (.cells #[.int .i64 at',.slice da dl.length dc] 230 (0,0));have hsA:=hside.alloc (.cells #[.int .i64 at',.slice da dl.length dc] 230 (0,0))
    go_wp2_with (go_at_call 163;refine (yy _ S d _ _ (at',dl) _ _ hA.right hval hhas).mono ?_;rintro e w2 ⟨rfl,h2,d2⟩)
    go_roundw
    case rel=>
     refine ⟨k+1,Y.set at'.toNat (.slice da dl.length dc,dl),by omega,by go_num,?_,hsA.trans d2⟩
     have e:D2.bC (D2.wait.take (k+1))=(D2.bC (D2.wait.take k)).done (at',dl):=by
      rw [List.take_add_one,Hwk.out];simp [ay.bC]
     rw [e];exact h2
    case measure=>simp [intOf];omega
   ·obtain rfl:k=D2.wait.length:=by omega
    have k1:=hsat.cM 1;have kf:=hsat.nt;simp only [Dx.cells] at k1;have hfit:=hsat.bd.1;have H2:=hsat.bd.2.setCell 1 (.slice none 0 0);rw [List.take_length] at H2 hfit;clear e1 e2 e3 e4
    go_wp2
    go_ret
    refine ⟨rfl,?_,hside.setCell _ _⟩;rw [Hq.out];have H3:=(H2.kD).eA 230 2;refine Sat.devOf (x:={ x2 with Y:=Y,wv:=.slice none 0 0,Z:=[] }) (Sat.iC ⟨hfit.sec,hfit.vals,rfl,by simp⟩ ?_)
    exact H3.to (by
     simp only [Dx.cells,List.length_nil,bB,List.flatMap_nil,List.setIfInBounds_toArray,List.set_cons_zero,List.set_cons_succ]
     ac_rfl)
 ·have e:D.flush=(2,D.begun):=by simp [ay.flush,hb]
  rw [e];rw [hb] at cb;clear e hb hD
  go_enter Tryz.func114,Tryz.ntmps114
  go_wp2_with (go_at_call 162;refine cb.mono ?_;rintro e w2 ⟨rfl,h2,d2⟩)
  go_ret
  exact ⟨rfl,h2,d2⟩
end Go.Nn
