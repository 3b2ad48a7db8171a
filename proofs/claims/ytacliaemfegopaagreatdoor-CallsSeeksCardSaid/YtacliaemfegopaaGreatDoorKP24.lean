/- Steps. -/
import Derived.Test.YtacliaemfegopaaGreatDoorKP23
import Derived.Laws.StructEq
import Derived.Lib.SliceRun
set_option linter.unusedVariables false
set_option linter.unusedSimpArgs false
set_option maxRecDepth 100000
set_option maxHeartbeats 40000000
open Go.Proofs Go.SL
namespace Go.SL
open Go.RowKit
def putAt (l:List UInt8) (o:Nat) (d:List UInt8):List UInt8:=l.take o++d++l.drop (o+d.length)
theorem gL {l:List UInt8} {o:Nat} {d:List UInt8} (h:o+d.length≤l.length):(putAt l o d).length=l.length:=by
 simp only [putAt,List.length_append,List.length_take,List.length_drop];omega
theorem B8 {n o:Nat} {cur vs xs:List Value} (hcur:cur.take n=xs) (h:o+vs.length≤n) (hn:n≤cur.length) :
  (cur.take o++vs++cur.drop (o+vs.length)).take n=xs.take o++vs++xs.drop (o+vs.length):=by
 subst hcur;have h1:(cur.take o++vs).length=o+vs.length:=by rw [List.length_append,List.length_take];omega
 rw [List.take_append,List.take_of_length_le (by omega),h1,List.take_take,Nat.min_eq_left (by omega),List.drop_take]
theorem wC (cur:Array Value) (o:Nat) (vs:List Value) (h:o+vs.length≤cur.size):fp cur o vs=(cur.toList.take o++vs++cur.toList.drop (o+vs.length)).toArray:=by
 apply Array.ext_getElem?;intro k;rw [il _ _ _ _ h];have e:(cur.toList.take o++vs++cur.toList.drop (o+vs.length)).toArray[k]?=(cur.toList.take o++vs++cur.toList.drop (o+vs.length))[k]?:=by simp
 rw [e];have h1:(cur.toList.take o).length=o:=by rw [List.length_take,Array.length_toList];omega
 rcases Nat.lt_or_ge k o with h2|h2
 ·rw [if_neg (by omega),List.append_assoc,List.getElem?_append_left (by omega),List.getElem?_take,if_pos h2,Array.getElem?_toList]
 ·rcases Nat.lt_or_ge k (o+vs.length) with h3|h3
  ·rw [if_pos ⟨h2,h3⟩,List.append_assoc,List.getElem?_append_right (by omega),h1,List.getElem?_append_left (by omega)]
  ·rw [if_neg (by omega),List.getElem?_append_right (by rw [List.length_append,h1];omega),List.length_append,h1,List.getElem?_drop,Array.getElem?_toList]
   congr 1;omega
theorem qe {w:World} {T:TypeId} {v:Value} {l:List UInt8} {F:ah} (h:Sat w (bs T v l*F)) (h0:0<l.length) :
  ∃ g c cur,v = .slice (some ⟨g,0,none⟩) l.length c∧l.length≤c∧c≤maxLen∧cur.size=c∧w.heap[g]?=some (.cells cur T (0,0))∧(∀ j,j<l.length→w.cell? ⟨g,j,none⟩=some (u8 (l.getD j 0))∧w.frozen? ⟨g,j,none⟩=false) ∧
   ∀ o d,o+d.length≤l.length→Sat (w.setRow g (cur.toList.take o++d.map u8++cur.toList.drop (o+(d.map u8).length)).toArray) (bs T v (putAt l o d)*F)∧Sat (w.setCells g o (d.map u8)) (bs T v (putAt l o d)*F):=by
 rcases h.cX with ⟨_,h1,_⟩|⟨g,cap,cur,rfl,h3,h4,h5,h6,h7⟩
 ·omega
 ·rw [Nat.mul_one] at h5 h6
  refine ⟨g,cap,cur,rfl,h3,h4,h5,h7.heap,fun j hj=>⟨?_,h7.frozen j⟩,fun o d hd=>?_⟩
  ·rw [h7.cell]
   have e:=congrArg (·[j]?) h6;simp only [List.getElem?_take,hj,if_true,List.getElem?_map,Array.getElem?_toList] at e;rw [e,List.getElem?_eq_getElem hj,List.getD,List.getElem?_eq_getElem hj];rfl
  ·have hrow:(cur.toList.take o++d.map u8++cur.toList.drop (o+(d.map u8).length)).take l.length=(putAt l o d).map u8:=by
    rw [B8 h6 (by rw [List.length_map];exact hd) (by have:=Array.length_toList (xs:=cur);omega)];simp only [putAt,List.map_append,List.map_take,List.map_drop,List.length_map]
   have hsz:(cur.toList.take o++d.map u8++cur.toList.drop (o+(d.map u8).length)).length=cap:=by grind
   have key:∀ W,Sat W (pt g (.cells (cur.toList.take o++d.map u8++cur.toList.drop (o+(d.map u8).length)).toArray T (0,0))*F)→Sat W (bs T (.slice (some ⟨g,0,none⟩) l.length cap) (putAt l o d)*F):=by
    intro W hW;have:=Sat.l7 (sz:=1) (n:=l.length) (cap:=cap) hW h3 h4 (by rw [Nat.mul_one];simpa using hsz);refine this.to ?_;rw [bs,gL hd];congr 2;rw [Nat.mul_one];exact hrow
   refine ⟨key _ (h7.setRow (cs':=_)),key _ ?_⟩;have h8:=Sat.setCells (d.map u8) o h7;rw [wC cur o (d.map u8) (by rw [List.length_map,h5];omega)] at h8;exact h8
section
variable {σ:Type}
def Hd.lL (h:Hd) (z:Int):Hd:={ h with n:={ h.n with sz:=z } }
def Hd.iO (h:Hd) (z:Int):Hd:={ h with n:={ h.n with rw:=z } }
theorem Hd.Mm {h:Hd} (hf:h.fit) (z:Int):(h.iO z).l=h.l.set 20 z:=by
 have e:h.l=(h.id:Int) :: h.n.kd :: h.n.lk :: h.n.sz :: (h.n.dr++(h.n.rw :: h.row)):=by simp [Hd.l,Nd.l]
 have e2:(h.iO z).l=(h.id:Int) :: h.n.kd :: h.n.lk :: h.n.sz :: (h.n.dr++(z :: h.row)):=by simp [Hd.l,Nd.l,Hd.iO]
 rw [e,e2];simp only [List.set_cons_succ];rw [List.set_append,if_neg (by rw [hf.1];decide),hf.1]
 rfl
theorem Hd.oO {h:Hd} (hf:h.fit) {i:Nat} (hi:i<256) (b:Int) (k:Nat):(h.put i b).bg k=if k=i then b else h.bg k:=by
 unfold Hd.put Hd.bg
 by_cases h16:i<16
 ·rw [if_pos h16]
  by_cases hk:k<16
  ·rw [if_pos hk,if_pos hk]
   by_cases hki:k=i
   ·subst hki;simp [List.getD,List.getElem?_set,hf.1,h16]
   ·rw [if_neg hki];simp [List.getD,List.getElem?_set,Ne.symm hki]
  ·rw [if_neg hk,if_neg hk,if_neg (by omega)]
 ·rw [if_neg h16]
  by_cases hk:k<16
  ·rw [if_pos hk,if_pos hk,if_neg (by omega)]
  ·rw [if_neg hk,if_neg hk]
   by_cases hki:k=i
   ·subst hki;simp [List.getD,List.getElem?_set,hf.2,show k-16<240 by omega]
   ·rw [if_neg hki];simp [List.getD,List.getElem?_set,show ¬ i-16=k-16 by omega]
theorem Hd.qG (h:Hd) (i:Nat) (b:Int):(h.put i b).n.rw=h.n.rw:=by unfold Hd.put;split <;> rfl
theorem Hd.Kg (h:Hd) (i:Nat) (b:Int):(h.put i b).n.sz=h.n.sz:=by unfold Hd.put;split <;> rfl
theorem Hd.NL (h:Hd) (i:Nat) (b:Int):(h.put i b).id=h.id:=by unfold Hd.put;split <;> rfl
end
section
variable {σ:Type}
def gY (m at':Nat):Nat:=min m (480-at'%480)
def Au (ask:dx σ) (h:Hd) (off:Nat):Nat→Nat→List UInt8→WM σ (List UInt8)
  | 0,_,A=>WM.pure A
  | f+1,done,A=>fun st=>
    if done<A.length then
      (if h.bg ((off+done)/480)=0 then Au ask h off f (done+gY (A.length-done) (off+done)) A st
       else (WM.bind (cS ask (h.bg ((off+done)/480))) fun L=>Au ask h off f (done+gY (A.length-done) (off+done)) (putAt A done ((L.drop ((off+done)%480)).take (gY (A.length-done) (off+done))))) st)
    else (.ok A,st)
def Ie (ask:dx σ) (off cnt:Int) (h:Hd):WM σ (List UInt8):=fun st=>
 if 0≤off∧0≤cnt then (if h.n.sz≤off then (.ok [],st) else Au ask h off.toNat (min cnt (h.n.sz-off)).toNat 0 (zs (min cnt (h.n.sz-off)).toNat) st) else (.bad 1,st)
def iU (ask:dx σ) (n:Nat) (node off cnt:Int):WM σ (List UInt8):=WM.bind (gQ ask n node) (Ie ask off cnt)
theorem Ll {ask:dx σ} {h:Hd} {off f done:Nat} {A:List UInt8} (hd:A.length≤done) (st:eV σ):Au ask h off f done A st=(.ok A,st):=by
 cases f with
 | zero=>rfl
 | succ f=>exact if_neg (by omega)
theorem MM {ask:dx σ} {h:Hd} {off f done:Nat} {A:List UInt8} (hd:done<A.length) (h0:h.bg ((off+done)/480)=0) (st:eV σ) :
  Au ask h off (f+1) done A st=Au ask h off f (done+gY (A.length-done) (off+done)) A st:=(if_pos hd).trans (if_pos h0)
theorem PL {ask:dx σ} {h:Hd} {off f done:Nat} {A:List UInt8} (hd:done<A.length) (h0:h.bg ((off+done)/480)≠0) {st st1:eV σ} {c:Int} (hr:cS ask (h.bg ((off+done)/480)) st=(.bad c,st1)) :
  Au ask h off (f+1) done A st=(.bad c,st1):=(if_pos hd).trans ((if_neg h0).trans (WM.bG hr))
theorem PB {ask:dx σ} {h:Hd} {off f done:Nat} {A:List UInt8} (hd:done<A.length) (h0:h.bg ((off+done)/480)≠0) {st st1:eV σ} {L:List UInt8} (hr:cS ask (h.bg ((off+done)/480)) st=(.ok L,st1)) :
  Au ask h off (f+1) done A st=Au ask h off f (done+gY (A.length-done) (off+done)) (putAt A done ((L.drop ((off+done)%480)).take (gY (A.length-done) (off+done)))) st1:=(if_pos hd).trans ((if_neg h0).trans (WM.aZ hr))
end
end Go.SL
namespace Go.Fs
open Go.RowKit Go.SL Go.Ba
section
variable {σ α:Type}
theorem xV:(Tryz.prog.info? 5).map (·.size)=some 1:=by kernel_rfl
def Qh (x:Wk σ) (hb:Nat) (hh:Hd) (off m g:Nat) (S:Hp) (F:ah) (w:World) (T:Rs (List UInt8) × eV σ) (u8':Value) (wr:World):Prop:=
 ∃ (done f:Nat) (A:List UInt8) (stk:eV σ) (Sk:Hp),done≤m∧A.length=m∧m-done≤f∧u8' = .int .i64 (done:Int)∧Au x.c.ask hh off f done A stk=T∧Ext S Sk∧ai w wr ∧
  Sat wr (bs 5 (.slice (some ⟨g,0,none⟩) m m) A*(aL x Sk stk*(aj Sk*(aW hb hh*F))))
theorem BX {c:Cx σ} (hc:c.Ok) {n:Nat} (hn:n≤3840) (node off cnt:Int) (nb ob cb:Nat) :
  DC c n 154 #[.pointer (some ⟨nb,0,none⟩),.pointer (some ⟨ob,0,none⟩),.pointer (some ⟨cb,0,none⟩)] fB (bE nb node*(bE ob off*bE cb cnt)) (iU c.ask n node off cnt):=by
 intro x w S st F hx1 hx2 h;subst hx1 hx2;have cn:w.cell? ⟨nb,0,none⟩=some (.int .i64 node):=(h.to (by ac_rfl:_=bE nb node*((bE ob off*bE cb cnt)*(aL x S st*(aj S*F))))).cell 0;show Calls Tryz.prog 154 #[.pointer (some ⟨x.k,0,none⟩),.pointer (some ⟨nb,0,none⟩),.pointer (some ⟨ob,0,none⟩),.pointer (some ⟨cb,0,none⟩)] w _
 refine aI fun Q HQ=>?_;have hl:=mI x hc w S st node _ h;obtain ⟨⟨r,st1⟩,hp⟩:∃ p,gQ x.c.ask x.n node st=p:=⟨_,rfl⟩
 rw [hp] at hl;clear h;obtain ⟨G,hG⟩:∃ G,G=bE nb node*(bE ob off*bE cb cnt)*F:=⟨_,rfl⟩
 rw [← hG] at hl HQ;have HG:=ae hG
 cases r with
 | bad cN=>
  have HE:=ae (show iU x.c.ask x.n node off cnt st=(.bad cN,st1) from WM.bG hp);clear hp hG
  go_enter Tryz.func154,Tryz.ntmps154
  go_wp2_with fail
  (with_reducible refine hl.mono ?_)
  rintro e w2 ⟨S',hS,d2,rfl,h2⟩
  go_wp2_with fail
  exact ⟨rfl,HQ.out _ _ (by rw [HE.out];exact ⟨S',hS,d2,rfl,h2⟩)⟩
 | ok hh=>
  have hok:=Nd.pE (Fa hp).ok;obtain ⟨s0,s1⟩:0≤hh.n.sz∧hh.n.sz≤122880:=⟨hok.2.2.2.1,hok.2.2.2.2.1⟩
  obtain ⟨T,hT⟩:∃ T,Ie x.c.ask off cnt hh st1=T:=⟨_,rfl⟩
  have HE:=ae (show iU x.c.ask x.n node off cnt st=T from (WM.aZ hp).trans hT);have HT:=ae hT;clear hp hG hok hT
  have sO:∀ W P,Sat W (P*G)→W.cell? ⟨ob,0,none⟩=some (.int .i64 off):=fun W P hW=>by
   rw [HG.out] at hW;exact (hW.to (by ac_rfl:_=bE ob off*(bE nb node*(bE cb cnt*(F*P))))).cell 0
  have sC:∀ W P,Sat W (P*G)→W.cell? ⟨cb,0,none⟩=some (.int .i64 cnt):=fun W P hW=>by
   rw [HG.out] at hW;exact (hW.to (by ac_rfl:_=bE cb cnt*(bE nb node*(bE ob off*(F*P))))).cell 0
  have SO:=ae sO;have SC:=ae sC;clear sO sC
  go_enter Tryz.func154,Tryz.ntmps154
  go_wp2_with fail
  (with_reducible refine hl.mono ?_)
  rintro e w2 ⟨S',v,hS,d2,rfl,h2⟩;obtain ⟨hb,rfl,h3⟩:=Sat.rF h2;have h4:Sat w2 (aL x S' st1*(aj S'*(aW hb hh*G))):=h3.to (by ac_rfl);have co:=SO.out w2 (aL x S' st1*(aj S'*(aW hb hh))) (h4.to (by ac_rfl));have cc:=SC.out w2 (aL x S' st1*(aj S'*(aW hb hh))) (h4.to (by ac_rfl));have c3:=(gD h3 (j:=3) (by decide)).1;rw [show hh.l.getD 3 0=hh.n.sz from rfl] at c3;have H4:=ae h4;clear h2 h3 hl cn h4
  by_cases hz:0≤off∧0≤cnt
  ·obtain ⟨z0,z1⟩:=hz
   by_cases hge:hh.n.sz≤off
   ·have hT2:T=(.ok [],st1):=by rw [← HT.out];exact (if_pos ⟨z0,z1⟩).trans (if_pos hge)
    have HT2:=ae hT2;clear hT2 HT
    go_wp2_with fail
    (with_reducible refine (gT w2).mono ?_)
    rintro e w3 ⟨rfl,rfl⟩
    go_wp2_with fail
    go_region_held3 (fun w'=>w'.cell? ⟨ob,0,none⟩=some (.int .i64 off)∧w'.cell? ⟨hb,3,none⟩=some (.int .i64 hh.n.sz)) (first|exact ⟨co,c3⟩|go_keep) (fail)
    all_goals
     clear co cc c3
     go_wp2_with fail
     refine HQ.out _ _ ?_;rw [HE.out,HT2.out];have h9:Sat w2.drew (fB [] (.slice none 0 0)*(aL x S' st1*(aj S'*(aW hb hh*G)))):=(H4.out.drew.eA 5 1)
     exact ⟨S',_,hS,d2.drew,rfl,(h9.to (by ac_rfl:_=aW hb hh*(fB [] (.slice none 0 0)*(aL x S' st1*(aj S'*G))))).right⟩
   ·have hlt:off<hh.n.sz:=by omega
    obtain ⟨m,hm⟩:∃ m,(min cnt (hh.n.sz-off)).toNat=m:=⟨_,rfl⟩
    obtain ⟨o,ho⟩:∃ o:Nat,off=(o:Int):=⟨off.toNat,by omega⟩
    have hT2:Au x.c.ask hh o m 0 (zs m) st1=T:=by
     rw [← HT.out];refine Eq.symm ((if_pos ⟨z0,z1⟩).trans ((if_neg hge).trans ?_));rw [hm,ho,Int.toNat_natCast]
    have hm2:min cnt (hh.n.sz-off)=(m:Int):=by omega
    have hm3:(o:Int)+m≤122880:=by omega
    have HT2:=ae hT2;have hmk:∀ w,(Instr.makeSlice 37 (.int .i64 (m:Int)) (.int .i64 (m:Int))).run Tryz.prog w = .ok (.slice (some ⟨w.heap.size,0,none⟩) m m) (w.alloc (.cells (dp (zs m)) 5 (0,0))):=er m (by omega);have hB:=mC m (by omega) (H4.out.drew.drew);have hgt:¬ (hh.n.sz≤off):=hge;subst ho;clear hT2 HT hm hge;obtain ⟨ZB,hZB⟩:∃ Z,Z=dp (zs m):=⟨_,rfl⟩
    rw [← hZB] at hmk hB;clear hZB
    go_wp2_with fail
    (with_reducible refine (gT w2).mono ?_)
    rintro e w3 ⟨rfl,rfl⟩
    go_wp2_with fail
    go_region_held3 (fun w'=>w'.cell? ⟨ob,0,none⟩=some (.int .i64 (o:Int))∧w'.cell? ⟨hb,3,none⟩=some (.int .i64 hh.n.sz)) (first|exact ⟨co,c3⟩|go_keep) (fail)
    rename_i hHeld;have hgd:decide (hh.n.sz≤(o:Int))=false:=decide_eq_false (by omega);have H5:=ae H4.out.drew;have D5:=ae d2.drew;have co2:=SO.out w2.drew (aL x S' st1*(aj S'*(aW hb hh))) (H5.out.to (by ac_rfl));have cc2:=SC.out w2.drew (aL x S' st1*(aj S'*(aW hb hh))) (H5.out.to (by ac_rfl));have c32:w2.drew.cell? ⟨hb,3,none⟩=some (.int .i64 hh.n.sz):=hHeld.2;clear hHeld co cc c3 H4 d2;generalize w2.drew=w3 at *;rw [hgd];clear hgd
    go_wp2_with fail
    have hval:(if IntKind.i64.wrap (hh.n.sz-(o:Int))<cnt then IntKind.i64.wrap (hh.n.sz-(o:Int)) else cnt)=(m:Int):=by
     have e:IntKind.i64.wrap (hh.n.sz-(o:Int))=hh.n.sz-(o:Int):=by rw [IntKind.wrap_i64];omega
     rw [e];split <;> omega
    refine wp_region_held_drew (S:=(fun w'=>w'.cell? ⟨ob,0,none⟩=some (.int .i64 (o:Int))∧w'.cell? ⟨cb,0,none⟩=some (.int .i64 cnt)∧w'.cell? ⟨hb,3,none⟩=some (.int .i64 hh.n.sz))) (by kernel_rfl) ?_ (fun hHeld=>?_)
    ·(first|exact ⟨co2,cc2,c32⟩|go_keep)
    refine tk 0 ?_;refine tk 1 ?_;refine tk 2 ?_;refine tk 3 ?_;refine tk 4 ?_;refine tk 5 ?_;refine tk 6 ?_;refine tk 7 ?_;refine wpAnyH_take (i:=8) (v:=.int .i64 (m:Int)) rfl (by kernel_rfl) (by kernel_rfl) (by kernel_rfl) (fun _ _ _ h=>h) (Or.inl ⟨by kernel_rfl,?_⟩) (by assumption) ?_
    ·intro w hSw;(try dsimp only at hSw);go_simp
    try simp only [List.getElem_toArray,List.getElem_cons_succ,List.getElem_cons_zero,Act.put,List.setIfInBounds_toArray,List.set_cons_zero,List.set_cons_succ]
    refine tr 9 fun K hK=>?_
    go_simp
    refine hK.out _ _ ?_ (fun hHeld=>?_)
    ·(first|exact ⟨co2,cc2,c32⟩|go_keep)
    clear hK K;refine tk 10 ?_;refine wpAnyH_done (by kernel_rfl) ?_ _;rename_i hHeld2;rw [show IntKind.i64.wrap (hh.n.sz-(o:Int))=hh.n.sz-(o:Int) from by rw [IntKind.wrap_i64];omega];have D6:ai w (w3.alloc (.cells ZB 5 (0,0))).drew:=D5.out.drew.alloc (.cells ZB 5 (0,0));have hB2:Sat (w3.alloc (.cells ZB 5 (0,0))).drew (bs 5 (.slice (some ⟨w3.heap.size,0,none⟩) m m) (zs m)*(aL x S' st1*(aj S'*(aW hb hh*G)))):=hB;clear hHeld hHeld2 hB co2 cc2 c32 hmk hval H5 D5;generalize (w3.alloc (.cells ZB 5 (0,0))).drew=w5 at *;generalize w3.heap.size=g at *;have HB2:=ae hB2;have hm1:(m:Int)≤122880:=by omega
    have ho1:(o:Int)≤122880:=by omega
    have hm0:0≤(m:Int):=by omega
    clear hB2 SC hm2 hgt hlt z1
    go_wp2_with fail
    go_loopw [8] (fun u wr=>Qh x hb hh o m g S G w T u wr) (fun u _=>m-(intOf u).toNat)
    case atStart=>exact ⟨0,m,zs m,st1,S',Nat.zero_le _,aT m,Nat.le_refl _,rfl,HT2.out,hS,D6,HB2.out⟩
    case round=>
     obtain ⟨done,f,A,stk,Sk,hdm,hAl,hf,rfl,hTk,hSk,dk,hk4⟩:=hrel;have HTk:=ae hTk;have HSk:=ae hSk;have HAl:=ae hAl;clear HB2 HT2 hTk hSk hAl D6
     by_cases hlt:done<m
     ·have hlt':(done:Int)<(m:Int):=by omega
      obtain ⟨f',rfl⟩:∃ f',f=f'+1:=⟨f-1,by omega⟩
      have hA:done<A.length:=by rw [HAl.out];exact hlt
      have co:=SO.out wr (bs 5 (.slice (some ⟨g,0,none⟩) m m) A*(aL x Sk stk*(aj Sk*(aW hb hh)))) (hk4.to (by ac_rfl));obtain ⟨l,hl⟩:∃ l,gY (A.length-done) (o+done)=l:=⟨_,rfl⟩
      have hl2:l=min (m-done) (480-(o+done)%480):=by rw [← hl,HAl.out];rfl
      obtain ⟨q,hq⟩:∃ q,(o+done)/480=q:=⟨_,rfl⟩
      obtain ⟨r,hr⟩:∃ r,(o+done)%480=r:=⟨_,rfl⟩
      have hq256:q<256:=by omega
      have hr480:r<480:=by omega
      rw [hr] at hl2;have hl1:1≤l:=by omega
      have hlm:done+l≤m:=by omega
      have hlr:r+l≤480:=by omega
      have hquo:((o:Int)+(done:Int)).tdiv 480=(q:Int):=by rw [Int.tdiv_eq_ediv_of_nonneg (by omega)];omega
      have hrem:((o:Int)+(done:Int)).tmod 480=(r:Int):=by rw [Int.tmod_eq_emod_of_nonneg (by omega)];omega
      have hmin:(if (480:Int)-(r:Int)<((m-done:Nat):Int) then (480:Int)-(r:Int) else ((m-done:Nat):Int))=(l:Int):=by split <;> omega
      have hsub:(m:Int)-(done:Int)=((m-done:Nat):Int):=by omega
      have hpg:=yU wr hb hh _ (hk4.to (by ac_rfl:_=aW hb hh*(bs 5 (.slice (some ⟨g,0,none⟩) m m) A*(aL x Sk stk*(aj Sk*G))))) q hq256;unfold Oe at hpg
      by_cases h0:hh.bg q=0
      ·have HN:=ae ((MM hA (by rw [hq];exact h0) stk).symm.trans HTk.out)
       rw [hl] at HN;rw [h0] at hpg;clear h0 hl2 hq hr hl
       go_wp2_with fail
       (with_reducible refine hpg.mono ?_)
       rintro e w6 ⟨rfl,rfl⟩
       go_wp2_with fail
       go_roundw
       case rel=>exact ⟨done+l,f',A,stk,Sk,hlm,HAl.out,by omega,by go_num,HN.out,HSk.out,dk,hk4⟩
       case measure=>simp [intOf];omega
      ·have h1:(hh.bg q != 0)=true:=by simpa using h0
       have hrd:=mQ x hc wr Sk stk (hh.bg q) _ (hk4.to (by ac_rfl:_=aL x Sk stk*(aj Sk*(aW hb hh*(bs 5 (.slice (some ⟨g,0,none⟩) m m) A*G)))));obtain ⟨⟨r2,st2⟩,hp2⟩:∃ p,cS x.c.ask (hh.bg q) stk=p:=⟨_,rfl⟩
       rw [hp2] at hrd;have hp3:cS x.c.ask (hh.bg ((o+done)/480)) stk=(r2,st2):=by rw [hq];exact hp2
       have h03:hh.bg ((o+done)/480)≠0:=by rw [hq];exact h0
       cases r2 with
       | bad cN=>
        have HN:=ae ((PL hA h03 hp3).symm.trans HTk.out);clear h0 h03 hp2 hp3 hl2 hq hr hl;generalize hh.bg q=y at *
        go_wp2_with fail
        (with_reducible refine hpg.mono ?_)
        rintro e w6 ⟨rfl,rfl⟩
        go_wp2_with fail
        (with_reducible refine hrd.mono ?_)
        rintro e w4 ⟨S2,hS2,d4,rfl,h6⟩
        go_wp2_with fail
        exact ⟨rfl,HQ.out _ _ (by rw [HE.out,← HN.out];exact ⟨S2,HSk.out.trans hS2,dk.trans d4,rfl,(h6.to (by ac_rfl:_=(aW hb hh*bs 5 (.slice (some ⟨g,0,none⟩) m m) A)*(aL x S2 st2*(aj S2*G)))).right⟩)⟩
       | ok L=>
        have HL:=ae (jd hp2);have HN:=ae ((PB hA h03 hp3).symm.trans HTk.out);rw [hl,hr] at HN;clear h0 h03 hp2 hp3 hl2 hq hr hl;generalize hh.bg q=y at *
        go_wp2_with fail
        (with_reducible refine hpg.mono ?_)
        rintro e w6 ⟨rfl,rfl⟩
        go_wp2_with fail
        (with_reducible refine hrd.mono ?_)
        rintro e w4 ⟨S2,v4,hS2,d4,rfl,h6⟩;unfold fB at h6;obtain ⟨ga,ca,curd,rfl,a1,a2,a3,a4,a5,a6⟩:=qe h6 (by rw [HL.out];decide);obtain ⟨g',c',cur,e,k1,k2,k3,k4,k5,k6⟩:=qe (h6.to (by ac_rfl:_=bs 5 (.slice (some ⟨g,0,none⟩) m m) A*(bs 5 (.slice (some ⟨ga,0,none⟩) L.length ca) L*(aL x S2 st2*(aj S2*(aW hb hh*G)))))) (Nat.lt_of_le_of_lt (Nat.zero_le _) hA);simp only [Value.slice.injEq,Option.some.injEq,Addr.mk.injEq] at e;obtain ⟨⟨rfl,-,-⟩,-,rfl⟩:=e;have hdl:((L.drop r).take l).length=l:=by rw [List.length_take,List.length_drop,HL.out];omega
        have h7:=(k6 done ((L.drop r).take l) (by rw [hdl,HAl.out];omega)).1
        have hcp:=fun ty=>run_copy_row (P:=Tryz.prog) w4 37 37 ty 5 g done l (m-done) ⟨ga,r,none⟩ (480-r) (ca-r) cur 5 (((L.drop r).take l).map u8) Tryz.underlying37 xV k4
         (by rw [List.length_map,hdl];exact (Nat.min_eq_right (by omega)).symm)
         (fun j v hv=>by
          have hj:j<l:=by rw [← hdl];simpa using (List.getElem?_eq_some_iff.1 hv).1
          rw [Addr.add_lit,(a5 (r+j) (by rw [HL.out];omega)).1,← hv,List.getElem?_map,List.getElem?_take,if_pos hj,List.getElem?_drop];rw [List.getD,List.getElem?_eq_getElem (by rw [HL.out];omega)];rfl)
         (by rw [List.length_map,hdl,k3];omega) (pT _)
        generalize (cur.toList.take done++((L.drop r).take l).map u8++cur.toList.drop (done+(((L.drop r).take l).map u8).length)).toArray=RW at *;have Hcp:=ae hcp;have Hdl:=ae hdl;have h8:=ae h7.ag.right;rw [HL.out] at a1 ⊢;clear hrd hpg h6 h7 hcp hdl a2 a3 a4 a5 a6 k1 k2 k4 k5 k6
        go_wp2_with (refine eU (Hcp.out _) _ _ rfl rfl rfl rfl rfl ?_)
        go_roundw
        case rel=>exact ⟨done+l,f',putAt A done ((L.drop r).take l),st2,S2,hlm,by rw [gL (by rw [Hdl.out,HAl.out];omega)];exact HAl.out,by omega,by go_num,HN.out,HSk.out.trans hS2,(dk.trans d4).setRow _ _,h8.out⟩
        case measure=>simp [intOf];omega
     ·have hA:A.length≤done:=by rw [HAl.out];omega
      have HN:=ae ((Ll (ask:=x.c.ask) (h:=hh) (off:=o) (f:=f) hA stk).symm.trans HTk.out);clear hA
      go_wp2_with fail
      refine HQ.out _ _ ?_;rw [HE.out,← HN.out]
      exact ⟨Sk,_,HSk.out,dk,rfl,by
       show Sat wr (bs 5 _ A*_)
       exact (hk4.to (by ac_rfl:_=aW hb hh*(bs 5 (.slice (some ⟨g,0,none⟩) m m) A*(aL x Sk stk*(aj Sk*G))))).right⟩
  ·have hT:T=(.bad 1,st1):=by rw [← HT.out];exact if_neg hz
   have HT2:=ae hT;clear hT HT
   by_cases hz1:0≤off
   ·have hz2:decide (0≤cnt)=false:=decide_eq_false (by omega)
    clear hz
    go_wp2_with fail
    (with_reducible refine (iB w2).mono ?_)
    rintro e w4 ⟨rfl,rfl⟩
    go_wp2_with fail
    exact ⟨rfl,HQ.out _ _ (by rw [HE.out,HT2.out];exact ⟨S',hS,d2,rfl,(H4.out.to (by ac_rfl:_=aW hb hh*(aL x S' st1*(aj S'*G)))).right⟩)⟩
   ·have hz2:off<0:=by omega
    clear hz
    go_wp2_with fail
    (with_reducible refine (iB w2).mono ?_)
    rintro e w4 ⟨rfl,rfl⟩
    go_wp2_with fail
    exact ⟨rfl,HQ.out _ _ (by rw [HE.out,HT2.out];exact ⟨S',hS,d2,rfl,(H4.out.to (by ac_rfl:_=aW hb hh*(aL x S' st1*(aj S'*G)))).right⟩)⟩
end
end Go.Fs
