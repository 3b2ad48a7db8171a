/- Steps. -/
import Derived.Test.YtacliaemfegopaaGreatDoorKP25
import Derived.Test.YtacliaemfegopaaGreatDoorKP16
import Derived.Lib.IndexLaws
set_option linter.unusedVariables false
set_option linter.unusedSimpArgs false
set_option maxRecDepth 100000
set_option maxHeartbeats 40000000
open Go.Proofs Go.SL
namespace Go.SL
open Go.RowKit
structure aM where
 nd:Nat
 nm:List UInt8
deriving DecidableEq
def B2 (l:List UInt8):Bool:=decide (1≤l.length) && (decide (l.length≤28) && !l.contains 0)
def aM.ok (e:aM):Bool:=decide (1≤e.nd) && (decide (e.nd≤3839) && B2 e.nm)
def aM.no:aM:=⟨0,[]⟩
def aM.enc (e:aM):List UInt8:=cZ e.nd 2++(cZ e.nm.length 1++(e.nm++zs (29-e.nm.length)))
def aM.v (e:aM):Value:=.agg #[.int .i64 (e.nd:Int),.string (str e.nm)]
def aM.cells (e:aM):List Value:=[.int .i64 (e.nd:Int),.string (str e.nm)]
theorem pK {l:List UInt8}:B2 l=true↔1≤l.length∧l.length≤28∧(0:UInt8) ∉ l:=by
 unfold B2;simp
theorem aM.kR {e:aM}:e.ok=true↔1≤e.nd∧e.nd≤3839∧B2 e.nm=true:=by
 unfold aM.ok;simp
theorem aM.dN {e:aM} (h:e.ok=true):e.enc.length=32:=by
 have:=pK.1 (aM.kR.1 h).2.2;unfold aM.enc;simp only [List.length_append,aS,aT];omega
theorem aM.JD:aM.no.enc=zs 32:=by decide +kernel
theorem qP (l:List UInt8) (c:UInt8):Lib.indexByte l c<0↔c ∉ l:=by
 have hge:=Lib.indexByte_ge l c;constructor
 ·intro h hm
  have:Lib.indexByte l c=-1:=by omega
  obtain ⟨k,hk,hk2⟩:=List.getElem_of_mem hm;exact Lib.indexByte_none this k (by rw [List.getElem?_eq_getElem hk,hk2])
 ·intro h
  refine Int.not_le.1 fun h0=>?_;obtain ⟨o,ho⟩:=Int.eq_ofNat_of_zero_le h0;have:=(Lib.indexByte_some ho).1;exact h (List.mem_of_getElem? this)
def cy (l:List UInt8):Bool:=B2 l && (!l.contains 47 && (decide (l≠[46]) && decide (l≠[46,46])))
theorem qu {l:List UInt8} (h:cy l=true):B2 l=true:=by
 unfold cy at h;simp only [Bool.and_eq_true] at h;exact h.1
end Go.SL
namespace Go.Fs
open Go.RowKit Go.SL Go.Ba
theorem gS (l:List UInt8):(str l).size=l.length:=by simp [str,ByteArray.size]
theorem tY (w:World) (e:aM):Calls Tryz.prog 237 #[e.v] w fun r w'=>r = .returned (.bool e.ok)∧Sat w' (whole w)∧ai w w':=by
 refine aI fun Q HQ=>?_;obtain ⟨n,l⟩:=e;have hA:=((Sat.whole w).alloc (.cells #[.int .i64 (n:Int),.string (str l)] 99 (0,0)))
 have dA:=ae ((ai.refl w).alloc (.cells #[.int .i64 (n:Int),.string (str l)] 99 (0,0)));have HA:=ae hA.right;have hix:=qP l 0;have hib:=Tryz.strings_IndexByte (str l) 0;have e0:(0:Int).toNat.toUInt8=(0:UInt8):=rfl;have e1:(str l).data.toList=l:=rfl;rw [e0,e1] at hib;have hsz:=gS l;obtain ⟨ix,hi⟩:∃ ix,Lib.indexByte l 0=ix:=⟨_,rfl⟩
 rw [hi] at hib hix;have Hib:=ae hib;have HX:=ae hix;have hok:Hid ((aM.mk n l).ok=(decide (1≤n) && (decide (n≤3839) && (decide (1≤l.length) && (decide (l.length≤28) && !l.contains 0))))):=rfl;clear hA hib hix hi e0 e1;obtain ⟨m,hm⟩:∃ m,l.length=m:=⟨_,rfl⟩
 rw [hm] at hsz hok;unfold aM.v
 by_cases h1:(n:Int)<1
 ·have hr:Hid ((aM.mk n l).ok=false):=by show _=_;rw [hok.out,decide_eq_false (by omega)];rfl
  go_enter Tryz.func237,Tryz.ntmps237
  go_wp2_with fail
  exact HQ.out _ _ ⟨by rw [hr.out];try (first|rfl|simp),HA.out,dA.out⟩
 by_cases h2:(3839:Int)<(n:Int)
 ·have hr:Hid ((aM.mk n l).ok=false):=by show _=_;rw [hok.out,decide_eq_false (p:=n≤3839) (by omega),Bool.false_and,Bool.and_false]
  go_enter Tryz.func237,Tryz.ntmps237
  go_wp2_with fail
  exact HQ.out _ _ ⟨by rw [hr.out];try (first|rfl|simp),HA.out,dA.out⟩
 by_cases h3:(m:Int)<1
 ·have hr:Hid ((aM.mk n l).ok=false):=by show _=_;rw [hok.out,decide_eq_false (p:=1≤m) (by omega),Bool.false_and,Bool.and_false,Bool.and_false]
  go_enter Tryz.func237,Tryz.ntmps237
  go_wp2_with fail
  exact HQ.out _ _ ⟨by rw [hr.out];try (first|rfl|simp),HA.out,dA.out⟩
 by_cases h4:(28:Int)<(m:Int)
 ·have hr:Hid ((aM.mk n l).ok=false):=by show _=_;rw [hok.out,decide_eq_false (p:=m≤28) (by omega),Bool.false_and,Bool.and_false,Bool.and_false,Bool.and_false]
  go_enter Tryz.func237,Tryz.ntmps237
  go_wp2_with fail
  exact HQ.out _ _ ⟨by rw [hr.out];try (first|rfl|simp),HA.out,dA.out⟩
 have hr:Hid ((aM.mk n l).ok=decide (ix<0)):=by
  show _=_
  rw [hok.out,decide_eq_true (p:=1≤n) (by omega),decide_eq_true (p:=n≤3839) (by omega),decide_eq_true (p:=1≤m) (by omega),decide_eq_true (p:=m≤28) (by omega),Bool.true_and,Bool.true_and,Bool.true_and,Bool.true_and];rw [Bool.eq_iff_iff];simp only [Bool.not_eq_true',decide_eq_true_eq,HX.out];simp
 go_enter Tryz.func237,Tryz.ntmps237
 go_wp2_with fail
 refine (Hib.out _).mono ?_;rintro e w2 ⟨rfl,rfl⟩
 go_wp2_with fail
 exact HQ.out _ _ ⟨by rw [hr.out];try (first|rfl|simp),HA.out,dA.out⟩
theorem pP (w:World) (l:List UInt8):Calls Tryz.prog 133 #[.string (str l)] w fun r w'=>r = .returned (.bool (cy l))∧w=w':=by
 refine aI fun Q HQ=>?_;have hib0:=Tryz.strings_IndexByte (str l) 0;have hib1:=Tryz.strings_IndexByte (str l) 47;have e0:(0:Int).toNat.toUInt8=(0:UInt8):=rfl;have e47:(47:Int).toNat.toUInt8=(47:UInt8):=rfl;have e1:(str l).data.toList=l:=rfl;rw [e0,e1] at hib0;rw [e47,e1] at hib1;have hx0:=qP l 0;have hx1:=qP l 47;have hsz:=gS l;obtain ⟨ix,hi⟩:∃ ix,Lib.indexByte l 0=ix:=⟨_,rfl⟩
 obtain ⟨iy,hj⟩:∃ ix,Lib.indexByte l 47=ix:=⟨_,rfl⟩
 rw [hi] at hib0 hx0;rw [hj] at hib1 hx1;have Hib0:=ae hib0;have Hib1:=ae hib1
 have hok:Hid (cy l=((decide (1≤l.length) && (decide (l.length≤28) && decide (ix<0))) && (decide (iy<0) && (decide (l≠[46]) && decide (l≠[46,46]))))):=by
  unfold cy B2;congr 1
  ·congr 2
   rw [Bool.eq_iff_iff];simp [hx0]
  ·congr 1
   rw [Bool.eq_iff_iff];simp [hx1]
 have s1:((str l).toList == [46]) = !decide (l≠[46]):=by
  rw [Lib.toList_data,Bool.eq_iff_iff,beq_iff_eq];simp [str]
 have s2:((str l).toList == [46,46]) = !decide (l≠[46,46]):=by
  rw [Lib.toList_data,Bool.eq_iff_iff,beq_iff_eq];simp [str]
 obtain ⟨m,hm⟩:∃ m,l.length=m:=⟨_,rfl⟩
 rw [hm] at hsz hok;have S1:=ae s1;have S2:=ae s2;clear hm hi hj hib0 hib1 hx0 hx1 e0 e1 e47 s1 s2
 by_cases h3:(m:Int)<1
 ·have hr:Hid (cy l=false):=by show _=_;rw [hok.out,decide_eq_false (p:=1≤m) (by omega),Bool.false_and,Bool.false_and]
  go_enter Tryz.func133,Tryz.ntmps133
  go_wp2_with fail
  exact HQ.out _ _ ⟨by rw [hr.out];try (first|rfl|simp),rfl⟩
 by_cases h4:(28:Int)<(m:Int)
 ·have hr:Hid (cy l=false):=by show _=_;rw [hok.out,decide_eq_false (p:=m≤28) (by omega),Bool.false_and,Bool.and_false,Bool.false_and]
  go_enter Tryz.func133,Tryz.ntmps133
  go_wp2_with fail
  exact HQ.out _ _ ⟨by rw [hr.out];try (first|rfl|simp),rfl⟩
 have hok2:Hid (cy l=(decide (ix<0) && (decide (iy<0) && (decide (l≠[46]) && decide (l≠[46,46]))))):=by grind
 by_cases h5:(0:Int)≤iy
 ·have hr:Hid (cy l=false):=by show _=_;rw [hok2.out,decide_eq_false (p:=iy<0) (by omega),Bool.false_and,Bool.and_false]
  go_enter Tryz.func133,Tryz.ntmps133
  go_wp2_with fail
  refine (Hib1.out _).mono ?_;rintro e w2 ⟨rfl,rfl⟩
  go_wp2_with fail
  exact HQ.out _ _ ⟨by rw [hr.out];try (first|rfl|simp),rfl⟩
 by_cases h6:(0:Int)≤ix
 ·have hr:Hid (cy l=false):=by show _=_;rw [hok2.out,decide_eq_false (p:=ix<0) (by omega),Bool.false_and]
  go_enter Tryz.func133,Tryz.ntmps133
  go_wp2_with fail
  refine (Hib1.out _).mono ?_;rintro e w2 ⟨rfl,rfl⟩
  go_wp2_with fail
  refine (Hib0.out _).mono ?_;rintro e w3 ⟨rfl,rfl⟩
  go_wp2_with fail
  exact HQ.out _ _ ⟨by rw [hr.out];try (first|rfl|simp),rfl⟩
 have hok3:Hid (cy l=(decide (l≠[46]) && decide (l≠[46,46]))):=by grind
 have n1:=S1.out;have n2:=S2.out;generalize decide (l≠[46])=p at *;generalize decide (l≠[46,46])=q at *;cases p <;> cases q
 all_goals
  go_enter Tryz.func133,Tryz.ntmps133
  go_wp2_with fail
  refine (Hib1.out _).mono ?_;rintro e w2 ⟨rfl,rfl⟩
  go_wp2_with fail
  refine (Hib0.out _).mono ?_;rintro e w3 ⟨rfl,rfl⟩
  go_wp2_with fail
  exact HQ.out _ _ ⟨by rw [hok3.out];try (first|rfl|simp),rfl⟩
end Go.Fs
namespace Go.SL
open Go.RowKit
def aM.may (e:aM):Prop:=e.ok=true∨e=aM.no
theorem aM.Cn {e:aM} (h:e.may):e.nm.length≤28∧e.nd≤3839:=by
 rcases h with h|rfl
 ·have:=aM.kR.1 h
  have h2:=pK.1 this.2.2;exact ⟨h2.2.1,this.2.1⟩
 ·exact ⟨by decide,by decide⟩
theorem CW {a:Int} {s:Nat} (rest:List UInt8) (h0:0≤a) (h1:a<(256:Int) ^ s):ia (cZ a s++rest) s=a:=by
 rw [lo a s rest s (Nat.le_refl _),Int.emod_eq_of_lt h0 h1]
theorem aM.parts {e:aM} (hm:e.may) {L rest:List UInt8} {o:Nat} (h:L.drop o=e.enc++rest) :
  ia (L.drop o) 2=(e.nd:Int)∧ia (L.drop (o+2)) 1=(e.nm.length:Int)∧(L.drop (o+3)).take 29=e.nm++zs (29-e.nm.length):=by
 obtain ⟨h1,h2⟩:=aM.Cn hm
 have e2:L.drop (o+2)=cZ e.nm.length 1++((e.nm++zs (29-e.nm.length))++rest):=by
  rw [← List.drop_drop,h];unfold aM.enc;rw [List.append_assoc,List.drop_left' (aS _ _)];simp only [List.append_assoc]
 have e3:L.drop (o+3)=(e.nm++zs (29-e.nm.length))++rest:=by
  rw [show o+3=(o+2)+1 by omega,← List.drop_drop,e2,List.drop_left' (aS _ _)]
 refine ⟨?_,?_,?_⟩
 ·rw [h];unfold aM.enc;rw [List.append_assoc];exact CW _ (by omega) (by omega)
 ·rw [e2];exact CW _ (by omega) (by omega)
 ·rw [e3,List.take_left']
  rw [List.length_append,aT];omega
end Go.SL
namespace Go.Fs
open Go.RowKit Go.SL Go.Ba
def Mg (r g cap:Nat) (cur:Array Value) (L:List UInt8) (o n:Nat) (w:World) (F:ah) (e:Ending) (w':World):Prop:=
 ∃ v,e = .returned v∧Sat w' (bs 5 v ((L.drop o).take n)*(bQ r g cap cur L (o+n)*F))∧ai w w'
theorem Bc (w:World) (r g cap:Nat) (cur:Array Value) (L:List UInt8) (o n:Nat) (F:ah) (h:Sat w (bQ r g cap cur L o*F)) (ho:o<L.length) (hn:o+n≤L.length) (hl:L.length≤1000000) :
  Calls Tryz.prog 197 #[ax r,.int .i64 (n:Int)] w (Mg r g cap cur L o n w F):=by
 have hnx:=sk w r g cap cur L o n F h ho hn hl
 go_enter Tryz.func197,Tryz.ntmps197
 go_wp2_with fail
 (refine hnx.mono ?_)
 rintro e w2 ⟨c,rfl,h2,d2⟩;have hlen:((L.drop o).take n).length=n:=by rw [List.length_take,List.length_drop];omega
 have hrd:=pZ h2 o n c (by omega);have hN:Sat w2 (bs 5 (.slice none 0 0) []*(bQ r g cap cur L (o+n)*F)):=h2.eA _ _;obtain ⟨v',w3,hrun,h3,d3,a3,c3,rfl⟩:=gN hN hrd (by simp) (by omega);simp only [List.length_nil,Nat.zero_add,hlen] at hrun h3;have Hrun:=ae hrun;rw [List.nil_append] at h3
 go_wp2_with (at_builtin;refine wpList_append_run Hrun.out _ _ rfl rfl rfl rfl rfl ?_)
 go_ret
 exact ⟨_,rfl,h3,d2.trans d3⟩
theorem I4:(Tryz.prog.info? 99).map (·.size)=some 2:=by kernel_rfl
def Qv (r g cap:Nat) (cur:Array Value) (L:List UInt8) (o:Nat) (x:aM) (w:World) (F:ah) (e:Ending) (w':World):Prop:=
 e = .returned (.tuple #[x.v,.bool true])∧Sat w' (bQ r g cap cur L (o+32)*F)∧ai w w'
def Pz (m:Nat) (u:Value):Prop:=∃ k:Nat,k≤29-m∧u = .int .i64 (k:Int)
theorem pI {w:World} {tmps:Array Value} {a:Nat} {e:Value} {X:Array Value} {F:ah} (h2:tmps[2]?=some (ax a)) (h3:tmps[3]?=some e) (ha:Sat w (pt a (.cells X 99 (0,0))*F)) (hX:X.size=2) :
  (results Tryz.f287 tmps).run Tryz.prog w = .ok (.tuple #[.agg X,e]) w:=by
 have hl:=run_loadVar_row (P:=Tryz.prog) w a 99 99 X (0,0) _ ha.heap Tryz.underlying99 rfl (by rw [hX];exact I4);simp [results,Tryz.results287,h2,h3,asAddr,hl]
theorem Jl (w:World) (r g cap:Nat) (cur:Array Value) (L rest:List UInt8) (o:Nat) (x:aM) (F:ah) (h:Sat w (bQ r g cap cur L o*F)) (hx:x.may) (ho:o+32≤L.length) (hL:L.drop o=x.enc++rest) (hl:L.length≤1000000) :
  Calls Tryz.prog 287 #[ax r] w (Qv r g cap cur L o x w F):=by
 refine aI fun Q HQ=>?_;obtain ⟨p1,p2,p3⟩:=aM.parts hx hL;obtain ⟨q1,q2⟩:=aM.Cn hx;have hA:=h.alloc (.cells #[.int .i64 0,.string ⟨#[]⟩] 99 (0,0));have dA:=ae ((ai.refl w).alloc (.cells #[.int .i64 0,.string ⟨#[]⟩] 99 (0,0)));have HX:=ae hx;have HP1:=ae p1;have HP2:=ae p2;have HP3:=ae p3;have hB:=hA.to (by ac_rfl:_=bQ r g cap cur L o*(pt w.heap.size (.cells #[.int .i64 0,.string ⟨#[]⟩] 99 (0,0))*F));have hn1:=im _ r g cap cur L o 2 _ hB (by omega) (by omega) (by decide) hl;have Hn1:=ae hn1
 go_enter Tryz.func287,Tryz.ntmps287
 go_wp2_with fail
 refine Hn1.out.mono ?_;generalize w.heap.size=rc at *;rintro e w2 ⟨rfl,h2,d2⟩;have D2:=ae (dA.out.trans d2);have hn2:=im _ r g cap cur L (o+2) 1 _ h2 (by omega) (by omega) (by decide) hl;have Hn2:=ae hn2;have q1':(x.nm.length:Int)≤28:=by omega
 rw [HP1.out]
 go_wp2_with fail
 refine Hn2.out.mono ?_;rintro e w3 ⟨rfl,h3,d3⟩;have D3:=ae (D2.out.trans d3);have hb:=Bc _ r g cap cur L (o+2+1) 29 _ h3 (by omega) (by omega) hl;have Hb:=ae hb;rw [HP2.out];obtain ⟨m,hm⟩:∃ m,x.nm.length=m:=⟨_,rfl⟩
 have HM:=ae hm;rw [hm] at q1 q1';rw [hm]
 go_wp2_with fail
 refine Hb.out.mono ?_;rintro e w4 ⟨v,rfl,h4,d4⟩;have D4:=ae (D3.out.trans d4)
 have h4':Sat w4 (bs 5 v (x.nm++zs (29-m))*(bQ r g cap cur L (o+32)*(pt rc (.cells #[.int .i64 0,.string ⟨#[]⟩] 99 (0,0))*F))):=by
  rw [HP3.out,HM.out] at h4;exact h4
 have hlen:(x.nm++zs (29-m)).length=29:=by rw [List.length_append,aT,HM.out];omega
 obtain ⟨g2,c2,rfl,k1,k2,k3,-,-⟩:=Ic h4' (i:=0) (by omega);rw [hlen];rw [hlen] at k1 k3
 have hz:∀ k,k<29-m→w4.cell? ⟨g2,m+k,none⟩=some (.int .u8 0):=fun k hk=>by
  rw [k3 (m+k) (by omega),List.getD,List.getElem?_append_right (by rw [HM.out];omega),HM.out];unfold zs;rw [List.getElem?_replicate,if_pos (by omega)];rfl
 have hrd:Rd w4 (.slice (some ⟨g2,0,none⟩) 29 c2) (x.nm++zs (29-m)):=by have:=h4'.nB;rw [hlen] at this;exact ⟨by rw [hlen];exact this.1,by rw [hlen];exact this.2⟩
 have hnm:Rd w4 (.slice (some ⟨g2,0,none⟩) m c2) x.nm:=by
  rcases hrd.2 with ⟨e,-⟩|⟨a,c,e,ha⟩
  ·cases e
  ·simp only [Value.slice.injEq,Option.some.injEq] at e
   obtain ⟨rfl,-,rfl⟩:=e;refine ⟨by simp,.inr ⟨_,_,by rw [HM.out],fun j u hu=>ha j u ?_⟩⟩;rw [List.map_append,List.getElem?_append_left (by have:=(List.getElem?_eq_some_iff.1 hu).1;exact this)];exact hu
 have t1:=py w4 _ _ hnm;have H4:=ae h4';have Hz:=ae hz;have k1':(29:Int)≤(c2:Int):=by omega
 have k2':(c2:Int)≤9223372036854775807:=by unfold maxLen at k2;omega
 have T1:=ae t1
 go_wp2_with fail
 go_loop [27] (fun u=>Pz m u) (fun u=>29-m-(Proofs.intOf u).toNat)
 case atStart=>exact ⟨0,Nat.zero_le _,rfl⟩
 case round=>
  obtain ⟨k,hk,rfl⟩:=hrel
  by_cases hlt:k<29-m
  ·have hlt':(k:Int)<29-(m:Int):=by omega
   have hmk:((29-m:Nat):Int)=29-(m:Int):=by omega
   go_wp2_with fail
   go_round
   case rel=>exact ⟨k+1,by omega,by go_num⟩
   case measure=>simp [Proofs.intOf];omega
  ·obtain rfl:k=29-m:=by omega
   have hmk:((29-m:Nat):Int)=29-(m:Int):=by omega
   have t1:=T1.out;clear T1
   go_upto_region 13 with (fail)
   have hB:=(H4.out.alloc (.cells #[.int .i64 (x.nd:Int),.string (str x.nm)] 99 (0,0))).to (by ac_rfl:_=pt w4.heap.size (.cells #[.int .i64 (x.nd:Int),.string (str x.nm)] 99 (0,0))*(pt rc (.cells #[.int .i64 0,.string ⟨#[]⟩] 99 (0,0))*(bQ r g cap cur L (o+32)*(F*bs 5 (.slice (some ⟨g2,0,none⟩) (x.nm++zs (29-m)).length c2) (x.nm++zs (29-m))))));have dB:=ae (D4.out.alloc (.cells #[.int .i64 (x.nd:Int),.string (str x.nm)] 99 (0,0)));generalize w4.alloc (.cells #[.int .i64 (x.nd:Int),.string (str x.nm)] 99 (0,0))=w5 at *;generalize w4.heap.size=ec at *;have HB:=ae hB;have e0:=hB.cell 0;have e1:=hB.cell 1;rcases HX.out with hok|hno
   ·have h1:¬ (x.nd:Int)=0:=by have:=(aM.kR.1 hok).1;omega
    have hr:=tY w5 x;rw [hok] at hr;have Hr:=ae hr;clear hok hr
    go_wp2_with fail
    refine Hr.out.mono ?_;rintro e w6 ⟨rfl,h6,d6⟩;have hB:=h6.dO HB.out;have e0:=hB.cell 0;have e1:=hB.cell 1;have r0:=hB.ag.cell 0;have r1:=hB.ag.cell 1;have f0:=hB.ag.frozen 0;have f1:=hB.ag.frozen 1;have HC:=ae ((hB.ag.setCell 0 (.int .i64 (x.nd:Int))).setCell 1 (.string (str x.nm)));have dC:=ae (((dB.out.trans d6).setCell ⟨rc,0,none⟩ (.int .i64 (x.nd:Int))).setCell ⟨rc,1,none⟩ (.string (str x.nm)))
    go_wp2_with fail
    exact bodyPost_ret (pI rfl rfl HC.out rfl) rfl (HQ.out _ _ ⟨rfl,(HC.out.right.right.to (aw _ _ _).symm).left,dC.out⟩)
   ·subst hno
    have r0:=HB.out.ag.cell 0;have r1:=HB.out.ag.cell 1;have f0:=HB.out.ag.frozen 0;have f1:=HB.out.ag.frozen 1;have HC:=ae ((HB.out.ag.setCell 0 (.int .i64 0)).setCell 1 (.string ⟨#[]⟩));have dC:=ae ((dB.out.setCell ⟨rc,0,none⟩ (.int .i64 0)).setCell ⟨rc,1,none⟩ (.string ⟨#[]⟩));have e0':=e0;have e1':w5.cell? ⟨ec,1,none⟩=some (.string ⟨#[]⟩):=e1;clear HB e0 e1
    go_wp2_with fail
    exact bodyPost_ret (pI rfl rfl HC.out rfl) rfl (HQ.out _ _ ⟨rfl,(HC.out.right.right.to (aw _ _ _).symm).left,dC.out⟩)
end Go.Fs
namespace Go.SL
open Go.RowKit
def dG (Es:List aM):List UInt8:=Es.flatMap aM.enc
theorem aM.LH {e:aM} (h:e.may):e.enc.length=32:=by
 rcases h with h|rfl
 ·exact aM.dN h
 ·rw [aM.JD];exact aT 32
theorem gC:∀ {Es:List aM},(∀ e ∈ Es,e.may)→(dG Es).length=32*Es.length
 | [],_=>rfl
 | e :: Es,h=>by
  have:=gC (Es:=Es) fun x hx=>h x (List.mem_cons_of_mem _ hx);unfold dG at this ⊢;rw [List.flatMap_cons,List.length_append,this,aM.LH (h e (List.mem_cons_self ..)),List.length_cons];omega
theorem jH (A B:List aM):dG (A++B)=dG A++dG B:=by unfold dG;rw [List.flatMap_append]
theorem EA {Es:List aM} (h:∀ e ∈ Es,e.may) {k:Nat} (hk:k<Es.length):(dG Es).drop (32*k)=(Es[k]).enc++dG (Es.drop (k+1)):=by
 have e:Es=Es.take k++(Es[k] :: Es.drop (k+1)):=by simp
 have hl:(dG (Es.take k)).length=32*k:=by
  rw [gC fun x hx=>h x (List.mem_of_mem_take hx),List.length_take];omega
 conv=>lhs;rw [e]
 rw [jH,List.drop_left' hl]
 rfl
end Go.SL
namespace Go.Fs
open Go.RowKit Go.SL Go.Ba
attribute [local go_sem] Oper.semAt_some
def QG (e:aM) (vs:Array Value):ah:=fact (vs=#[e.v,.bool true])
def rH (bx:Nat) (v:Value) (Es:List aM):ah:=pt bx (.cells #[v] 37 (0,0))*bs 5 v (dG Es)
def wK (r g cap:Nat) (cur:Array Value) (A:List aM→ah) (Es:List aM) (X:ah) (w0:World) (k:Nat) (wr:World):Prop:=
 ∃ j:Nat,j≤Es.length∧Es.length≤j+k∧ai w0 wr∧Sat wr (bQ r g cap cur (dG Es) (32*j)*(A (Es.take j)*X))
theorem BK {Es:List aM} {k:Nat} (h:k<Es.length):Es.take k++[Es[k]]=Es.take (k+1):=by simp_all
theorem Bk (n:Nat) (bx:Nat) (v:Value) (Es:List aM) (hm:∀ e ∈ Es,e.may) (h0:0<Es.length) (hl:Es.length≤15) :
  fE Fence.wide n Tryz.prog 286 #[.pointer (some ⟨bx,0,none⟩)] (rH bx v Es) QG (fun ys=>ys=Es) (fun ys=>ys <+: Es):=by
 intro lp A Ax G w0 w hY hs h;have hlen:=gC hm;have hB:Sat w (pt bx (.cells #[v] 37 (0,0))*(bs 5 v (dG Es)*(A []*G))):=h.to (by unfold rH;ac_rfl);have c0:=hB.cell 0;have hr:=lN w v (dG Es) hB.ag.nB (by omega) (by omega);have H:=ae h;have HM:=ae hm;have HL:=ae hlen;refine callsIn_of_wp Tryz.func286 rfl trivial ?_ rfl;simp only [Tryz.ntmps286,List.size_toArray,List.length_cons,List.length_nil,Nat.reduceAdd,Nat.reduceSub,Array.replicate_succ,Array.replicate_zero,List.push_toArray,List.append_toArray,List.nil_append,List.cons_append]
 gi_wp2_with fail
 refine kh hr ?_;rintro e w1 ⟨r,g,cap,cur,rfl,h1,d1⟩;have hst:=h1.under H.out;have ds:=hs.trans d1
 gi_wp2
 gi_loopw [] (fun wr=>∃ k,wK r g cap cur A Es (rH bx v Es*G) w0 k wr) (fun wr=>leastOf (fun k=>wK r g cap cur A Es (rH bx v Es*G) w0 k wr))
 case atStart=>exact ⟨Es.length,0,Nat.zero_le _,by omega,ds,hst⟩
 case round=>
  obtain ⟨hk,hmin⟩:=leastOf_spec hrel;generalize leastOf (fun k=>wK r g cap cur A Es (rH bx v Es*G) w0 k wr)=gk at hk hmin ⊢;obtain ⟨j,hj,hjk,hside,hsat⟩:=hk;have hleft:=yJ wr r g cap cur (dG Es) (32*j) _ hsat;rw [HL.out] at hleft
  by_cases hlt:j<Es.length
  ·obtain ⟨q,hq⟩:∃ q,32*Es.length-32*j=q:=⟨_,rfl⟩
   rw [hq] at hleft;have hq1:(32:Int)≤(q:Int):=by omega
   have hmay:=HM.out _ (List.getElem_mem hlt);have hdr:=EA HM.out hlt;have hsl:=Jl wr r g cap cur (dG Es) (dG (Es.drop (j+1))) (32*j) Es[j] _ hsat hmay (by rw [HL.out];omega) hdr (by rw [HL.out];omega);have hsn:=BK hlt;have hpre:Es.take j++[Es[j]] <+: Es:=by rw [hsn];exact List.take_prefix _ _
   have Hsl:=ae hsl;have Hsn:=ae hsn;have Hpre:=ae hpre;have HJ:=ae hjk;generalize Es[j]=x at *
   gi_wp2_with fail
   refine kh hleft ?_;rintro e w2 ⟨rfl,rfl⟩
   gi_wp2_with fail
   refine kh Hsl.out ?_;rintro e w3 ⟨rfl,h3,d3⟩;have hA:=h3.alloc (.cells #[.int .i64 (x.nd:Int),.string (str x.nm)] 99 (0,0));have dA:=(hside.trans d3).alloc (.cells #[.int .i64 (x.nd:Int),.string (str x.nm)] 99 (0,0));unfold aM.v
   have hB:Sat (w3.alloc (.cells #[.int .i64 (x.nd:Int),.string (str x.nm)] 99 (0,0))) (A (Es.take j)*(QG x #[.agg #[.int .i64 (x.nd:Int),.string (str x.nm)],.bool true]*(bQ r g cap cur (dG Es) (32*j+32)*(rH bx v Es*G)))):=by
    have h9:=hA.right;have h10:=h9.to (by ac_rfl:_=A (Es.take j)*(bQ r g cap cur (dG Es) (32*j+32)*(rH bx v Es*G)));exact Sat.ag (Sat.ak.2 ⟨rfl,h10⟩)
   obtain ⟨fn,tmps,assign,body,hy,hR⟩:=hY (Es.take j) x #[.agg #[.int .i64 (x.nd:Int),.string (str x.nm)],.bool true] _ _ Hpre.out dA hB
   gi_wp2
   refine ⟨fun h=>(by cases h),hR.mono ?_⟩;rintro e W' (⟨rfl,hs5,hsat5⟩|⟨rfl,hs5,hsat5⟩)
   ·have hrel':wK r g cap cur A Es (rH bx v Es*G) w0 (gk-1) W':=
     ⟨j+1,hlt,by have:=HJ.out;omega,hs5,by rw [← Hsn.out,Nat.mul_add];exact hsat5.ag⟩
    gi_wp2
    go_roundw
    case rel=>exact ⟨_,hrel'⟩
    case measure=>exact Nat.lt_of_le_of_lt ((leastOf_spec ⟨_,hrel'⟩).2 _ hrel') (by have:=HJ.out;omega)
   ·gi_wp2
    refine bodyPost_ret (results_none rfl _ _ _) rfl ?_;exact ⟨⟨_,rfl⟩,hs5,.inr ⟨_,Hpre.out,hsat5.gZ⟩⟩
  ·obtain rfl:j=Es.length:=by omega
   rw [Nat.sub_self] at hleft;have hleft2:=hleft;rw [List.take_length] at hsat;have HS:=ae hsat.right
   gi_wp2_with fail
   refine kh hleft2 ?_;rintro e w2 ⟨rfl,rfl⟩
   gi_wp2
   go_end0
   exact ⟨⟨_,rfl⟩,hside,.inl ⟨_,rfl,HS.out⟩⟩
end Go.Fs
namespace Go.SL
open Go.RowKit
def bk (P:List aM):List Value:=P.flatMap aM.cells
theorem wJ (P:List aM):(bk P).length=P.length*2:=by
 unfold bk
 induction P with
 | nil=>rfl
 | cons e P ih=>rw [List.flatMap_cons,List.length_append,ih,List.length_cons];show 2+_=_;omega
theorem kX (A B:List aM):bk (A++B)=bk A++bk B:=by unfold bk;rw [List.flatMap_append]
theorem Ea {P:List aM} {k:Nat} (hk:k<P.length):(bk P)[k*2]?=some (.int .i64 ((P[k]).nd:Int))∧(bk P)[k*2+1]?=some (.string (str (P[k]).nm)):=by
 have e:P=P.take k++(P[k] :: P.drop (k+1)):=by rw [List.getElem_cons_drop hk,List.take_append_drop]
 have hl:(bk (P.take k)).length=k*2:=by rw [wJ,List.length_take];omega
 have e2:bk P=bk (P.take k)++(.int .i64 ((P[k]).nd:Int) :: .string (str (P[k]).nm) :: bk (P.drop (k+1))):=by
  conv=>lhs;rw [e]
  rw [kX];rfl
 rw [e2];constructor
 ·rw [List.getElem?_append_right (by omega),hl,Nat.sub_self];rfl
 ·rw [List.getElem?_append_right (by omega),hl,show k*2+1-k*2=1 by omega];rfl
theorem EI (P:List aM):∀ u ∈ bk P,u.oneCell'=true:=by
 intro u hu;obtain ⟨e,_,h⟩:=List.mem_flatMap.1 hu;simp only [aM.cells,List.mem_cons,List.not_mem_nil,or_false] at h;rcases h with rfl|rfl <;> rfl
def placesOf (P:List aM):List aM:=P++List.replicate (15-P.length) aM.no
theorem iQ {P:List aM} (h:∀ e ∈ P,e.ok=true):∀ e ∈ placesOf P,e.may:=by
 intro e he;rcases List.mem_append.1 he with h1|h1
 ·exact .inl (h e h1)
 ·exact .inr (List.eq_of_mem_replicate h1)
def dz (ys:List aM):List aM:=ys.filter fun e=>e.ok
def fu (ys:List aM):Bool:=ys.any fun e => !e.ok
theorem CI:aM.no.ok=false:=by decide
theorem uB {P:List aM} (h:∀ e ∈ P,e.ok=true):dz (placesOf P)=P:=by
 unfold dz placesOf;rw [List.filter_append,List.filter_eq_self.2 h,List.filter_eq_nil_iff.2 (fun e he=>by rw [List.eq_of_mem_replicate he,CI];exact Bool.noConfusion),List.append_nil]
theorem BZ {P:List aM} (h:∀ e ∈ P,e.ok=true) {pre:List aM} {x:aM} (hp:pre++[x] <+: placesOf P) (hx:x.ok=true):fu pre=false∧pre.length<P.length:=by
 obtain ⟨t,ht⟩:=hp
 have hlt:pre.length<P.length:=by
  refine Nat.lt_of_not_le fun hle=>?_;have e1:(placesOf P)[pre.length]?=some x:=by grind
  unfold placesOf at e1;rw [List.getElem?_append_right hle,List.getElem?_replicate] at e1
  split at e1
  ·injection e1 with e1
   rw [← e1,CI] at hx;cases hx
  ·cases e1
 refine ⟨?_,hlt⟩;unfold fu;rw [List.any_eq_false];intro e he
 have:e ∈ P:=by
  obtain ⟨i,hi,hie⟩:=List.getElem_of_mem he;have e1:(placesOf P)[i]?=some e:=by grind
  unfold placesOf at e1;rw [List.getElem?_append_left (by omega)] at e1;exact List.mem_of_getElem? e1
 rw [h e this];decide
theorem Bg {P:List aM} (h:∀ e ∈ P,e.ok=true) {pre:List aM} {x:aM} (hp:pre++[x] <+: placesOf P):x.may:=by
 obtain ⟨t,ht⟩:=hp;exact iQ h x (by rw [← ht];simp)
end Go.SL
namespace Go.Fs
open Go.RowKit Go.SL Go.Ba
attribute [local go_sem] Oper.semAt_some
def KQ (v:Value) (w:World) (e:Ending) (w':World):Prop:=e = .returned (.func (.func 286) #[] #[.pointer (some ⟨w.heap.size,0,none⟩)])∧w'=w.alloc (.cells #[v] 37 (0,0))
theorem A2 (w:World) (a:Option Addr) (n c:Nat):Calls Tryz.prog 266 #[.slice a n c] w (KQ (.slice a n c) w):=by
 go_enter Tryz.func266,Tryz.ntmps266
 go_wp2
 go_ret
 exact ⟨rfl,rfl⟩
theorem wq:(Tryz.prog.info? 99).map (fun i=>(i.zero,i.size,i.bytes))=some (some (.agg #[.int .i64 0,.string ⟨#[]⟩]),2,24):=by kernel_rfl
def Cw (lc ec:Nat) (ys:List aM):ah:=ex fun v=>pt lc (.cells #[v] 95 (0,0))*(sl 99 2 v (dz ys).length (bk (dz ys))*pt ec (.cells #[.bool (fu ys)] 4 (0,0)))
def OI (va:Option Addr) (vc r0 r1 lc ec bx:Nat) (pre:List aM) (x:aM) (a':Act):ah:=ex fun c:Nat=>
 fact (a'={ tmps:=#[.slice va 480 vc,undef,ax r0,ax r1,ax lc,ax ec,ax c,.bool true,.slice va 480 vc,.int .i64 480,.bool false,.slice va 480 vc,.func (.func 286) #[] #[ax bx],x.v,.bool true,undef,undef,undef,undef,undef,undef,undef,undef,undef,undef,undef,undef,undef,undef],defers:=[] }) *
  (pt c (.cells #[.int .i64 (x.nd:Int),.string (str x.nm)] 99 (0,0))*Cw lc ec pre)
theorem DM (pre:List aM):dz (pre++[aM.no])=dz pre∧fu (pre++[aM.no])=true:=by
 unfold dz fu;rw [List.filter_append,List.any_append];refine ⟨?_,?_⟩
 ·rw [show List.filter (fun e:aM=>e.ok) [aM.no]=[] from by rw [List.filter_cons_of_neg (by rw [CI];exact Bool.noConfusion)];rfl,List.append_nil]
 ·rw [show List.any [aM.no] (fun e:aM => !e.ok)=true from by rw [List.any_cons,CI];rfl,Bool.or_true]
theorem EH (pre:List aM) {x:aM} (h:x.ok=true):dz (pre++[x])=dz pre++[x]∧fu (pre++[x])=fu pre:=by
 unfold dz fu;rw [List.filter_append,List.any_append];refine ⟨?_,?_⟩
 ·rw [show List.filter (fun e:aM=>e.ok) [x]=[x] from List.filter_cons_of_pos h]
 ·rw [show List.any [x] (fun e:aM => !e.ok)=false from by rw [List.any_cons,h];rfl,Bool.or_false]
theorem LJ (ys:List aM):(dz ys).length≤ys.length:=List.length_filter_le _ _
theorem rJ {w:World} {tmps:Array Value} {a b:Nat} {v e:Value} {F:ah} (h2:tmps[2]?=some (ax a)) (h3:tmps[3]?=some (ax b)) (h:Sat w (pt a (.cells #[v] 95 (0,0))*(pt b (.cells #[e] 28 (0,0))*F))) :
  (results Tryz.f242 tmps).run Tryz.prog w = .ok (.tuple #[v,e]) w:=by
 have c0:=h.cell 0;have c1:=h.ag.cell 0;simp [results,Tryz.results242,h2,h3,asAddr,ax,go_sem,c0,c1]
def PC (v:Value) (P:List aM) (F:ah) (w:World) (e:Ending) (w':World):Prop:=
 ∃ u,e = .returned (.tuple #[u,.int .i64 0])∧Sat w' (sl 99 2 u P.length (bk P)*(bs 5 v (dG (placesOf P))*F))∧ai w w'
theorem zw (w:World) (v:Value) (P:List aM) (hP:∀ e ∈ P,e.ok=true) (hl:P.length≤15) (F:ah) (h:Sat w (bs 5 v (dG (placesOf P))*F)) :
  Calls Tryz.prog 242 #[v] w (PC v P F w):=by
 obtain ⟨i0,hi,hz,hs0,hb0⟩:=info_parts wq;have hpl:(placesOf P).length=15:=by unfold placesOf;rw [List.length_append,List.length_replicate];omega
 have hlen:(dG (placesOf P)).length=480:=by rw [gC (iQ hP),hpl]
 obtain ⟨va,vc,rfl⟩:=aB h;have hA:=(((h.alloc (.cells #[.slice none 0 0] 95 (0,0))).alloc (.cells #[.int .i64 0] 28 (0,0))).alloc (.cells #[.slice none 0 0] 95 (0,0))).alloc (.cells #[.bool false] 4 (0,0));have dA:=((((ai.refl w).alloc (.cells #[.slice none 0 0] 95 (0,0))).alloc (.cells #[.int .i64 0] 28 (0,0))).alloc (.cells #[.slice none 0 0] 95 (0,0))).alloc (.cells #[.bool false] 4 (0,0));simp only [World.size_alloc] at hA;rw [hlen] at hA ⊢;refine (callsIn_wide (n:=9)).1 ?_;refine callsIn_of_wp_marks Tryz.func242 rfl trivial ?_ rfl;simp only [Tryz.ntmps242,List.size_toArray,List.length_cons,List.length_nil,Nat.reduceAdd,Nat.reduceSub,Array.replicate_succ,Array.replicate_zero,List.push_toArray,List.append_toArray,List.nil_append,List.cons_append]
 gi_wp2_with fail
 generalize (((w.alloc (.cells #[.slice none 0 0] 95 (0,0))).alloc (.cells #[.int .i64 0] 28 (0,0))).alloc (.cells #[.slice none 0 0] 95 (0,0))).alloc (.cells #[.bool false] 4 (0,0))=w1 at *;refine l8 (A2 w1 va 480 vc) ?_;rintro en w2 ⟨rfl,rfl⟩;have hB:=hA.alloc (.cells #[.slice va 480 vc] 37 (0,0));have dB:=dA.alloc (.cells #[.slice va 480 vc] 37 (0,0));clear hA dA
 gi_wp2_with fail
 generalize w1.alloc (.cells #[.slice va 480 vc] 37 (0,0))=w2 at *;generalize w1.heap.size=bx at *;generalize w.heap.size+1+1+1=ec at *;generalize w.heap.size+1+1=lc at *;generalize w.heap.size+1=r1 at *;generalize w.heap.size=r0 at *
 have hst:Sat w2 (Cw lc ec []*(rH bx (.slice va 480 vc) (placesOf P)*(pt r0 (.cells #[.slice none 0 0] 95 (0,0))*(pt r1 (.cells #[.int .i64 0] 28 (0,0))*F)))):=
  Sat.au.2 ⟨.slice none 0 0,by
   have:=(hB.eA 99 2)
   exact this.to (by unfold rH;show _=_*(sl _ 2 _ 0 []*pt ec (.cells #[.bool false] _ _))*_;ac_rfl)⟩
 clear hB h
 refine jl (w0:=w) rfl (by decide) (gf:=286) (lb:=#[.pointer (some ⟨bx,0,none⟩)]) rfl trivial (enters Tryz.func286 (by kernel_rfl) rfl)
  (Bk _ bx (.slice va 480 vc) (placesOf P) (iQ hP) (by omega) (by omega)) (Cw lc ec) (fun _ _=>fact False) (OI va vc r0 r1 lc ec bx)
  (pt r0 (.cells #[.slice none 0 0] 95 (0,0))*(pt r1 (.cells #[.int .i64 0] 28 (0,0))*F)) ?hps dB hst ?assign ?body ?done ?stop
 case hps=>
  intro x vs Fr W h;unfold QG at h;obtain ⟨rfl,_⟩:=Sat.ak.1 h
  rfl
 case assign=>
  intro lp r pre x vs Fr W K _ hsd H hK;have H1:=H.ag;unfold QG at H1;obtain ⟨rfl,H2⟩:=Sat.ak.1 H1;have hA:=H2.alloc (.cells #[.int .i64 (x.nd:Int),.string (str x.nm)] 99 (0,0));have hd:=hsd.alloc (.cells #[.int .i64 (x.nd:Int),.string (str x.nm)] 99 (0,0));clear H H1 H2
  have hk:=hK { tmps:=#[.slice va 480 vc,undef,ax r0,ax r1,ax lc,ax ec,ax W.heap.size,.bool true,.slice va 480 vc,.int .i64 480,.bool false,.slice va 480 vc,.func (.func 286) #[] #[ax bx],x.v,.bool true,undef,undef,undef,undef,undef,undef,undef,undef,undef,undef,undef,undef,undef,undef],defers:=[] } _ hd
   (by
    unfold OI;refine (Sat.au.2 ⟨W.heap.size,?_⟩);exact (Sat.ak.2 ⟨rfl,hA⟩:Sat _ (fact _*_)).to (by ac_rfl))
  clear hA hd hK;unfold aM.v at *
  gi_wp2
  exact hk
 case body=>
  intro lp r pre x a' Fr W hp hsd H;unfold OI at H;obtain ⟨c,H1⟩:=Sat.au.1 H;obtain ⟨rfl,H2⟩:=Sat.ak.1 (H1.to (aw _ _ _));clear H H1;have hmay:=Bg hP hp;have H3:Sat W (Cw lc ec pre*(pt c (.cells #[.int .i64 (x.nd:Int),.string (str x.nm)] 99 (0,0))*(pt lp (.loop r)*Fr))):=H2.to (by ac_rfl);obtain ⟨v,H4⟩:=Sat.au.1 H3;have H5:Sat W (pt lc (.cells #[v] 95 (0,0))*(pt ec (.cells #[.bool (fu pre)] 4 (0,0))*(pt c (.cells #[.int .i64 (x.nd:Int),.string (str x.nm)] 99 (0,0))*(sl 99 2 v (dz pre).length (bk (dz pre))*(pt lp (.loop r)*Fr))))):=H4.to (by ac_rfl);clear H2 H3 H4;have c0:=H5.cell 0;have c1:=H5.ag.cell 0;have c2:=H5.aq.cell 0;have c3:=H5.aq.cell 1;have f0:=H5.frozen 0;have f1:=H5.ag.frozen 0;rcases hmay with hok|rfl
  ·obtain ⟨e1,e2⟩:=BZ hP hp hok
   obtain ⟨o1,o2⟩:=EH pre hok;have h1:¬ (x.nd:Int)=0:=by have:=(aM.kR.1 hok).1;omega
   rw [e1] at c1 o2;have hle:=LJ pre;have hA:=H5.alloc (.cells #[.int .i64 (x.nd:Int),.string (str x.nm)] 99 (0,0))
   have hR:nA (W.alloc (.cells #[.int .i64 (x.nd:Int),.string (str x.nm)] 99 (0,0))) 2 (.slice (some ⟨W.heap.size,0,none⟩) 1 1) 1 [.int .i64 (x.nd:Int),.string (str x.nm)]:=
    ⟨rfl,.inr ⟨_,_,rfl,fun j u hu=>by
     rw [Addr.add_lit,Nat.zero_add];exact (hA.cell j).trans (by simpa using hu)⟩⟩
   have hA2:=hA.to (by ac_rfl:_=sl 99 2 v (dz pre).length (bk (dz pre))*(pt lc (.cells #[v] 95 (0,0))*(pt ec (.cells #[.bool (fu pre)] 4 (0,0))*(pt c (.cells #[.int .i64 (x.nd:Int),.string (str x.nm)] 99 (0,0))*(pt W.heap.size (.cells #[.int .i64 (x.nd:Int),.string (str x.nm)] 99 (0,0))*(pt lp (.loop r)*Fr))))));obtain ⟨v',w',hrun,hsat',hside'⟩:=Sat.append (P:=Tryz.prog) (ty:=95) Tryz.underlying95 hi hz hs0 hb0 rfl hA2 hR (by intro u hu;simp only [List.mem_cons,List.not_mem_nil,or_false] at hu;rcases hu with rfl|rfl <;> rfl) (by unfold maxLen;omega) (by omega);obtain ⟨aa,ac,rfl⟩:=aB hsat';have c0':=hsat'.ag.cell 0;have f0':=hsat'.ag.frozen 0;have hset:=hsat'.ag.setCell 0 (.slice aa ((dz pre).length+1) ac);have Hset:=ae hset;have Hrun:=ae hrun;have O1:=ae o1;have O2:=ae o2;have E1:=ae e1;have Hsd:=ae (((hsd.alloc (.cells #[.int .i64 (x.nd:Int),.string (str x.nm)] 99 (0,0))).trans hside').setCell ⟨lc,0,none⟩ (.slice aa ((dz pre).length+1) ac));unfold aM.v
   gi_wp2_with (gi_at_builtin;refine cY Hrun.out _ _ rfl rfl rfl rfl rfl ?_)
   refine ⟨Hsd.out,?_⟩;refine Sat.au.2 ⟨.slice aa ((dz pre).length+1) ac,?_⟩;rw [O1.out,O2.out,List.length_append,kX];have h6:=Hset.out;rw [E1.out] at h6;have h7:=h6.to (by ac_rfl:_=(pt c (.cells #[.int .i64 (x.nd:Int),.string (str x.nm)] 99 (0,0))*pt W.heap.size (.cells #[.int .i64 (x.nd:Int),.string (str x.nm)] 99 (0,0)))*(pt lc (.cells #[.slice aa ((dz pre).length+1) ac] 95 (0,0))*(sl 99 2 (.slice aa ((dz pre).length+1) ac) ((dz pre).length+1) (bk (dz pre)++[.int .i64 (x.nd:Int),.string (str x.nm)])*pt ec (.cells #[.bool false] 4 (0,0))*(pt lp (.loop r)*Fr))))
   exact h7.right.to (by
    have e:bk [x]=[.int .i64 (x.nd:Int),.string (str x.nm)]:=rfl;rw [e,List.length_singleton];ac_rfl)
  ·obtain ⟨o1,o2⟩:=DM pre
   have hset:=H5.ag.setCell 0 (.bool true);have Hset:=ae hset;have O1:=ae o1;have O2:=ae o2;have Hsd:=ae (hsd.setCell ⟨ec,0,none⟩ (.bool true));have c2':=c2;have c3':W.cell? ⟨c,1,none⟩=some (.string ⟨#[]⟩):=c3;have ev:aM.no.v = .agg #[.int .i64 0,.string ⟨#[]⟩]:=rfl;clear hi hz hs0 hb0 hset o1 o2 H5 hP hp hlen hpl c2 c3;rw [ev];clear ev
   gi_wp2_with fail
   refine ⟨Hsd.out,Sat.au.2 ⟨v,?_⟩⟩;rw [O1.out,O2.out];have h6:=Hset.out;exact (h6.to (by ac_rfl:_=pt c (.cells #[.int .i64 (aM.no.nd:Int),.string (str aM.no.nm)] 99 (0,0))*(pt lc (.cells #[v] 95 (0,0))*(sl 99 2 v (dz pre).length (bk (dz pre))*pt ec (.cells #[.bool true] 4 (0,0))*(pt lp (.loop r)*Fr))))).right.to (by ac_rfl)
 case done=>
  intro D2 ys W hS hsd H;subst hS;obtain ⟨v,H1⟩:=Sat.au.1 H;rw [uB hP] at H1;obtain ⟨aa,ac,rfl⟩:=aB (H1.to (by ac_rfl:_=sl 99 2 v P.length (bk P)*(pt lc (.cells #[v] 95 (0,0))*(pt ec (.cells #[.bool (fu (placesOf P))] 4 (0,0))*(rH bx (.slice va 480 vc) (placesOf P)*(pt D2 (.deferred (some []))*(pt r0 (.cells #[.slice none 0 0] 95 (0,0))*(pt r1 (.cells #[.int .i64 0] 28 (0,0))*F))))))));have H2:Sat W (pt D2 (.deferred (some []))*(pt lc (.cells #[.slice aa P.length ac] 95 (0,0))*(pt r0 (.cells #[.slice none 0 0] 95 (0,0))*(pt r1 (.cells #[.int .i64 0] 28 (0,0))*(sl 99 2 (.slice aa P.length ac) P.length (bk P)*(bs 5 (.slice va 480 vc) (dG (placesOf P))*(F*(pt bx (.cells #[.slice va 480 vc] 37 (0,0))*pt ec (.cells #[.bool (fu (placesOf P))] 4 (0,0)))))))))):=H1.to (by unfold rH;ac_rfl);have c0:=H2.ag.cell 0;have z0:=H2.aq.cell 0;have f0:=H2.aq.frozen 0;have f1:=H2.aC.frozen 0;have H3:=H2.aq.setCell 0 (.slice aa P.length ac);have z1':=H3.aC.cell 0;have f1':=H3.aC.frozen 0;have H4:=H3.aC.setCell 0 (.int .i64 0);have H5:=ae H4;have Hsd:=ae ((hsd.setCell ⟨r0,0,none⟩ (.slice aa P.length ac)).setCell ⟨r1,0,none⟩ (.int .i64 0))
  gi_wp2
  have h6:=H5.out;have h7:=h6.to (by ac_rfl:_=pt D2 (.deferred (some []))*(pt r0 (.cells #[.slice aa P.length ac] 95 (0,0))*(pt r1 (.cells #[.int .i64 0] 28 (0,0))*(sl 99 2 (.slice aa P.length ac) P.length (bk P)*(bs 5 (.slice va 480 vc) (dG (placesOf P))*(F*(pt lc (.cells #[.slice aa P.length ac] 95 (0,0))*(pt bx (.cells #[.slice va 480 vc] 37 (0,0))*pt ec (.cells #[.bool (fu (placesOf P))] 4 (0,0))))))))));have hK:=h7.heap;have h8:=(h7.putObj (.deferred none)).right;clear h6 h7;refine ⟨by simp,.inl ⟨_,_,rfl,run_takeDeferred hK,?_⟩⟩;refine ⟨_,rJ rfl rfl h8,⟨.slice aa P.length ac,rfl,?_,Hsd.out.putObj _ _⟩⟩;exact (h8.right.right.to (by ac_rfl:_=(sl 99 2 (.slice aa P.length ac) P.length (bk P)*(bs 5 (.slice va 480 vc) (dG (placesOf P))*F))*(pt lc (.cells #[.slice aa P.length ac] 95 (0,0))*(pt bx (.cells #[.slice va 480 vc] 37 (0,0))*pt ec (.cells #[.bool (fu (placesOf P))] 4 (0,0)))))).left
 case stop=>
  intro D c ys W _ _ H;exact (Sat.ak.1 H).1.elim
end Go.Fs
namespace Go.SL
open Go.RowKit
structure EE (f:AF) (L:List aM):Prop where
 kd:f.kd=2
 sz:f.sz=32*L.length
 ok:∀ e ∈ L,e.ok=true
 dat:∀ p,p<32*L.length→f.dat p=(dG L).getD p 0
 len:L.length≤3840
def fX (L:List aM) (i:Nat):List aM:=(L.drop (15*i)).take 15
theorem jk {L:List aM} (h:∀ e ∈ L,e.ok=true):(dG L).length=32*L.length:=gC fun e he=>.inl (h e he)
theorem Az {L:List aM} (h:∀ e ∈ L,e.ok=true) (k:Nat):(dG L).drop (32*k)=dG (L.drop k):=by
 by_cases hk:k≤L.length
 ·conv=>lhs;rw [← List.take_append_drop k L]
  rw [jH,List.drop_left'];rw [jk fun e he=>h e (List.mem_of_mem_take he),List.length_take];omega
 ·rw [List.drop_eq_nil_of_le (by omega:L.length≤k),List.drop_eq_nil_of_le (by rw [jk h];omega)];rfl
theorem BU {L:List aM} (h:∀ e ∈ L,e.ok=true) (k:Nat):(dG L).take (32*k)=dG (L.take k):=by
 by_cases hk:k≤L.length
 ·conv=>lhs;rw [← List.take_append_drop k L]
  rw [jH,List.take_left'];rw [jk fun e he=>h e (List.mem_of_mem_take he),List.length_take];omega
 ·rw [List.take_of_length_le (by omega:L.length≤k),List.take_of_length_le (by rw [jk h];omega)]
theorem Ks {L:List aM} (h:∀ e ∈ L,e.ok=true) (i:Nat):∀ e ∈ fX L i,e.ok=true:=fun e he=>h e (List.mem_of_mem_drop (List.mem_of_mem_take he))
theorem xj (L:List aM) (i:Nat):(fX L i).length=min 15 (L.length-15*i):=by unfold fX;rw [List.length_take,List.length_drop]
theorem Bb {L:List aM} (h:∀ e ∈ L,e.ok=true) (i:Nat):dG (fX L i)=((dG L).drop (480*i)).take 480:=by
 unfold fX;rw [show 480*i=32*(15*i) by omega,Az h,show 480=32*15 from rfl,BU fun e he=>h e (List.mem_of_mem_drop he)]
theorem EE.sub {f:AF} {L:List aM} (D:EE f L) (i:Nat):f.sub (480*i) (min 480 (32*L.length-480*i))=dG (fX L i):=by
 rw [Bb D.ok];unfold AF.sub;rw [D.sz];have hl:=jk D.ok;apply List.ext_getElem?;intro j
 by_cases hj:j<min 480 (32*L.length-480*i)
 ·rw [List.getElem?_map,List.getElem?_range (by omega),List.getElem?_take,if_pos (by omega),List.getElem?_drop]
  show some (f.dat (480*i+j))=_
  rw [D.dat _ (by omega),List.getD,List.getElem?_eq_getElem (by omega)];rfl
 ·rw [List.getElem?_eq_none (by rw [List.length_map,List.length_range];omega),List.getElem?_eq_none (by rw [List.length_take,List.length_drop];omega)]
theorem LV (k:Nat):dG (List.replicate k aM.no)=zs (32*k):=by
 induction k with
 | zero=>rfl
 | succ k ih=>
  rw [List.replicate_succ];show aM.no.enc++dG _=_
  rw [ih,aM.JD];unfold zs;rw [List.replicate_append_replicate];congr 1;omega
theorem A5 {P:List aM} (h:∀ e ∈ P,e.ok=true) (hl:P.length≤15):bJ 480 (dG P)=dG (placesOf P):=by
 unfold placesOf bJ;rw [jH,LV,List.take_append];have e:=jk h;rw [List.take_of_length_le (by omega)];congr 1;unfold zs;rw [List.take_replicate];congr 1;omega
theorem NN {w:World} {T:TypeId} {g n:Nat} {l:List UInt8} {F:ah} (hl:l.length=n) (h:Sat w (pt g (.cells (dp l) T (0,0))*F)) (hn:n≤1000000):Sat w (bs T (.slice (some ⟨g,0,none⟩) n n) l*F):=by
 have:=Sat.l7 (sz:=1) (n:=n) (cap:=n) h (Nat.le_refl _) (by unfold maxLen;omega) (by rw [ez];omega);rw [bs,hl];refine this.to ?_;congr 2;simp only [dp,Nat.mul_one,List.toList_toArray];rw [List.take_of_length_le (by simp;omega)]
end Go.SL
namespace Go.Fs
open Go.RowKit Go.SL Go.Ba
section
variable {n:Nat} {x:Fx n} {b k id:Nat} {A:Nat→Option AF} {f:AF} {L:List aM} {w:World} {F:ah}
def ML (x:Fx n) (b:Nat) (A:Nat→Option AF) (k:Nat) (P:List aM) (F:ah) (w:World) (e:Ending) (w':World):Prop:=
 ∃ u,e = .returned (.tuple #[u,.int .i64 0])∧ai w w'∧Sat w' (sl 99 2 u P.length (bk P)*(et x b A k*F))
theorem zO (h:Sat w (et x b A k*F)) (hf:A id=some f) (D:EE f L) (i:Nat) (m:Nat) (hm:m=min 480 (32*L.length-480*i)) (hi:15*i<L.length) :
  Calls Tryz.prog 212 #[gm b n,.int .i64 (id:Int),.int .i64 ((480*i:Nat):Int),.int .i64 (m:Int)] w (ML x b A k (fX L i) F w):=by
 refine aI fun Q HQ=>?_;have hsub:=D.sub i;have hok:=Ks D.ok i;have hpl:=xj L i;have hpe:=jk hok;have hll:=D.len;have hm2:m=32*(fX L i).length:=by rw [hpl];omega
 have hp15:(fX L i).length≤15:=by omega
 have hpad:=A5 hok hp15;rw [← hm] at hsub;have hA:=h.alloc (dh b n);have dA:=ae ((ai.refl w).alloc (dh b n));have hB:=hA.ag;have hr:=Jo hB hf (480*i) m;rw [hsub] at hr;have Hr:=ae hr;obtain ⟨P,hP⟩:∃ P,fX L i=P:=⟨_,rfl⟩
 rw [hP] at hok hpl hpe hm2 hp15 hpad Hr;rw [hP] at HQ;have hii:((480*i:Nat):Int)≤1000000:=by omega
 obtain ⟨at',hat⟩:∃ a,480*i=a:=⟨_,rfl⟩
 rw [hat] at Hr ⊢ hii;have HM:=ae hm2;have HPad:=ae hpad;have HOk:=ae hok;clear hm hm2 hpl hi hsub hpe hpad hok hr hB hA hP hat D hf hll;unfold gm
 go_enter Tryz.func212,Tryz.ntmps212
 go_wp2_with fail
 refine Hr.out.mono ?_;generalize w.heap.size=sc at *;rintro e w2 ⟨v,rfl,d2,h2⟩;have hC:=h2.alloc (.cells (dp (zs 480)) 5 (0,0));have D3:=ae ((dA.out.trans d2).alloc (.cells (dp (zs 480)) 5 (0,0)));obtain ⟨w3,v3,hrun,h3,d3⟩:=vJ (P:=Tryz.prog) (dT:=37) Tryz.underlying37 (by kernel_rfl) hC (hC.ag.nB) 3;rw [HPad.out] at h3;have hmay:=iQ HOk.out;have hpl2:(placesOf P).length=15:=by unfold placesOf;rw [List.length_append,List.length_replicate];omega
 have hl480:(dG (placesOf P)).length=480:=by rw [gC hmay,hpl2]
 have hsl:=NN hl480 h3 (by decide);have hdec:=zw w3 _ P HOk.out hp15 _ hsl;have Hdec:=ae hdec;have Hrun:=ae hrun;have Hmk:(Instr.makeSlice 37 (.int .i64 480) (.int .i64 480)).run Tryz.prog w2 = .ok (.slice (some ⟨w2.heap.size,0,none⟩) 480 480) (w2.alloc (.cells (dp (zs 480)) 5 (0,0))):=er 480 (by omega) w2;have D4:=ae (D3.out.trans d3);obtain ⟨va,vc,rfl⟩:=aB h2
 go_wp2_with (refine eU Hrun.out _ _ rfl rfl rfl rfl rfl ?_)
 refine Hdec.out.mono ?_;rintro e w4 ⟨u,rfl,h4,d4⟩;obtain ⟨ua,uc,rfl⟩:=aB h4;have H4:=ae h4;have D5:=ae (D4.out.trans d4);obtain ⟨q,hq⟩:∃ q,P.length=q:=⟨_,rfl⟩
 have HQ2:=ae hq;have hmq:(q:Int)*32=(m:Int):=by have:=HM.out;omega
 have hq15:(q:Int)≤15:=by omega
 rw [hq]
 go_wp2_with fail
 refine HQ.out _ _ ⟨.slice ua q uc,rfl,D5.out,?_⟩;have h5:=H4.out;rw [HQ2.out] at h5 ⊢;exact (h5.to (by ac_rfl:_=(sl 99 2 (.slice ua q uc) q (bk P)*(et x b A k*F))*(bs 5 (.slice (some ⟨w2.heap.size,0,none⟩) 480 480) (dG (placesOf P))*(bs 5 (.slice va (dG P).length vc) (dG P)*pt sc (dh b n))))).left
end
end Go.Fs
namespace Go.SL
open Go.RowKit
def Gq (L:List aM):Nat:=(L.length+14)/15
def jx (L:List aM):List (List aM):=(List.range (Gq L)).map (fX L)
theorem jT (L:List aM):(jx L).length=Gq L:=by unfold jx;rw [List.length_map,List.length_range]
theorem AW {L:List aM} {i:Nat} (h:i<Gq L):(jx L)[i]'(by rw [jT];exact h)=fX L i:=by
 unfold jx;rw [List.getElem_map,List.getElem_range]
theorem um (L:List aM):∀ m,((List.range m).map (fX L)).flatten=L.take (15*m)
 | 0=>by simp
 | m+1=>by
  rw [List.range_succ,List.map_append,List.flatten_append,um L m];show _++(fX L m++[])=_
  rw [List.append_nil,show 15*(m+1)=15*m+15 by omega,List.take_add]
  rfl
theorem qZ (L:List aM):(jx L).flatten=L:=by
 unfold jx;rw [um,List.take_of_length_le];unfold Gq;omega
end Go.SL
namespace Go.Fs
open Go.RowKit Go.SL Go.Ba
attribute [local go_sem] Oper.semAt_some
section
variable {n:Nat} {x:Fx n} {b k id:Nat} {A:Nat→Option AF} {f:AF} {L:List aM} {w:World} {F:ah}
def P1 (p:List aM × Value) (vs:Array Value):ah:=fact (vs=#[p.2,.int .i64 0])*sl 99 2 p.2 p.1.length (bk p.1)
def rI (x:Fx n) (b:Nat) (A:Nat→Option AF) (k id bc sc nc:Nat) (z:Int):ah:=
 pt bc (.cells #[.int .i64 z] 3 (0,0))*(pt sc (dh b n)*(pt nc (.cells #[.int .i64 (id:Int)] 3 (0,0))*et x b A k))
def Qp (AA:List (List aM × Value)→ah) (L:List aM) (X:ah) (w0:World) (u:Value) (wr:World):Prop:=
 ∃ (i:Nat) (ys:List (List aM × Value)),i≤Gq L∧u = .int .i64 ((480*i:Nat):Int)∧ys.map Prod.fst=(jx L).take i∧ai w0 wr∧Sat wr (AA ys*X)
theorem xt (q:Nat) (hf:A id=some f) (D:EE f L) (bc sc nc:Nat) :
  fE Fence.wide q Tryz.prog 211 #[ax bc,ax sc,ax nc] (rI x b A k id bc sc nc ((32*L.length:Nat):Int)) P1 (fun ys=>ys.map Prod.fst=jx L) (fun ys=>ys.map Prod.fst <+: jx L):=by
 intro lp AA Ax G w0 w hY hs h;have hll:=D.len;obtain ⟨z,hz⟩:∃ z,32*L.length=z:=⟨_,rfl⟩
 have hw:=fun w F h i m hm hi=>zO (w:=w) (F:=F) (x:=x) (b:=b) (k:=k) h hf D i m hm hi;rw [hz] at hw;have HW:=ae hw;have HZ:=ae hz;rw [hz] at h ⊢;have hz1:(z:Int)≤122880:=by omega
 have H:=ae h;refine callsIn_of_wp Tryz.func211 rfl trivial ?_ rfl;simp only [Tryz.ntmps211,List.size_toArray,List.length_cons,List.length_nil,Nat.reduceAdd,Nat.reduceSub,Array.replicate_succ,Array.replicate_zero,List.push_toArray,List.append_toArray,List.nil_append,List.cons_append]
 gi_wp2_with fail
 gi_loopw [5] (fun u wr=>Qp AA L (rI x b A k id bc sc nc (z:Int)*G) w0 u wr) (fun u _=>480*Gq L-(Proofs.intOf u).toNat)
 case atStart=>exact ⟨0,[],Nat.zero_le _,rfl,rfl,hs,H.out⟩
 case round=>
  obtain ⟨i,ys,hi,rfl,hys,hside,hsat⟩:=hrel;have H2:Sat wr (pt bc (.cells #[.int .i64 (z:Int)] 3 (0,0))*(pt sc (dh b n)*(pt nc (.cells #[.int .i64 (id:Int)] 3 (0,0))*(et x b A k*(AA ys*G))))):=hsat.to (by unfold rI;ac_rfl);have c0:=H2.cell 0;have c1:=H2.ag.cell 0;have c2:=H2.ag.cell 1;have c3:=H2.aq.cell 0;have hnb:Gq L=(L.length+14)/15:=rfl
  by_cases hlt:i<Gq L
  ·obtain ⟨a,ha⟩:∃ a,480*i=a:=⟨_,rfl⟩
   have hz9:=HZ.out;have ha1:(a:Int)<(z:Int):=by omega
   have ha2:((480*i:Nat):Int)=(a:Int):=by rw [ha]
   obtain ⟨m,hm⟩:∃ m,min 480 (z-480*i)=m:=⟨_,rfl⟩
   have hwi:=HW.out wr _ (H2.to (by ac_rfl:_=et x b A k*(pt bc (.cells #[.int .i64 (z:Int)] 3 (0,0))*(pt sc (dh b n)*(pt nc (.cells #[.int .i64 (id:Int)] 3 (0,0))*(AA ys*G)))))) i m hm.symm (by omega);rw [ha2] at hwi ⊢;have Hwi:=ae hwi
   have hpre:∀ u:Value,(ys++[(fX L i,u)]).map Prod.fst=(jx L).take (i+1):=fun u=>by
    rw [List.map_append,hys,List.take_succ_eq_append_getElem (by rw [jT];exact hlt),AW hlt];rfl
   have Hpre:=ae hpre;have HA:=ae ha;have HYs:=ae hys;have hcm:min (480:Int) ((z:Int)-(a:Int))=(m:Int):=by omega
   gi_wp2_with fail
   refine kh Hwi.out ?_;rintro e w2 ⟨u,rfl,d2,h2⟩
   have hB:Sat w2 (AA ys*(P1 (fX L i,u) #[u,.int .i64 0]*(rI x b A k id bc sc nc (z:Int)*G))):=by
    have h3:=h2.to (by unfold rI;ac_rfl:_=(sl 99 2 u (fX L i).length (bk (fX L i)))*(AA ys*(rI x b A k id bc sc nc (z:Int)*G)));have h4:Sat w2 (P1 (fX L i,u) #[u,.int .i64 0]*(AA ys*(rI x b A k id bc sc nc (z:Int)*G))):=(Sat.ak.2 ⟨rfl,h3⟩:Sat w2 (fact _*(_*_))).to (aw _ _ _).symm;exact h4.ag
   obtain ⟨fn,tmps,assign,body,hy,hR⟩:=hY ys (fX L i,u) #[u,.int .i64 0] _ w2 (by show List.map _ _ <+: _;rw [Hpre.out];exact List.take_prefix _ _) (hside.trans d2) hB
   gi_wp2
   refine ⟨fun h=>(by cases h),hR.mono ?_⟩;rintro e W' (⟨rfl,hs5,hsat5⟩|⟨rfl,hs5,hsat5⟩)
   ·gi_wp2
    go_roundw
    case rel=>exact ⟨i+1,ys++[(fX L i,u)],hlt,by have:=HA.out;go_num,Hpre.out u,hs5,hsat5⟩
    case measure=>have:=HA.out;simp [Proofs.intOf];omega
   ·gi_wp2
    refine bodyPost_ret (results_none rfl _ _ _) rfl ?_;exact ⟨⟨_,rfl⟩,hs5,.inr ⟨_,by show List.map _ _ <+: _;rw [Hpre.out];exact List.take_prefix _ _,hsat5⟩⟩
  ·obtain rfl:i=Gq L:=by omega
   have hz9:=HZ.out;have hge:¬ ((480*Gq L:Nat):Int)<(z:Int):=by omega
   obtain ⟨a,ha⟩:∃ a,480*Gq L=a:=⟨_,rfl⟩
   rw [ha] at hge ⊢;rw [List.take_of_length_le (by rw [jT];exact Nat.le_refl _)] at hys;have HS:=ae hsat;have HYs:=ae hys
   gi_wp2
   go_end0
   exact ⟨⟨_,rfl⟩,hside,.inl ⟨_,HYs.out,HS.out⟩⟩
end
section
variable {n:Nat} {x:Fx n} {b k id:Nat} {A:Nat→Option AF} {f:AF} {L:List aM} {w:World} {F:ah}
abbrev ny:Array Value:=#[.int .i64 0,.int .i64 0,.int .i64 0,.int .i64 0,.int .i64 0,.int .i64 0,.int .i64 0,.int .i64 0,.int .i64 0,.int .i64 0,.int .i64 0,.int .i64 0,.int .i64 0,.int .i64 0,.int .i64 0,.int .i64 0,.int .i64 0,.int .i64 0,.int .i64 0,.int .i64 0]
def OG (sv:Value) (id z:Int) (bx n:Nat) (w:World) (e:Ending) (w':World):Prop:=
 e = .returned (.func (.func 211) #[] #[ax (w.heap.size+2),ax w.heap.size,ax (w.heap.size+1)]) ∧
  w'=((w.alloc (dh bx n)).alloc (.cells #[.int .i64 id] 3 (0,0))).alloc (.cells #[.int .i64 z] 3 (0,0))
theorem wL (w:World) (b n:Nat) (id z:Int):Calls Tryz.prog 157 #[gm b n,.int .i64 id,.int .i64 z] w (OG (gm b n) id z b n w):=by
 unfold gm
 go_enter Tryz.func157,Tryz.ntmps157
 go_wp2
 go_ret
 exact ⟨rfl,rfl⟩
theorem zT {L:List aM} {ys:List (List aM × Value)} (h:ys.map Prod.fst <+: jx L):(ys.map Prod.fst).flatten.length≤L.length:=by
 obtain ⟨t,ht⟩:=h;have:=congrArg List.flatten ht;rw [List.flatten_append,qZ] at this;rw [← this,List.length_append];omega
def QI (lc:Nat) (ys:List (List aM × Value)):ah:=ex fun v=>pt lc (.cells #[v] 95 (0,0))*sl 99 2 v (ys.map Prod.fst).flatten.length (bk (ys.map Prod.fst).flatten)
def Ex (p:List aM × Value) (t:Array Value):Array Value:=(((t.setIfInBounds 28 p.2).setIfInBounds 29 (.int .i64 0)).setIfInBounds 9 p.2).setIfInBounds 10 (.int .i64 0)
theorem nI {w:World} {tmps:Array Value} {a b:Nat} {v e:Value} {F:ah} (h2:tmps[4]?=some (ax a)) (h3:tmps[5]?=some (ax b)) (h:Sat w (pt a (.cells #[v] 95 (0,0))*(pt b (.cells #[e] 28 (0,0))*F))) :
  (results Tryz.f99 tmps).run Tryz.prog w = .ok (.tuple #[v,e]) w:=by
 have c0:=h.cell 0;have c1:=h.ag.cell 0;simp [results,Tryz.results99,h2,h3,asAddr,ax,go_sem,c0,c1]
theorem ja (h:Sat w (et x b A k*F)) (hf:A id=some f) (D:EE f L) :
  Calls Tryz.prog 99 #[gm b n,.int .i64 (id:Int)] w (ML x b A k L F w):=by
 have hA:=(((h.alloc (dh b n)).alloc (.cells #[.slice none 0 0] 95 (0,0))).alloc (.cells #[.int .i64 0] 28 (0,0)))
 have dA:=(((ai.refl w).alloc (dh b n)).alloc (.cells #[.slice none 0 0] 95 (0,0))).alloc (.cells #[.int .i64 0] 28 (0,0));simp only [World.size_alloc] at hA;have HD:=ae D;have HF:=ae hf;clear h D hf;unfold gm;refine (callsIn_wide (n:=9)).1 ?_;refine callsIn_of_wp_marks Tryz.func99 rfl trivial ?_ rfl;simp only [Tryz.ntmps99,List.size_toArray,List.length_cons,List.length_nil,Nat.reduceAdd,Nat.reduceSub,Array.replicate_succ,Array.replicate_zero,List.push_toArray,List.append_toArray,List.nil_append,List.cons_append];have cA:=hA.aq.cell 0;have cB:=hA.aq.cell 1;simp at cA cB;refine wpIn_wide.2 ?_
 go_wp2_with fail
 generalize w.heap.size+1+1=r1 at *;generalize w.heap.size+1=r0 at *;generalize w.heap.size=sc at *;have hB:=hA.to (by ac_rfl:_=et x b A k*(pt sc (dh b n)*(pt r0 (.cells #[.slice none 0 0] 95 (0,0))*(pt r1 (.cells #[.int .i64 0] 28 (0,0))*F))));refine (Bo hB HF.out).mono ?_;rintro e w2 ⟨y,rfl,y16,ykd,ylk,ysz,d2,h2⟩;have hX:(ints y.l).size=20:=by rw [dw,Nd.cells y16]
 have hE:=h2.alloc (.cells ny 73 (0,0));have Hz:=ae hE.heap;have hE2:=hE.setRow (cs':=ints y.l);have D2:=ae (((dA.trans d2).alloc (.cells ny 73 (0,0))).setRow w2.heap.size (ints y.l));have Hone:Hid ((ints y.l).all (·.oneCell')=true):=by simp [RowKit.Hid,ints,Value.oneCell']
 have Hinf:Hid ((Tryz.prog.info? 73).map (·.size)=some (ints y.l).size):=by show _=_;rw [hX];exact aY
 have HX:=ae hX;have n0:((w2.alloc (.cells ny 73 (0,0))).setRow w2.heap.size (ints y.l)).cell? ⟨w2.heap.size,0,none⟩=some (.int .i64 2):=by rw [← HD.out.kd,← ykd];exact hE2.cell 0
 have n2:((w2.alloc (.cells ny 73 (0,0))).setRow w2.heap.size (ints y.l)).cell? ⟨w2.heap.size,2,none⟩=some (.int .i64 ((32*L.length:Nat):Int)):=by rw [← HD.out.sz,← ysz];exact hE2.cell 2
 have hE3:=ae (hE2.to (by ac_rfl:_=pt w2.heap.size (.cells (ints y.l) 73 (0,0))*(et x b A k*(pt sc (dh b n)*(pt r0 (.cells #[.slice none 0 0] 95 (0,0))*(pt r1 (.cells #[.int .i64 0] 28 (0,0))*F))))));have HSZ:=ae ysz;unfold ny at *
 go_upto_region 7 with (refine wpList_store_row (by exact rfl) 73 (.tmp 6) (.tmp 15) (by exact rfl) w2.heap.size (ints y.l) (by exact rfl) (by exact rfl) 73 _ (by with_reducible exact Hz.out) Hinf.out (by rw [HX.out];rfl) Hone.out ?_)
 clear Hz Hinf HX Hone;have hs3:(((w2.alloc (.cells #[.int .i64 0,.int .i64 0,.int .i64 0,.int .i64 0,.int .i64 0,.int .i64 0,.int .i64 0,.int .i64 0,.int .i64 0,.int .i64 0,.int .i64 0,.int .i64 0,.int .i64 0,.int .i64 0,.int .i64 0,.int .i64 0,.int .i64 0,.int .i64 0,.int .i64 0,.int .i64 0] 73 (0,0))).setRow w2.heap.size (ints y.l))).heap.size=w2.heap.size+1:=by simp [World.setRow]
 generalize ((w2.alloc (.cells #[.int .i64 0,.int .i64 0,.int .i64 0,.int .i64 0,.int .i64 0,.int .i64 0,.int .i64 0,.int .i64 0,.int .i64 0,.int .i64 0,.int .i64 0,.int .i64 0,.int .i64 0,.int .i64 0,.int .i64 0,.int .i64 0,.int .i64 0,.int .i64 0,.int .i64 0,.int .i64 0] 73 (0,0))).setRow w2.heap.size (ints y.l))=w3 at *;generalize w2.heap.size=nb at *;have hC:=hE3.out.alloc (.cells #[.slice none 0 0] 95 (0,0));have D3:=D2.out.alloc (.cells #[.slice none 0 0] 95 (0,0));rw [hs3] at hC;clear hs3 hE3 D2 n0 n2;generalize w3.alloc (.cells #[.slice none 0 0] 95 (0,0))=w4 at *;generalize nb+1=lc at *;have c0:=hC.aC.cell 0;have c1:=hC.aC.cell 1;have n2:w4.cell? ⟨nb,2,none⟩=some (.int .i64 ((32*L.length:Nat):Int)):=by rw [← HD.out.sz,← HSZ.out];exact hC.ag.cell 2
 have hef:=wL w4 b n id ((32*L.length:Nat):Int);obtain ⟨z,hz⟩:∃ z,((32*L.length:Nat):Int)=z:=⟨_,rfl⟩
 rw [hz] at n2 hef;have HZ:=ae hz;have Hef:=ae hef;clear hz hef
 go_wp2_with fail
 refine Hef.out.mono ?_;rintro e w5 ⟨rfl,rfl⟩;have hE:=((hC.alloc (dh b n)).alloc (.cells #[.int .i64 (id:Int)] 3 (0,0))).alloc (.cells #[.int .i64 z] 3 (0,0));have D5:=((D3.alloc (dh b n)).alloc (.cells #[.int .i64 (id:Int)] 3 (0,0))).alloc (.cells #[.int .i64 z] 3 (0,0));simp only [World.size_alloc] at hE;clear hC D3 Hef c0 c1 n2
 go_wp2_with fail
 have hF:Sat (((w4.alloc (dh b n)).alloc (.cells #[.int .i64 (id:Int)] 3 (0,0))).alloc (.cells #[.int .i64 z] 3 (0,0))) (QI lc []*(rI x b A k id (w4.heap.size+2) w4.heap.size (w4.heap.size+1) ((32*L.length:Nat):Int)*(pt r0 (.cells #[.slice none 0 0] 95 (0,0))*(pt r1 (.cells #[.int .i64 0] 28 (0,0))*F)))):=by
  refine Sat.au.2 ⟨.slice none 0 0,?_⟩;have h6:=(hE.eA 99 2)
  rw [HZ.out];have h7:=h6.to (by ac_rfl:_=(pt nb (.cells (ints y.l) 73 (0,0))*pt sc (dh b n))*(pt lc (.cells #[.slice none 0 0] 95 (0,0))*(sl 99 2 (.slice none 0 0) 0 []*(pt (w4.heap.size+1+1) (.cells #[.int .i64 z] 3 (0,0))*(pt w4.heap.size (dh b n)*(pt (w4.heap.size+1) (.cells #[.int .i64 (id:Int)] 3 (0,0))*(et x b A k*(pt r0 (.cells #[.slice none 0 0] 95 (0,0))*(pt r1 (.cells #[.int .i64 0] 28 (0,0))*F)))))))));exact h7.right.to (by unfold rI;show _=_*sl _ 2 _ 0 []*_;ac_rfl)
 clear hE;refine (wpIn_wide (n:=9)).1 ?_
 refine wz (w0:=w) rfl (by decide) (gf:=211) (lb:=#[ax (w4.heap.size+2),ax w4.heap.size,ax (w4.heap.size+1)]) rfl trivial (enters Tryz.func211 (by kernel_rfl) rfl)
  (xt (x:=x) (b:=b) (k:=k) (id:=id) (A:=A) _ HF.out HD.out (w4.heap.size+2) w4.heap.size (w4.heap.size+1)) Ex (QI lc) (fun pre p=>QI lc pre*sl 99 2 p.2 p.1.length (bk p.1)) _ ?hps D5 hF ?assign ?body ?done
 case hps=>
  intro p vs Fr W h;unfold P1 at h;obtain ⟨rfl,_⟩:=Sat.ak.1 (h.to (aw _ _ _))
  rfl
 case assign=>
  intro lp r pre p vs Fr W K _ hsd H hK;have H1:=H.ag;unfold P1 at H1;obtain ⟨rfl,H2⟩:=Sat.ak.1 (H1.to (aw _ _ _));clear H H1
  gi_wp2
  exact hK _ hsd (H2.to (by ac_rfl))
 case body=>
  intro lp r pre p Fr W hp hsd H;have hfl:=zT hp;have hlen:=HD.out.len;obtain ⟨P,u⟩:=p;rw [List.map_append,List.flatten_append] at hfl;have e1:((pre.map Prod.fst).flatten++(List.map Prod.fst [(P,u)]).flatten)=(pre.map Prod.fst).flatten++P:=by simp
  rw [e1,List.length_append] at hfl;have H0:Sat W (QI lc pre*(sl 99 2 u P.length (bk P)*(pt lp (.loop r)*Fr))):=H.to (by ac_rfl);obtain ⟨v,H1⟩:=Sat.au.1 H0;have H2:Sat W (sl 99 2 v (pre.map Prod.fst).flatten.length (bk (pre.map Prod.fst).flatten)*(pt lc (.cells #[v] 95 (0,0))*(sl 99 2 u P.length (bk P)*(pt lp (.loop r)*Fr)))):=H1.to (by ac_rfl);obtain ⟨i0,hi,hz,hs0,hb0⟩:=info_parts wq;have hR:=H2.aq.nB;have c0:W.cell? ⟨lc,0,none⟩=some v:=H2.ag.cell 0;obtain ⟨v',w',hrun,hsat',hside'⟩:=Sat.append (P:=Tryz.prog) (ty:=95) Tryz.underlying95 hi hz hs0 hb0 rfl H2 hR (EI P) (by unfold maxLen;omega) (by omega);obtain ⟨aa,ac,rfl⟩:=aB hsat';have c1:w'.cell? ⟨lc,0,none⟩=some v:=hsat'.ag.cell 0;have f1:=hsat'.ag.frozen 0;have hset:=hsat'.ag.setCell 0 (.slice aa ((pre.map Prod.fst).flatten.length+P.length) ac);obtain ⟨q,hq⟩:∃ q,(pre.map Prod.fst).flatten=q:=⟨_,rfl⟩
  rw [hq] at hrun hset;have Hset:=ae hset;have Hrun:=ae hrun;have HQ2:=ae hq;have Hsd:=ae ((hsd.trans hside').setCell ⟨lc,0,none⟩ (.slice aa (q.length+P.length) ac));simp only [Ex,List.setIfInBounds_toArray,List.set_cons_succ,List.set_cons_zero]
  gi_wp2_with (gi_at_builtin;refine cY Hrun.out _ _ rfl rfl rfl rfl rfl ?_)
  refine ⟨?_,?_⟩
  ·exact Hsd.out
  ·refine Sat.au.2 ⟨.slice aa (q.length+P.length) ac,?_⟩
   have e:(List.map Prod.fst (pre++[(P,u)])).flatten=q++P:=by rw [List.map_append,List.flatten_append,HQ2.out];simp
   rw [e,List.length_append,kX];have h6:=Hset.out;exact (h6.to (by ac_rfl:_=sl 99 2 u P.length (bk P)*(pt lc (.cells #[.slice aa (q.length+P.length) ac] 95 (0,0))*sl 99 2 (.slice aa (q.length+P.length) ac) (q.length+P.length) (bk q++bk P)*(pt lp (.loop r)*Fr)))).right
 case done=>
  intro D2 ys W hS hsd H;obtain ⟨v,H1⟩:=Sat.au.1 H;have e:(ys.map Prod.fst).flatten=L:=by rw [hS,qZ]
  rw [e] at H1;have H2:Sat W (pt D2 (.deferred (some []))*(pt lc (.cells #[v] 95 (0,0))*(pt r0 (.cells #[.slice none 0 0] 95 (0,0))*(pt r1 (.cells #[.int .i64 0] 28 (0,0))*(sl 99 2 v L.length (bk L)*(rI x b A k id (w4.heap.size+2) w4.heap.size (w4.heap.size+1) ((32*L.length:Nat):Int)*F)))))):=H1.to (by ac_rfl);obtain ⟨aa,ac,rfl⟩:=aB H2.aG;have c0:=H2.ag.cell 0;have z0:=H2.aq.cell 0;have f0:=H2.aq.frozen 0;have f1:=H2.aC.frozen 0;have H3:=H2.aq.setCell 0 (.slice aa L.length ac);have z1':=H3.aC.cell 0;have f1':=H3.aC.frozen 0;have H4:=ae (H3.aC.setCell 0 (.int .i64 0));have Hsd:=ae ((hsd.setCell ⟨r0,0,none⟩ (.slice aa L.length ac)).setCell ⟨r1,0,none⟩ (.int .i64 0));clear H H1 H2 H3 hF e D5
  go_wp2_with fail
  have h6:=H4.out;have h7:=h6.to (by ac_rfl:_=pt D2 (.deferred (some []))*(pt r0 (.cells #[.slice aa L.length ac] 95 (0,0))*(pt r1 (.cells #[.int .i64 0] 28 (0,0))*(sl 99 2 (.slice aa L.length ac) L.length (bk L)*(rI x b A k id (w4.heap.size+2) w4.heap.size (w4.heap.size+1) ((32*L.length:Nat):Int)*(F*pt lc (.cells #[.slice aa L.length ac] 95 (0,0))))))));have hK:=h7.heap;have h8:=(h7.putObj (.deferred none)).right;clear h6 h7;refine ⟨by simp,.inl ⟨_,_,rfl,run_takeDeferred hK,?_⟩⟩;refine ⟨_,nI rfl rfl h8,⟨.slice aa L.length ac,rfl,Hsd.out.putObj _ _,?_⟩⟩;have h9:=h8.right.right;unfold rI at h9;exact (h9.to (by ac_rfl:_=(sl 99 2 (.slice aa L.length ac) L.length (bk L)*(et x b A k*F))*(pt lc (.cells #[.slice aa L.length ac] 95 (0,0))*(pt (w4.heap.size+2) (.cells #[.int .i64 ((32*L.length:Nat):Int)] 3 (0,0))*(pt w4.heap.size (dh b n)*pt (w4.heap.size+1) (.cells #[.int .i64 (id:Int)] 3 (0,0))))))).left
end
end Go.Fs
namespace Go.SL
open Go.RowKit
def jF (L:List aM) (nm:List UInt8):Option Nat:=L.findIdx? fun e=>decide (e.nm=nm)
def sH (L:List aM) (nm:List UInt8):Int:=match jF L nm with|some i=>(i:Int)|none=>-1
theorem GJ {L:List aM} {nm:List UInt8} {i:Nat} (hi:i<L.length) (h:(L[i]).nm=nm) (hb:∀ j (hj:j<i),(L[j]'(by omega)).nm≠nm):sH L nm=(i:Int):=by
 have:jF L nm=some i:=by
  unfold jF;rw [List.findIdx?_eq_some_iff_getElem];exact ⟨hi,decide_eq_true h,fun j hj=>by simpa using hb j hj⟩
 unfold sH;rw [this]
theorem IA {L:List aM} {nm:List UInt8} (h:∀ e ∈ L,e.nm≠nm):sH L nm=-1:=by
 have:jF L nm=none:=by
  unfold jF;rw [List.findIdx?_eq_none_iff];exact fun e he=>decide_eq_false (h e he)
 unfold sH;rw [this]
theorem rU (a b:List UInt8):((str a).toList == (str b).toList)=decide (a=b):=by
 rw [Lib.toList_data,Lib.toList_data,Bool.eq_iff_iff,beq_iff_eq,decide_eq_true_iff];exact Iff.rfl
end Go.SL
namespace Go.Fs
open Go.RowKit Go.SL Go.Ba
def P6 (b:Bool) (w:World) (e:Ending) (w':World):Prop:=e = .returned (.bool b)∧Sat w' (whole w)∧ai w w'
theorem BO (w:World) (e:aM) (nc:Nat) (nm:List UInt8) (hc:w.cell? ⟨nc,0,none⟩=some (.string (str nm))) :
  Calls Tryz.prog 187 #[.agg #[.int .i64 (e.nd:Int),.string (str e.nm)],.pointer (some ⟨nc,0,none⟩)] w (P6 (decide (e.nm=nm)) w):=by
 refine aI fun Q HQ=>?_;have hA:=ae ((Sat.whole w).alloc (.cells #[.int .i64 (e.nd:Int),.string (str e.nm)] 99 (0,0)));have dA:=ae ((ai.refl w).alloc (.cells #[.int .i64 (e.nd:Int),.string (str e.nm)] 99 (0,0)));have c1:=bH w (.cells #[.int .i64 (e.nd:Int),.string (str e.nm)] 99 (0,0)) _ _ hc;have hb:=rU e.nm nm
 go_enter Tryz.func187,Tryz.ntmps187
 go_wp2_with fail
 exact HQ.out _ _ ⟨by simp,hA.out.right,dA.out⟩
def Pa (L:List aM) (nm:List UInt8) (w0:World) (F:ah) (u:Value) (wr:World):Prop:=
 ∃ k:Nat,k≤L.length∧u = .int .i64 (k:Int)∧(∀ j (hj:j<L.length),j<k→(L[j]).nm≠nm)∧ai w0 wr∧Sat wr F
theorem rV {w:World} {v:Value} {L:List aM} {F:ah} (h:Sat w (sl 99 2 v L.length (bk L)*F)) {k:Nat} (hk:k<L.length) :
  ∃ g c,v = .slice (some ⟨g,0,none⟩) L.length c∧w.cell? ⟨g,k*2,none⟩=some (.int .i64 ((L[k]).nd:Int))∧w.cell? ⟨g,k*2+1,none⟩=some (.string (str (L[k]).nm))∧L.length≤c∧c≤9223372036854775807:=by
 rcases h.cX with ⟨_,h0,_⟩|⟨g,cap,cur,rfl,h3,h4,h5,h6,h7⟩
 ·omega
 ·obtain ⟨e1,e2⟩:=Ea hk
  refine ⟨g,cap,rfl,?_,?_,h3,by unfold maxLen at h4;omega⟩
  ·rw [h7.cell,← e1,← h6,List.getElem?_take,if_pos (by omega),Array.getElem?_toList]
  ·rw [h7.cell,← e2,← h6,List.getElem?_take,if_pos (by omega),Array.getElem?_toList]
def Qt (z:Int) (F:ah) (w:World) (e:Ending) (w':World):Prop:=e = .returned (.int .i64 z)∧Sat w' F∧ai w w'
theorem Bq (w:World) (v:Value) (L:List aM) (nc:Nat) (nm:List UInt8) (F:ah) (hl:L.length≤3840) (h:Sat w (sl 99 2 v L.length (bk L)*(pt nc (.cells #[.string (str nm)] 9 (0,0))*F))) :
  Calls Tryz.prog 186 #[v,.func (.func 187) #[] #[.pointer (some ⟨nc,0,none⟩)]] w (Qt (sH L nm) (sl 99 2 v L.length (bk L)*(pt nc (.cells #[.string (str nm)] 9 (0,0))*F)) w):=by
 refine aI fun Q HQ=>?_;obtain ⟨va,vc,rfl⟩:=aB h;have H:=ae h;obtain ⟨m,hm⟩:∃ m,L.length=m:=⟨_,rfl⟩
 have HM:=ae hm;rw [hm]
 go_enter Tryz.func186,Tryz.ntmps186
 go_wp2_with fail
 go_loopw [8] (fun u wr=>Pa L nm w (sl 99 2 (.slice va L.length vc) L.length (bk L)*(pt nc (.cells #[.string (str nm)] 9 (0,0))*F)) u wr) (fun u _=>m-(Proofs.intOf u).toNat)
 case atStart=>exact ⟨0,Nat.zero_le _,rfl,fun j hj h0=>absurd h0 (Nat.not_lt_zero _),ai.refl w,H.out⟩
 case round=>
  obtain ⟨k,hk,rfl,hall,hside,hsat⟩:=hrel;rw [HM.out] at hk;have HS:=ae hsat;have HAll:=ae hall
  by_cases hlt:k<m
  ·have hlt':(k:Int)<(m:Int):=by omega
   have hkL:k<L.length:=by have:=HM.out;omega
   obtain ⟨g,c,e,e1,e2,k1,k2⟩:=rV hsat hkL;obtain ⟨rfl,-,rfl⟩:=e;have cn:=hsat.ag.cell 0;have hp:=BO wr L[k] nc nm cn;generalize hx:L[k]=x at *;have HX:=ae hx;have k1':(m:Int)≤(vc:Int):=by have:=HM.out;omega
   by_cases hc:x.nm=nm
   ·rw [decide_eq_true hc] at hp
    have Hp:=ae hp;have HC:=ae hc;clear hp hc
    go_wp2_with fail
    refine Hp.out.mono ?_;rintro e w2 ⟨rfl,h2,d2⟩;have h3:=h2.dO HS.out;have hv:=GJ hkL (by rw [HX.out];exact HC.out) fun j hj=>HAll.out j (by omega) hj;have HV:=ae hv;have H3:=ae h3
    go_wp2_with fail
    exact HQ.out _ _ ⟨by rw [HV.out];try (first|rfl|simp),H3.out,hside.trans d2⟩
   ·rw [decide_eq_false hc] at hp
    have Hp:=ae hp;have HC:=ae hc
    go_wp2_with fail
    refine Hp.out.mono ?_;rintro e w2 ⟨rfl,h2,d2⟩;have H3:=ae (h2.dO HS.out)
    go_wp2_with fail
    go_roundw
    case rel=>exact ⟨k+1,by rw [HM.out];omega,by go_num,fun j hj hj2=>by
     rcases Nat.lt_succ_iff_lt_or_eq.1 hj2 with h|rfl
     ·exact HAll.out j hj h
     ·rw [HX.out];exact HC.out,hside.trans d2,H3.out⟩
    case measure=>simp [Proofs.intOf];omega
  ·obtain rfl:k=m:=by omega
   have hv:sH L nm=-1:=IA fun e he=>by
    obtain ⟨j,hj,rfl⟩:=List.getElem_of_mem he;exact HAll.out j hj (by have:=HM.out;omega)
   have HV:=ae hv
   go_wp2_with fail
   exact HQ.out _ _ ⟨by rw [HV.out];try (first|rfl|simp),by have:=HS.out;rwa [HM.out] at this ⊢,hside⟩
def qz (v:Value) (L:List aM) (nm:List UInt8) (F:ah) (w:World) (e:Ending) (w':World):Prop:=e = .returned (.int .i64 (sH L nm))∧Sat w' (sl 99 2 v L.length (bk L)*F)∧ai w w'
theorem dF (w:World) (v:Value) (L:List aM) (nm:List UInt8) (F:ah) (hl:L.length≤3840) (h:Sat w (sl 99 2 v L.length (bk L)*F)) :
  Calls Tryz.prog 134 #[v,.string (str nm)] w (qz v L nm F w):=by
 refine aI fun Q HQ=>?_;have hA:=(h.alloc (.cells #[.string (str nm)] 9 (0,0))).ag;have dA:=ae ((ai.refl w).alloc (.cells #[.string (str nm)] 9 (0,0)));have hi:=Bq _ v L _ nm F hl hA;have Hi:=ae hi
 go_enter Tryz.func134,Tryz.ntmps134
 go_wp2_with fail
 refine Hi.out.mono ?_;rintro e w2 ⟨rfl,h2,d2⟩;have H2:=ae h2
 go_wp2_with fail
 exact HQ.out _ _ ⟨rfl,H2.out.gZ,dA.out.trans d2⟩
end Go.Fs
