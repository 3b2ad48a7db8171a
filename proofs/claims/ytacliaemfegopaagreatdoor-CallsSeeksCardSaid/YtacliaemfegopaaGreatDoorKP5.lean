/- Steps. -/
import Derived.Test.YtacliaemfegopaaGreatDoorKP3
import Derived.Deep.DeepFit
import Derived.Laws.Rows
import Derived.Laws.Tables
set_option linter.unusedVariables false
set_option linter.unusedSimpArgs false
set_option maxRecDepth 100000
set_option maxHeartbeats 40000000
open Go.Proofs Go.SL
namespace Go.SL
open Go.RowKit
theorem Ih (l:List UInt8) (j:Nat) (hj:j<8) :
  bits .or .u64 (ia l j) (IntKind.u64.wrap (IntKind.u64.wrap ((l[j]?.getD 0).toNat:Int)*2 ^ (8*j)))=ia l (j+1):=by
 have hx1:((l[j]?.getD 0).toNat:Int)<256:=by have:=UInt8.toNat_lt (l[j]?.getD 0);omega
 have hx0:0≤((l[j]?.getD 0).toNat:Int):=by omega
 obtain ⟨r0,r1⟩:=gy l j;have hd:l.getD j 0=l[j]?.getD 0:=by simp [List.getD]
 rw [ia,hd];have hpow:(256:Int) ^ j=2 ^ (8*j):=by rw [Int.pow_mul];rfl
 have hp:(256:Int) ^ j≤72057594037927936:=by
  obtain rfl|rfl|rfl|rfl|rfl|rfl|rfl|rfl:j=0∨j=1∨j=2∨j=3∨j=4∨j=5∨j=6∨j=7:=by omega
  all_goals decide
 have hp0:0<(256:Int) ^ j:=Int.pow_pos (by decide);generalize ((l[j]?.getD 0).toNat:Int)=x at *;rw [hpow] at r1 hp hp0 ⊢;have h2:0≤x*2 ^ (8*j):=Int.mul_nonneg hx0 (by omega);have h3:x*2 ^ (8*j)≤255*2 ^ (8*j):=Int.mul_le_mul_of_nonneg_right (by omega) (by omega);have e1:IntKind.u64.wrap x=x:=by rw [IntKind.wrap_u64];omega
 have e2:IntKind.u64.wrap (x*2 ^ (8*j))=x*2 ^ (8*j):=by rw [IntKind.wrap_u64];omega
 rw [e1,e2];exact I3 r0 r1 hx0 (by omega)
theorem vJ {P:Program} {w:World} {g n:Nat} {v:Value} {l:List UInt8} {T dT:TypeId} {F:ah} (hu:P.underlying dT=some (.slice T)) (hs:(P.info? T).map (·.size)=some 1)
  (h:Sat w (pt g (.cells (dp (zs n)) T (0,0))*F)) (hr:Rd w v l) (ty:TypeId) :
  ∃ w' v',(Builtin.copy_ #[dT,dT] ty #[.slice (some ⟨g,0,none⟩) n n,v]).run P w = .ok v' w'∧Sat w' (pt g (.cells (dp (bJ n l)) T (0,0))*F)∧ai w w':=by
 obtain ⟨hn,hr⟩:=hr;rcases hr with ⟨rfl,h0⟩|⟨a,c,rfl,ha⟩
 ·have:l=[]:=List.eq_nil_of_length_eq_zero h0
  subst this;refine ⟨w,_,run_copy_nil (P:=P) w dT dT ty T ⟨g,0,none⟩ n n hu (by rw [hs];rfl),?_,ai.refl w⟩;rw [bJ,List.nil_append,List.take_of_length_le (by rw [aT];exact Nat.le_refl _)];exact h
 ·have:=run_copy_row (P:=P) w dT dT ty T g 0 n n a l.length c (dp (zs n)) T ((l.take n).map u8) hu hs h.heap (by simp [Nat.min_comm]) (by rw [List.map_take];exact ha.take n)
   (by simp [ez,aT];omega) (pT _)
  refine ⟨_,_,this,?_,(ai.refl w).setRow _ _⟩;have h2:=h.setRow (cs':=((dp (zs n)).toList.take 0++(l.take n).map u8++(dp (zs n)).toList.drop (0+((l.take n).map u8).length)).toArray);refine h2.to ?_;congr 3;simp only [dp,bJ,zs,List.take_zero,List.nil_append,Nat.zero_add,List.length_map,List.length_take,List.map_append,List.map_take,List.take_append,List.map_replicate,List.drop_replicate,List.take_replicate,List.toList_toArray];congr 3;omega
theorem Gy (l:List UInt8) (k:Nat):∀ j,j≤k→ia (l.take k) j=ia l j:=by
 intro j
 induction j with
 | zero=>intro _;rfl
 | succ j ih=>
  intro hj;rw [ia,ia,ih (by omega)];congr 3;simp [List.getD,List.getElem?_take,show j<k by omega]
end Go.SL
namespace Go.Fs
open Go.RowKit Go.SL Go.Ba
def xd (l:List UInt8) (w:World) (e:Ending) (w':World):Prop:=∃ v,e = .returned v∧Sat w' (bs 5 v l*whole w)∧ai w w'
theorem gj (w:World) (n m:Int) (h0:0≤n) (h1:n≤m):Calls Tryz.prog 219 #[.int .i64 n,.int .i64 m] w (mr n w):=by
 go_enter Tryz.func219,Tryz.ntmps219
 go_wp2
 go_ret
 exact ⟨rfl,rfl⟩
theorem mh {w:World} {v:Value} {l:List UInt8} {x:UInt8} {F:ah} (h:Sat w (bs 5 v l*F)) (hl:l.length≤1000000) :
  ∃ v' w',(Builtin.append_ #[37,37] 37 #[v,.slice (some ⟨w.heap.size,0,none⟩) 1 1]).run Tryz.prog (w.alloc (.cells #[u8 x] 5 (0,0))) = .ok v' w'∧Sat w' (bs 5 v' (l++[x])*F)∧ai w w'∧∃ a c,v' = .slice a (l.length+1) c:=by
 obtain ⟨i0,hi,hz,hs0,hb0⟩:=info_parts gg;have hA:=h.alloc (.cells #[u8 x] 5 (0,0))
 have hR:nA (w.alloc (.cells #[u8 x] 5 (0,0))) 1 (.slice (some ⟨w.heap.size,0,none⟩) 1 1) 1 [u8 x]:=
  ⟨rfl,.inr ⟨_,_,rfl,fun j u hu=>by
   rw [Addr.add_lit,Nat.zero_add];exact (hA.cell j).trans (by simpa using hu)⟩⟩
 obtain ⟨v',w',hrun,hsat',hside'⟩:=Sat.append (P:=Tryz.prog) (ty:=37) Tryz.underlying37 hi hz hs0 hb0 rfl hA.right hR (by intro u hu;rw [List.mem_singleton.1 hu];rfl) (by unfold maxLen;omega) (by omega);refine ⟨v',w',hrun,hsat'.to (by rw [bs,List.length_append,List.map_append];rfl),((ai.refl w).alloc _).trans hside',aB hsat'⟩
theorem gN {w:World} {v b:Value} {l m:List UInt8} {F:ah} (h:Sat w (bs 5 v l*F)) (hr:Rd w b m) (hl:l.length≤1000000) (hm:m.length≤1000000) :
  ∃ v' w',(Builtin.append_ #[37,37] 37 #[v,b]).run Tryz.prog w = .ok v' w'∧Sat w' (bs 5 v' (l++m)*F)∧ai w w'∧∃ a c,v' = .slice a (l.length+m.length) c:=by
 obtain ⟨i0,hi,hz,hs0,hb0⟩:=info_parts gg;obtain ⟨v',w',hrun,hsat',hside'⟩:=Sat.append (P:=Tryz.prog) (ty:=37) Tryz.underlying37 hi hz hs0 hb0 rfl h hr (pT m) (by unfold maxLen;omega) (by omega);refine ⟨v',w',hrun,hsat'.to (by rw [bs,List.length_append,List.map_append]),hside',aB hsat'⟩
def AS (l:List UInt8) (n:Int) (k:Nat) (w:World) (u2 u7 u19:Value) (wr:World):Prop:=
 ∃ j:Nat,j≤k∧u19 = .int .i64 (j:Int)∧u2 = .int .u64 (n/(256:Int) ^ j)∧Sat wr (bs 5 u7 (l++cZ n j)*whole w)∧ai w wr
theorem eM (w:World) (v:Value) (l:List UInt8) (k:Nat) (n:Int) (hr:Rd w v l) (hl:l.length≤1000) (hk:k≤8) (n0:0≤n) (n1:n<18446744073709551616) :
  Calls Tryz.prog 164 #[v,.int .i64 (k:Int),.int .u64 n] w (xd (l++cZ n k) w):=by
 have hwi:=gj w (k:Int) 8 (by omega) (by omega);obtain ⟨va,vc,rfl⟩:=hr.shape
 have hmk:∀ w,(Instr.makeSlice 37 (.int .i64 0) (.int .i64 ((l.length:Int)+(k:Int)))).run Tryz.prog w = .ok (.slice (some ⟨w.heap.size,0,none⟩) 0 (l.length+k)) (w.alloc (.cells (dp (zs (l.length+k))) 5 (0,0))):=fun w=>by
  obtain ⟨i,hi,hz,hs,hb⟩:=info_parts gg;have:=run_make (P:=Tryz.prog) w 37 5 i _ Tryz.underlying37 hi hz .i64 .i64 0 ((l.length:Int)+(k:Int)) (by omega) (by omega) (by rw [hb];omega) (by omega);rw [this,hs];have e2:((l.length:Int)+(k:Int)).toNat=l.length+k:=by omega
  rw [e2];exact congrArg (fun c=>Result.ok _ (w.alloc (.cells c _ (0,0)))) (iS (l.length+k))
 have hA:=(Sat.whole w).alloc (.cells (dp (zs (l.length+k))) 5 (0,0))
 have hB:Sat (w.alloc (.cells (dp (zs (l.length+k))) 5 (0,0))) (bs 5 (.slice (some ⟨w.heap.size,0,none⟩) 0 (l.length+k)) []*whole w):=by
  have:=Sat.l7 (sz:=1) (n:=0) (cap:=l.length+k) hA (by omega) (by unfold maxLen;omega) (by simp [ez,aT]);simpa [bs] using this
 obtain ⟨v1,w1,hrun,h1,d1,a1,c1,rfl⟩:=gN hB (hr.aX hA) (by simp) (by omega);rw [List.nil_append] at h1;have D1:=((ai.refl w).alloc (.cells (dp (zs (l.length+k))) 5 (0,0))).trans d1;have Hrun:=ae hrun;have Hmk:=ae hmk
 go_enter Tryz.func164,Tryz.ntmps164
 go_wp2_with fail
 (refine hwi.mono ?_)
 rintro e w2 ⟨rfl,rfl⟩;have hmk:=Hmk.out
 go_wp2_with (at_builtin;refine wpList_append_run Hrun.out _ _ rfl rfl rfl rfl rfl ?_)
 go_loopw [2,7,19] (fun u2 u7 u19 wr=>AS l n k w u2 u7 u19 wr) (fun _ _ u _=>k-(intOf u).toNat)
 case atStart=>exact ⟨0,Nat.zero_le _,rfl,by simp,by simpa [cZ] using h1,D1⟩
 case round=>
  obtain ⟨j,hj,rfl,rfl,hsat,hside⟩:=hrel
  by_cases hjk:j<k
  ·have hjk':(j:Int)<(k:Int):=by omega
   have hp:0<(256:Int) ^ j:=Int.pow_pos (by decide)
   have q2:n/(256:Int) ^ (j+1)=n/(256:Int) ^ j/256:=by
    rw [Int.pow_succ,Int.ediv_ediv,if_neg (fun hh=>absurd hh.1 (by omega)),Int.sub_zero]
   have hs8:=yV n j;obtain ⟨v',w6,hrun,h6,d6,a6,c6,rfl⟩:=mh (x:=UInt8.ofInt (n/(256:Int) ^ j)) hsat (by rw [List.length_append,aS];omega);have hu8:=Cz (n/(256:Int) ^ j);rw [IntKind.wrap_u8] at hu8;rw [List.append_assoc,← hs8,List.length_append] at h6;generalize hq:n/(256:Int) ^ j=q at *;rw [← hu8] at hrun;have Hrun:=ae hrun;have Hq2:=ae q2;clear hrun hs8 hu8 hsat hq q2 hp
   go_wp2_with (at_builtin;refine wpList_append_run Hrun.out _ _ rfl rfl rfl rfl rfl ?_)
   go_roundw
   case rel=>exact ⟨j+1,by omega,by go_num,by rw [Hq2.out],h6,hside.trans d6⟩
   case measure=>simp [intOf];omega
  ·obtain rfl:j=k:=by omega
   go_wp2_with fail
   go_ret
   exact ⟨_,rfl,hsat,hside⟩
theorem mE (w:World) (v:Value) (l:List UInt8) (hr:Rd w v l) (n:Nat) (hn:n≤4096) :
  Calls Tryz.prog 165 #[v,.int .i64 (n:Int)] w (xd (bJ n l) w):=by
 have hwi:=gj w (n:Int) 4096 (by omega) (by omega);have hmk:=er n (by omega);have hA:=(Sat.whole w).alloc (.cells (dp (zs n)) 5 (0,0));have D1:=(ai.refl w).alloc (.cells (dp (zs n)) 5 (0,0));obtain ⟨w2,v2,hrun,h2,d2⟩:=vJ (P:=Tryz.prog) (dT:=37) Tryz.underlying37 (by kernel_rfl) hA (hr.aX hA) 3
 have hsl:Sat w2 (bs 5 (.slice (some ⟨w.heap.size,0,none⟩) n n) (bJ n l)*whole w):=by
  have:=Sat.l7 (sz:=1) (n:=n) (cap:=n) h2 (Nat.le_refl _) (by unfold maxLen;omega) (by rw [ez,bR];omega);rw [bs,bR];refine this.to ?_;congr 2;simp only [dp,Nat.mul_one,List.toList_toArray];rw [List.take_of_length_le (by simp [bR])]
 have Hrun:=ae hrun;have Hmk:=ae hmk
 go_enter Tryz.func165,Tryz.ntmps165
 go_wp2_with fail
 (refine hwi.mono ?_)
 rintro e w3 ⟨rfl,rfl⟩;have hmk:=Hmk.out
 go_wp2_with (refine eU Hrun.out _ _ rfl rfl rfl rfl rfl ?_)
 go_ret
 exact ⟨_,rfl,hsl,D1.trans d2⟩
def bQ (r g cap:Nat) (cur:Array Value) (L:List UInt8) (o:Nat):ah:=ex fun p:Nat × Nat=>
 fact ((L.length≤cap∧cap≤maxLen∧cur.size=cap∧cur.toList.take L.length=L.map u8∧o≤L.length)∧(o<L.length→p.1=o∧p.2=cap-o))*(pt r (.cells #[.slice (some ⟨g,p.1,none⟩) (L.length-o) p.2,.bool false] 295 (0,0))*pt g (.cells cur 5 (0,0)))
theorem jL {w:World} {r g cap:Nat} {cur:Array Value} {L:List UInt8} {o:Nat} {F:ah} (h:Sat w (bQ r g cap cur L o*F)) :
  ∃ x c,(L.length≤cap∧cap≤maxLen∧cur.size=cap∧cur.toList.take L.length=L.map u8∧o≤L.length)∧(o<L.length→x=o∧c=cap-o)∧Sat w (pt r (.cells #[.slice (some ⟨g,x,none⟩) (L.length-o) c,.bool false] 295 (0,0))*(pt g (.cells cur 5 (0,0))*F)):=by
 obtain ⟨⟨x,c⟩,h⟩:=Sat.au.1 h;obtain ⟨hf,h1⟩:=Sat.ak.1 (h.to (aw _ _ _):Sat w (fact _*_));exact ⟨x,c,hf.1,hf.2,h1.to (aw _ _ _)⟩
theorem me {w:World} {r g cap:Nat} {cur:Array Value} {L:List UInt8} {o:Nat} {F:ah} (x c:Nat) (hf:L.length≤cap∧cap≤maxLen∧cur.size=cap∧cur.toList.take L.length=L.map u8∧o≤L.length) (h2:o<L.length→x=o∧c=cap-o)
  (h:Sat w (pt r (.cells #[.slice (some ⟨g,x,none⟩) (L.length-o) c,.bool false] 295 (0,0))*(pt g (.cells cur 5 (0,0))*F))):Sat w (bQ r g cap cur L o*F):=
 (Sat.au.2 ⟨(x,c),(Sat.ak.2 ⟨⟨hf,h2⟩,h.to (aw _ _ _).symm⟩:Sat w (fact _*_)).to (aw _ _ _).symm⟩:Sat w (ex _*F))
def Nx (L:List UInt8) (w:World) (e:Ending) (w':World):Prop:=∃ r g cap cur,e = .returned (ax r)∧Sat w' (bQ r g cap cur L 0*whole w)∧ai w w'
theorem lN (w:World) (v:Value) (L:List UInt8) (hr:Rd w v L) (h0:0<L.length) (hl:L.length≤1000000) :
  Calls Tryz.prog 194 #[v] w (Nx L w):=by
 have hB:Sat w (bs 5 (.slice none 0 0) []*whole w):=(Sat.whole w).eA _ _;obtain ⟨v1,w1,hrun,h1,d1,a1,c1,rfl⟩:=gN hB hr (by simp) hl;rw [List.nil_append] at h1;have Hrun:=ae hrun;rcases h1.cX with ⟨h9,_⟩|⟨g,cap,cur,h9,q1,q2,q3,q4,h2⟩
 ·injection h9 with h9 h10;omega
 injection h9 with h9 h10 h11
 subst h9;subst h11;have h3:=h2.alloc (.cells #[.slice (some ⟨g,0,none⟩) L.length c1,.bool false] 295 (0,0));have d3:=d1.alloc (.cells #[.slice (some ⟨g,0,none⟩) L.length c1,.bool false] 295 (0,0))
 have hfin:Sat (w1.alloc (.cells #[.slice (some ⟨g,0,none⟩) L.length c1,.bool false] 295 (0,0))) (bQ w1.heap.size g c1 cur L 0*whole w):=
  me 0 c1 ⟨q1,q2,by omega,by rw [Nat.mul_one] at q4;exact q4,Nat.zero_le _⟩ (fun _=>⟨rfl,rfl⟩) h3
 have Hfin:=ae hfin
 go_enter Tryz.func194,Tryz.ntmps194
 go_wp2_with (at_builtin;refine wpList_append_run Hrun.out _ _ rfl rfl rfl rfl rfl ?_)
 go_ret
 exact ⟨_,g,c1,cur,rfl,Hfin.out,d3⟩
end Go.Fs
namespace Go.SL
open Go.RowKit
theorem Rd.at {w:World} {va:Option Addr} {n vc:Nat} {l:List UInt8} (h:Rd w (.slice va n vc) l) (h0:0<l.length):∃ g o,va=some ⟨g,o,none⟩∧∀ i x,l[i]?=some x→w.cell? ⟨g,o+i,none⟩=some (u8 x):=by
 rcases h.2 with ⟨hv,h9⟩|⟨a,c,hv,ha⟩
 ·omega
 ·cases hv
  obtain ⟨g,o,p⟩:=a;have h1:=ha 0 (u8 l[0]) (by rw [List.getElem?_map,List.getElem?_eq_getElem h0];rfl);have hp:p=none:=by simpa [Addr.add] using World.cell?_spot h1
  subst hp;refine ⟨g,o,rfl,fun i x hx=>?_⟩;have:=ha i (u8 x) (by rw [List.getElem?_map,hx];rfl)
  rwa [Addr.add_lit] at this
end Go.SL
namespace Go.Fs
open Go.RowKit Go.SL Go.Ba
theorem yK:(Tryz.prog.info? 321).map (·.size)=some 2:=by kernel_rfl
theorem EY (a b:Int):(Tryz.prog.info? 321).map (·.size)=some (#[.int .u64 a,.int .u64 b]:Array Value).size:=yK
theorem Mx (a b:Int):(#[.int .u64 a,.int .u64 b]:Array Value).all (·.oneCell')=true:=by simp [Value.oneCell']
theorem GA (w:World) (l:List UInt8) (j:Nat) (hj:j<l.length) (h8:l.length≤8) (x:UInt8) (hx:l[j]?=some x) :
  Calls Tryz.prog 264 #[.agg #[.int .u64 (ia l j),.int .u64 (8*(j:Int))],u8 x] w (kH (.agg #[.int .u64 (ia l (j+1)),.int .u64 (8*(j:Int)+8)]) w):=by
 have hs:=Ih l j (by omega);rw [hx,Option.getD_some] at hs;have hA:=((Sat.whole w).alloc (.cells #[.int .u64 (ia l j),.int .u64 (8*(j:Int))] 321 (0,0))).alloc (.cells #[.int .u64 (ia l (j+1)),.int .u64 (8*(j:Int)+8)] 321 (0,0));have dA:=((ai.refl w).alloc (.cells #[.int .u64 (ia l j),.int .u64 (8*(j:Int))] 321 (0,0))).alloc (.cells #[.int .u64 (ia l (j+1)),.int .u64 (8*(j:Int)+8)] 321 (0,0));rw [World.size_alloc] at hA;unfold u8;have hx0:0≤(x.toNat:Int):=by omega
 have hx1:(x.toNat:Int)<256:=by have:=UInt8.toNat_lt x;omega
 generalize (x.toNat:Int)=c at *;have e1:IntKind.u64.wrap c=c:=by rw [IntKind.wrap_u64];omega
 rw [e1] at hs
 go_enter Tryz.func264,Tryz.ntmps264
 go_wp2
 exact bodyPost_ret (results_cell_row rfl _ _ _ 321 _ (0,0) _ rfl hA.heap Tryz.underlying321 rfl yK) rfl ⟨rfl,hA.right.right,dA⟩
def Mk (l:List UInt8) (b:Nat) (w:World) (u8:Value) (wr:World):Prop:=
 ∃ j:Nat,j≤l.length∧u8 = .int .i64 (j:Int)∧Sat wr (pt b (.cells #[.int .u64 (ia l j),.int .u64 (8*(j:Int))] 321 (0,0))*whole w)∧ai w wr
theorem Dz (w:World) (v:Value) (l:List UInt8) (hr:Rd w v l) (h8:l.length≤8) :
  Calls Tryz.prog 239 #[v] w (kH (.int .u64 (ia l l.length)) w):=by
 obtain ⟨va,vc,rfl⟩:=hr.shape;have Hr:=ae hr;have hA:=(Sat.whole w).alloc (.cells #[.int .u64 0,.int .u64 0] 321 (0,0));have dA:=(ai.refl w).alloc (.cells #[.int .u64 0,.int .u64 0] 321 (0,0))
 go_enter Tryz.func239,Tryz.ntmps239
 go_wp2_with fail
 generalize w.heap.size=b at hA ⊢
 go_loopw [8] (fun u wr=>Mk l b w u wr) (fun u _=>l.length-(intOf u).toNat)
 case atStart=>exact ⟨0,Nat.zero_le _,rfl,hA,dA⟩
 case round=>
  obtain ⟨j,hj,rfl,hsat,hside⟩:=hrel;have hRd:=Hr.out.aX hsat;have c0:=hsat.cell 0;have c1:=hsat.cell 1
  by_cases hjl:j<l.length
  ·have hjl':(j:Int)<(l.length:Int):=by omega
   obtain ⟨x,hx⟩:∃ x,l[j]?=some x:=⟨_,List.getElem?_eq_getElem hjl⟩
   obtain ⟨g,o,rfl,hall⟩:=hRd.at (by omega);have hcell:=hall j x hx;clear hall;have hwt:=GA wr l j hjl h8 x hx;have Hs:=ae hsat
   go_wp2_with fail
   (refine hwt.mono ?_)
   rintro e w2 ⟨rfl,h2,d2⟩;have H2:=h2.dO Hs.out;have hz2:=H2.heap;have H3:=H2.setRow (cs':=#[.int .u64 (ia l (j+1)),.int .u64 (8*(j:Int)+8)]);have HH3:=ae H3
   go_wp2_with (refine wpList_store_row rfl 321 (.tmp 3) (.tmp 14) rfl b #[.int .u64 (ia l (j+1)),.int .u64 (8*(j:Int)+8)] rfl rfl 321 #[.int .u64 (ia l j),.int .u64 (8*(j:Int))] hz2 (EY _ _) rfl (Mx _ _) ?_)
   go_roundw
   case rel=>exact ⟨j+1,by omega,by go_num,by have:=HH3.out;rwa [show 8*(j:Int)+8=8*((j+1:Nat):Int) by omega] at this,(hside.trans d2).setRow _ _⟩
   case measure=>simp [intOf];omega
  ·obtain rfl:j=l.length:=by omega
   go_wp2_with fail
   go_ret
   exact ⟨rfl,hsat.right,hside⟩
def PF (r g cap:Nat) (cur:Array Value) (L:List UInt8) (o n:Nat) (w:World) (F:ah) (e:Ending) (w':World):Prop:=
 ∃ c,e = .returned (.tuple #[.slice (some ⟨g,o,none⟩) n c,.bool true])∧Sat w' (bQ r g cap cur L (o+n)*F)∧ai w w'
theorem sk (w:World) (r g cap:Nat) (cur:Array Value) (L:List UInt8) (o n:Nat) (F:ah) (h:Sat w (bQ r g cap cur L o*F)) (ho:o<L.length) (hn:o+n≤L.length) (hl:L.length≤1000000) :
  Calls Tryz.prog 238 #[ax r,.int .i64 (n:Int)] w (PF r g cap cur L o n w F):=by
 obtain ⟨x,c,⟨q1,q2,q3,q4,q5⟩,hxc,h1⟩:=jL h;obtain ⟨rfl,rfl⟩:=hxc ho;have c0:=h1.cell 0;have f0:=h1.frozen 0
 have hset:∀ y d,Sat (w.setCell ⟨r,0,none⟩ (.slice (some ⟨g,y,none⟩) (L.length-x-n) d)) (pt r (.cells #[.slice (some ⟨g,y,none⟩) (L.length-x-n) d,.bool false] 295 (0,0))*(pt g (.cells cur 5 (0,0))*F)):=fun y d=>by
  have:=h1.setCell 0 (.slice (some ⟨g,y,none⟩) (L.length-x-n) d);simpa only [List.setIfInBounds_toArray,List.set_cons_zero] using this
 obtain ⟨m,hm⟩:∃ m,m=L.length-x:=⟨_,rfl⟩
 obtain ⟨k,hk⟩:∃ k,k=cap-x:=⟨_,rfl⟩
 rw [← hm,← hk] at c0;rw [← hm] at hset;have hnm:(n:Int)≤(m:Int):=by omega
 have hmk:(m:Int)≤(k:Int):=by omega
 have hkk:(k:Int)≤9223372036854775807:=by unfold maxLen at q2;omega
 have HM:=ae hm;have HK:=ae hk;have Hset:=ae hset;clear hm hk hset h1 h hxc
 by_cases hnk:k=n
 ·subst hnk
  have hkm:m=k:=by omega
  subst hkm
  go_enter Tryz.func238,Tryz.ntmps238
  go_wp2
  go_ret2
  refine ⟨_,rfl,?_,(ai.refl w).setCell _ _⟩;refine me x 0 ⟨q1,q2,q3,q4,hn⟩ (fun h=>?_) ?_
  ·have:=HM.out;omega
  ·have:=Hset.out x 0
   have e:L.length-(x+m)=m-m:=by have:=HM.out;omega
   rw [e];rw [Nat.sub_self] at this ⊢;exact this
 ·go_enter Tryz.func238,Tryz.ntmps238
  go_wp2
  go_ret2
  refine ⟨_,rfl,?_,(ai.refl w).setCell _ _⟩;refine me (x+n) (k-n) ⟨q1,q2,q3,q4,hn⟩ (fun h=>⟨rfl,by have:=HK.out;omega⟩) ?_;have:=Hset.out (x+n) (k-n);have e:L.length-(x+n)=m-n:=by have:=HM.out;omega
  rw [e];exact this
theorem OA {w:World} {g:Nat} {cur:Array Value} {L:List UInt8} {F:ah} (h1:Sat w (pt g (.cells cur 5 (0,0))*F)) (q4:cur.toList.take L.length=L.map u8) (o n c:Nat) (hn:o+n≤L.length):Rd w (.slice (some ⟨g,o,none⟩) n c) ((L.drop o).take n):=by
 have hl:((L.drop o).take n).length=n:=by rw [List.length_take,List.length_drop];omega
 refine ⟨by simp,.inr ⟨⟨g,o,none⟩,c,by rw [hl],fun j u hu=>?_⟩⟩;rw [Addr.add_lit,h1.cell];rw [List.getElem?_map,List.getElem?_take] at hu
 split at hu
 ·rename_i hj
  rw [List.getElem?_drop] at hu;rw [← Array.getElem?_toList];have:(cur.toList.take L.length)[o+j]?=cur.toList[o+j]?:=by rw [List.getElem?_take,if_pos (by omega)]
  rw [← this,q4,List.getElem?_map];exact hu
 ·cases hu
theorem pZ {w:World} {r g cap:Nat} {cur:Array Value} {L:List UInt8} {o':Nat} {F:ah} (h:Sat w (bQ r g cap cur L o'*F)) (o n c:Nat) (hn:o+n≤L.length):Rd w (.slice (some ⟨g,o,none⟩) n c) ((L.drop o).take n):=
 have ⟨_,_,hf,_,h1⟩:=jL h
 OA h1.ag hf.2.2.2.1 o n c hn
theorem KH {w:World} {r g cap:Nat} {cur:Array Value} {L:List UInt8} {o:Nat} {F:ah} (h:Sat w (bQ r g cap cur L o*F)):Sat w F:=have ⟨_,_,_,_,h1⟩:=jL h;h1.right.right
def xp (r g cap:Nat) (cur:Array Value) (L:List UInt8) (o n:Nat) (w:World) (F:ah) (e:Ending) (w':World):Prop:=
 e = .returned (.int .u64 (ia (L.drop o) n))∧Sat w' (bQ r g cap cur L (o+n)*F)∧ai w w'
theorem im (w:World) (r g cap:Nat) (cur:Array Value) (L:List UInt8) (o n:Nat) (F:ah) (h:Sat w (bQ r g cap cur L o*F)) (ho:o<L.length) (hn:o+n≤L.length) (h8:n≤8) (hl:L.length≤1000000) :
  Calls Tryz.prog 195 #[ax r,.int .i64 (n:Int)] w (xp r g cap cur L o n w F):=by
 have hwi:=gj w (n:Int) 8 (by omega) (by omega);have hnx:=sk w r g cap cur L o n F h ho hn hl
 go_enter Tryz.func195,Tryz.ntmps195
 go_wp2_with fail
 (refine hwi.mono ?_)
 rintro e w1 ⟨rfl,rfl⟩
 go_wp2_with fail
 (refine hnx.mono ?_)
 rintro e w2 ⟨c,rfl,h2,d2⟩;have hlen:((L.drop o).take n).length=n:=by rw [List.length_take,List.length_drop];omega
 have htk:=Dz w2 (.slice (some ⟨g,o,none⟩) n c) ((L.drop o).take n) (pZ h2 o n c (by omega)) (by omega);rw [hlen,Gy _ _ _ (Nat.le_refl _)] at htk
 go_wp2_with fail
 (refine htk.mono ?_)
 rintro e w3 ⟨rfl,h3,d3⟩;have H3:=h3.dO h2
 go_wp2
 go_ret
 exact ⟨rfl,H3,d2.trans d3⟩
theorem yJ (w:World) (r g cap:Nat) (cur:Array Value) (L:List UInt8) (o:Nat) (F:ah) (h:Sat w (bQ r g cap cur L o*F)) :
  Calls Tryz.prog 198 #[ax r] w (mr ((L.length-o:Nat):Int) w):=by
 obtain ⟨x,c,_,_,h1⟩:=jL h;have c0:=h1.cell 0
 go_enter Tryz.func198,Tryz.ntmps198
 go_wp2
 go_ret
 exact ⟨rfl,rfl⟩
def NW (g o n:Nat) (w:World) (F:ah) (L:List UInt8) (e:Ending) (w':World):Prop:=
 ∃ c,e = .returned (.tuple #[.slice (some ⟨g,o,none⟩) n c,.bool true])∧Rd w' (.slice (some ⟨g,o,none⟩) n c) (L.drop o)∧Sat w' F∧ai w w'
theorem Dp (w:World) (r g cap:Nat) (cur:Array Value) (L:List UInt8) (o:Nat) (F:ah) (h:Sat w (bQ r g cap cur L o*F)) (ho:o<L.length) (hl:L.length≤1000000) :
  Calls Tryz.prog 238 #[ax r,.int .i64 ((L.length-o:Nat):Int)] w (NW g o (L.length-o) w F L):=by
 refine (sk w r g cap cur L o (L.length-o) F h ho (by omega) hl).mono ?_;rintro e w2 ⟨c,rfl,h2,d2⟩;have htk:(L.drop o).take (L.length-o)=L.drop o:=List.take_of_length_le (by rw [List.length_drop];exact Nat.le_refl _);have:=pZ h2 o (L.length-o) c (by omega);rw [htk] at this;exact ⟨c,rfl,this,KH h2,d2⟩
theorem B1 (w:World) (r g cap:Nat) (cur:Array Value) (L:List UInt8) (o:Nat) (F:ah) (h:Sat w (bQ r g cap cur L o*F)) (ho:o<L.length) (hl:L.length≤1000000) :
  Calls Tryz.prog 197 #[ax r,.int .i64 ((L.length-o:Nat):Int)] w fun e w'=>∃ v,e = .returned v∧Sat w' (bs 5 v (L.drop o)*F)∧ai w w':=by
 have hnx:=Dp w r g cap cur L o F h ho hl;have hlen:(L.drop o).length=L.length-o:=List.length_drop;have hm:((L.length-o:Nat):Int)≤1000000:=by omega
 go_enter Tryz.func197,Tryz.ntmps197
 go_wp2_with fail
 (refine hnx.mono ?_)
 rintro e w2 ⟨c,rfl,hrd,h2,d2⟩;have hN:Sat w2 (bs 5 (.slice none 0 0) []*F):=h2.eA _ _;obtain ⟨v',w3,hrun,h3,d3,a3,c3,rfl⟩:=gN hN hrd (by simp) (by omega);simp only [List.length_nil,Nat.zero_add,List.length_drop] at hrun h3;have Hrun:=ae hrun;rw [List.nil_append] at h3
 go_wp2_with (at_builtin;refine wpList_append_run Hrun.out _ _ rfl rfl rfl rfl rfl ?_)
 go_ret
 exact ⟨_,rfl,h3,d2.trans d3⟩
end Go.Fs
namespace Go.SL
open Go.RowKit
def rf:List Int:=[0,498536548,997073096,651767980,1994146192,1802195444,1303535960,1342533948,3988292384,4027552580,3604390888,3412177804,2607071920,2262029012,2685067896,3183342108]
def OZ (z:Int):Int:=bits .xor .u32 (z/16) (rf.getD (bits .and .u32 z 15).toNat 0)
def uL (x:Int):Nat→Int
 | 0=>x
 | m+1=>OZ (uL x m)
def wU (l:List UInt8):Nat→Int
 | 0=>bits .xor .u32 IntKind.u32.max 0
 | k+1=>uL (bits .xor .u32 (wU l k) ((l.getD k 0).toNat:Int)) 2
def Fh (l:List UInt8):Int:=bits .xor .u32 IntKind.u32.max (wU l l.length)
theorem Fc (a b:Int):0≤bits .xor .u32 a b∧bits .xor .u32 a b<4294967296:=by
 have e:bits .xor .u32 a b=IntKind.u32.wrap ((BitVec.ofInt 32 a ^^^ BitVec.ofInt 32 b).toNat:Nat):=rfl;rw [e,IntKind.wrap_u32];omega
theorem BJ (l:List UInt8):0≤Fh l∧Fh l<4294967296:=Fc _ _
def nZ (w:World):Prop:=∀ k:Nat,k<16→w.cell? ⟨1,k,none⟩=some (.int .u32 (rf.getD k 0))
end Go.SL
namespace Go.Su
open Go.RowKit Go.SL Go.Ba Go.Fs
theorem P5 (x:Int):∃ m:Nat,m<16∧bits .and .u32 x 15=(m:Int):=by
 refine ⟨(BitVec.ofInt 32 x &&& BitVec.ofInt 32 15).toNat,?_,?_⟩
 ·rw [BitVec.toNat_and]
  have:(BitVec.ofInt 32 15).toNat=2 ^ 4-1:=by decide
  rw [this,Nat.and_two_pow_sub_one_eq_mod];omega
 ·show IntKind.u32.wrap ((BitVec.ofInt 32 x &&& BitVec.ofInt 32 15).toNat:Nat)=_
  have h:=(BitVec.ofInt 32 x &&& BitVec.ofInt 32 15).isLt;rw [IntKind.wrap_u32];omega
def Ob (l:List UInt8) (w:World) (u5 u11:Value) (wr:World):Prop:=∃ k:Nat,k≤l.length∧u11 = .int .i64 (k:Int)∧u5 = .int .u32 (wU l k)∧w=wr
def Mi (x0:Int) (w:World) (u5 u21:Value) (wr:World):Prop:=∃ m:Nat,m≤2∧u21 = .int .i64 (m:Int)∧u5 = .int .u32 (uL x0 m)∧w=wr
def Ql (l:List UInt8) (w:World) (e:Ending) (w':World):Prop:=e = .returned (.int .u32 (Fh l))∧w=w'
theorem G6 (w:World) (v:Value) (l:List UInt8) (hr:Rd w v l) (hl:l.length≤1000000) (hh:nZ w) :
  Calls Tryz.prog 220 #[.int .u32 0,v] w (Ql l w):=by
 obtain ⟨va,vc,rfl⟩:=hr.shape;have hln:(l.length:Int)≤1000000:=by omega
 go_enter Tryz.func220,Tryz.ntmps220
 go_wp2_with fail
 go_loopw [5,11] (fun u5 u11 wr=>Ob l w u5 u11 wr) (fun _ u _=>l.length-(intOf u).toNat)
 case atStart=>exact ⟨0,Nat.zero_le _,rfl,rfl,rfl⟩
 case round=>
  obtain ⟨k,hk,rfl,rfl,rfl⟩:=hrel
  by_cases hlt:k<l.length
  ·have hlt':(k:Int)<(l.length:Int):=by omega
   obtain ⟨g,o,rfl,hc⟩:=hr.at (by omega);have hck:=hc k _ (List.getElem?_eq_getElem hlt)
   have hck':w.cell? ⟨g,o+k,none⟩=some (.int .u8 ((l.getD k 0).toNat:Int)):=by
    have:l.getD k 0=l[k]:=by simp [List.getD,List.getElem?_eq_getElem hlt]
    rw [this];exact hck
   have hN:wU l (k+1)=uL (bits .xor .u32 (wU l k) ((l.getD k 0).toNat:Int)) 2:=rfl;have hy1:(l.getD k 0).toNat<256:=(l.getD k 0).toNat_lt;generalize (l.getD k 0).toNat=y at hck' hy1 hN;generalize wU l k=x at hN;have Hr:=ae hr;have HN:=ae hN;clear hck hc hr hN;have hy2:(y:Int)<256:=by omega
   go_wp2_with fail
   obtain ⟨x0,hx0⟩:∃ x0,x0=bits BinOp.xor IntKind.u32 x (y:Int):=⟨_,rfl⟩
   rw [← hx0];have Hx0:=ae hx0;clear hx0
   go_loopw [5,21] (fun u5 u21 wr=>Mi x0 w u5 u21 wr) (fun _ u _=>2-(intOf u).toNat)
   case atStart=>exact ⟨0,Nat.zero_le _,rfl,rfl,rfl⟩
   case round=>
    obtain ⟨m,hm,rfl,rfl,rfl⟩:=hrel;obtain ⟨q,hq1,hq2⟩:=P5 (uL x0 m);have hc:=hh q hq1;have hq1':(q:Int)<16:=by omega
    have hS:uL x0 (m+1)=bits .xor .u32 (uL x0 m/16) (rf.getD q 0):=by
     show OZ (uL x0 m)=_
     unfold OZ;rw [hq2,Int.toNat_natCast]
    by_cases hm2:m<2
    ·have hm2':(m:Int)<2:=by omega
     generalize rf.getD q 0=hv at hc hS;have HS:=ae hS;clear hS;generalize uL x0 m=z at HS hq2
     go_wp2_with fail
     refine ⟨⟨m+1,by omega,by go_num,by rw [HS.out],rfl⟩,by simp [intOf];omega⟩
    ·obtain rfl:m=2:=by omega
     have hfin:uL x0 2=wU l (k+1):=by rw [HN.out,Hx0.out]
     rw [hfin];have Hh:=ae hh;clear hS hfin hc hq2 hh
     go_wp2_with fail
     refine ⟨⟨k+1,by omega,by go_num,rfl,rfl⟩,by simp [intOf];omega⟩
  ·obtain rfl:k=l.length:=by omega
   have e:bits .xor .u32 IntKind.u32.max (wU l l.length)=Fh l:=rfl;generalize wU l l.length=x at e;have E:=ae e;clear e
   go_wp2_with fail
   go_ret
   exact ⟨congrArg (fun z=>Ending.returned (Value.int .u32 z)) E.out,rfl⟩
theorem KL (w:World) (v:Value) (l:List UInt8) (hr:Rd w v l) (hl:l.length≤1000000) (hh:nZ w) :
  Calls Tryz.prog 166 #[v] w (Ql l w):=by
 have hm:=G6 w v l hr hl hh;clear hr hh
 go_enter Tryz.func166,Tryz.ntmps166
 go_wp2_with fail
 (with_reducible refine hm.mono ?_)
 rintro e w2 ⟨rfl,rfl⟩;clear hm
 go_wp2_with fail
 go_ret
 exact ⟨rfl,rfl⟩
def lT (n P:Int):Bool:=decide (4≤n) && decide (n≤3840) && decide (0≤P) && decide (P≤19999) && decide (5*n+240≤2*P)
def Kz (n P:Int):Value:=.agg #[.int .i64 n,.int .i64 P]
theorem dZ {n P:Int}:lT n P=true↔4≤n∧n≤3840∧0≤P∧P≤19999∧5*n+240≤2*P:=by
 unfold lT;simp only [Bool.and_eq_true,decide_eq_true_eq,and_assoc]
def Dj (n P:Int) (w:World) (e:Ending) (w':World):Prop:=e = .returned (.int .i64 (if lT n P=true then 0 else 1))∧Sat w' (whole w)∧ai w w'
theorem sF (w:World) (n P:Int):Calls Tryz.prog 111 #[Kz n P] w (Dj n P w):=by
 have h1:=(Sat.whole w).alloc (.cells #[.int .i64 n,.int .i64 P] 119 (0,0));have d1:=(ai.refl w).alloc (.cells #[.int .i64 n,.int .i64 P] 119 (0,0));have H1:=ae h1.right;clear h1;unfold Kz;obtain ⟨rc,hrc⟩:∃ rc:Int,rc=if lT n P=true then 0 else 1:=⟨_,rfl⟩
 have HRC:=ae hrc
 by_cases a1:n<4
 ·have hrc':rc=1:=by rw [hrc,if_neg (by rw [dZ];omega)]
  clear hrc
  go_enter Tryz.func111,Tryz.ntmps111
  go_wp2_with fail
  go_ret
  exact ⟨by rw [← HRC.out,hrc'];rfl,H1.out,d1⟩
 by_cases a2:3840<n
 ·have hrc':rc=1:=by rw [hrc,if_neg (by rw [dZ];omega)]
  clear hrc
  go_enter Tryz.func111,Tryz.ntmps111
  go_wp2_with fail
  go_ret
  exact ⟨by rw [← HRC.out,hrc'];rfl,H1.out,d1⟩
 by_cases a3:P<0
 ·have hrc':rc=1:=by rw [hrc,if_neg (by rw [dZ];omega)]
  clear hrc
  go_enter Tryz.func111,Tryz.ntmps111
  go_wp2_with fail
  go_ret
  exact ⟨by rw [← HRC.out,hrc'];rfl,H1.out,d1⟩
 by_cases a4:19999<P
 ·have hrc':rc=1:=by rw [hrc,if_neg (by rw [dZ];omega)]
  clear hrc
  go_enter Tryz.func111,Tryz.ntmps111
  go_wp2_with fail
  go_ret
  exact ⟨by rw [← HRC.out,hrc'];rfl,H1.out,d1⟩
 have b1:4≤n:=by omega
 have b2:n≤3840:=by omega
 have b3:0≤P:=by omega
 have b4:P≤19999:=by omega
 by_cases a5:2*P<5*n+240
 ·have hrc':rc=1:=by rw [hrc,if_neg (by rw [dZ];omega)]
  clear hrc
  go_enter Tryz.func111,Tryz.ntmps111
  go_wp2_with fail
  go_ret
  exact ⟨by rw [← HRC.out,hrc'];rfl,H1.out,d1⟩
 ·have hrc':rc=0:=by rw [hrc,if_pos (by rw [dZ];omega)]
  clear hrc
  go_enter Tryz.func111,Tryz.ntmps111
  go_wp2_with fail
  go_ret
  exact ⟨by rw [← HRC.out,hrc'];rfl,H1.out,d1⟩
end Go.Su
