/- Steps. -/
import Derived.Test.YtacliaemfegopaaGreatDoorKP9
import Derived.Laws.EntriesVeiled
import Derived.Laws.Tables
import Derived.Laws.Rows
set_option linter.unusedVariables false
set_option linter.unusedSimpArgs false
set_option maxRecDepth 100000
set_option maxHeartbeats 40000000
open Go.Proofs Go.SL
namespace Go.SL
open Go.RowKit
structure Tg where
 ep:Int
 st:Int
 sq:Int
 fl:Int
 ix:Int
 ct:Int
 id:Int
def Tg.cells (t:Tg):Array Value:=#[.int .u32 t.ep,.int .u64 t.st,.int .u64 t.sq,.int .u64 t.fl,.int .i64 t.ix,.int .i64 t.ct,.int .i64 t.id]
structure Tg.Fit (t:Tg):Prop where
 ep0:0≤t.ep
 ep1:t.ep<4294967296
 st0:0≤t.st
 st1:t.st<18446744073709551616
 sq0:0≤t.sq
 sq1:t.sq<18446744073709551616
 fl0:0≤t.fl
 fl1:t.fl<18446744073709551616
def MU:Int:=1465012808
def Tg.ok (t:Tg):Bool:=decide (1≤t.ep) && decide (1≤t.st) && decide (t.st≤t.sq) && decide (t.sq≤281474976710655) && decide (t.fl<t.sq) &&
 decide (1≤t.ct) && decide (t.ct≤72) && decide (0≤t.ix) && decide (t.ix<t.ct) && decide (0≤t.id) && decide (t.id<3840)
def Ec (n:Int):Int:=n%18446744073709551616
def Tg.field (t:Tg):Nat→Int
 | 0=>MU
 | 1=>t.ep
 | 2=>t.sq
 | 3=>t.fl
 | 4=>t.st
 | 5=>Ec t.ix
 | 6=>Ec t.ct
 | 7=>Ec t.id
 | _=>0
def dJ:Nat→Nat
 | 0=>4
 | 1=>4
 | 2=>6
 | 3=>6
 | 4=>6
 | 5=>1
 | 6=>1
 | 7=>2
 | _=>2
structure Fb where
 b0:Nat
 b2:Nat
 b3:Nat
 b4:Nat
 b5:Nat
 b6:Nat
 b7:Nat
 b8:Nat
abbrev eO (f:Nat) (caps:Array Value):Value:=.func (.func f) #[] caps
def jB (b:Fb):Nat→Nat × Array Value
 | 0=>(269,#[ax b.b0])
 | 1=>(250,#[])
 | 2=>(271,#[ax b.b2])
 | 3=>(271,#[ax b.b3])
 | 4=>(271,#[ax b.b4])
 | 5=>(273,#[ax b.b5])
 | 6=>(273,#[ax b.b6])
 | 7=>(273,#[ax b.b7])
 | _=>(269,#[ax b.b8])
def jz (b:Fb):Nat→Nat × Array Value
 | 0=>(270,#[])
 | 1=>(251,#[])
 | 2=>(272,#[ax b.b2])
 | 3=>(272,#[ax b.b3])
 | 4=>(272,#[ax b.b4])
 | 5=>(274,#[ax b.b5])
 | 6=>(274,#[ax b.b6])
 | 7=>(274,#[ax b.b7])
 | _=>(270,#[])
def Bh (b:Fb) (k:Nat):Array Value:=#[.int .i64 (dJ k),eO (jB b k).1 (jB b k).2,eO (jz b k).1 (jz b k).2]
def nx (b:Fb):Array Value:=#[.int .i64 4,eO (jB b 0).1 (jB b 0).2,eO (jz b 0).1 (jz b 0).2,.int .i64 4,eO (jB b 1).1 (jB b 1).2,eO (jz b 1).1 (jz b 1).2,
 .int .i64 6,eO (jB b 2).1 (jB b 2).2,eO (jz b 2).1 (jz b 2).2,.int .i64 6,eO (jB b 3).1 (jB b 3).2,eO (jz b 3).1 (jz b 3).2,.int .i64 6,eO (jB b 4).1 (jB b 4).2,eO (jz b 4).1 (jz b 4).2,
 .int .i64 1,eO (jB b 5).1 (jB b 5).2,eO (jz b 5).1 (jz b 5).2,.int .i64 1,eO (jB b 6).1 (jB b 6).2,eO (jz b 6).1 (jz b 6).2,.int .i64 2,eO (jB b 7).1 (jB b 7).2,eO (jz b 7).1 (jz b 7).2,
 .int .i64 2,eO (jB b 8).1 (jB b 8).2,eO (jz b 8).1 (jz b 8).2]
def oB (b:Fb):Value:=.agg (nx b)
def cT (b:Fb):ah:=
 pt b.b0 (.cells #[.int .u64 1465012808] 166 (0,0))*(pt b.b2 (.cells #[eO 253 #[]] 313 (0,0))*(pt b.b3 (.cells #[eO 254 #[]] 313 (0,0))*(pt b.b4 (.cells #[eO 255 #[]] 313 (0,0)) *
  (pt b.b5 (.cells #[eO 257 #[]] 316 (0,0))*(pt b.b6 (.cells #[eO 258 #[]] 316 (0,0))*(pt b.b7 (.cells #[eO 259 #[]] 316 (0,0))*pt b.b8 (.cells #[.int .u64 0] 166 (0,0))))))))
end Go.SL
namespace Go.Nn
open Go.RowKit Go.SL
def Oh (size n:Int) (w:World) (e:Ending) (w':World):Prop:=
 ∃ b,e = .returned (.agg #[.int .i64 size,eO 269 #[ax b],eO 270 #[]])∧Sat w' (pt b (.cells #[.int .u64 n] 166 (0,0))*whole w)∧ai w w'
theorem vC (size n:Int) (w:World):Calls Tryz.prog 249 #[.int .i64 size,.int .u64 n] w (Oh size n w):=by
 have hA:=(Sat.whole w).alloc (.cells #[.int .u64 n] 166 (0,0));have hs:=(ai.refl w).alloc (.cells #[.int .u64 n] 166 (0,0))
 go_enter Tryz.func249,Tryz.ntmps249
 go_wp2
 exact bodyPost_ret (v:=.agg #[.int .i64 size,eO 269 #[ax w.heap.size],eO 270 #[]]) (by simp [results,Tryz.results249,go_sem]) rfl ⟨_,rfl,SL.Sat.right (SL.Sat.alloc hA _),hs.alloc _⟩
def PJ (f:Nat) (w:World) (e:Ending) (w':World):Prop:=
 ∃ b,e = .returned (.agg #[.int .i64 6,eO 271 #[ax b],eO 272 #[ax b]])∧Sat w' (pt b (.cells #[eO f #[]] 313 (0,0))*whole w)∧ai w w'
theorem tW (f:Nat) (w:World):Calls Tryz.prog 252 #[eO f #[]] w (PJ f w):=by
 have hA:=(Sat.whole w).alloc (.cells #[eO f #[]] 313 (0,0));have hs:=(ai.refl w).alloc (.cells #[eO f #[]] 313 (0,0))
 go_enter Tryz.func252,Tryz.ntmps252
 go_wp2
 exact bodyPost_ret (v:=.agg #[.int .i64 6,eO 271 #[ax w.heap.size],eO 272 #[ax w.heap.size]]) (by simp [results,Tryz.results252,go_sem]) rfl ⟨_,rfl,SL.Sat.right (SL.Sat.alloc hA _),hs.alloc _⟩
def Nz (size:Int) (f:Nat) (w:World) (e:Ending) (w':World):Prop:=
 ∃ b,e = .returned (.agg #[.int .i64 size,eO 273 #[ax b],eO 274 #[ax b]])∧Sat w' (pt b (.cells #[eO f #[]] 316 (0,0))*whole w)∧ai w w'
theorem qE (size:Int) (f:Nat) (w:World):Calls Tryz.prog 256 #[.int .i64 size,eO f #[]] w (Nz size f w):=by
 have hA:=(Sat.whole w).alloc (.cells #[eO f #[]] 316 (0,0));have hs:=(ai.refl w).alloc (.cells #[eO f #[]] 316 (0,0))
 go_enter Tryz.func256,Tryz.ntmps256
 go_wp2
 exact bodyPost_ret (v:=.agg #[.int .i64 size,eO 273 #[ax w.heap.size],eO 274 #[ax w.heap.size]]) (by simp [results,Tryz.results256,go_sem]) rfl ⟨_,rfl,SL.Sat.right (SL.Sat.alloc hA _),hs.alloc _⟩
def LB (w:World) (e:Ending) (w':World):Prop:=∃ b,e = .returned (oB b)∧Sat w' (cT b*whole w)∧ai w w'
theorem wP:(Tryz.prog.info? 291).map (·.size)=some 27:=by kernel_rfl
theorem ru (b:Fb):(Tryz.prog.info? 291).map (·.size)=some (nx b).size:=wP
theorem Al (b:Fb):(nx b).all (·.oneCell')=true:=by
 simp [nx,Value.oneCell',eO]
def qx:Array Value:=#[.int .i64 0,.nilFunc,.nilFunc,.int .i64 0,.nilFunc,.nilFunc,.int .i64 0,.nilFunc,.nilFunc,.int .i64 0,.nilFunc,.nilFunc,.int .i64 0,.nilFunc,.nilFunc,.int .i64 0,.nilFunc,.nilFunc,.int .i64 0,.nilFunc,.nilFunc,.int .i64 0,.nilFunc,.nilFunc,.int .i64 0,.nilFunc,.nilFunc]
theorem tP (w:World):Calls Tryz.prog 231 #[] w (LB w):=by
 have H0:=(Sat.whole w).alloc (.cells qx 291 (0,0));have D0:=(ai.refl w).alloc (.cells qx 291 (0,0))
 go_enter Tryz.func231,Tryz.ntmps231
 go_wp2_with fail
 change Calls _ _ _ (w.alloc (.cells qx 291 (0,0))) _;generalize w.alloc (.cells qx 291 (0,0))=w0 at H0 D0 ⊢;generalize w.heap.size=z at H0 ⊢;refine (vC 4 1465012808 _).mono ?_;rintro e w1 ⟨b0,rfl,h1,d1⟩;have H1:=h1.under H0;have D1:=D0.trans d1;clear h1 d1 H0 D0
 go_wp2_with fail
 refine (tW 253 _).mono ?_;rintro e w2 ⟨b2,rfl,h2,d2⟩;have H2:=h2.under H1;have D2:=D1.trans d2;clear h2 d2 H1 D1
 go_wp2_with fail
 refine (tW 254 _).mono ?_;rintro e w3 ⟨b3,rfl,h3,d3⟩;have H3:=h3.under H2;have D3:=D2.trans d3;clear h3 d3 H2 D2
 go_wp2_with fail
 refine (tW 255 _).mono ?_;rintro e w4 ⟨b4,rfl,h4,d4⟩;have H4:=h4.under H3;have D4:=D3.trans d4;clear h4 d4 H3 D3
 go_wp2_with fail
 refine (qE 1 257 _).mono ?_;rintro e w5 ⟨b5,rfl,h5,d5⟩;have H5:=h5.under H4;have D5:=D4.trans d5;clear h5 d5 H4 D4
 go_wp2_with fail
 refine (qE 1 258 _).mono ?_;rintro e w6 ⟨b6,rfl,h6,d6⟩;have H6:=h6.under H5;have D6:=D5.trans d6;clear h6 d6 H5 D5
 go_wp2_with fail
 refine (qE 2 259 _).mono ?_;rintro e w7 ⟨b7,rfl,h7,d7⟩;have H7:=h7.under H6;have D7:=D6.trans d7;clear h7 d7 H6 D6
 go_wp2_with fail
 refine (vC 2 0 _).mono ?_;rintro e w8 ⟨b8,rfl,h8,d8⟩;have H8:=h8.under H7;have D8:=D7.trans d8;clear h8 d8 H7 D7;obtain ⟨bb,hbb⟩:∃ bb:Fb,bb=⟨b0,b2,b3,b4,b5,b6,b7,b8⟩:=⟨_,rfl⟩
 have hz:w8.heap[z]?=some (.cells qx 291 (0,0)):=H8.jU.heap;have H9:=H8.jU.setRow (cs':=nx bb);have Hbb:=ae hbb;clear hbb
 go_wp2_with (refine wpList_store_row rfl 291 (.tmp 0) (.tmp 10) rfl z (nx ⟨b0,b2,b3,b4,b5,b6,b7,b8⟩) rfl rfl 291 qx hz (ru _) rfl (Al _) ?_)
 rw [Hbb.out] at H9;refine bodyPost_ret (v:=oB ⟨b0,b2,b3,b4,b5,b6,b7,b8⟩) (results_cell_row rfl _ _ z 291 _ (0,0) _ rfl H9.heap Tryz.underlying291 rfl (ru _)) rfl ⟨⟨b0,b2,b3,b4,b5,b6,b7,b8⟩,rfl,?_,D8.setRow _ _⟩;exact H9.right.to (by unfold cT;ac_rfl)
theorem Rh (b:Nat) (w:World):Calls Tryz.prog 253 #[ax b] w fun e w'=>e = .returned (.pointer (some ⟨b,2,none⟩))∧w=w':=by
 go_enter Tryz.func253,Tryz.ntmps253
 go_wp2
 go_ret
 exact ⟨rfl,rfl⟩
theorem Rm (b:Nat) (w:World):Calls Tryz.prog 254 #[ax b] w fun e w'=>e = .returned (.pointer (some ⟨b,3,none⟩))∧w=w':=by
 go_enter Tryz.func254,Tryz.ntmps254
 go_wp2
 go_ret
 exact ⟨rfl,rfl⟩
theorem Rk (b:Nat) (w:World):Calls Tryz.prog 255 #[ax b] w fun e w'=>e = .returned (.pointer (some ⟨b,1,none⟩))∧w=w':=by
 go_enter Tryz.func255,Tryz.ntmps255
 go_wp2
 go_ret
 exact ⟨rfl,rfl⟩
theorem Rq (b:Nat) (w:World):Calls Tryz.prog 257 #[ax b] w fun e w'=>e = .returned (.pointer (some ⟨b,4,none⟩))∧w=w':=by
 go_enter Tryz.func257,Tryz.ntmps257
 go_wp2
 go_ret
 exact ⟨rfl,rfl⟩
theorem Rf (b:Nat) (w:World):Calls Tryz.prog 258 #[ax b] w fun e w'=>e = .returned (.pointer (some ⟨b,5,none⟩))∧w=w':=by
 go_enter Tryz.func258,Tryz.ntmps258
 go_wp2
 go_ret
 exact ⟨rfl,rfl⟩
theorem at8 (b:Nat) (w:World):Calls Tryz.prog 259 #[ax b] w fun e w'=>e = .returned (.pointer (some ⟨b,6,none⟩))∧w=w':=by
 go_enter Tryz.func259,Tryz.ntmps259
 go_wp2
 go_ret
 exact ⟨rfl,rfl⟩
theorem M6:∀ args w,(callFunc 269 args).run Tryz.prog w = .ok (.enter 269 args) w:=enters Tryz.func269 (by kernel_rfl) rfl
theorem Nh:∀ args w,(callFunc 270 args).run Tryz.prog w = .ok (.enter 270 args) w:=enters Tryz.func270 (by kernel_rfl) rfl
theorem GO:∀ args w,(callFunc 271 args).run Tryz.prog w = .ok (.enter 271 args) w:=enters Tryz.func271 (by kernel_rfl) rfl
theorem Gm:∀ args w,(callFunc 272 args).run Tryz.prog w = .ok (.enter 272 args) w:=enters Tryz.func272 (by kernel_rfl) rfl
theorem JM:∀ args w,(callFunc 273 args).run Tryz.prog w = .ok (.enter 273 args) w:=enters Tryz.func273 (by kernel_rfl) rfl
theorem Gt:∀ args w,(callFunc 274 args).run Tryz.prog w = .ok (.enter 274 args) w:=enters Tryz.func274 (by kernel_rfl) rfl
theorem P8:∀ args w,(callFunc 250 args).run Tryz.prog w = .ok (.enter 250 args) w:=enters Tryz.func250 (by kernel_rfl) rfl
theorem QC:∀ args w,(callFunc 251 args).run Tryz.prog w = .ok (.enter 251 args) w:=enters Tryz.func251 (by kernel_rfl) rfl
theorem MW:∀ args w,(callFunc 253 args).run Tryz.prog w = .ok (.enter 253 args) w:=enters Tryz.func253 (by kernel_rfl) rfl
theorem MP:∀ args w,(callFunc 254 args).run Tryz.prog w = .ok (.enter 254 args) w:=enters Tryz.func254 (by kernel_rfl) rfl
theorem Nb:∀ args w,(callFunc 255 args).run Tryz.prog w = .ok (.enter 255 args) w:=enters Tryz.func255 (by kernel_rfl) rfl
theorem Nt:∀ args w,(callFunc 257 args).run Tryz.prog w = .ok (.enter 257 args) w:=enters Tryz.func257 (by kernel_rfl) rfl
theorem Ns:∀ args w,(callFunc 258 args).run Tryz.prog w = .ok (.enter 258 args) w:=enters Tryz.func258 (by kernel_rfl) rfl
theorem Nl:∀ args w,(callFunc 259 args).run Tryz.prog w = .ok (.enter 259 args) w:=enters Tryz.func259 (by kernel_rfl) rfl
theorem PZ (b:Nat) (n:Int) (t:Tg) (w:World) (F:ah) (h:Sat w (pt b (.cells #[.int .u64 n] 166 (0,0))*F)) :
  Calls Tryz.prog 269 #[.agg t.cells,ax b] w (kH (.int .u64 n) w):=by
 have hc:w.cell? ⟨b,0,none⟩=some (.int .u64 n):=h.cell 0;have hl:=h.lt;clear h;simp only [Tg.cells]
 go_enter Tryz.func269,Tryz.ntmps269
 go_wp2
 go_ret
 exact ⟨rfl,SL.Sat.right (SL.Sat.alloc (Sat.whole w) _),(ai.refl w).alloc _⟩
theorem Q2 (t:Tg) (w:World) (ht:t.Fit):Calls Tryz.prog 250 #[.agg t.cells] w (kH (.int .u64 t.ep) w):=by
 obtain ⟨h0,h1,_,_,_,_,_,_⟩:=ht;simp only [Tg.cells]
 go_enter Tryz.func250,Tryz.ntmps250
 go_wp2
 go_ret
 exact ⟨rfl,SL.Sat.right (SL.Sat.alloc (Sat.whole w) _),(ai.refl w).alloc _⟩
theorem NT (b f o:Nat) (n:Int) (t:Tg) (w:World) (F:ah) (h:Sat w (pt b (.cells #[eO f #[]] 313 (0,0))*F)) (hen:∀ args w,(callFunc f args).run Tryz.prog w = .ok (.enter f args) w)
  (hat:∀ (b:Nat) (w:World),Calls Tryz.prog f #[ax b] w fun e w'=>e = .returned (.pointer (some ⟨b,o,none⟩))∧w=w') (ho:t.cells[o]?=some (.int .u64 n)) :
  Calls Tryz.prog 271 #[.agg t.cells,ax b] w (kH (.int .u64 n) w):=by
 have hc:w.cell? ⟨b,0,none⟩=some (eO f #[]):=h.cell 0;have hl:=h.lt;have hA:=(Sat.whole w).alloc (.cells t.cells 245 (0,0));have hco:=(hA.cell o).trans ho;clear h ho;simp only [Tg.cells] at hA hco ⊢
 go_enter Tryz.func271,Tryz.ntmps271
 go_wp2_with fail
 refine (hat _ _).mono ?_;rintro e w1 ⟨rfl,rfl⟩
 go_wp2
 go_ret
 exact ⟨rfl,SL.Sat.right hA,(ai.refl w).alloc _⟩
theorem Ox (b f o:Nat) (n:Int) (t:Tg) (w:World) (F:ah) (h:Sat w (pt b (.cells #[eO f #[]] 316 (0,0))*F)) (hen:∀ args w,(callFunc f args).run Tryz.prog w = .ok (.enter f args) w)
  (hat:∀ (b:Nat) (w:World),Calls Tryz.prog f #[ax b] w fun e w'=>e = .returned (.pointer (some ⟨b,o,none⟩))∧w=w') (ho:t.cells[o]?=some (.int .i64 n)) :
  Calls Tryz.prog 273 #[.agg t.cells,ax b] w (kH (.int .u64 (Ec n)) w):=by
 have hc:w.cell? ⟨b,0,none⟩=some (eO f #[]):=h.cell 0;have hl:=h.lt;have hA:=(Sat.whole w).alloc (.cells t.cells 245 (0,0));have hco:=(hA.cell o).trans ho;clear h ho;simp only [Tg.cells] at hA hco ⊢
 go_enter Tryz.func273,Tryz.ntmps273
 go_wp2_with fail
 refine (hat _ _).mono ?_;rintro e w1 ⟨rfl,rfl⟩
 go_wp2
 go_ret
 exact ⟨rfl,SL.Sat.right hA,(ai.refl w).alloc _⟩
theorem fo {w:World} {b:Fb} {F:ah} (h:Sat w (cT b*F)):Sat w (pt b.b0 (.cells #[.int .u64 1465012808] 166 (0,0))*(pt b.b2 (.cells #[eO 253 #[]] 313 (0,0))*(pt b.b3 (.cells #[eO 254 #[]] 313 (0,0))*(pt b.b4 (.cells #[eO 255 #[]] 313 (0,0)) *
  (pt b.b5 (.cells #[eO 257 #[]] 316 (0,0))*(pt b.b6 (.cells #[eO 258 #[]] 316 (0,0))*(pt b.b7 (.cells #[eO 259 #[]] 316 (0,0))*(pt b.b8 (.cells #[.int .u64 0] 166 (0,0))*F)))))))):=h.to (by unfold cT;ac_rfl)
theorem PU (b:Fb) (t:Tg) (k:Nat) (hk:k<9) (ht:t.Fit) :
  ∃ f caps,jB b k=(f,caps)∧(∀ args w,(callFunc f args).run Tryz.prog w = .ok (.enter f args) w) ∧
   ∀ w F,Sat w (cT b*F)→Calls Tryz.prog f (#[.agg t.cells]++caps) w (kH (.int .u64 (t.field k)) w):=by
 match k,hk with
 | 0,_=>exact ⟨_,_,rfl,M6,fun w F h=>PZ b.b0 _ t w _ (fo h)⟩
 | 1,_=>exact ⟨_,_,rfl,P8,fun w F h=>Q2 t w ht⟩
 | 2,_=>exact ⟨_,_,rfl,GO,fun w F h=>NT b.b2 _ 2 _ t w _ (fo h).ag MW Rh rfl⟩
 | 3,_=>exact ⟨_,_,rfl,GO,fun w F h=>NT b.b3 _ 3 _ t w _ (fo h).aq MP Rm rfl⟩
 | 4,_=>exact ⟨_,_,rfl,GO,fun w F h=>NT b.b4 _ 1 _ t w _ (fo h).aC Nb Rk rfl⟩
 | 5,_=>exact ⟨_,_,rfl,JM,fun w F h=>Ox b.b5 _ 4 _ t w _ (fo h).aG Nt Rq rfl⟩
 | 6,_=>exact ⟨_,_,rfl,JM,fun w F h=>Ox b.b6 _ 5 _ t w _ (fo h).dj Ns Rf rfl⟩
 | 7,_=>exact ⟨_,_,rfl,JM,fun w F h=>Ox b.b7 _ 6 _ t w _ (fo h).bM Nl at8 rfl⟩
 | 8,_=>exact ⟨_,_,rfl,M6,fun w F h=>PZ b.b8 _ t w _ (fo h).dI⟩
theorem je (t:Tg) (w:World):Calls Tryz.prog 230 #[.agg t.cells] w (kH (.bool t.ok) w):=by
 simp only [Tg.cells]
 by_cases h0:1≤t.ep
 ·skip
  by_cases h1:1≤t.st
  ·skip
   by_cases h2:t.st≤t.sq
   ·skip
    by_cases h3:t.sq≤281474976710655
    ·skip
     by_cases h4:t.fl<t.sq
     ·skip
      by_cases h5:1≤t.ct
      ·skip
       by_cases h6:t.ct≤72
       ·skip
        by_cases h7:0≤t.ix
        ·skip
         by_cases h8:t.ix<t.ct
         ·skip
          by_cases h9:0≤t.id
          ·skip
           by_cases h10:t.id<3840
           ·skip
            rw [show t.ok=true by simp [Tg.ok,h0,h1,h2,h3,h4,h5,h6,h7,h8,h9,h10]]
            go_enter Tryz.func230,Tryz.ntmps230
            go_wp2
            go_ret
            exact ⟨rfl,SL.Sat.right (SL.Sat.alloc (Sat.whole w) _),(ai.refl w).alloc _⟩
           ·rw [show t.ok=false by simp [Tg.ok,h10]]
            have hd:decide (t.id<3840)=false:=by simpa using h10
            go_enter Tryz.func230,Tryz.ntmps230
            go_wp2
            go_ret
            exact ⟨rfl,SL.Sat.right (SL.Sat.alloc (Sat.whole w) _),(ai.refl w).alloc _⟩
          ·rw [show t.ok=false by simp [Tg.ok,h9]]
           have hd:decide (0≤t.id)=false:=by simpa using h9
           go_enter Tryz.func230,Tryz.ntmps230
           go_wp2
           go_ret
           exact ⟨rfl,SL.Sat.right (SL.Sat.alloc (Sat.whole w) _),(ai.refl w).alloc _⟩
         ·rw [show t.ok=false by simp [Tg.ok,h8]]
          have hd:decide (t.ix<t.ct)=false:=by simpa using h8
          go_enter Tryz.func230,Tryz.ntmps230
          go_wp2
          go_ret
          exact ⟨rfl,SL.Sat.right (SL.Sat.alloc (Sat.whole w) _),(ai.refl w).alloc _⟩
        ·rw [show t.ok=false by simp [Tg.ok,h7]]
         have hd:decide (0≤t.ix)=false:=by simpa using h7
         go_enter Tryz.func230,Tryz.ntmps230
         go_wp2
         go_ret
         exact ⟨rfl,SL.Sat.right (SL.Sat.alloc (Sat.whole w) _),(ai.refl w).alloc _⟩
       ·rw [show t.ok=false by simp [Tg.ok,h6]]
        have hd:decide (t.ct≤72)=false:=by simpa using h6
        go_enter Tryz.func230,Tryz.ntmps230
        go_wp2
        go_ret
        exact ⟨rfl,SL.Sat.right (SL.Sat.alloc (Sat.whole w) _),(ai.refl w).alloc _⟩
      ·rw [show t.ok=false by simp [Tg.ok,h5]]
       have hd:decide (1≤t.ct)=false:=by simpa using h5
       go_enter Tryz.func230,Tryz.ntmps230
       go_wp2
       go_ret
       exact ⟨rfl,SL.Sat.right (SL.Sat.alloc (Sat.whole w) _),(ai.refl w).alloc _⟩
     ·rw [show t.ok=false by simp [Tg.ok,h4]]
      have hd:decide (t.fl<t.sq)=false:=by simpa using h4
      go_enter Tryz.func230,Tryz.ntmps230
      go_wp2
      go_ret
      exact ⟨rfl,SL.Sat.right (SL.Sat.alloc (Sat.whole w) _),(ai.refl w).alloc _⟩
    ·rw [show t.ok=false by simp [Tg.ok,h3]]
     have hd:decide (t.sq≤281474976710655)=false:=by simpa using h3
     go_enter Tryz.func230,Tryz.ntmps230
     go_wp2
     go_ret
     exact ⟨rfl,SL.Sat.right (SL.Sat.alloc (Sat.whole w) _),(ai.refl w).alloc _⟩
   ·rw [show t.ok=false by simp [Tg.ok,h2]]
    have hd:decide (t.st≤t.sq)=false:=by simpa using h2
    go_enter Tryz.func230,Tryz.ntmps230
    go_wp2
    go_ret
    exact ⟨rfl,SL.Sat.right (SL.Sat.alloc (Sat.whole w) _),(ai.refl w).alloc _⟩
  ·rw [show t.ok=false by simp [Tg.ok,h1]]
   have hd:decide (1≤t.st)=false:=by simpa using h1
   go_enter Tryz.func230,Tryz.ntmps230
   go_wp2
   go_ret
   exact ⟨rfl,SL.Sat.right (SL.Sat.alloc (Sat.whole w) _),(ai.refl w).alloc _⟩
 ·rw [show t.ok=false by simp [Tg.ok,h0]]
  have hd:decide (1≤t.ep)=false:=by simpa using h0
  go_enter Tryz.func230,Tryz.ntmps230
  go_wp2
  go_ret
  exact ⟨rfl,SL.Sat.right (SL.Sat.alloc (Sat.whole w) _),(ai.refl w).alloc _⟩
end Go.Nn
namespace Go.SL
open Go.RowKit
def oR (t:Tg) (k:Nat):List UInt8:=(List.range k).flatMap fun i=>cZ (t.field i) (dJ i)
theorem kB (t:Tg) (k:Nat):oR t (k+1)=oR t k++cZ (t.field k) (dJ k):=by simp [oR,List.range_succ]
def enc (t:Tg):List UInt8:=oR t 9
theorem lR (k:Nat):dJ k≤6:=by
 unfold dJ
 split <;> omega
theorem yq (t:Tg) (k:Nat):(oR t k).length≤6*k:=by
 induction k with
 | zero=>simp [oR]
 | succ k ih=>rw [kB,List.length_append,aS];have:=lR k;omega
theorem dN (t:Tg):(enc t).length=32:=by
 simp [enc,oR,List.range_succ,aS,dJ]
end Go.SL
namespace Go.Nn
open Go.RowKit Go.SL
theorem Ch (b:Fb) (k:Nat) (hk:k<9) (w:World):(Instr.index 291 (oB b) (.int .i64 (k:Int))).run Tryz.prog w = .ok (.agg (Bh b k)) w:=by
 obtain rfl|rfl|rfl|rfl|rfl|rfl|rfl|rfl|rfl:k=0∨k=1∨k=2∨k=3∨k=4∨k=5∨k=6∨k=7∨k=8:=by omega
 all_goals kernel_rfl
theorem mh {w:World} {v:Value} {l:List UInt8} {x:UInt8} {F:ah} (h:Sat w (bs 5 v l*F)) (hl:l.length≤1000000) :
  ∃ v' w',(Builtin.append_ #[37,37] 37 #[v,.slice (some ⟨w.heap.size,0,none⟩) 1 1]).run Tryz.prog (w.alloc (.cells #[u8 x] 5 (0,0))) = .ok v' w'∧Sat w' (bs 5 v' (l++[x])*F)∧ai w w'∧∃ a c,v' = .slice a (l.length+1) c:=by
 obtain ⟨i0,hi,hz,hs0,hb0⟩:=info_parts gg;have hA:=h.alloc (.cells #[u8 x] 5 (0,0))
 have hR:nA (w.alloc (.cells #[u8 x] 5 (0,0))) 1 (.slice (some ⟨w.heap.size,0,none⟩) 1 1) 1 [u8 x]:=
  ⟨rfl,.inr ⟨_,_,rfl,fun j u hu=>by
   rw [Addr.add_lit,Nat.zero_add];exact (hA.cell j).trans (by simpa using hu)⟩⟩
 obtain ⟨v',w',hrun,hsat',hside'⟩:=Sat.append (P:=Tryz.prog) (ty:=37) Tryz.underlying37 hi hz hs0 hb0 rfl hA.right hR (by intro u hu;rw [List.mem_singleton.1 hu];rfl) (by unfold maxLen;omega) (by omega);refine ⟨v',w',hrun,hsat'.to (by rw [bs,List.length_append,List.map_append];rfl),((ai.refl w).alloc _).trans hside',aB hsat'⟩
def Qc (pre:List UInt8) (n:Int) (s:Nat) (X:ah) (w0:World) (gk:Nat) (u6 u9 u29:Value) (wr:World):Prop:=
 ∃ j:Nat,j≤s∧s-j≤gk∧u29 = .int .i64 (j:Int)∧u9 = .int .u64 (n/(256:Int) ^ j)∧Sat wr (bs 5 u6 (pre++cZ n j)*X)∧ai w0 wr
def NQ (t:Tg) (fb:Fb) (bt:Nat) (X:ah) (w0:World) (gk:Nat) (u6 u20:Value) (wr:World):Prop:=
 ∃ k:Nat,k≤9∧9-k≤gk∧u20 = .int .i64 (k:Int)∧Sat wr (bs 5 u6 (oR t k)*(cT fb*(pt bt (.cells t.cells 245 (0,0))*X)))∧ai w0 wr
def Li (l:List UInt8) (w:World) (e:Ending) (w':World):Prop:=∃ v,e = .returned (.tuple #[v,.int .i64 0])∧Sat w' (bs 5 v l*whole w)∧ai w w'
theorem za (t:Tg) (ht:t.Fit) (k:Nat):0≤t.field k∧t.field k<18446744073709551616:=by
 obtain ⟨h0,h1,h2,h3,h4,h5,h6,h7⟩:=ht;unfold Tg.field MU Ec
 split <;> omega
theorem lj (t:Tg) (ht:t.Fit) (hok:t.ok=true) (bv:Value) (l:List UInt8) (hl:l.length=480) (w:World) (hr:Rd w bv l) :
  Calls Tryz.prog 174 #[.agg t.cells,bv] w (Li (enc t++l) w):=by
 obtain ⟨ba,bc,rfl⟩:=hr.shape;rw [hl] at hr ⊢
 have hmk:∀ w,(Instr.makeSlice 37 (.int .i64 0) (.int .i64 512)).run Tryz.prog w = .ok (.slice (some ⟨w.heap.size,0,none⟩) 0 512) (w.alloc (.cells (dp (zs 512)) 5 (0,0))):=fun w=>by
  obtain ⟨i,hi,hz,hs,hb⟩:=info_parts gg;have:=run_make (P:=Tryz.prog) w 37 5 i _ Tryz.underlying37 hi hz .i64 .i64 0 512 (by omega) (by omega) (by rw [hb];omega) (by omega);rw [this,hs];exact congrArg (fun c=>Result.ok _ (w.alloc (.cells c _ (0,0)))) (iS 512)
 have hri:=je t;rw [hok] at hri;have hA:=(Sat.whole w).alloc (.cells t.cells 245 (0,0));have hs:=(ai.refl w).alloc (.cells t.cells 245 (0,0));have Hl:=ae hl;have Hr:=ae hr
 go_enter Tryz.func174,Tryz.ntmps174
 simp only [Tg.cells] at hA hri ⊢
 go_wp2_with fail
 refine (hri _).mono ?_;rintro e w2 ⟨rfl,h2,d2⟩;have H2:=h2.dO hA;have D2:=ai.trans hs d2;generalize w.heap.size=bt at H2 ⊢;have hlt:=H2.lt
 go_wp2_with fail
 have H3:=H2.alloc (.cells (dp (zs 512)) 5 (0,0));have D3:=D2.alloc (.cells (dp (zs 512)) 5 (0,0));generalize hw3:w2.alloc (.cells (dp (zs 512)) 5 (0,0))=w3 at H3 D3 ⊢;generalize w2.heap.size=gb at H3 ⊢;refine (tP w3).mono ?_;rintro e w4 ⟨fb,rfl,h4,d4⟩;have H4:=h4.under H3;have D4:=D3.trans d4
 have H5:Sat w4 (bs 5 (.slice (some ⟨gb,0,none⟩) 0 512) (oR t 0)*(cT fb*(pt bt (.cells t.cells 245 (0,0))*whole w))):=by
  have:=Sat.l7 (sz:=1) (n:=0) (cap:=512) H4.ag (by omega) (by unfold maxLen;omega) (by simp [ez,aT]);exact this
 have hix:=Ch fb;have hgk:=PU fb t;generalize hfv:oB fb=fv at hix;clear hfv H4
 go_wp2_with fail
 go_loopg [6,20] 9 (fun gk u6 u20 wr=>NQ t fb bt (whole w) w gk u6 u20 wr)
 case atStart=>exact ⟨0,by omega,by omega,rfl,H5,D4⟩
 case round=>
  clear H5 D4;obtain ⟨gko,rfl⟩:∃ n,n=gk:=⟨gk,rfl⟩
  obtain ⟨k,hk,hgo,rfl,hsat,hside⟩:=hrel;have hlen:=yq t k;have hshape:=aB hsat;obtain ⟨va,vc,rfl⟩:=hshape
  by_cases hlt:k<9
  ·have hlt':(k:Int)<9:=by omega
   have hixk:=hix k hlt;obtain ⟨f,caps,hf,hen,hget⟩:=hgk k hlt ht;obtain ⟨f2,caps2,hf2⟩:∃ f2 caps2,jz fb k=(f2,caps2):=⟨_,_,rfl⟩
   simp only [Bh,hf,hf2] at hixk;have hsz:(dJ k:Int)≤6:=by have:=lR k;omega
   have hA:=hsat.alloc (.cells #[.int .i64 (dJ k),eO f caps,eO f2 caps2] 290 (0,0));have hsA:=hside.alloc (.cells #[.int .i64 (dJ k),eO f caps,eO f2 caps2] 290 (0,0));have cb:∀ o,wr.cell? ⟨bt,o,none⟩=t.cells[o]?:=fun o=>hsat.aq.cell o;have cb0:=cb 0;have cb1:=cb 1;have cb2:=cb 2;have cb3:=cb 3;have cb4:=cb 4;have cb5:=cb 5;have cb6:=cb 6;simp only [Tg.cells] at cb0 cb1 cb2 cb3 cb4 cb5 cb6;have hbl:=hsat.aq.lt;have hcall:=hget _ _ (hA.aq.ag.ag);clear hix hgk hget cb hf hf2 hsat hside
   go_wp2_with fail
   refine hcall.mono ?_;rintro e w5 ⟨rfl,h5,d5⟩;have H5:=h5.dO hA;have D5:=hsA.trans d5;generalize wr.heap.size=b8 at H5 ⊢;have c8:=H5.cell 0;obtain ⟨fn0,fn1⟩:=za t ht k;have Hes:Hid (oR t (k+1)=oR t k++cZ (t.field k) (dJ k)):=kB t k;generalize hfk:t.field k=n at *;generalize hsk:dJ k=sz at *;generalize hpre:oR t k=pre at *;have H6:Sat w5 (bs 5 (.slice va pre.length vc) (pre++cZ n 0)*(pt b8 (.cells #[.int .i64 (sz:Int),eO f caps,eO f2 caps2] 290 (0,0))*(cT fb*(pt bt (.cells t.cells 245 (0,0))*whole w)))):=H5.ag.to (by simp only [cZ,List.range_zero,List.map_nil,List.append_nil])
   go_wp2_with fail
   go_loopg [6,9,29] sz (fun gk u6 u9 u29 wr=>Qc pre n sz (pt b8 (.cells #[.int .i64 (sz:Int),eO f caps,eO f2 caps2] 290 (0,0))*(cT fb*(pt bt (.cells t.cells 245 (0,0))*whole w))) w gk u6 u9 u29 wr)
   case atStart=>exact ⟨0,by omega,by omega,rfl,by simp,H6,D5⟩
   case round=>
    obtain ⟨j,hj,hgj,rfl,rfl,hsat,hside⟩:=hrel;have hl6:(pre++cZ n j).length≤60:=by rw [List.length_append,aS];omega
    by_cases hjl:j<sz
    ·have hjl':(j:Int)<(sz:Int):=by omega
     have hp:0<(256:Int) ^ j:=Int.pow_pos (by decide)
     have q2:n/(256:Int) ^ (j+1)=n/(256:Int) ^ j/256:=by
      rw [Int.pow_succ,Int.ediv_ediv,if_neg (fun hh=>absurd hh.1 (by omega)),Int.sub_zero]
     have hs8:=yV n j;obtain ⟨v',w6,hrun,h6,d6,a6,c6,rfl⟩:=mh (x:=UInt8.ofInt (n/(256:Int) ^ j)) hsat (by omega);have hu8:=Cz (n/(256:Int) ^ j);rw [IntKind.wrap_u8] at hu8;rw [List.append_assoc,← hs8] at h6;generalize hq:n/(256:Int) ^ j=q at *;rw [← hu8] at hrun;have Hrun:=ae hrun;have Hq2:=ae q2;clear hrun hs8 hu8 hsat hq q2 hp
     go_wp2_with (at_builtin;refine wpList_append_run Hrun.out _ _ rfl rfl rfl rfl rfl ?_)
     go_roundg (gk-1)
     case measure=>omega
     case rel=>
      refine ⟨j+1,by omega,by omega,by go_num,by rw [Hq2.out],?_,hside.trans d6⟩;rw [List.length_append] at h6;exact h6
    ·obtain rfl:j=sz:=by omega
     have hshape:=aB hsat;obtain ⟨a6,c6,rfl⟩:=hshape;rw [← Hes.out] at hsat;have H9:=hsat.gZ
     go_wp2
     go_roundg (gko-1)
     case measure=>omega
     case rel=>
      refine ⟨k+1,by omega,by omega,by go_num,?_,hside⟩
      first|exact H9|(rw [← Hes.out];exact H9)
  ·obtain rfl:k=9:=by omega
   have hrl:=nA.carry Hr.out fun a u hu=>(hsat.right.right.right.lP.to (eC _ _)).bD hu;obtain ⟨i0,hi,hz,hs0,hb0⟩:=info_parts gg
   have hrl2:nA wr 1 (.slice ba 480 bc) 480 (l.map Go.SL.u8):=by
    have:=hrl;unfold Rd at this;rwa [Hl.out] at this
   obtain ⟨v',w6,hrun,h6,d6⟩:=Sat.append (P:=Tryz.prog) (ty:=37) Tryz.underlying37 hi hz hs0 hb0 rfl hsat hrl2 (by
    intro u hu;obtain ⟨x,_,rfl⟩:=List.mem_map.1 hu;rfl) (by unfold maxLen;omega) (by omega)
   have hbs:Sat w6 (bs 5 v' (enc t++l)*(cT fb*(pt bt (.cells t.cells 245 (0,0))*whole w))):=h6.to (by
    rw [bs,List.length_append,List.map_append,Hl.out];rfl)
   have Hrun:=ae hrun
   go_wp2_with (at_builtin;refine wpList_append_run Hrun.out _ _ rfl rfl rfl rfl rfl ?_)
   go_ret2
   exact ⟨v',rfl,hbs.gZ.gZ,hside.trans d6⟩
end Go.Nn
namespace Go.SL
open Go.RowKit
def Tg.zero:Tg:=⟨0,0,0,0,0,0,0⟩
def Tg.set (t:Tg) (n:Int):Nat→Tg
 | 1=>{ t with ep:=n%4294967296 }
 | 2=>{ t with sq:=n }
 | 3=>{ t with fl:=n }
 | 4=>{ t with st:=n }
 | 5=>{ t with ix:=wrap64 n }
 | 6=>{ t with ct:=wrap64 n }
 | 7=>{ t with id:=wrap64 n }
 | _=>t
def kL (k:Nat):Nat:=((List.range k).map dJ).sum
theorem qK (k:Nat):kL (k+1)=kL k+dJ k:=by simp [kL,List.range_succ]
def iu (l:List UInt8):Nat→Tg
 | 0=>Tg.zero
 | k+1=>(iu l k).set (ia (l.drop (kL k)) (dJ k)) k
end Go.SL
namespace Go.Nn
open Go.RowKit Go.SL
def tK (b:Nat) (t:Tg) (F:ah) (w:World) (e:Ending) (w':World):Prop:=e = .returned (.tuple #[])∧Sat w' (pt b (.cells t.cells 245 (0,0))*F)∧ai w w'
theorem Qm (b:Nat) (n:Int) (t:Tg) (w:World) (F:ah) (h:Sat w (pt b (.cells t.cells 245 (0,0))*F)) :
  Calls Tryz.prog 270 #[ax b,.int .u64 n] w (tK b t F w):=by
 go_enter Tryz.func270,Tryz.ntmps270
 go_wp2
 go_end0
 exact ⟨rfl,h,ai.refl w⟩
theorem Q7 (b:Nat) (n:Int) (t:Tg) (w:World) (F:ah) (h:Sat w (pt b (.cells t.cells 245 (0,0))*F)) :
  Calls Tryz.prog 251 #[ax b,.int .u64 n] w (tK b (t.set n 1) F w):=by
 have hc:=h.cell 0;have hf:=h.frozen 0;have h2:=h.setCell 0 (.int .u32 (n%4294967296));have H2:=ae h2
 go_enter Tryz.func251,Tryz.ntmps251
 go_wp2
 go_end0
 exact ⟨rfl,H2.out,(ai.refl w).setCell _ _⟩
theorem Ex (b c f o:Nat) (n v:Int) (t t':Tg) (w:World) (F:ah) (h:Sat w (pt c (.cells #[eO f #[]] 313 (0,0))*(pt b (.cells t.cells 245 (0,0))*F))) (hen:∀ args w,(callFunc f args).run Tryz.prog w = .ok (.enter f args) w)
  (hat:∀ (b:Nat) (w:World),Calls Tryz.prog f #[ax b] w fun e w'=>e = .returned (.pointer (some ⟨b,o,none⟩))∧w=w') (ho:t.cells[o]?=some (.int .u64 v)) (ht:t.cells.setIfInBounds o (.int .u64 n)=t'.cells) :
  Calls Tryz.prog 272 #[ax b,.int .u64 n,ax c] w (tK b t' (pt c (.cells #[eO f #[]] 313 (0,0))*F) w):=by
 have hc:=h.cell 0;have hco:=(h.ag.cell o).trans ho;have hf:=h.ag.frozen o;have h2:=h.ag.setCell o (.int .u64 n);rw [ht] at h2
 go_enter Tryz.func272,Tryz.ntmps272
 go_wp2_with fail
 refine (hat _ _).mono ?_;rintro e w1 ⟨rfl,rfl⟩
 go_wp2
 go_end0
 exact ⟨rfl,h2,(ai.refl w).setCell _ _⟩
theorem Ny (b c f o:Nat) (n v:Int) (t t':Tg) (w:World) (F:ah) (h:Sat w (pt c (.cells #[eO f #[]] 316 (0,0))*(pt b (.cells t.cells 245 (0,0))*F))) (hen:∀ args w,(callFunc f args).run Tryz.prog w = .ok (.enter f args) w)
  (hat:∀ (b:Nat) (w:World),Calls Tryz.prog f #[ax b] w fun e w'=>e = .returned (.pointer (some ⟨b,o,none⟩))∧w=w') (ho:t.cells[o]?=some (.int .i64 v)) (ht:t.cells.setIfInBounds o (.int .i64 (wrap64 n))=t'.cells) :
  Calls Tryz.prog 274 #[ax b,.int .u64 n,ax c] w (tK b t' (pt c (.cells #[eO f #[]] 316 (0,0))*F) w):=by
 have hc:=h.cell 0;have hco:=(h.ag.cell o).trans ho;have hf:=h.ag.frozen o;have h2:=h.ag.setCell o (.int .i64 (wrap64 n));rw [ht] at h2
 go_enter Tryz.func274,Tryz.ntmps274
 go_wp2_with fail
 refine (hat _ _).mono ?_;rintro e w1 ⟨rfl,rfl⟩
 go_wp2
 go_end0
 exact ⟨rfl,h2,(ai.refl w).setCell _ _⟩
theorem PN (fb:Fb) (b:Nat) (t:Tg) (n:Int) (k:Nat) (hk:k<9) :
  ∃ f caps,jz fb k=(f,caps)∧(∀ args w,(callFunc f args).run Tryz.prog w = .ok (.enter f args) w) ∧
   ∀ w F,Sat w (cT fb*(pt b (.cells t.cells 245 (0,0))*F))→Calls Tryz.prog f (#[ax b,.int .u64 n]++caps) w (tK b (t.set n k) (cT fb*F) w):=by
 have fin:∀ {t':Tg} {R F:ah} {w:World} {e:Ending} {w':World} {c:Nat} {o:Obj},tK b t' (pt c o*R) w e w'→(pt b (.cells t'.cells 245 (0,0))*(pt c o*R)=pt b (.cells t'.cells 245 (0,0))*(cT fb*F))→tK b t' (cT fb*F) w e w':=
  fun ⟨h1,h2,h3⟩ e=>⟨h1,h2.to e,h3⟩
 match k,hk with
 | 0,_=>exact ⟨_,_,rfl,Nh,fun w F h=>Qm b n t w _ h.ag⟩
 | 1,_=>exact ⟨_,_,rfl,QC,fun w F h=>Q7 b n t w _ h.ag⟩
 | 2,_=>exact ⟨_,_,rfl,Gm,fun w F h=>(Ex b fb.b2 _ 2 n _ t (t.set n 2) w _ ((fo h).ag.jU.ag) MW Rh rfl rfl).mono fun _ _ q=>fin q (by unfold cT;ac_rfl)⟩
 | 3,_=>exact ⟨_,_,rfl,Gm,fun w F h=>(Ex b fb.b3 _ 3 n _ t (t.set n 3) w _ ((fo h).aq.jU.ag) MP Rm rfl rfl).mono fun _ _ q=>fin q (by unfold cT;ac_rfl)⟩
 | 4,_=>exact ⟨_,_,rfl,Gm,fun w F h=>(Ex b fb.b4 _ 1 n _ t (t.set n 4) w _ ((fo h).aC.jU.ag) Nb Rk rfl rfl).mono fun _ _ q=>fin q (by unfold cT;ac_rfl)⟩
 | 5,_=>exact ⟨_,_,rfl,Gt,fun w F h=>(Ny b fb.b5 _ 4 n _ t (t.set n 5) w _ ((fo h).aG.jU.ag) Nt Rq rfl rfl).mono fun _ _ q=>fin q (by unfold cT;ac_rfl)⟩
 | 6,_=>exact ⟨_,_,rfl,Gt,fun w F h=>(Ny b fb.b6 _ 5 n _ t (t.set n 6) w _ ((fo h).dj.jU.ag) Ns Rf rfl rfl).mono fun _ _ q=>fin q (by unfold cT;ac_rfl)⟩
 | 7,_=>exact ⟨_,_,rfl,Gt,fun w F h=>(Ny b fb.b7 _ 6 n _ t (t.set n 7) w _ ((fo h).bM.jU.ag) Nl at8 rfl rfl).mono fun _ _ q=>fin q (by unfold cT;ac_rfl)⟩
 | 8,_=>exact ⟨_,_,rfl,Nh,fun w F h=>Qm b n t w _ h.ag⟩
theorem Ah (l:List UInt8):∀ (n i:Nat) (acc:List UInt8),l.length-i=n→ByteArray.toList.loop ⟨l.toArray⟩ i acc=acc.reverse++l.drop i:=by
 intro n
 induction n with
 | zero=>
  intro i acc h;rw [ByteArray.toList.loop];have:¬ i<ByteArray.size ⟨l.toArray⟩:=by show ¬ i<l.toArray.size;simp;omega
  rw [if_neg this,List.drop_of_length_le (by omega)];simp
 | succ n ih=>
  intro i acc h;rw [ByteArray.toList.loop];have hi:i<l.length:=by omega
  have:i<ByteArray.size ⟨l.toArray⟩:=by show i<l.toArray.size;simpa using hi
  rw [if_pos this,ih (i+1) _ (by omega),List.drop_eq_getElem_cons hi];simp [ByteArray.get!,hi]
theorem tp (l:List UInt8):(str l).toList=l:=by
 show ByteArray.toList.loop ⟨l.toArray⟩ 0 []=l
 rw [Ah l _ 0 [] rfl];rfl
theorem py (w:World) (v:Value) (l:List UInt8) (h:Rd w v l):(convert 37 9 v).run Tryz.prog w = .ok (.string (str l)) w:=by
 have uj:∀ (l:List UInt8) (s:ByteArray),(l.map fun x=>(x.toNat:Int)).foldl (fun r n=>r.push (UInt8.ofNat n.toNat)) s=⟨s.data++l.toArray⟩:=by
  intro l
  induction l with
  | nil=>intro s;simp
  | cons a l ih=>intro s;simp only [List.map_cons,List.foldl_cons,ih];simp [ByteArray.push]
 obtain ⟨_,hr⟩:=h;rcases hr with ⟨rfl,h0⟩|⟨a,c,rfl,ha⟩
 ·have:l=[]:=List.eq_nil_of_length_eq_zero h0
  subst this;rw [run_convert_bytes_string w _ _ 5 none 0 0 Tryz.underlying37 Tryz.underlying5 Tryz.underlying9]
  rfl
 ·rw [run_convert_bytes_string w _ _ 5 (some a) _ c Tryz.underlying37 Tryz.underlying5 Tryz.underlying9]
  have hl:=run_loadCells_list (P:=Tryz.prog) (w:=w) a (l.map u8) ha;rw [List.length_map] at hl
  have:=run_bytesToString (P:=Tryz.prog) w a l.length c (l.map fun x=>(x.toNat:Int)) (by
   rw [hl];simp [u8,Function.comp_def])
  rw [this,uj];simp [str]
theorem pV (t:Tg) (hok:t.ok=false) (bv:Value) (l:List UInt8) (w:World) (hr:Rd w bv l) :
  Calls Tryz.prog 174 #[.agg t.cells,bv] w (kH (.tuple #[.slice none 0 0,.int .i64 1]) w):=by
 have hri:=je t;rw [hok] at hri;have hA:=(Sat.whole w).alloc (.cells t.cells 245 (0,0));have hs:=(ai.refl w).alloc (.cells t.cells 245 (0,0))
 go_enter Tryz.func174,Tryz.ntmps174
 simp only [Tg.cells] at hA hri ⊢
 go_wp2_with fail
 refine (hri _).mono ?_;rintro e w2 ⟨rfl,h2,d2⟩;have H2:=(h2.dO hA).right;have D2:=ai.trans hs d2
 go_wp2
 go_ret2
 exact ⟨rfl,H2,D2⟩
theorem ET (w:World) (v1 v2:Value) (l1 l2:List UInt8) (h1:Rd w v1 l1) (h2:Rd w v2 l2) :
  Calls Tryz.prog 248 #[v1,v2] w (tR (decide (l1=l2)) w):=by
 have k1:=py w v1 l1 h1;have k2:=py w v2 l2 h2
 by_cases he:l1=l2
 ·subst he
  rw [show decide (l1=l1)=true by simp]
  go_enter Tryz.func248,Tryz.ntmps248
  go_wp2
  go_ret
  exact ⟨rfl,rfl⟩
 ·rw [show decide (l1=l2)=false by simpa using he]
  have hne:((str l1).toList == (str l2).toList)=false:=by
   rw [tp,tp];simpa using he
  go_enter Tryz.func248,Tryz.ntmps248
  go_wp2
  go_ret
  exact ⟨rfl,rfl⟩
end Go.Nn
namespace Go.SL
open Go.RowKit
def cK (l:List UInt8):Option (Tg × List UInt8):=
 if (iu l 9).ok=true∧enc (iu l 9)++l.drop 32=l then some (iu l 9,l.drop 32) else none
theorem Cv (k:Nat) (h:k≤9):kL k≤32:=by
 obtain rfl|rfl|rfl|rfl|rfl|rfl|rfl|rfl|rfl|rfl:k=0∨k=1∨k=2∨k=3∨k=4∨k=5∨k=6∨k=7∨k=8∨k=9:=by omega
 all_goals decide
theorem LF (t:Tg) (n:Int) (k:Nat) (h:t.Fit) (r0:0≤n) (r2:n<18446744073709551616):(t.set n k).Fit:=by
 obtain ⟨h0,h1,h2,h3,h4,h5,h6,h7⟩:=h;unfold Tg.set
 split
 ·exact ⟨Int.emod_nonneg _ (by decide),Int.emod_lt_of_pos _ (by decide),h2,h3,h4,h5,h6,h7⟩
 ·exact ⟨h0,h1,h2,h3,r0,r2,h6,h7⟩
 ·exact ⟨h0,h1,h2,h3,h4,h5,r0,r2⟩
 ·exact ⟨h0,h1,r0,r2,h4,h5,h6,h7⟩
 all_goals exact ⟨h0,h1,h2,h3,h4,h5,h6,h7⟩
theorem IG (l:List UInt8) (k:Nat):(iu l k).Fit:=by
 induction k with
 | zero=>exact (show Tg.zero.Fit from ⟨by decide,by decide,by decide,by decide,by decide,by decide,by decide,by decide⟩)
 | succ k ih=>
  obtain ⟨h0,h1,h2,h3,h4,h5,h6,h7⟩:=ih;obtain ⟨r0,r1⟩:=gy (l.drop (kL k)) (dJ k);have hp:=ve (lR k);rw [iu];have r2:ia (l.drop (kL k)) (dJ k)<18446744073709551616:=by omega
  clear r1 hp;generalize ia (l.drop (kL k)) (dJ k)=n at *;exact LF (iu l k) n k ⟨h0,h1,h2,h3,h4,h5,h6,h7⟩ r0 r2
end Go.SL
namespace Go.Nn
open Go.RowKit Go.SL
theorem tX {w:World} {g o c:Nat} {l:List UInt8} (h:∀ i,i<l.length→w.cell? ⟨g,o+i,none⟩=some (u8 (l.getD i 0))):Rd w (.slice (some ⟨g,o,none⟩) l.length c) l:=by
 refine ⟨by simp,.inr ⟨_,_,rfl,fun j u hu=>?_⟩⟩;rw [Addr.add_lit];rw [List.getElem?_map] at hu
 by_cases hj:j<l.length
 ·rw [List.getElem?_eq_getElem hj] at hu
  rw [h j hj,← hu,List.getD,List.getElem?_eq_getElem hj];rfl
 ·rw [List.getElem?_eq_none (Nat.le_of_not_lt hj)] at hu;cases hu
theorem EM:(Tryz.prog.info? 245).map (·.size)=some 7:=by kernel_rfl
theorem zU (t:Tg):(Tryz.prog.info? 245).map (·.size)=some t.cells.size:=EM
theorem CL (t:Tg):t.cells.all (·.oneCell')=true:=by simp [Tg.cells,Value.oneCell']
theorem mx {tmps:Array Value} {w:World} {z2:Nat} {t:Tg} {v u:Value} {F:ah} (h2:tmps[2]?=some (ax z2)) (h3:tmps[3]?=some v) (h4:tmps[4]?=some u) (h:Sat w (pt z2 (.cells t.cells 245 (0,0))*F)) :
  (results Tryz.f229 tmps).run Tryz.prog w = .ok (.tuple #[.agg t.cells,v,u]) w:=by
 have hz:∀ o,w.cell? ⟨z2,o,none⟩=t.cells[o]?:=fun o=>h.cell o;have z0:=hz 0;have z1:=hz 1;have z2':=hz 2;have z3:=hz 3;have z4:=hz 4;have z5:=hz 5;have z6:=hz 6;clear hz h;simp only [Tg.cells] at z0 z1 z2' z3 z4 z5 z6 ⊢;simp [results,Tryz.results229,go_sem,h2,h3,h4,z0,z1,z2',z3,z4,z5,z6]
def PG (l:List UInt8) (off:Nat) (s:Nat) (X:ah) (w0:World) (gk:Nat) (u9 u24:Value) (wr:World):Prop:=
 ∃ j:Nat,j≤s∧s-j≤gk∧u24 = .int .i64 (j:Int)∧u9 = .int .u64 (ia (l.drop off) j)∧Sat wr X∧ai w0 wr
def OO (l:List UInt8) (g cap:Nat) (fb:Fb) (b5:Nat) (X:ah) (w0:World) (gk:Nat) (u6 u19:Value) (wr:World):Prop:=
 ∃ k:Nat,k≤9∧9-k≤gk∧u19 = .int .i64 (k:Int)∧u6 = .slice (some ⟨g,kL k,none⟩) (512-kL k) (cap-kL k) ∧
  Sat wr (cT fb*(pt b5 (.cells (iu l k).cells 245 (0,0))*X))∧ai w0 wr
def LO (o:Option (Tg × List UInt8)) (w:World) (e:Ending) (w':World):Prop:=
 match o with
 | some (t,l)=>∃ v,e = .returned (.tuple #[.agg t.cells,v,.int .i64 0])∧Sat w' (bs 5 v l*whole w)∧ai w w'
 | none=>e = .returned (.tuple #[.agg Tg.zero.cells,.slice none 0 0,.int .i64 4])∧Sat w' (whole w)∧ai w w'
theorem nU (l:List UInt8) (hl:l.length=512) (g cap:Nat) (hcap:512≤cap) (hcm:cap≤maxLen) (w:World) (hb:∀ o,o<512→w.cell? ⟨g,o,none⟩=some (u8 (l.getD o 0))) :
  Calls Tryz.prog 229 #[.slice (some ⟨g,0,none⟩) 512 cap] w (LO (cK l) w):=by
 have hA:=((Sat.whole w).alloc (.cells Tg.zero.cells 245 (0,0))).alloc (.cells Tg.zero.cells 245 (0,0));have hs:=((ai.refl w).alloc (.cells Tg.zero.cells 245 (0,0))).alloc (.cells Tg.zero.cells 245 (0,0));rw [World.size_alloc] at hA;have Hb:=ae hb;clear hb hcm
 go_enter Tryz.func229,Tryz.ntmps229
 go_wp2_with fail
 refine (tP _).mono ?_;rintro e w4 ⟨fb,rfl,h4,d4⟩;have H4:=h4.under hA;have D4:=ai.trans hs d4;clear h4 d4 hA hs;generalize w.heap.size+1=b5 at H4 ⊢;generalize w.heap.size=z2 at H4 ⊢;have hix:=Ch fb;have hsk:=fun t n k hk=>PN fb b5 t n k hk;generalize hfv:oB fb=fv at hix;clear hfv
 go_wp2_with fail
 go_loopg [6,19] 9 (fun gk u6 u19 wr=>OO l g cap fb b5 (pt z2 (.cells Tg.zero.cells 245 (0,0))*whole w) w gk u6 u19 wr)
 case atStart=>exact ⟨0,by omega,by omega,rfl,rfl,H4,D4⟩
 case round=>
  clear H4 D4;obtain ⟨gko,rfl⟩:∃ n,n=gk:=⟨gk,rfl⟩
  obtain ⟨k,hk,hgo,rfl,rfl,hsat,hside⟩:=hrel;have hoff:=Cv k hk
  by_cases hlt:k<9
  ·have hlt':(k:Int)<9:=by omega
   have hixk:=hix k hlt;have hoff2:=Cv (k+1) (by omega);rw [qK] at hoff2;obtain ⟨f2,caps2,hf2,hen,hset⟩:=hsk (iu l k) (ia (l.drop (kL k)) (dJ k)) k hlt;obtain ⟨f,caps,hf⟩:∃ f caps,jB fb k=(f,caps):=⟨_,_,rfl⟩
   simp only [Bh,hf,hf2] at hixk;have hsz:(dJ k:Int)≤6:=by have:=lR k;omega
   have hszn:dJ k≤6:=lR k;have hA:=hsat.alloc (.cells #[.int .i64 (dJ k),eO f caps,eO f2 caps2] 290 (0,0));have hsA:=hside.alloc (.cells #[.int .i64 (dJ k),eO f caps,eO f2 caps2] 290 (0,0));have Hdec:Hid (iu l (k+1)=(iu l k).set (ia (l.drop (kL k)) (dJ k)) k):=rfl;have Hoff:Hid (kL (k+1)=kL k+dJ k):=qK k;have Hset:=ae hset;clear hix hsk hf hf2 hsat hside hset;generalize hsk2:dJ k=sz at *;generalize hok:kL k=off at *;clear hsk2 hok
   go_wp2_with fail
   generalize wr.alloc (.cells #[.int .i64 (sz:Int),eO f caps,eO f2 caps2] 290 (0,0))=w5 at hA hsA ⊢;generalize wr.heap.size=b8 at hA ⊢;have c8:w5.cell? ⟨b8,0,none⟩=some (.int .i64 (sz:Int)):=hA.cell 0
   go_loopg [9,24] sz (fun gk u9 u24 wr=>PG l off sz (pt b8 (.cells #[.int .i64 (sz:Int),eO f caps,eO f2 caps2] 290 (0,0))*(cT fb*(pt b5 (.cells (iu l k).cells 245 (0,0))*(pt z2 (.cells Tg.zero.cells 245 (0,0))*whole w)))) w gk u9 u24 wr)
   case atStart=>exact ⟨0,by omega,by omega,rfl,rfl,hA,hsA⟩
   case round=>
    clear hA hsA c8;obtain ⟨j,hj,hgj,rfl,rfl,hsat,hside⟩:=hrel
    by_cases hjl:j<sz
    ·have hjl':(j:Int)<(sz:Int):=by omega
     have hcj:wr.cell? ⟨g,off+j,none⟩=some (.int .u8 ((l.getD (off+j) 0).toNat:Int)):=(hsat.right.right.right.right.lP.to (eC _ _)).bD (Hb.out (off+j) (by omega));have hidx:(j:Int)<((512-off:Nat):Int):=by omega
     obtain ⟨r0,r1⟩:=gy (l.drop off) j
     go_wp2_with fail
     go_roundg (gk-1)
     case measure=>omega
     case rel=>exact ⟨j+1,by omega,by omega,by go_num,by rw [MG l off j (by omega)],hsat,hside⟩
    ·obtain rfl:j=sz:=by omega
     have c8:wr.cell? ⟨b8,0,none⟩=some (.int .i64 (j:Int)):=hsat.cell 0;have c82:wr.cell? ⟨b8,2,none⟩=some (eO f2 caps2):=hsat.cell 2;have hcall:=Hset.out wr _ hsat.aq.aq;clear hjl
     go_wp2_with fail
     refine hcall.mono ?_;rintro e w7 ⟨rfl,h7,d7⟩;have H7:=h7;have c8':w7.cell? ⟨b8,0,none⟩=some (.int .i64 (j:Int)):=H7.aq.cell 0;have hb1:(j:Int)≤((512-off:Nat):Int):=by omega
     have hb2:j≤512-off:=by omega
     have hb3:j≤cap-off:=by omega
     have hb4:512-off≤cap-off:=by omega
     have hb5:¬ cap-off=j:=by omega
     have hb6:¬ cap-off-j=0:=by omega
     have hside7:=hside.trans d7;clear hcall h7 d7 c8 c82 hsat hside
     go_wp2
     go_roundg (gko-1)
     case measure=>omega
     case rel=>
      refine ⟨k+1,by omega,by omega,by go_num,by rw [Hoff.out,Nat.sub_sub,Nat.sub_sub],?_,hside7⟩;rw [Hdec.out];exact H7.kD.ag
  ·obtain rfl:k=9:=by omega
   have ho9:kL 9=32:=by decide
   have Ht:=ae (IG l 9);rw [ho9];have cb:∀ o,wr.cell? ⟨b5,o,none⟩=(iu l 9).cells[o]?:=fun o=>hsat.ag.cell o;have cb0:=cb 0;have cb1:=cb 1;have cb2:=cb 2;have cb3:=cb 3;have cb4:=cb 4;have cb5:=cb 5;have cb6:=cb 6;simp only [Tg.cells] at cb0 cb1 cb2 cb3 cb4 cb5 cb6
   have hrest:Rd wr (.slice (some ⟨g,32,none⟩) 480 (cap-32)) (l.drop 32):=by
    have hdl:(l.drop 32).length=480:=by rw [List.length_drop,hl]
    have:=tX (w:=wr) (g:=g) (o:=32) (c:=cap-32) (l:=l.drop 32) fun o h=>by
     have hc:=(hsat.right.right.right.lP.to (eC _ _)).bD (Hb.out (32+o) (by omega));rw [hc];simp [List.getD]
    rwa [hdl] at this
   have hfull:∀ w',Sat w' (whole w)→Rd w' (.slice (some ⟨g,0,none⟩) 512 cap) l:=fun w' h=>by
    have:=tX (w:=w') (g:=g) (o:=0) (c:=cap) (l:=l) fun o hh=>by
     have hc:=(h.lP.to (eC _ _)).bD (Hb.out o (by omega));rw [Nat.zero_add];exact hc
    rwa [hl] at this
   have Hfull:=ae hfull;have Hrest:=ae hrest;have Hl:=ae hl;have hz:∀ o,wr.cell? ⟨z2,o,none⟩=Tg.zero.cells[o]?:=fun o=>hsat.aq.cell o;have Hdn:Hid ((iu l 9).ok=false→cK l=none):=fun hok=>by unfold cK;rw [if_neg];rintro ⟨h1,_⟩;rw [hok] at h1;cases h1
   have Hdy:Hid ((iu l 9).ok=true→enc (iu l 9)++l.drop 32=l→cK l=some (iu l 9,l.drop 32)):=fun h1 h2=>by unfold cK;rw [if_pos ⟨h1,h2⟩]
   have Hdz:Hid (¬ enc (iu l 9)++l.drop 32=l→cK l=none):=fun h2=>by unfold cK;rw [if_neg];rintro ⟨_,h3⟩;exact h2 h3
   clear cb hfull hrest hix hsk hoff hlt hl;generalize iu l 9=t at *
   cases hok:t.ok with
   | false=>
    have hdec:cK l=none:=Hdn.out hok;have Hdec:=ae hdec;have hcall:=pV t hok _ _ wr Hrest.out;clear hdec hok;simp only [Tg.cells] at hcall
    go_wp2_with fail
    refine hcall.mono ?_;rintro e w7 ⟨rfl,h7,d7⟩;have H7:=h7.dO hsat;clear hcall hsat cb0 cb1 cb2 cb3 cb4 cb5 cb6 hz h7;have hzh:w7.heap[z2]?=some (.cells Tg.zero.cells 245 (0,0)):=H7.aq.heap;have H8:=H7.aq.setRow (cs':=Tg.zero.cells);have hs8:=(hside.trans d7).setRow z2 Tg.zero.cells
    go_wp2_with (refine wpList_store_row rfl 245 (.tmp 2) (.tmp 61) rfl z2 Tg.zero.cells rfl rfl 245 Tg.zero.cells hzh (zU _) rfl (CL _) ?_)
    refine bodyPost_ret (mx rfl rfl rfl H8) rfl ?_;rw [Hdec.out];exact ⟨rfl,H8.right.right.right,hs8⟩
   | true=>
    have hcall:=lj t Ht.out hok _ _ (by rw [List.length_drop,Hl.out]) wr Hrest.out;have Hok:=ae hok;clear hok;simp only [Tg.cells] at hcall
    go_wp2_with fail
    refine hcall.mono ?_;rintro e w7 ⟨v,rfl,h7,d7⟩;have H7:=h7.under hsat;have hside7:=hside.trans d7;have hag:Rd w7 v (enc t++l.drop 32):=h7.oZ;have hfull:=Hfull.out w7 H7.right.right.right.right;have heq:=ET w7 v _ _ _ hag hfull;clear hcall hsat cb0 cb1 cb2 cb3 cb4 cb5 cb6 hz h7 d7 hside hag hfull
    by_cases he:enc t++l.drop 32=l
    ·rw [show decide (enc t++l.drop 32=l)=true by simpa using he] at heq
     have hdec:cK l=some (t,l.drop 32):=Hdy.out Hok.out he;have Hdec:=ae hdec;have hcb:∀ o,w7.cell? ⟨b5,o,none⟩=t.cells[o]?:=fun o=>H7.aq.cell o;have cb0:=hcb 0;have cb1:=hcb 1;have cb2:=hcb 2;have cb3:=hcb 3;have cb4:=hcb 4;have cb5:=hcb 5;have cb6:=hcb 6;simp only [Tg.cells] at cb0 cb1 cb2 cb3 cb4 cb5 cb6
     have Hrest7:Hid (Rd w7 (.slice (some ⟨g,32,none⟩) 480 (cap-32)) (l.drop 32)):=by
      have hdl:(l.drop 32).length=480:=by rw [List.length_drop,Hl.out]
      have:=tX (w:=w7) (g:=g) (o:=32) (c:=cap-32) (l:=l.drop 32) fun o h=>by
       have hc:=(H7.right.right.right.right.lP.to (eC _ _)).bD (Hb.out (32+o) (by omega));rw [hc];simp [List.getD]
      rwa [hdl] at this
     clear hcb he hdec
     go_wp2_with (go_at_call 248;(with_reducible refine heq.mono ?_);rintro e w8 ⟨rfl,rfl⟩)
     obtain ⟨i0,hi,hz,hs0,hb0⟩:=info_parts gg;obtain ⟨B3,hB3⟩:∃ X,X=pt b5 (.cells t.cells 245 (0,0))*(cT fb*whole w):=⟨_,rfl⟩
     have K7:Sat w7.drew (sl 5 1 (.slice none 0 0) 0 []*(pt z2 (.cells Tg.zero.cells 245 (0,0))*B3)):=(Sat.eA (F:=pt z2 (.cells Tg.zero.cells 245 (0,0))*B3) (H7.right.to (by rw [hB3];ac_rfl)) _ _)
     have hrl2:nA w7.drew 1 (.slice (some ⟨g,32,none⟩) 480 (cap-32)) 480 ((l.drop 32).map Go.SL.u8):=by
      have:=Hrest7.out;unfold Rd at this;rwa [List.length_drop,Hl.out] at this
     obtain ⟨v',w8,hrun,h8,d8⟩:=Sat.append (P:=Tryz.prog) (ty:=37) Tryz.underlying37 hi hz hs0 hb0 rfl K7 hrl2 (pT _) (by unfold maxLen;omega) (by omega)
     have hbs:Sat w8 (bs 5 v' (l.drop 32)*(pt z2 (.cells Tg.zero.cells 245 (0,0))*B3)):=h8.to (by
      rw [bs,List.length_drop,Hl.out];rfl)
     obtain ⟨va',vc',rfl⟩:=aB hbs;have hz8:∀ o,w8.cell? ⟨z2,o,none⟩=Tg.zero.cells[o]?:=fun o=>hbs.ag.cell o;have zz0:w8.cell? ⟨z2,0,none⟩=some (.int .u32 0):=hz8 0;have zz1:w8.cell? ⟨z2,1,none⟩=some (.int .u64 0):=hz8 1;have zz2:w8.cell? ⟨z2,2,none⟩=some (.int .u64 0):=hz8 2;have zz3:w8.cell? ⟨z2,3,none⟩=some (.int .u64 0):=hz8 3;have zz4:w8.cell? ⟨z2,4,none⟩=some (.int .i64 0):=hz8 4;have zz5:w8.cell? ⟨z2,5,none⟩=some (.int .i64 0):=hz8 5;have zz6:w8.cell? ⟨z2,6,none⟩=some (.int .i64 0):=hz8 6;have fz0:w8.frozen? ⟨z2,0,none⟩=false:=hbs.ag.frozen 0;have fz1:w8.frozen? ⟨z2,1,none⟩=false:=hbs.ag.frozen 1;have fz2:w8.frozen? ⟨z2,2,none⟩=false:=hbs.ag.frozen 2;have fz3:w8.frozen? ⟨z2,3,none⟩=false:=hbs.ag.frozen 3;have fz4:w8.frozen? ⟨z2,4,none⟩=false:=hbs.ag.frozen 4;have fz5:w8.frozen? ⟨z2,5,none⟩=false:=hbs.ag.frozen 5;have fz6:w8.frozen? ⟨z2,6,none⟩=false:=hbs.ag.frozen 6;have K9:=((((((hbs.ag.setCell 0 (.int .u32 t.ep)).setCell 1 (.int .u64 t.st)).setCell 2 (.int .u64 t.sq)).setCell 3 (.int .u64 t.fl)).setCell 4 (.int .i64 t.ix)).setCell 5 (.int .i64 t.ct)).setCell 6 (.int .i64 t.id);have S9:=K9.right.right;have S8:=hbs.right.right;have S7:=K7.right.right;have gb:∀ o w',Sat w' B3→w'.cell? ⟨b5,o,none⟩=t.cells[o]?:=fun o w' h=>(hB3▸h).cell o;have gb0:∀ w',Sat w' B3→w'.cell? ⟨b5,0,none⟩=some (.int .u32 t.ep):=gb 0;have gb1:∀ w',Sat w' B3→w'.cell? ⟨b5,1,none⟩=some (.int .u64 t.st):=gb 1;have gb2:∀ w',Sat w' B3→w'.cell? ⟨b5,2,none⟩=some (.int .u64 t.sq):=gb 2;have gb3:∀ w',Sat w' B3→w'.cell? ⟨b5,3,none⟩=some (.int .u64 t.fl):=gb 3;have gb4:∀ w',Sat w' B3→w'.cell? ⟨b5,4,none⟩=some (.int .i64 t.ix):=gb 4;have gb5:∀ w',Sat w' B3→w'.cell? ⟨b5,5,none⟩=some (.int .i64 t.ct):=gb 5;have gb6:∀ w',Sat w' B3→w'.cell? ⟨b5,6,none⟩=some (.int .i64 t.id):=gb 6;have Hrun:=ae hrun;have HB3:=ae hB3;clear hrun gb h8 hz8 hB3 hi hz hs0 hb0 hrl2 K7 H7 heq cb0 cb1 cb2 cb3 cb4 cb5 cb6;have S9d:=S9.drew
     go_region_held3 (fun w'=>Sat w' B3) (first|(with_reducible exact S7)|(with_reducible exact S8)|(with_reducible exact S9)|(with_reducible exact S9d)) (first
      | (refine lx Hrun.out rfl _ _ rfl rfl (by rfl) (by rfl) ?_))
     go_wp2
     have K10:Sat ((((((((w8.setCell ⟨z2,0,none⟩ (.int .u32 t.ep)).setCell ⟨z2,1,none⟩ (.int .u64 t.st)).setCell ⟨z2,2,none⟩ (.int .u64 t.sq)).setCell ⟨z2,3,none⟩ (.int .u64 t.fl)).setCell ⟨z2,4,none⟩ (.int .i64 t.ix)).setCell ⟨z2,5,none⟩ (.int .i64 t.ct)).setCell ⟨z2,6,none⟩ (.int .i64 t.id))) (pt z2 (.cells t.cells 245 (0,0))*(bs 5 (.slice va' (l.length-32) vc') (l.drop 32)*B3)):=by
      rw [List.length_drop] at K9;exact K9
     refine bodyPost_ret (mx rfl rfl rfl K10) rfl ?_;rw [Hdec.out];refine ⟨_,rfl,?_,(((((((hside7.drew.trans d8).setCell _ _).setCell _ _).setCell _ _).setCell _ _).setCell _ _).setCell _ _).setCell _ _⟩;rw [HB3.out] at K10;exact K10.right.gZ.gZ
    ·rw [show decide (enc t++l.drop 32=l)=false by simpa using he] at heq
     have hdec:cK l=none:=Hdz.out he;have Hdec:=ae hdec;have hzh:w7.heap[z2]?=some (.cells Tg.zero.cells 245 (0,0)):=H7.aC.heap;have H8:=H7.aC.setRow (cs':=Tg.zero.cells);have hs8:=hside7.setRow z2 Tg.zero.cells;clear he hdec H7
     go_wp2_with (first
      | (go_at_call 248;(with_reducible refine heq.mono ?_);rintro e w8 ⟨rfl,rfl⟩)
      | (refine wpList_store_row rfl 245 (.tmp 2) (.tmp 61) rfl z2 Tg.zero.cells rfl rfl 245 Tg.zero.cells hzh (zU _) rfl (CL _) ?_))
     refine bodyPost_ret (mx rfl rfl rfl H8) rfl ?_;rw [Hdec.out];exact ⟨rfl,H8.right.right.right.right,hs8⟩
end Go.Nn
namespace Go.SL
open Go.RowKit
structure Jr where
 P:Nat
 T:Tb
 n:Int
 ep:Int
 st:Int
 sq:Int
 hd:Int
 us:Int
 fr:Int
 br:Bool
def bX (P:Nat):List Int:=(List.range P).map fun i:Nat=>(i:Int)+1
theorem aO (P:Nat):(bX P).length=P:=by simp [bX]
theorem uV {P k:Nat} (h:k<P):(bX P).getD k 0=(k:Int)+1:=by simp [bX,List.getD,h]
def Jr.cells (J:Jr) (d r t:Nat):Array Value:=
 #[ax d,ax r,ax t,.int .i64 J.n,.int .u32 J.ep,.int .u64 J.st,.int .u64 J.sq,.int .i64 J.hd,.int .i64 J.us,.int .i64 J.fr,.bool J.br]
def iW (j d r t:Nat) (J:Jr):ah:=pt j (.cells (J.cells d r t) 183 (0,0))*(bK r (bX J.P)*bq t J.T)
def nN (j d:Nat) (J:Jr):ah:=ex fun x:Nat × Nat=>pt j (.cells (J.cells d x.1 x.2) 183 (0,0))*(bK x.1 (bX J.P)*bq x.2 J.T)
structure Jr.Ok (J:Jr):Prop where
 p0:0<J.P
 p1:J.P≤20000
 T:J.T.Ok
 ps:(J.T.ps.length:Int)=J.n
 os:J.T.os.length=J.P
 us0:0≤J.us
 us1:J.us≤J.P
 hd0:0≤J.hd
 hd1:J.hd<J.P
 fr0:0≤J.fr
 fr1:J.fr≤48
theorem Sat.qm {w:World} {j d:Nat} {J:Jr} {F:ah} (h:Sat w (nN j d J*F)):∃ r t,Sat w (pt j (.cells (J.cells d r t) 183 (0,0))*(bK r (bX J.P)*(bq t J.T*F))):=by
 obtain ⟨x,h⟩:=Sat.au.1 h;exact ⟨x.1,x.2,h.to (by ac_rfl)⟩
theorem Sat.xD {w:World} {j d r t:Nat} {J:Jr} {F:ah} (h:Sat w (pt j (.cells (J.cells d r t) 183 (0,0))*(bK r (bX J.P)*(bq t J.T*F)))):Sat w (nN j d J*F):=
 Sat.au.2 ⟨(r,t),h.to (by ac_rfl)⟩
theorem Sat.CE {w:World} {j d r t:Nat} {J:Jr} {F:ah} (h:Sat w (iW j d r t J*F)):Sat w (nN j d J*F):=Sat.au.2 ⟨(r,t),h⟩
theorem Sat.Da {w:World} {j d:Nat} {J:Jr} {F:ah} (h:Sat w (nN j d J*F)):∃ r t,Sat w (iW j d r t J*F):=by
 obtain ⟨x,h⟩:=Sat.au.1 h;exact ⟨x.1,x.2,h⟩
theorem Sat.KB {w:World} {j d r t:Nat} {J:Jr} {F:ah} (h:Sat w (pt j (.cells (J.cells d r t) 183 (0,0))*(bK r (bX J.P)*(bq t J.T*F)))):Sat w (iW j d r t J*F):=h.to (by unfold iW;ac_rfl)
theorem Sat.De {w:World} {j d r t:Nat} {J:Jr} {F:ah} (h:Sat w (iW j d r t J*F)):Sat w (pt j (.cells (J.cells d r t) 183 (0,0))*(bK r (bX J.P)*(bq t J.T*F))):=h.to (by unfold iW;ac_rfl)
def Jr.load (J:Jr) (D:ay) (id place:Int):(Int × List UInt8) × Jr × ay:=
 let R:=D.read (place%(J.P:Int)+1)
 if R.1.1=0 then
  match cK R.1.2 with
  | some (t,b)=>if t.id=id then ((0,b),J,R.2) else ((2,[]),{ J with br:=true },R.2)
  | none=>((2,[]),{ J with br:=true },R.2)
 else ((2,[]),{ J with br:=true },R.2)
def Jr.read (J:Jr) (D:ay) (id:Int):(Int × List UInt8) × Jr × ay:=
 if id<0∨J.n≤id then ((1,[]),J,D)
 else if J.br then ((2,[]),J,D)
 else match told J.T.ps id with
  | none=>((0,zs 480),J,D)
  | some p=>J.load D id p
def Jr.flush (J:Jr) (D:ay):Int × Jr × ay:=
 if J.br then (2,J,D) else if D.flush.1=0 then (0,J,D.flush.2) else (2,{ J with br:=true },D.flush.2)
end Go.SL
namespace Go.Nn
open Go.RowKit Go.SL
def QV (j d r t:Nat) (J:Jr) (v:Value) (F:ah) (w:World) (e:Ending) (w':World):Prop:=e = .returned v∧Sat w' (iW j d r t J*F)∧ai w w'
theorem ni (w:World) (j d r t:Nat) (J:Jr) (F:ah) (h:Sat w (iW j d r t J*F)) :
  Calls Tryz.prog 169 #[ax j] w (QV j d r t { J with br:=true } (.int .i64 2) F w):=by
 have hx:Sat w (pt j (.cells (J.cells d r t) 183 (0,0))*(bK r (bX J.P)*(bq t J.T*F))):=h.to (by unfold iW;ac_rfl);have hc:w.cell? ⟨j,10,none⟩=some (.bool J.br):=hx.cell 10;have hf:=hx.frozen 10;have h2:=hx.setCell 10 (.bool true);have H2:=ae h2;clear h hx h2
 go_enter Tryz.func169,Tryz.ntmps169
 go_wp2
 go_ret
 exact ⟨rfl,Sat.KB (J:={ J with br:=true }) H2.out,(ai.refl w).setCell _ _⟩
def Rx (j d:Nat) (J:Jr) (v:Value) (F:ah) (w:World) (e:Ending) (w':World):Prop:=e = .returned v∧Sat w' (nN j d J*F)∧ai w w'
theorem yF (w:World) (j d:Nat) (J:Jr) (F:ah) (h:Sat w (nN j d J*F)) :
  Calls Tryz.prog 169 #[ax j] w (Rx j d { J with br:=true } (.int .i64 2) F w):=by
 obtain ⟨r,t,hx⟩:=h.Da;exact (ni w j d r t J F hx).mono fun _ _ ⟨a,b,c⟩=>⟨a,b.CE,c⟩
theorem JK (w:World) (j d:Nat) (J:Jr) (F:ah) (h:Sat w (nN j d J*F)) (hJ:J.Ok) :
  Calls Tryz.prog 127 #[ax j] w (kH (.int .i64 ((J.P:Int)-J.us-J.fr)) w):=by
 obtain ⟨r,t,hx⟩:=h.qm;have c1:w.cell? ⟨j,1,none⟩=some (ax r):=hx.cell 1;have c8:w.cell? ⟨j,8,none⟩=some (.int .i64 J.us):=hx.cell 8;have c9:w.cell? ⟨j,9,none⟩=some (.int .i64 J.fr):=hx.cell 9;have hR:=hx.ag
 have hlen:∀ w',Sat w' (bK r (bX J.P)*(pt j (.cells (J.cells d r t) 183 (0,0))*(bq t J.T*F)))→Calls Tryz.prog 173 #[ax r] w' (mr J.P w'):=fun w' h=>by
  have:=qU w' r (bX J.P) _ h
  rwa [aO] at this
 obtain ⟨p0,p1,_,_,_,u0,u1,_,_,f0,f1⟩:=hJ;have hl:=hlen w hR;have hld:=hlen w.drew hR;have hP:(J.P:Int)≤20000:=by omega
 have hP0:0≤(J.P:Int):=by omega
 have hu2:J.us≤20000:=by omega
 clear h hx hR hlen
 go_enter Tryz.func127,Tryz.ntmps127
 have s1:IntKind.i64.wrap ((J.P:Int)-J.us)=(J.P:Int)-J.us:=by rw [IntKind.wrap_i64];omega
 have s2:IntKind.i64.wrap ((J.P:Int)-J.us-J.fr)=(J.P:Int)-J.us-J.fr:=by rw [IntKind.wrap_i64];omega
 go_wp2_with fail
 go_region_held3 (fun w'=>w'.cell? ⟨j,1,none⟩=some (ax r)∧w'.cell? ⟨j,8,none⟩=some (.int .i64 J.us)∧w'.cell? ⟨j,9,none⟩=some (.int .i64 J.fr)) (first|exact ⟨c1,c8,c9⟩) (first
  | (go_at_call 173;(with_reducible refine hld.mono ?_);rintro e w1 ⟨rfl,rfl⟩))
 go_wp2
 go_ret
 exact ⟨rfl,(Sat.whole w).drew,(ai.refl w).drew⟩
def ON (S:Hp) (j d:Nat) (R:Int × Jr × ay) (F:ah) (w:World) (e:Ending) (w':World):Prop:=
 e = .returned (.int .i64 R.1)∧Sat w' (nN j d R.2.1*(aK S d R.2.2*F))∧ai w w'
theorem tE (w:World) (S:Hp) (j d:Nat) (J:Jr) (D:ay) (F:ah) (h:Sat w (nN j d J*(aK S d D*F))) (hD:D.Ok) :
  Calls Tryz.prog 124 #[ax j] w (ON S j d (J.flush D) F w):=by
 obtain ⟨r,t,hx⟩:=h.qm;have c10:w.cell? ⟨j,10,none⟩=some (.bool J.br):=hx.cell 10;have c0:w.cell? ⟨j,0,none⟩=some (ax d):=hx.cell 0;have hf:=mT w S d D _ h.ag hD;clear hx;unfold Jr.flush
 cases hb:J.br with
 | true=>
  rw [hb] at c10;clear hf
  go_enter Tryz.func124,Tryz.ntmps124
  go_wp2
  go_ret
  exact ⟨rfl,h,ai.refl w⟩
 | false=>
  rw [hb] at c10
  by_cases h0:D.flush.1=0
  ·rw [if_neg (by simp),if_pos h0]
   rw [h0] at hf;clear h h0 hb
   go_enter Tryz.func124,Tryz.ntmps124
   go_wp2_with fail
   refine hf.mono ?_;rintro e w1 ⟨rfl,h1,d1⟩;clear hf c0 c10
   go_wp2
   go_ret
   exact ⟨rfl,h1.ag,d1⟩
  ·rw [if_neg (by simp),if_neg h0]
   have h0b:(D.flush.1 == 0)=false:=by simpa using h0
   generalize D.flush.1=v at hf h0b;clear h h0 hb
   go_enter Tryz.func124,Tryz.ntmps124
   go_wp2_with fail
   refine hf.mono ?_;rintro e w1 ⟨rfl,h1,d1⟩;have hfl:=yF w1 j d J _ h1.ag;clear hf c0 c10 h1
   go_wp2_with fail
   refine hfl.mono ?_;rintro e w2 ⟨rfl,h2,d2⟩;clear hfl
   go_wp2
   go_ret
   exact ⟨rfl,h2,d1.trans d2⟩
def O6 (S:Hp) (j d r t:Nat) (R:(Int × List UInt8) × Jr × ay) (F:ah) (w:World) (e:Ending) (w':World):Prop:=
 ∃ dv,e = .returned (.tuple #[dv,.int .i64 R.1.1])∧Sat w' (nM 5 R.1 dv*(iW j d r t R.2.1*(aK S d R.2.2*(aj S*F))))∧ai w w'
def MO (S:Hp) (j d:Nat) (R:(Int × List UInt8) × Jr × ay) (F:ah) (w:World) (e:Ending) (w':World):Prop:=
 ∃ dv,e = .returned (.tuple #[dv,.int .i64 R.1.1])∧Sat w' (nM 5 R.1 dv*(nN j d R.2.1*(aK S d R.2.2*(aj S*F))))∧ai w w'
theorem PM {w:World} {v:Value} {l:List UInt8} {F:ah} (h:Sat w (bs 5 v l*F)) (hl:0<l.length) (hm:l.length≤1000000) :
  ∃ g c,v = .slice (some ⟨g,0,none⟩) l.length c∧l.length≤c∧∀ o,o<l.length→w.cell? ⟨g,o,none⟩=some (u8 (l.getD o 0)):=by
 rcases h.cX with ⟨_,h0,_⟩|⟨g,cap,cur,rfl,h3,h4,h5,h6,hF⟩
 ·omega
 ·refine ⟨g,cap,rfl,h3,fun o ho=>?_⟩
  rw [hF.cell];have e:=congrArg (·[o]?) h6;simp only [List.getElem?_take,Nat.mul_one,ho,if_true,List.getElem?_map,Array.getElem?_toList] at e;rw [e,List.getElem?_eq_getElem ho,List.getD,List.getElem?_eq_getElem ho];rfl
theorem uU (D:ay) (a:Int) (h:(D.bT a).1=0):(D.bT a).2.length=512:=by
 unfold ay.bT at h ⊢
 split
 ·exact bR _ _
 ·rename_i hn
  rw [hn] at h;simp only at h
  split
  ·rename_i h2;rw [if_pos h2] at h;cases h
  ·exact bR _ _
theorem oQ (D:ay) (a:Int) (h:(D.read a).1.1=0):(D.read a).1.2.length=512:=by
 unfold ay.read at h ⊢
 split
 ·rename_i h1
  rw [if_pos h1] at h
  split
  ·rename_i h2;rw [if_pos h2] at h;exact uU _ _ h
  ·rename_i h2;rw [if_neg h2] at h;cases h
 ·rename_i h1;rw [if_neg h1] at h;cases h
theorem vV (w:World) (S:Hp) (j d r t:Nat) (J:Jr) (D:ay) (id place:Int) (F:ah) (h:Sat w (iW j d r t J*(aK S d D*(aj S*F)))) (hJ:J.Ok) (hD:D.Ok) :
  Calls Tryz.prog 171 #[ax j,.int .i64 id,.int .i64 place] w (O6 S j d r t (J.load D id place) F w):=by
 have hx:Sat w (pt j (.cells (J.cells d r t) 183 (0,0))*(bK r (bX J.P)*(bq t J.T*(aK S d D*(aj S*F))))):=h.to (by unfold iW;ac_rfl);have c0:w.cell? ⟨j,0,none⟩=some (ax d):=hx.cell 0;have c1:w.cell? ⟨j,1,none⟩=some (ax r):=hx.cell 1;have hp0:=hJ.p0;have hp1:=hJ.p1;have hget:=C6 w.drew r (bX J.P) place _ hx.ag.drew (by rw [aO];exact hp0) (by rw [aO];omega);obtain ⟨k,hk,hkl⟩:=mB place hp0;rw [aO,hk,Int.toNat_natCast,uV hkl,← hk] at hget;obtain ⟨O,hO⟩:∃ O,O=J.load D id place:=⟨_,rfl⟩
 rw [← hO];have hlen:=oQ D (place%(J.P:Int)+1);obtain ⟨R,hR⟩:∃ R,R=D.read (place%(J.P:Int)+1):=⟨_,rfl⟩
 rw [← hR] at hlen
 have hrd:∀ w',Sat w' (pt j (.cells (J.cells d r t) 183 (0,0))*(bK r (bX J.P)*(bq t J.T*(aK S d D*(aj S*F)))))→Calls Tryz.prog 228 #[ax d,.int .i64 (place%(J.P:Int)+1)] w' (jN S d R.2 R.1 (pt j (.cells (J.cells d r t) 183 (0,0))*(bK r (bX J.P)*(bq t J.T*F))) w'):=fun w' h'=>by
  rw [hR];exact lN w' S d D _ _ (h'.to (by ac_rfl)) hD
 unfold Jr.load at hO;rw [← hR] at hO;have HO1:Hid (R.1.1≠0→O=((2,[]),{ J with br:=true },R.2)):=fun q=>by rw [hO];simp only [if_neg q]
 have HO2:Hid (R.1.1=0→cK R.1.2=none→O=((2,[]),{ J with br:=true },R.2)):=fun q q2=>by rw [hO];simp only [if_pos q,q2]
 have HO3:Hid (R.1.1=0→∀ t b,cK R.1.2=some (t,b)→t.id≠id→O=((2,[]),{ J with br:=true },R.2)):=fun q t b q2 q3=>by rw [hO];simp only [if_pos q,q2,if_neg q3]
 have HO4:Hid (R.1.1=0→∀ t b,cK R.1.2=some (t,b)→t.id=id→O=((0,b),J,R.2)):=fun q t b q2 q3=>by rw [hO];simp only [if_pos q,q2,if_pos q3]
 clear hO;have Hrd:=ae hrd;have Hlen:=ae hlen;generalize place%(J.P:Int)+1=sec at *;clear hk hkl hrd hR hlen;obtain ⟨⟨rc,rl⟩,D'⟩:=R;simp only at Hlen Hrd HO1 HO2 HO3 HO4
 go_enter Tryz.func171,Tryz.ntmps171
 go_wp2_with fail
 go_region_held3 (fun w'=>w'.cell? ⟨j,0,none⟩=some (ax d)∧w'.cell? ⟨j,1,none⟩=some (ax r)) (first|(with_reducible exact ⟨a0,a1⟩)|(with_reducible exact ⟨b0,b1⟩)|exact ⟨c0,c1⟩) (first
  | (go_at_call 175;(with_reducible refine hget.mono ?_);rintro e w1 ⟨rfl,h1,d1⟩;have H1:=h1.dO (Sat.drew hx);have a0:w1.cell? ⟨j,0,none⟩=some (ax d):=H1.cell 0;have a1:w1.cell? ⟨j,1,none⟩=some (ax r):=H1.cell 1;have hrd1:=Hrd.out w1 H1)
  | (go_at_call 228;(with_reducible refine hrd1.mono ?_);rintro e w2 ⟨dv,rfl,h2,d2⟩;have b0:w2.cell? ⟨j,0,none⟩=some (ax d):=h2.aC.cell 0;have b1:w2.cell? ⟨j,1,none⟩=some (ax r):=h2.aC.cell 1))
 have D2:=((ai.refl w).drew.trans d1).trans d2;have h3:Sat w2 (nM 5 (rc,rl) dv*(iW j d r t J*(aK S d D'*(aj S*F)))):=h2.to (by unfold iW;ac_rfl);clear h hx c0 c1 hget h1 d1 H1 a0 a1 hrd1 d2 b0 b1 h2 Hrd
 by_cases hrc:rc=0
 ·subst hrc
  have h4:=h3.sm;have hl:=Hlen.out rfl;obtain ⟨g,cap,rfl,hcap,hcells⟩:=PM h4 (by omega) (by omega);rw [hl] at hcap hcells
  have hcapm:cap≤maxLen:=by
   rcases h4.cX with ⟨hv,_⟩|⟨g',cap',cur,hv,h5,h6,_⟩
   ·cases hv
   ·cases hv;exact h6
  have hdec:=nU rl hl g cap hcap hcapm w2 hcells;have Hl:=ae hl;rw [hl];clear h3 hcells hl hcap hcapm
  match hd:cK rl with
  | none=>
   rw [hd] at hdec;have ho:=HO2.out rfl hd;clear hd HO1 HO2 HO3 HO4
   go_wp2_with fail
   refine hdec.mono ?_;rintro e w3 ⟨rfl,h5,d3⟩;have H5:=(h5.dO h4).right;have H6:=H5.alloc (.cells Tg.zero.cells 245 (0,0));have D5:=(D2.trans d3).alloc (.cells Tg.zero.cells 245 (0,0));have hfl:=ni _ j d r t J _ H6.right;have Ho:=ae ho;clear hdec h4 h5 H5 H6 ho;simp only [Tg.cells,Tg.zero] at hfl D5 ⊢
   go_wp2_with fail
   refine hfl.mono ?_;rintro e w4 ⟨rfl,h6,d4⟩;clear hfl
   go_wp2
   go_ret2
   refine ⟨.slice none 0 0,by rw [Ho.out];rfl,?_,D5.trans d4⟩;rw [Ho.out];exact Sat.iL h6 (show (2:Int)≠0 by decide)
  | some (t',b)=>
   rw [hd] at hdec
   by_cases hid':t'.id=id
   ·have ho:=HO4.out rfl t' b hd hid'
    have Ho:=ae ho;have hidb:(t'.id != id)=false:=by simp [hid']
    clear hd HO1 HO2 HO3 HO4 ho hid'
    go_wp2_with fail
    refine hdec.mono ?_;rintro e w3 ⟨v,rfl,h5,d3⟩;have H5:=(h5.under h4).gZ;have H6:=H5.alloc (.cells t'.cells 245 (0,0));have D5:=(D2.trans d3).alloc (.cells t'.cells 245 (0,0));clear hdec h4 h5 H5;simp only [Tg.cells] at H6 D5 ⊢
    go_wp2
    go_ret2
    refine ⟨v,by rw [Ho.out];rfl,?_,D5⟩;rw [Ho.out];exact Sat.rq H6.right
   ·have ho:=HO3.out rfl t' b hd hid'
    have Ho:=ae ho;have hidb:(t'.id != id)=true:=by simpa using hid'
    clear hd HO1 HO2 HO3 HO4 ho hid'
    go_wp2_with fail
    refine hdec.mono ?_;rintro e w3 ⟨v,rfl,h5,d3⟩;have H5:=(h5.under h4).right.right;have H6:=H5.alloc (.cells t'.cells 245 (0,0));have D5:=(D2.trans d3).alloc (.cells t'.cells 245 (0,0));have hfl:=ni _ j d r t J _ H6.right;clear hdec h4 h5 H5 H6;simp only [Tg.cells] at hfl D5 ⊢
    go_wp2_with fail
    refine hfl.mono ?_;rintro e w4 ⟨rfl,h6,d4⟩;clear hfl
    go_wp2
    go_ret2
    refine ⟨.slice none 0 0,by rw [Ho.out];rfl,?_,D5.trans d4⟩;rw [Ho.out];exact Sat.iL h6 (show (2:Int)≠0 by decide)
 ·have hrb:(rc == 0)=false:=by simpa using hrc
  have ho:=HO1.out hrc;have Ho:=ae ho;obtain ⟨rfl,h4⟩:=h3.y6 hrc;have hfl:=ni _ j d r t J _ h4;clear h3 h4 ho HO1 HO2 HO3 HO4 hrc
  go_wp2_with fail
  refine hfl.mono ?_;rintro e w4 ⟨rfl,h6,d4⟩;clear hfl
  go_wp2
  go_ret2
  refine ⟨.slice none 0 0,by rw [Ho.out];rfl,?_,D2.trans d4⟩;rw [Ho.out];exact Sat.iL h6 (show (2:Int)≠0 by decide)
theorem tj (w:World) (S:Hp) (j d:Nat) (J:Jr) (D:ay) (id place:Int) (F:ah) (h:Sat w (nN j d J*(aK S d D*(aj S*F)))) (hJ:J.Ok) (hD:D.Ok) :
  Calls Tryz.prog 171 #[ax j,.int .i64 id,.int .i64 place] w (MO S j d (J.load D id place) F w):=by
 obtain ⟨r,t,hx⟩:=h.Da;exact (vV w S j d r t J D id place F hx hJ hD).mono fun _ _ ⟨dv,a,b,c⟩=>⟨dv,a,Sat.ag (b.ag.CE),c⟩
theorem EJ (w:World) (S:Hp) (j d:Nat) (J:Jr) (D:ay) (id:Int) (F:ah) (h:Sat w (nN j d J*(aK S d D*(aj S*F)))) (hJ:J.Ok) (hD:D.Ok) :
  Calls Tryz.prog 314 #[ax j,.int .i64 id] w (MO S j d (J.read D id) F w):=by
 obtain ⟨r,t,hx⟩:=h.qm;have c2:w.cell? ⟨j,2,none⟩=some (ax t):=hx.cell 2;have c3:w.cell? ⟨j,3,none⟩=some (.int .i64 J.n):=hx.cell 3;have c10:w.cell? ⟨j,10,none⟩=some (.bool J.br):=hx.cell 10;have ha:=Gv w t J.T id _ hx.aq;have hl:=fun p=>tj w S j d J D id p F h hJ hD;unfold Jr.read;clear hx
 by_cases h0:id<0
 ·rw [if_pos (.inl h0)]
  clear ha hl
  go_enter Tryz.func314,Tryz.ntmps314
  go_wp2
  go_ret2
  exact ⟨_,rfl,Sat.iL h (show (1:Int)≠0 by decide),ai.refl w⟩
 ·by_cases h1:J.n≤id
  ·rw [if_pos (.inr h1)]
   clear ha hl
   go_enter Tryz.func314,Tryz.ntmps314
   go_wp2
   go_ret2
   exact ⟨_,rfl,Sat.iL h (show (1:Int)≠0 by decide),ai.refl w⟩
  ·rw [if_neg (by rintro (q|q) <;> contradiction)]
   cases hb:J.br with
   | true=>
    rw [hb] at c10;rw [if_pos rfl];clear ha hl
    go_enter Tryz.func314,Tryz.ntmps314
    go_wp2
    go_ret2
    exact ⟨_,rfl,Sat.iL h (show (2:Int)≠0 by decide),ai.refl w⟩
   | false=>
    rw [hb] at c10;rw [if_neg (by simp)]
    cases hm:told J.T.ps id with
    | none=>
     rw [hm] at ha;simp only
     have hmk:∀ w,(Instr.makeSlice 37 (.int .i64 480) (.int .i64 480)).run Tryz.prog w =
      .ok (.slice (some ⟨w.heap.size,0,none⟩) 480 480) (w.alloc (.cells (dp (zs 480)) 5 (0,0))):=er 480 (by omega)
     have hA:=h.alloc (.cells (dp (zs 480)) 5 (0,0));clear hl hm
     go_enter Tryz.func314,Tryz.ntmps314
     go_wp2_with fail
     refine ha.mono ?_;rintro e w1 ⟨rfl,rfl⟩;unfold oo;clear ha
     go_wp2
     go_ret2
     exact ⟨_,rfl,Sat.rq (oC (aT 480) hA),(ai.refl w).alloc _⟩
    | some p=>
     rw [hm] at ha;simp only;have hlp:=hl p;clear hl hm h;generalize J.load D id p=O at hlp ⊢
     go_enter Tryz.func314,Tryz.ntmps314
     go_wp2_with fail
     refine ha.mono ?_;rintro e w1 ⟨rfl,rfl⟩;unfold oo;clear ha
     go_wp2_with fail
     refine hlp.mono ?_;rintro e w2 ⟨dv,rfl,h2,d2⟩;clear hlp
     go_wp2
     go_ret2
     exact ⟨dv,rfl,h2,d2⟩
end Go.Nn
namespace Go.SL
open Go.RowKit
structure Js where
 ep:Int
 st:Int
 sq:Int
 hd:Int
 us:Int
 at_:List Int
def Js.v (s:Js) (a:Value):Value:=.agg #[.int .u32 s.ep,.int .u64 s.st,.int .u64 s.sq,.int .i64 s.hd,.int .i64 s.us,a]
def qM (P hd v:Int):Int:=if hd-v≤0 then hd-v+P else hd-v
def Js.zG (P:Int) (s:Js) (k:Nat):Prop:=
 s.at_.getD k 0=-1∨(0≤s.at_.getD k 0∧s.at_.getD k 0<P∧s.at_.getD k 0 ∉ s.at_.take k∧qM P s.hd (s.at_.getD k 0)≤s.us)
instance (P:Int) (s:Js) (k:Nat):Decidable (s.zG P k):=by unfold Js.zG;infer_instance
structure Js.tx (P:Int) (s:Js):Prop where
 ep:1≤s.ep
 sq:s.sq≤281474976710655
 st0:1≤s.st
 st1:s.st≤s.sq+1
 hd0:0≤s.hd
 hd1:s.hd<P
 us0:0≤s.us
 us1:s.us≤P
 n0:1≤s.at_.length
 n1:s.at_.length≤3840
 ok:∀ k,k<s.at_.length→s.zG P k
def fi (l:List Int):Nat→KV
 | 0=>[]
 | k+1=>if l.getD k 0=-1 then fi l k else fi l k++[(l.getD k 0,.int .i64 (k:Int))]
theorem B0 (l:List Int) (k:Nat) (hk:k≤l.length) (v:Int) (hv:v ≠ -1):v ∈ (fi l k).map Prod.fst↔v ∈ l.take k:=by
 induction k with
 | zero=>simp [fi]
 | succ k ih=>
  have ih:=ih (by omega)
  have ht:l.take (k+1)=l.take k++[l.getD k 0]:=by
   rw [List.take_add_one,List.getD,List.getElem?_eq_getElem (by omega)];rfl
  rw [ht,fi]
  split
  ·rename_i h;rw [ih,h];simp [hv]
  ·rw [List.map_append,List.mem_append,List.mem_append,ih];simp
theorem yj {l:List Int} {k:Nat} (hk:k≤l.length) {v:Int} (hv:v ≠ -1):(aH (fi l k) v).isSome=decide (v ∈ l.take k):=by
 rw [Bool.eq_iff_iff,decide_eq_true_iff,← B0 l k hk v hv]
 cases h:aH (fi l k) v with
 | none=>simpa using fK.1 h
 | some x=>
  have hm:v ∈ (fi l k).map Prod.fst:=Classical.byContradiction fun q=>by rw [fK.2 q] at h;cases h
  simp only [Option.isSome_some,hm]
end Go.SL
namespace Go.Nn
open Go.RowKit Go.SL
def Oi (B:Bool) (w:World) (e:Ending) (w':World):Prop:=e = .returned (.bool B)∧Sat w' (whole w)∧ai w w'
def Gg (P:Int) (s:Js) (n bx m:Nat) (o:Obj) (w:World) (u:Value) (wr:World):Prop:=
 ∃ k:Nat,k≤n∧u = .int .i64 (k:Int)∧(∀ i,i<k→s.zG P i)∧Sat wr (mp m (fi s.at_ k)*(pt bx o*whole w))∧ai w wr
theorem By (P:Int) (s:Js) (a:Value) (w:World) (hP:P≤9223372036854775807) (hP0:-9223372036854775808≤P) (hq:0≤s.sq) (hl:s.at_.length≤9223372036854775807) (ha:nC w a s.at_) (B:Bool) (hB:B=true↔s.tx P) :
  Calls Tryz.prog 221 #[.int .i64 P,s.v a] w (Oi B w):=by
 have HB:=ae hB
 have no:Hid (¬ s.tx P→B=false):=fun h=>by
  cases hb:B
  ·rfl
  ·exact absurd (hB.1 hb) h
 clear hB;obtain ⟨n,hn⟩:∃ n,n=s.at_.length:=⟨_,rfl⟩
 obtain ⟨aa,ac,hav⟩:∃ aa ac,a = .slice aa n ac:=by
  rcases ha with ⟨_,_,rfl,h⟩|⟨g,o,c,rfl,_⟩
  ·rw [hn,h];exact ⟨_,_,rfl⟩
  ·rw [hn];exact ⟨_,_,rfl⟩
 subst hav;rw [← hn] at hl;have Hn:=ae hn;clear hn;unfold Js.v;have hbox:=(Sat.whole w).alloc (.cells #[.int .u32 s.ep,.int .u64 s.st,.int .u64 s.sq,.int .i64 s.hd,.int .i64 s.us,.slice aa n ac] 168 (0,0));have hsd:=(ai.refl w).alloc (.cells #[.int .u32 s.ep,.int .u64 s.st,.int .u64 s.sq,.int .i64 s.hd,.int .i64 s.us,.slice aa n ac] 168 (0,0))
 by_cases h1:s.ep<1
 ·have e:=no.out fun h=>by have:=h.ep;omega
  subst e
  go_enter Tryz.func221,Tryz.ntmps221
  go_wp2
  go_ret
  exact ⟨rfl,hbox.right,hsd⟩
 by_cases h2:281474976710655<s.sq
 ·have e:=no.out fun h=>by have:=h.sq;omega
  subst e
  go_enter Tryz.func221,Tryz.ntmps221
  go_wp2
  go_ret
  exact ⟨rfl,hbox.right,hsd⟩
 by_cases h3:s.st<1
 ·have e:=no.out fun h=>by have:=h.st0;omega
  subst e
  go_enter Tryz.func221,Tryz.ntmps221
  go_wp2
  go_ret
  exact ⟨rfl,hbox.right,hsd⟩
 have hwr:IntKind.u64.wrap (s.sq+1)=s.sq+1:=by rw [IntKind.wrap_u64];omega
 by_cases h4:s.sq+1<s.st
 ·have e:=no.out fun h=>by have:=h.st1;omega
  subst e
  go_enter Tryz.func221,Tryz.ntmps221
  go_wp2
  go_ret
  exact ⟨rfl,hbox.right,hsd⟩
 by_cases h5:s.hd<0
 ·have e:=no.out fun h=>by have:=h.hd0;omega
  subst e
  go_enter Tryz.func221,Tryz.ntmps221
  go_wp2
  go_ret
  exact ⟨rfl,hbox.right,hsd⟩
 by_cases h6:P≤s.hd
 ·have e:=no.out fun h=>by have:=h.hd1;omega
  subst e
  go_enter Tryz.func221,Tryz.ntmps221
  go_wp2
  go_ret
  exact ⟨rfl,hbox.right,hsd⟩
 by_cases h7:s.us<0
 ·have e:=no.out fun h=>by have:=h.us0;omega
  subst e
  go_enter Tryz.func221,Tryz.ntmps221
  go_wp2
  go_ret
  exact ⟨rfl,hbox.right,hsd⟩
 by_cases h8:P<s.us
 ·have e:=no.out fun h=>by have:=h.us1;omega
  subst e
  go_enter Tryz.func221,Tryz.ntmps221
  go_wp2
  go_ret
  exact ⟨rfl,hbox.right,hsd⟩
 by_cases h9:n<1
 ·have e:=no.out fun h=>by have:=h.n0;have:=Hn.out;omega
  subst e;obtain rfl:n=0:=by omega
  go_enter Tryz.func221,Tryz.ntmps221
  go_wp2
  go_ret
  exact ⟨rfl,hbox.right,hsd⟩
 have h9':¬ (n:Int)<1:=by omega
 by_cases h10:3840<(n:Int)
 ·have e:=no.out fun h=>by have:=h.n1;have:=Hn.out;omega
  subst e
  go_enter Tryz.func221,Tryz.ntmps221
  go_wp2
  go_ret
  exact ⟨rfl,hbox.right,hsd⟩
 have hmm:=@iq Tryz.prog _ _ _ Tryz.underlying177;have hm2:=((hbox.alloc (.map #[] 0)).tH isMap_empty)
 have hs2:=hsd.alloc (.map #[] 0);rw [World.size_alloc] at hm2;have hP1:1≤P:=by omega
 go_enter Tryz.func221,Tryz.ntmps221
 go_wp2
 generalize ((w.alloc (.cells #[.int .u32 s.ep,.int .u64 s.st,.int .u64 s.sq,.int .i64 s.hd,.int .i64 s.us,.slice aa n ac] 168 (0,0))).alloc (.map #[] 0))=w2 at hm2 hs2 ⊢;generalize hbx:w.heap.size=bx at hm2 ⊢;clear hbox hsd hmm
 go_loopw [58] (fun u wr=>Gg P s n bx (bx+1) (.cells #[.int .u32 s.ep,.int .u64 s.st,.int .u64 s.sq,.int .i64 s.hd,.int .i64 s.us,.slice aa n ac] 168 (0,0)) w u wr) (fun u _=>n-(intOf u).toNat)
 case atStart=>exact ⟨0,Nat.zero_le _,rfl,fun i hi=>absurd hi (Nat.not_lt_zero i),hm2,hs2⟩
 case round=>
  clear hm2 hs2;obtain ⟨k,hk,rfl,hok,hsat,hside⟩:=hrel
  by_cases hlt:k<n
  ·have hlt':(k:Int)<(n:Int):=by omega
   obtain ⟨g,o,rfl,hcell⟩:∃ g o,aa=some ⟨g,o,none⟩∧wr.cell? ⟨g,o+k,none⟩=some (.int .i64 (s.at_.getD k 0)):=by
    have hn:=Hn.out;rcases ha with ⟨_,_,h,h0⟩|⟨g,o,c,h,_,_,hc⟩
    ·rw [h0] at hn;simp at hn;omega
    ·injection h with e1 e2 e3
     exact ⟨g,o,e1,(hsat.to (by ac_rfl:_=(mp (bx+1) (fi s.at_ k)*pt bx _)*whole w)).bD (hc k (by omega))⟩
   have h2s:=hsat.ag;have b3:wr.cell? ⟨bx,3,none⟩=some (.int .i64 s.hd):=h2s.cell 3;have b4:wr.cell? ⟨bx,4,none⟩=some (.int .i64 s.us):=h2s.cell 4;have hkg:=fun v hv=>yj (l:=s.at_) (k:=k) (by have:=Hn.out;omega) (v:=v) hv;have htk:fi s.at_ (k+1)=if s.at_.getD k 0=-1 then fi s.at_ k else fi s.at_ k++[(s.at_.getD k 0,.int .i64 (k:Int))]:=rfl
   have hokk:s.zG P k↔(s.at_.getD k 0=-1∨(0≤s.at_.getD k 0∧s.at_.getD k 0<P∧s.at_.getD k 0 ∉ s.at_.take k∧qM P s.hd (s.at_.getD k 0)≤s.us)):=Iff.rfl;have hbad:¬ s.zG P k→¬ s.tx P:=fun q h=>q (h.ok k (by have:=Hn.out;omega))
   have hnext:s.zG P k→∀ i,i<k+1→s.zG P i:=fun q i hi=>by
    rcases Nat.lt_or_eq_of_le (Nat.lt_succ_iff.1 hi) with h|h
    ·exact hok i h
    ·rw [h];exact q
   generalize s.at_.getD k 0=v at hcell htk hokk;have hlk:=Sat.lookup (P:=Tryz.prog) Tryz.underlying177 Tryz.underlying3 (z:=.int .i64 0) (by kernel_rfl) hsat v true;clear ha hok h2s
   by_cases hv:v=-1
   ·have hnx:=hnext (hokk.2 (.inl hv))
    rw [if_pos hv] at htk;subst hv;have Hnx:=ae hnx;have Htk:=ae htk;clear hnx htk hlk hkg hokk hbad hnext
    go_wp2
    go_roundw
    case rel=>exact ⟨k+1,by omega,by go_num,Hnx.out,by rw [Htk.out];exact hsat,hside⟩
    case measure=>simp [intOf];omega
   ·have hvb:(v == -1)=false:=by simpa using hv
    rw [if_neg hv] at htk;have hkv:=hkg v hv;have Htk:=ae htk;have Hokk:=ae hokk;have Hbad:=ae hbad;have Hnext:=ae hnext;clear htk hokk hbad hnext hkg;have ho:=hsat.right.right
    by_cases hv0:v<0
    ·have e:=no.out (Hbad.out fun q=>by rcases Hokk.out.1 q with q|q <;> omega)
     subst e;clear hlk hkv
     go_wp2
     go_ret
     exact ⟨rfl,ho,hside⟩
    ·by_cases hvP:P≤v
     ·have e:=no.out (Hbad.out fun q=>by rcases Hokk.out.1 q with q|q <;> omega)
      subst e;clear hlk hkv
      go_wp2
      go_ret
      exact ⟨rfl,ho,hside⟩
     ·by_cases htw:v ∈ s.at_.take k
      ·have e:=no.out (Hbad.out fun q=>by
        rcases Hokk.out.1 q with q|q
        ·exact hv q
        ·exact q.2.2.1 htw)
       subst e;rw [hkv,decide_eq_true htw,if_pos rfl] at hlk;generalize (aH (fi s.at_ k) v).getD (.int .i64 0)=vv at hlk;clear hkv htw
       go_wp2
       go_ret
       exact ⟨rfl,ho,hside⟩
      ·have hkn:aH (fi s.at_ k) v=none:=by
        rw [decide_eq_false htw] at hkv
        cases h:aH (fi s.at_ k) v with
        | none=>rfl
        | some x=>rw [h] at hkv;cases hkv
       rw [hkv,decide_eq_false htw,if_pos rfl,hkn,Option.getD_none] at hlk;obtain ⟨w6,hup,h6,d6,ce⟩:=Sat.mapUpdate (P:=Tryz.prog) Tryz.underlying177 Tryz.underlying3 hsat v (.int .i64 (k:Int));have e6:SL.fw (fi s.at_ k) v (.int .i64 (k:Int))=fi s.at_ k++[(v,.int .i64 (k:Int))]:=by unfold SL.fw;rw [hkn];rfl
       rw [e6,← Htk.out] at h6;have c3:w6.cell? ⟨bx,3,none⟩=some (.int .i64 s.hd):=(ce.1 _).trans b3;have c4:w6.cell? ⟨bx,4,none⟩=some (.int .i64 s.us):=(ce.1 _).trans b4;have hw1:IntKind.i64.wrap (s.hd-v)=s.hd-v:=by rw [IntKind.wrap_i64];omega
       have D6:=hside.trans d6;have h7:=h6.right.right;have H6:=ae h6;have Htw:=ae htw;clear hkv hkn ce e6 h6 htw ho
       by_cases hah:s.hd-v≤0
       ·have hw2:IntKind.i64.wrap (s.hd-v+P)=s.hd-v+P:=by rw [IntKind.wrap_i64];omega
        have ha:qM P s.hd v=s.hd-v+P:=by unfold qM;rw [if_pos hah]
        by_cases hgt:s.us<s.hd-v+P
        ·have e:=no.out (Hbad.out fun q=>by rcases Hokk.out.1 q with q|q <;> omega)
         subst e;clear ha
         go_wp2
         go_ret
         exact ⟨rfl,h7,D6⟩
        ·have Hx:=ae (Hnext.out (Hokk.out.2 (.inr ⟨by omega,by omega,Htw.out,by omega⟩)))
         clear ha
         go_wp2
         go_roundw
         case rel=>exact ⟨k+1,by omega,by go_num,Hx.out,H6.out,D6⟩
         case measure=>simp [intOf];omega
       ·have ha:qM P s.hd v=s.hd-v:=by unfold qM;rw [if_neg hah]
        by_cases hgt:s.us<s.hd-v
        ·have e:=no.out (Hbad.out fun q=>by rcases Hokk.out.1 q with q|q <;> omega)
         subst e;clear ha
         go_wp2
         go_ret
         exact ⟨rfl,h7,D6⟩
        ·have Hx:=ae (Hnext.out (Hokk.out.2 (.inr ⟨by omega,by omega,Htw.out,by omega⟩)))
         clear ha
         go_wp2
         go_roundw
         case rel=>exact ⟨k+1,by omega,by go_num,Hx.out,H6.out,D6⟩
         case measure=>simp [intOf];omega
  ·obtain rfl:k=n:=by omega
   have e:=HB.out.2 ⟨by omega,by omega,by omega,by omega,by omega,by omega,by omega,by omega,by have:=Hn.out;omega,by have:=Hn.out;omega,by rw [← Hn.out];exact hok⟩;subst e;have h3:=hsat.right.right;clear hok hsat ha hlt
   go_wp2
   go_ret
   exact ⟨rfl,h3,hside⟩
end Go.Nn
namespace Go.SL
open Go.RowKit
theorem nC.under {w w':World} {X:ah} {v:Value} {l:List Int} (h:nC w v l) (hs:Sat w' (X*whole w)):nC w' v l:=by
 rcases h with h|⟨g,o,c,h1,h2,h3,h4⟩
 ·exact .inl h
 ·exact .inr ⟨g,o,c,h1,h2,h3,fun k hk=>hs.bD (h4 k hk)⟩
theorem Tb.Mh {T:Tb} (h:T.Ok) (id:Int):(T.drop id).2.Ok:=by
 unfold Tb.drop
 split
 ·refine ⟨by simpa using h.n,by simpa using h.m,fun v hv=>?_⟩
  simp only [List.length_set];rcases List.mem_or_eq_of_mem_set hv with hv|hv
  ·exact h.ps v hv
  ·exact .inl hv
 ·exact h
theorem Tb.Jj {T:Tb} (h:T.Ok) (id p:Int):(T.put id p).2.Ok:=by
 have hd:=Tb.Mh h id;have hl:(T.drop id).2.os.length=T.os.length:=by unfold Tb.drop;split <;> simp
 unfold Tb.put
 split
 ·rename_i hc
  refine ⟨by simpa using hd.n,by simpa using hd.m,fun v hv=>?_⟩;simp only [List.length_set];rcases List.mem_or_eq_of_mem_set hv with hv|hv
  ·exact hd.ps v hv
  ·right;rw [hl,hv];exact ⟨hc.2.2.1,hc.2.2.2.1⟩
 ·exact h
theorem Tb.mF (T:Tb) (id p:Int):(T.put id p).2.ps.length=T.ps.length∧(T.put id p).2.os.length=T.os.length:=by
 have h1:(T.drop id).2.ps.length=T.ps.length:=by unfold Tb.drop;split <;> simp
 have h2:(T.drop id).2.os.length=T.os.length:=by unfold Tb.drop;split <;> simp
 unfold Tb.put
 split
 ·simp [h1,h2]
 ·exact ⟨rfl,rfl⟩
def ry (P:Nat) (l:List Int):Nat→Tb
 | 0=>Tb.fresh l.length P
 | k+1=>if 0≤l.getD k 0 then ((ry P l k).put (k:Int) (l.getD k 0)).2 else ry P l k
theorem C3 (P:Nat) (l:List Int) (k:Nat):(ry P l k).ps.length=l.length∧(ry P l k).os.length=P:=by
 induction k with
 | zero=>simp [ry,Tb.fresh]
 | succ k ih=>
  rw [ry]
  split
  ·rw [(Tb.mF _ _ _).1,(Tb.mF _ _ _).2];exact ih
  ·exact ih
theorem Ik (P:Nat) (l:List Int) (hP:P≤1048576) (hl:l.length≤1048576) (k:Nat):(ry P l k).Ok:=by
 induction k with
 | zero=>exact ⟨by simpa [ry,Tb.fresh] using hl,by simpa [ry,Tb.fresh] using hP,fun v hv=>.inl (List.eq_of_mem_replicate hv)⟩
 | succ k ih=>
  rw [ry]
  split
  ·exact Tb.Jj ih _ _
  ·exact ih
def ly (P k:Nat):List Int:=(List.range k).map (fun i:Nat=>(i:Int)+1)++List.replicate (P-k) 0
theorem qq {P k:Nat} (h:k≤P):(ly P k).length=P:=by simp [ly];omega
theorem BT {P k:Nat} (h:k<P):(ly P k).set ((k:Int)%((ly P k).length:Int)).toNat ((k:Int)+1)=ly P (k+1):=by
 rw [qq (by omega),Int.emod_eq_of_lt (by omega) (by omega),Int.toNat_natCast];unfold ly;have e:P-k=(P-(k+1))+1:=by omega
 rw [e,List.replicate_succ,List.set_append_right _ _ (by simp),List.range_succ];simp
theorem E3 (P:Nat):ly P P=bX P:=by simp [ly,bX]
def Jr.Jx (P:Nat) (s:Js):Jr:=⟨P,ry P s.at_ s.at_.length,s.at_.length,s.ep,s.st,s.sq,s.hd,s.us,0,false⟩
theorem Jr.OT {P:Nat} {s:Js} (h:s.tx P) (h0:1≤P) (h1:P≤20000):(Jr.Jx P s).Ok:=by
 have hl:=C3 P s.at_ s.at_.length;have:=h.n1;exact ⟨h0,h1,Ik _ _ (by omega) (by omega) _,by rw [Jr.Jx];simp only;rw [hl.1],hl.2,h.us0,h.us1,h.hd0,h.hd1,Int.le_refl _,by show (0:Int)≤48;decide⟩
end Go.SL
namespace Go.Nn
open Go.RowKit Go.SL
def Qk (d:Nat) (J:Jr) (w:World) (e:Ending) (w':World):Prop:=∃ j,e = .returned (.tuple #[ax j,.int .i64 0])∧Sat w' (nN j d J*whole w)∧ai w w'
def xq (P:Nat) (s:Js) (n d r t:Nat):Array Value:=#[ax d,ax r,ax t,.int .i64 (n:Int),.int .u32 s.ep,.int .u64 s.st,.int .u64 s.sq,.int .i64 s.hd,.int .i64 s.us,.int .i64 0,.bool false]
def LZ (P:Nat) (s:Js) (n d j r t bx:Nat) (o:Obj) (w:World) (u:Value) (wr:World):Prop:=
 ∃ k:Nat,k≤P∧u = .int .i64 (k:Int)∧Sat wr (pt j (.cells (xq P s n d r t) 183 (0,0))*(bK r (ly P k)*(bq t (ry P s.at_ 0)*(pt bx o*whole w))))∧ai w wr
def KT (P:Nat) (s:Js) (n d j r t bx:Nat) (o:Obj) (w:World) (u:Value) (wr:World):Prop:=
 ∃ k:Nat,k≤n∧u = .int .i64 (k:Int)∧Sat wr (pt j (.cells (xq P s n d r t) 183 (0,0))*(bK r (bX P)*(bq t (ry P s.at_ k)*(pt bx o*whole w))))∧ai w wr
theorem GY (w:World) (S:Hp) (d:Nat) (D:ay) (F:ah) (hd:Sat w (aK S d D*F)) (P:Nat) (s:Js) (a:Value) (ha:nC w a s.at_) (hP0:1≤P) (hP:P≤20000) (hPs:P+1≤D.sec.length) (hDn:D.sec.length≤20000) (hq:0≤s.sq) (hr:s.tx P) :
  Calls Tryz.prog 167 #[ax d,.int .i64 (P:Int),s.v a] w (Qk d (Jr.Jx P s) w):=by
 have hn1:=hr.n1;have hn0:=hr.n0;have Hr:=ae hr;obtain ⟨n,hn⟩:∃ n,n=s.at_.length:=⟨_,rfl⟩
 have hav:∃ aa ac,a = .slice aa n ac:=by
  rcases ha with ⟨_,_,rfl,h⟩|⟨g,o,c,rfl,_⟩
  ·rw [hn,h];exact ⟨_,_,rfl⟩
  ·rw [hn];exact ⟨_,_,rfl⟩
 obtain ⟨aa,ac,rfl⟩:=hav;rw [← hn] at hn1 hn0;have Hn:=ae hn;have hbox:=(Sat.whole w).alloc (.cells #[.int .u32 s.ep,.int .u64 s.st,.int .u64 s.sq,.int .i64 s.hd,.int .i64 s.us,.slice aa n ac] 168 (0,0));have hs1:=(ai.refl w).alloc (.cells #[.int .u32 s.ep,.int .u64 s.st,.int .u64 s.sq,.int .i64 s.hd,.int .i64 s.us,.slice aa n ac] 168 (0,0));have hsec:=mg _ S d D _ (hbox.under hd).right;have hP0':(1:Int)≤(P:Int):=by omega
 have hP':(P:Int)≤20000:=by omega
 have hPs':(P:Int)≤(D.sec.length:Int)-1:=by omega
 have hDn':(D.sec.length:Int)≤20000:=by omega
 have hwr:IntKind.i64.wrap ((D.sec.length:Int)-1)=(D.sec.length:Int)-1:=by rw [IntKind.wrap_i64];omega
 have hright:=By (P:Int) s (.slice aa n ac) _ (by omega) (by omega) hq (by rw [← hn];omega) (ha.under hbox) true ⟨fun _=>hr,fun _=>rfl⟩;have Ha:=ae ha;clear hn hr hd ha hq;unfold Js.v at hright ⊢;obtain ⟨bx,hbx⟩:∃ bx,bx=w.heap.size:=⟨_,rfl⟩
 go_enter Tryz.func167,Tryz.ntmps167
 go_wp2_with fail
 rw [← hbx] at hbox ⊢;generalize w.alloc (.cells #[.int .u32 s.ep,.int .u64 s.st,.int .u64 s.sq,.int .i64 s.hd,.int .i64 s.us,.slice aa n ac] 168 (0,0))=w1 at hbox hs1 hsec hright ⊢;have c0:w1.cell? ⟨bx,0,none⟩=some (.int .u32 s.ep):=hbox.cell 0;have c1:w1.cell? ⟨bx,1,none⟩=some (.int .u64 s.st):=hbox.cell 1;have c2:w1.cell? ⟨bx,2,none⟩=some (.int .u64 s.sq):=hbox.cell 2;have c3:w1.cell? ⟨bx,3,none⟩=some (.int .i64 s.hd):=hbox.cell 3;have c4:w1.cell? ⟨bx,4,none⟩=some (.int .i64 s.us):=hbox.cell 4;have c5:w1.cell? ⟨bx,5,none⟩=some (.slice aa n ac):=hbox.cell 5;clear hbx
 go_wp2_with fail
 refine hsec.mono ?_;rintro e w1' ⟨rfl,rfl⟩;clear hsec
 go_wp2_with fail
 refine hright.mono ?_;rintro e w2 ⟨rfl,h2,d2⟩;have H2:=h2.dO hbox;have D2:=hs1.trans d2;have b0:w2.cell? ⟨bx,0,none⟩=some (.int .u32 s.ep):=H2.cell 0;have b1:w2.cell? ⟨bx,1,none⟩=some (.int .u64 s.st):=H2.cell 1;have b2:w2.cell? ⟨bx,2,none⟩=some (.int .u64 s.sq):=H2.cell 2;have b3:w2.cell? ⟨bx,3,none⟩=some (.int .i64 s.hd):=H2.cell 3;have b4:w2.cell? ⟨bx,4,none⟩=some (.int .i64 s.us):=H2.cell 4;have b5:w2.cell? ⟨bx,5,none⟩=some (.slice aa n ac):=H2.cell 5;clear hright h2 d2 hbox hs1 c0 c1 c2 c3 c4 c5 hwr;have hring:=y9 P 0 w2.drew hP0 (by omega);have htab:=fun w=>A3 n P w (by omega) (by omega);have R2:=ae (Sat.drew H2);clear H2
 go_wp2_with fail
 go_region_held3 (fun w'=>w'.cell? ⟨bx,0,none⟩=some (.int .u32 s.ep)∧w'.cell? ⟨bx,1,none⟩=some (.int .u64 s.st)∧w'.cell? ⟨bx,2,none⟩=some (.int .u64 s.sq)∧w'.cell? ⟨bx,3,none⟩=some (.int .i64 s.hd)∧w'.cell? ⟨bx,4,none⟩=some (.int .i64 s.us)∧w'.cell? ⟨bx,5,none⟩=some (.slice aa n ac)) (first|(with_reducible exact ⟨f0,f1,f2,f3,f4,f5⟩)|(with_reducible exact ⟨bH _ _ _ _ f0,bH _ _ _ _ f1,bH _ _ _ _ f2,bH _ _ _ _ f3,bH _ _ _ _ f4,bH _ _ _ _ f5⟩)|(with_reducible exact ⟨e0,e1,e2,e3,e4,e5⟩)|exact ⟨b0,b1,b2,b3,b4,b5⟩) (first
  | (go_at_call 222;(with_reducible refine hring.mono ?_);rintro e w3 ⟨r,rfl,h3,d3⟩;have H3:=h3.under R2.out;have e0:w3.cell? ⟨bx,0,none⟩=some (.int .u32 s.ep):=H3.ag.cell 0;have e1:w3.cell? ⟨bx,1,none⟩=some (.int .u64 s.st):=H3.ag.cell 1;have e2:w3.cell? ⟨bx,2,none⟩=some (.int .u64 s.sq):=H3.ag.cell 2;have e3:w3.cell? ⟨bx,3,none⟩=some (.int .i64 s.hd):=H3.ag.cell 3;have e4:w3.cell? ⟨bx,4,none⟩=some (.int .i64 s.us):=H3.ag.cell 4;have e5:w3.cell? ⟨bx,5,none⟩=some (.slice aa n ac):=H3.ag.cell 5)
  | (go_at_call 223;(with_reducible refine (htab _).mono ?_);rintro e w4 ⟨t,rfl,h4,d4⟩;have H4:=h4.under H3;have f0:w4.cell? ⟨bx,0,none⟩=some (.int .u32 s.ep):=H4.aq.cell 0;have f1:w4.cell? ⟨bx,1,none⟩=some (.int .u64 s.st):=H4.aq.cell 1;have f2:w4.cell? ⟨bx,2,none⟩=some (.int .u64 s.sq):=H4.aq.cell 2;have f3:w4.cell? ⟨bx,3,none⟩=some (.int .i64 s.hd):=H4.aq.cell 3;have f4:w4.cell? ⟨bx,4,none⟩=some (.int .i64 s.us):=H4.aq.cell 4;have f5:w4.cell? ⟨bx,5,none⟩=some (.slice aa n ac):=H4.aq.cell 5))
 have H5:=H4.alloc (.cells (xq P s n d r t) 183 (0,0));have D5:=((D2.drew.trans d3).trans d4).alloc (.cells (xq P s n d r t) 183 (0,0));clear h3 h4 hring htab d3 d4 D2 R2 H3 H4 e0 e1 e2 e3 e4 e5 f0 f1 f2 f3 f4 f5 b0 b1 b2 b3 b4 b5
 have H6:Sat (w4.alloc (.cells (xq P s n d r t) 183 (0,0))) (pt w4.heap.size (.cells (xq P s n d r t) 183 (0,0))*(bK r (ly P 0)*(bq t (ry P s.at_ 0)*(pt bx (.cells #[.int .u32 s.ep,.int .u64 s.st,.int .u64 s.sq,.int .i64 s.hd,.int .i64 s.us,.slice aa n ac] 168 (0,0))*whole w)))):=by
  have e1:ry P s.at_ 0=Tb.fresh n P:=by rw [Hn.out];rfl
  have e2:ly P 0=List.replicate P 0:=rfl;rw [e1,e2];exact H5.to (by ac_rfl)
 clear H5;unfold xq at D5 H6;generalize hw5:(w4.alloc (.cells #[ax d,ax r,ax t,.int .i64 (n:Int),.int .u32 s.ep,.int .u64 s.st,.int .u64 s.sq,.int .i64 s.hd,.int .i64 s.us,.int .i64 0,.bool false] 183 (0,0)))=w5 at D5 H6 ⊢;generalize w4.heap.size=j at H6 ⊢;clear hw5
 go_wp2
 go_loopw [55] (fun u wr=>LZ P s n d j r t bx (.cells #[.int .u32 s.ep,.int .u64 s.st,.int .u64 s.sq,.int .i64 s.hd,.int .i64 s.us,.slice aa n ac] 168 (0,0)) w u wr) (fun u _=>P-(intOf u).toNat)
 case atStart=>exact ⟨0,Nat.zero_le _,rfl,H6,D5⟩
 case round=>
  clear H6 D5;obtain ⟨k,hk,rfl,hsat,hside⟩:=hrel
  by_cases hlt:k<P
  ·have hlt':(k:Int)<(P:Int):=by omega
   have j1:wr.cell? ⟨j,1,none⟩=some (ax r):=hsat.cell 1;have hset:=sa wr r (ly P k) (k:Int) ((k:Int)+1) _ hsat.ag (by rw [qq hk];omega) (by rw [qq hk];omega);rw [BT hlt] at hset;have hw1:IntKind.i64.wrap ((k:Int)+1)=(k:Int)+1:=by rw [IntKind.wrap_i64];omega
   clear hsat
   go_wp2_with fail
   refine hset.mono ?_;rintro e w6 ⟨rfl,h6,d6⟩;have H7:=ae h6.ag;clear hset h6
   go_wp2
   go_roundw
   case rel=>exact ⟨k+1,by omega,by go_num,H7.out,hside.trans d6⟩
   case measure=>simp [intOf];omega
  ·obtain rfl:k=P:=by omega
   rw [E3] at hsat;have h5:wr.cell? ⟨bx,5,none⟩=some (.slice aa n ac):=hsat.aC.cell 5;have H7:=ae hsat;clear hsat hlt
   go_wp2
   go_loopw [70] (fun u wr=>KT k s n d j r t bx (.cells #[.int .u32 s.ep,.int .u64 s.st,.int .u64 s.sq,.int .i64 s.hd,.int .i64 s.us,.slice aa n ac] 168 (0,0)) w u wr) (fun u _=>n-(intOf u).toNat)
   case atStart=>exact ⟨0,Nat.zero_le _,rfl,H7.out,hside⟩
   case round=>
    clear H7 hside h5;obtain ⟨i,hi,rfl,hsat,hside⟩:=hrel;have j2:wr.cell? ⟨j,2,none⟩=some (ax t):=hsat.cell 2;have htl:=C3 k s.at_ i;have htk:=Ik k s.at_ (by omega) (by have:=Hn.out;omega) i
    by_cases hlt:i<n
    ·have hlt':(i:Int)<(n:Int):=by omega
     obtain ⟨g,o,rfl,hcell⟩:∃ g o,aa=some ⟨g,o,none⟩∧wr.cell? ⟨g,o+i,none⟩=some (.int .i64 (s.at_.getD i 0)):=by
      have hn:=Hn.out;rcases Ha.out with ⟨_,_,h,h0⟩|⟨g,o,c,h,_,_,hc⟩
      ·rw [h0] at hn;simp at hn;omega
      ·injection h with e1 e2 e3
       exact ⟨g,o,e1,(hsat.to (by ac_rfl:_=(pt j _*(bK r (bX k)*(bq t (ry k s.at_ i)*pt bx _)))*whole w)).bD (hc i (by omega))⟩
     have hst:ry k s.at_ (i+1)=if 0≤s.at_.getD i 0 then ((ry k s.at_ i).put (i:Int) (s.at_.getD i 0)).2 else ry k s.at_ i:=rfl
     generalize s.at_.getD i 0=v at hcell hst
     by_cases hv:0≤v
     ·rw [if_pos hv] at hst
      have hput:=eM wr t (ry k s.at_ i) (i:Int) v _ hsat.aq htk;rw [← hst] at hput;generalize ((ry k s.at_ i).put (i:Int) v).1=pb at hput;clear hsat hst htl htk
      go_wp2_with fail
      refine hput.mono ?_;rintro e w6 ⟨rfl,h6,d6⟩;have H7:=ae h6.aq;clear hput h6
      go_wp2
      go_roundw
      case rel=>exact ⟨i+1,by omega,by go_num,H7.out.to (by ac_rfl),hside.trans d6⟩
      case measure=>simp [intOf];omega
     ·rw [if_neg hv] at hst
      have H7:=ae hsat;have Hst:=ae hst;clear hsat hst htl htk
      go_wp2
      go_roundw
      case rel=>exact ⟨i+1,by omega,by go_num,by rw [Hst.out];exact H7.out,hside⟩
      case measure=>simp [intOf];omega
    ·obtain rfl:i=n:=by omega
     have H7:=ae hsat;clear hsat hlt htl htk
     go_wp2
     go_ret2
     refine ⟨j,rfl,Sat.xD (r:=r) (t:=t) ?_,hside⟩;have e1:(Jr.Jx k s).cells d r t=xq k s i d r t:=by unfold Jr.Jx Jr.cells xq;rw [Hn.out]
     have e2:(Jr.Jx k s).T=ry k s.at_ i:=by rw [Hn.out];rfl
     rw [e1,e2];exact (Sat.jE H7.out).to (by unfold Jr.Jx;ac_rfl)
end Go.Nn
