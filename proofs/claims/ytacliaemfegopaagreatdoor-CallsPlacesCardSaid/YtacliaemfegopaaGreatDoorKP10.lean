/- Steps. -/
import Derived.Test.YtacliaemfegopaaGreatDoorKP9
import Derived.Laws.EntriesVeiled
import Derived.Laws.Tables
import Derived.Laws.Rows
set_option linter.all false
set_option maxRecDepth 99999
set_option maxHeartbeats 0
open Go.SL
open Go.Value renaming int->Z,slice->O,pointer->M
open Go.Obj renaming cells->W
open Go.Ending renaming returned->Q
open Go renaming World->V,Value->N
open Go.Proofs.Tryz renaming prog->Y
open Option renaming some->U,none->R
open Bool renaming true->Z'
open Go.Proofs.Tryz
open List renaming getD->A1,length_drop->D1,length_append->E1,getElem?_eq_getElem->K1,range->L1,range_succ->M1,map_append->N1,mem_or_eq_of_mem_set->R1
open Nat renaming zero_le->O1
namespace Go.SL
open Go.RowKit
structure Tg where
 ep:Int
 st:Int
 sq:Int
 fl:Int
 ix:Int
 ct:Int
 id:Int
def Tg.cells (t:Tg):Array N:=#[Z .u32 t.ep,Z .u64 t.st,Z .u64 t.sq,Z .u64 t.fl,Z .i64 t.ix,Z .i64 t.ct,Z .i64 t.id]
structure Tg.Fit (t:Tg):Prop where
 Re:0<=t.ep
 Rg:t.ep<4294967296
 PQ:0<=t.st
 aQ:t.st<18446744073709551616
 PL:0<=t.sq
 RC:t.sq<18446744073709551616
 SD:0<=t.fl
 SE:t.fl<18446744073709551616
def Ni:Int:=1465012808
def Tg.ok (t:Tg):Bool:=decide (1<=t.ep) && decide (1<=t.st) && decide (t.st<=t.sq) && decide (t.sq<=281474976710655) && decide (t.fl<t.sq) &&
 decide (1<=t.ct) && decide (t.ct<=72) && decide (0<=t.ix) && decide (t.ix<t.ct) && decide (0<=t.id) && decide (t.id<3840)
def EK (n:Int):Int:=n%18446744073709551616
def Tg.field (t:Tg):Nat->Int
 | 0=>Ni
 | 1=>t.ep
 | 2=>t.sq
 | 3=>t.fl
 | 4=>t.st
 | 5=>EK t.ix
 | 6=>EK t.ct
 | 7=>EK t.id
 | _=>0
def dQ:Nat->Nat
 | 0=>4
 | 1=>4
 | 2=>6
 | 3=>6
 | 4=>6
 | 5=>1
 | 6=>1
 | 7=>2
 | _=>2
structure Fb where
 b0:Nat
 b2:Nat
 b3:Nat
 b4:Nat
 b5:Nat
 b6:Nat
 b7:Nat
 b8:Nat
abbrev eS (f:Nat) (a:Array N):N:=.func (.func f) #[] a
def jH (b:Fb):Nat->Nat × Array N
 | 0=>(269,#[ay b.b0])
 | 1=>(250,#[])
 | 2=>(271,#[ay b.b2])
 | 3=>(271,#[ay b.b3])
 | 4=>(271,#[ay b.b4])
 | 5=>(273,#[ay b.b5])
 | 6=>(273,#[ay b.b6])
 | 7=>(273,#[ay b.b7])
 | _=>(269,#[ay b.b8])
def jF (b:Fb):Nat->Nat × Array N
 | 0=>(270,#[])
 | 1=>(251,#[])
 | 2=>(272,#[ay b.b2])
 | 3=>(272,#[ay b.b3])
 | 4=>(272,#[ay b.b4])
 | 5=>(274,#[ay b.b5])
 | 6=>(274,#[ay b.b6])
 | 7=>(274,#[ay b.b7])
 | _=>(270,#[])
def Bk (b:Fb) (k:Nat):Array N:=#[Z .i64 (dQ k),eS (jH b k).1 (jH b k).2,eS (jF b k).1 (jF b k).2]
def nz (b:Fb):Array N:=#[Z .i64 4,eS (jH b 0).1 (jH b 0).2,eS (jF b 0).1 (jF b 0).2,Z .i64 4,eS (jH b 1).1 (jH b 1).2,eS (jF b 1).1 (jF b 1).2,
 Z .i64 6,eS (jH b 2).1 (jH b 2).2,eS (jF b 2).1 (jF b 2).2,Z .i64 6,eS (jH b 3).1 (jH b 3).2,eS (jF b 3).1 (jF b 3).2,Z .i64 6,eS (jH b 4).1 (jH b 4).2,eS (jF b 4).1 (jF b 4).2,
 Z .i64 1,eS (jH b 5).1 (jH b 5).2,eS (jF b 5).1 (jF b 5).2,Z .i64 1,eS (jH b 6).1 (jH b 6).2,eS (jF b 6).1 (jF b 6).2,Z .i64 2,eS (jH b 7).1 (jH b 7).2,eS (jF b 7).1 (jF b 7).2,
 Z .i64 2,eS (jH b 8).1 (jH b 8).2,eS (jF b 8).1 (jF b 8).2]
def oJ (b:Fb):N:=.agg (nz b)
def cX (b:Fb):ai:=
 pt b.b0 (W #[Z .u64 1465012808] 166 (0,0))*(pt b.b2 (W #[eS 253 #[]] 313 (0,0))*(pt b.b3 (W #[eS 254 #[]] 313 (0,0))*(pt b.b4 (W #[eS 255 #[]] 313 (0,0)) *
  (pt b.b5 (W #[eS 257 #[]] 316 (0,0))*(pt b.b6 (W #[eS 258 #[]] 316 (0,0))*(pt b.b7 (W #[eS 259 #[]] 316 (0,0))*pt b.b8 (W #[Z .u64 0] 166 (0,0))))))))
end Go.SL
namespace Go.Proofs.Nn
open Go.RowKit Go.SL
def NY (c n:Int) (w:V) (e:Ending) (a:V):Prop:=
 ∃ b,e = Q (.agg #[Z .i64 c,eS 269 #[ay b],eS 270 #[]])/\ag a (pt b (W #[Z .u64 n] 166 (0,0))*whole w)/\aj w a
theorem wO (a n:Int) (w:V):Calls Y 249 #[Z .i64 a,Z .u64 n] w (NY a n w):=by
 have b:=(ag.whole w).alloc (W #[Z .u64 n] 166 (0,0));have c:=(aj.refl w).alloc (W #[Z .u64 n] 166 (0,0))
 go_enter func249,ntmps249
 go_wp2
 exact bodyPost_ret (v:=.agg #[Z .i64 a,eS 269 #[ay w.heap.size],eS 270 #[]]) (by simp [results,Tryz.results249,go_sem]) rfl ⟨_,rfl,SL.ag.right (SL.ag.alloc b _),c.alloc _⟩
def Qk (f:Nat) (w:V) (e:Ending) (a:V):Prop:=
 ∃ b,e = Q (.agg #[Z .i64 6,eS 271 #[ay b],eS 272 #[ay b]])/\ag a (pt b (W #[eS f #[]] 313 (0,0))*whole w)/\aj w a
theorem tE (f:Nat) (w:V):Calls Y 252 #[eS f #[]] w (Qk f w):=by
 have a:=(ag.whole w).alloc (W #[eS f #[]] 313 (0,0));have b:=(aj.refl w).alloc (W #[eS f #[]] 313 (0,0))
 go_enter func252,ntmps252
 go_wp2
 exact bodyPost_ret (v:=.agg #[Z .i64 6,eS 271 #[ay w.heap.size],eS 272 #[ay w.heap.size]]) (by simp [results,Tryz.results252,go_sem]) rfl ⟨_,rfl,SL.ag.right (SL.ag.alloc a _),b.alloc _⟩
def OM (c:Int) (f:Nat) (w:V) (e:Ending) (a:V):Prop:=
 ∃ b,e = Q (.agg #[Z .i64 c,eS 273 #[ay b],eS 274 #[ay b]])/\ag a (pt b (W #[eS f #[]] 316 (0,0))*whole w)/\aj w a
theorem qP (a:Int) (f:Nat) (w:V):Calls Y 256 #[Z .i64 a,eS f #[]] w (OM a f w):=by
 have b:=(ag.whole w).alloc (W #[eS f #[]] 316 (0,0));have c:=(aj.refl w).alloc (W #[eS f #[]] 316 (0,0))
 go_enter func256,ntmps256
 go_wp2
 exact bodyPost_ret (v:=.agg #[Z .i64 a,eS 273 #[ay w.heap.size],eS 274 #[ay w.heap.size]]) (by simp [results,Tryz.results256,go_sem]) rfl ⟨_,rfl,SL.ag.right (SL.ag.alloc b _),c.alloc _⟩
def Md (w:V) (e:Ending) (a:V):Prop:=∃ b,e = Q (oJ b)/\ag a (cX b*whole w)/\aj w a
theorem xM:(prog.info? 291).map (·.size)=U 27:=by kernel_rfl
theorem ru (b:Fb):(prog.info? 291).map (·.size)=U (nz b).size:=xM
theorem zQ (b:Fb):(nz b).all (·.oneCell')=Z':=by
 simp [nz,Value.oneCell',eS]
def rh:Array N:=#[Z .i64 0,.nilFunc,.nilFunc,Z .i64 0,.nilFunc,.nilFunc,Z .i64 0,.nilFunc,.nilFunc,Z .i64 0,.nilFunc,.nilFunc,Z .i64 0,.nilFunc,.nilFunc,Z .i64 0,.nilFunc,.nilFunc,Z .i64 0,.nilFunc,.nilFunc,Z .i64 0,.nilFunc,.nilFunc,Z .i64 0,.nilFunc,.nilFunc]
theorem sD (w:V):Calls Y 231 #[] w (Md w):=by
 have a:=(ag.whole w).alloc (W rh 291 (0,0));have b:=(aj.refl w).alloc (W rh 291 (0,0))
 go_enter func231,ntmps231
 go_wp2_with fail
 change Calls _ _ _ (w.alloc (W rh 291 (0,0))) _;generalize w.alloc (W rh 291 (0,0))=w0 at a b ⊢;generalize w.heap.size=z at a ⊢;refine (wO 4 1465012808 _).mono ?_;rintro e w1 ⟨b0,rfl,I,A⟩;have o:=I.under a;have f:=b.trans A;clear I A a b
 go_wp2_with fail
 refine (tE 253 _).mono ?_;rintro e w2 ⟨b2,rfl,K,B⟩;have p:=K.under o;have g:=f.trans B;clear K B o f
 go_wp2_with fail
 refine (tE 254 _).mono ?_;rintro e w3 ⟨b3,rfl,L,C⟩;have q:=L.under p;have h:=g.trans C;clear L C p g
 go_wp2_with fail
 refine (tE 255 _).mono ?_;rintro e w4 ⟨b4,rfl,S,D⟩;have r:=S.under q;have i:=h.trans D;clear S D q h
 go_wp2_with fail
 refine (qP 1 257 _).mono ?_;rintro e w5 ⟨b5,rfl,X,E⟩;have u:=X.under r;have j:=i.trans E;clear X E r i
 go_wp2_with fail
 refine (qP 1 258 _).mono ?_;rintro e w6 ⟨b6,rfl,h6,F⟩;have v:=h6.under u;have l:=j.trans F;clear h6 F u j
 go_wp2_with fail
 refine (qP 2 259 _).mono ?_;rintro e w7 ⟨b7,rfl,h7,G⟩;have x:=h7.under v;have m:=l.trans G;clear h7 G v l
 go_wp2_with fail
 refine (wO 2 0 _).mono ?_;rintro e w8 ⟨b8,rfl,h8,H⟩;have y:=h8.under x;have D8:=m.trans H;clear h8 H x m;obtain ⟨d,c0⟩:∃ d:Fb,d=⟨b0,b2,b3,b4,b5,b6,b7,b8⟩:=⟨_,rfl⟩
 have hz:w8.heap[z]?=U (W rh 291 (0,0)):=y.ke.heap;have c:=y.ke.setRow (cs':=nz d);have d0:=ae c0;clear c0
 go_wp2_with (refine wpList_store_row rfl 291 (.tmp 0) (.tmp 10) rfl z (nz ⟨b0,b2,b3,b4,b5,b6,b7,b8⟩) rfl rfl 291 rh hz (ru _) rfl (zQ _) ?_)
 rw [d0.out] at c;refine bodyPost_ret (v:=oJ ⟨b0,b2,b3,b4,b5,b6,b7,b8⟩) (results_cell_row rfl _ _ z 291 _ (0,0) _ rfl c.heap underlying291 rfl (ru _)) rfl ⟨⟨b0,b2,b3,b4,b5,b6,b7,b8⟩,rfl,?_,D8.setRow _ _⟩;exact c.right.to (by unfold cX;ac_rfl)
theorem Sa (b:Nat) (w:V):Calls Y 253 #[ay b] w fun e a=>e = Q (M (U ⟨b,2,R⟩))/\w=a:=by
 go_enter func253,ntmps253
 go_wp2
 go_ret
 exact ⟨rfl,rfl⟩
theorem R8 (b:Nat) (w:V):Calls Y 254 #[ay b] w fun e a=>e = Q (M (U ⟨b,3,R⟩))/\w=a:=by
 go_enter func254,ntmps254
 go_wp2
 go_ret
 exact ⟨rfl,rfl⟩
theorem RX (b:Nat) (w:V):Calls Y 255 #[ay b] w fun e a=>e = Q (M (U ⟨b,1,R⟩))/\w=a:=by
 go_enter func255,ntmps255
 go_wp2
 go_ret
 exact ⟨rfl,rfl⟩
theorem RY (b:Nat) (w:V):Calls Y 257 #[ay b] w fun e a=>e = Q (M (U ⟨b,4,R⟩))/\w=a:=by
 go_enter func257,ntmps257
 go_wp2
 go_ret
 exact ⟨rfl,rfl⟩
theorem R3 (b:Nat) (w:V):Calls Y 258 #[ay b] w fun e a=>e = Q (M (U ⟨b,5,R⟩))/\w=a:=by
 go_enter func258,ntmps258
 go_wp2
 go_ret
 exact ⟨rfl,rfl⟩
theorem at8 (b:Nat) (w:V):Calls Y 259 #[ay b] w fun e a=>e = Q (M (U ⟨b,6,R⟩))/\w=a:=by
 go_enter func259,ntmps259
 go_wp2
 go_ret
 exact ⟨rfl,rfl⟩
theorem NL:∀ a w,(callFunc 269 a).run Y w = .ok (.enter 269 a) w:=enters func269 (by kernel_rfl) rfl
theorem Nk:∀ a w,(callFunc 270 a).run Y w = .ok (.enter 270 a) w:=enters func270 (by kernel_rfl) rfl
theorem GV:∀ a w,(callFunc 271 a).run Y w = .ok (.enter 271 a) w:=enters func271 (by kernel_rfl) rfl
theorem IX:∀ a w,(callFunc 272 a).run Y w = .ok (.enter 272 a) w:=enters func272 (by kernel_rfl) rfl
theorem Jz:∀ a w,(callFunc 273 a).run Y w = .ok (.enter 273 a) w:=enters func273 (by kernel_rfl) rfl
theorem KN:∀ a w,(callFunc 274 a).run Y w = .ok (.enter 274 a) w:=enters func274 (by kernel_rfl) rfl
theorem PV:∀ a w,(callFunc 250 a).run Y w = .ok (.enter 250 a) w:=enters func250 (by kernel_rfl) rfl
theorem Qy:∀ a w,(callFunc 251 a).run Y w = .ok (.enter 251 a) w:=enters func251 (by kernel_rfl) rfl
theorem Ny:∀ a w,(callFunc 253 a).run Y w = .ok (.enter 253 a) w:=enters func253 (by kernel_rfl) rfl
theorem NC:∀ a w,(callFunc 254 a).run Y w = .ok (.enter 254 a) w:=enters func254 (by kernel_rfl) rfl
theorem Nt:∀ a w,(callFunc 255 a).run Y w = .ok (.enter 255 a) w:=enters func255 (by kernel_rfl) rfl
theorem NA:∀ a w,(callFunc 257 a).run Y w = .ok (.enter 257 a) w:=enters func257 (by kernel_rfl) rfl
theorem Nv:∀ a w,(callFunc 258 a).run Y w = .ok (.enter 258 a) w:=enters func258 (by kernel_rfl) rfl
theorem Nf:∀ a w,(callFunc 259 a).run Y w = .ok (.enter 259 a) w:=enters func259 (by kernel_rfl) rfl
theorem Q5 (b:Nat) (n:Int) (t:Tg) (w:V) (F:ai) (h:ag w (pt b (W #[Z .u64 n] 166 (0,0))*F)) :
  Calls Y 269 #[.agg t.cells,ay b] w (kx (Z .u64 n) w):=by
 have a:w.cell? ⟨b,0,R⟩=U (Z .u64 n):=h.cell 0;have c:=h.lt;clear h;simp only [Tg.cells]
 go_enter func269,ntmps269
 go_wp2
 go_ret
 exact ⟨rfl,SL.ag.right (SL.ag.alloc (ag.whole w) _),(aj.refl w).alloc _⟩
theorem RD (t:Tg) (w:V) (a:t.Fit):Calls Y 250 #[.agg t.cells] w (kx (Z .u64 t.ep) w):=by
 obtain ⟨b,c,_,_,_,_,_,_⟩:=a;simp only [Tg.cells]
 go_enter func250,ntmps250
 go_wp2
 go_ret
 exact ⟨rfl,SL.ag.right (SL.ag.alloc (ag.whole w) _),(aj.refl w).alloc _⟩
theorem O0 (b f o:Nat) (n:Int) (t:Tg) (w:V) (F:ai) (h:ag w (pt b (W #[eS f #[]] 313 (0,0))*F)) (m:∀ c w,(callFunc f c).run Y w = .ok (.enter f c) w)
  (g:∀ (b:Nat) (w:V),Calls Y f #[ay b] w fun e j=>e = Q (M (U ⟨b,o,R⟩))/\w=j) (d:t.cells[o]?=U (Z .u64 n)) :
  Calls Y 271 #[.agg t.cells,ay b] w (kx (Z .u64 n) w):=by
 have l:w.cell? ⟨b,0,R⟩=U (eS f #[]):=h.cell 0;have p:=h.lt;have a:=(ag.whole w).alloc (W t.cells 245 (0,0));have i:=(a.cell o).trans d;clear h d;simp only [Tg.cells] at a i ⊢
 go_enter func271,ntmps271
 go_wp2_with fail
 refine (g _ _).mono ?_;rintro e q ⟨rfl,rfl⟩
 go_wp2
 go_ret
 exact ⟨rfl,SL.ag.right a,(aj.refl w).alloc _⟩
theorem OA (b f o:Nat) (n:Int) (t:Tg) (w:V) (F:ai) (h:ag w (pt b (W #[eS f #[]] 316 (0,0))*F)) (m:∀ c w,(callFunc f c).run Y w = .ok (.enter f c) w)
  (g:∀ (b:Nat) (w:V),Calls Y f #[ay b] w fun e j=>e = Q (M (U ⟨b,o,R⟩))/\w=j) (d:t.cells[o]?=U (Z .i64 n)) :
  Calls Y 273 #[.agg t.cells,ay b] w (kx (Z .u64 (EK n)) w):=by
 have l:w.cell? ⟨b,0,R⟩=U (eS f #[]):=h.cell 0;have p:=h.lt;have a:=(ag.whole w).alloc (W t.cells 245 (0,0));have i:=(a.cell o).trans d;clear h d;simp only [Tg.cells] at a i ⊢
 go_enter func273,ntmps273
 go_wp2_with fail
 refine (g _ _).mono ?_;rintro e q ⟨rfl,rfl⟩
 go_wp2
 go_ret
 exact ⟨rfl,SL.ag.right a,(aj.refl w).alloc _⟩
theorem fw {w:V} {b:Fb} {F:ai} (h:ag w (cX b*F)):ag w (pt b.b0 (W #[Z .u64 1465012808] 166 (0,0))*(pt b.b2 (W #[eS 253 #[]] 313 (0,0))*(pt b.b3 (W #[eS 254 #[]] 313 (0,0))*(pt b.b4 (W #[eS 255 #[]] 313 (0,0)) *
  (pt b.b5 (W #[eS 257 #[]] 316 (0,0))*(pt b.b6 (W #[eS 258 #[]] 316 (0,0))*(pt b.b7 (W #[eS 259 #[]] 316 (0,0))*(pt b.b8 (W #[Z .u64 0] 166 (0,0))*F)))))))):=h.to (by unfold cX;ac_rfl)
theorem QI (b:Fb) (t:Tg) (k:Nat) (d:k<9) (e:t.Fit) :
  ∃ f c,jH b k=(f,c)/\(∀ a w,(callFunc f a).run Y w = .ok (.enter f a) w) /\
   ∀ w F,ag w (cX b*F)->Calls Y f (#[.agg t.cells]++c) w (kx (Z .u64 (t.field k)) w):=by
 match k,d with
 | 0,_=>exact ⟨_,_,rfl,NL,fun w F h=>Q5 b.b0 _ t w _ (fw h)⟩
 | 1,_=>exact ⟨_,_,rfl,PV,fun w F h=>RD t w e⟩
 | 2,_=>exact ⟨_,_,rfl,GV,fun w F h=>O0 b.b2 _ 2 _ t w _ (fw h).ah Ny Sa rfl⟩
 | 3,_=>exact ⟨_,_,rfl,GV,fun w F h=>O0 b.b3 _ 3 _ t w _ (fw h).aq NC R8 rfl⟩
 | 4,_=>exact ⟨_,_,rfl,GV,fun w F h=>O0 b.b4 _ 1 _ t w _ (fw h).aD Nt RX rfl⟩
 | 5,_=>exact ⟨_,_,rfl,Jz,fun w F h=>OA b.b5 _ 4 _ t w _ (fw h).aI NA RY rfl⟩
 | 6,_=>exact ⟨_,_,rfl,Jz,fun w F h=>OA b.b6 _ 5 _ t w _ (fw h).du Nv R3 rfl⟩
 | 7,_=>exact ⟨_,_,rfl,Jz,fun w F h=>OA b.b7 _ 6 _ t w _ (fw h).bP Nf at8 rfl⟩
 | 8,_=>exact ⟨_,_,rfl,NL,fun w F h=>Q5 b.b8 _ t w _ (fw h).dR⟩
theorem ji (t:Tg) (w:World):Calls prog 230 #[.agg t.cells] w (kx (.bool t.ok) w):=by
 simp only [Tg.cells]
 by_cases h0:1<=t.ep
 .skip
  by_cases h1:1<=t.st
  .skip
   by_cases h2:t.st<=t.sq
   .skip
    by_cases h3:t.sq<=281474976710655
    .skip
     by_cases h4:t.fl<t.sq
     .skip
      by_cases h5:1<=t.ct
      .skip
       by_cases h6:t.ct<=72
       .skip
        by_cases h7:0<=t.ix
        .skip
         by_cases h8:t.ix<t.ct
         .skip
          by_cases h9:0<=t.id
          .skip
           by_cases h10:t.id<3840
           .skip
            rw [show t.ok=true by simp [Tg.ok,h0,h1,h2,h3,h4,h5,h6,h7,h8,h9,h10]]
            go_enter func230,ntmps230
            go_wp2
            go_ret
            exact ⟨rfl,SL.ag.right (SL.ag.alloc (ag.whole w) _),(aj.refl w).alloc _⟩
           .rw [show t.ok=false by simp [Tg.ok,h10]]
            have hd:decide (t.id<3840)=false:=by simpa using h10
            go_enter func230,ntmps230
            go_wp2
            go_ret
            exact ⟨rfl,SL.ag.right (SL.ag.alloc (ag.whole w) _),(aj.refl w).alloc _⟩
          .rw [show t.ok=false by simp [Tg.ok,h9]]
           have hd:decide (0<=t.id)=false:=by simpa using h9
           go_enter func230,ntmps230
           go_wp2
           go_ret
           exact ⟨rfl,SL.ag.right (SL.ag.alloc (ag.whole w) _),(aj.refl w).alloc _⟩
         .rw [show t.ok=false by simp [Tg.ok,h8]]
          have hd:decide (t.ix<t.ct)=false:=by simpa using h8
          go_enter func230,ntmps230
          go_wp2
          go_ret
          exact ⟨rfl,SL.ag.right (SL.ag.alloc (ag.whole w) _),(aj.refl w).alloc _⟩
        .rw [show t.ok=false by simp [Tg.ok,h7]]
         have hd:decide (0<=t.ix)=false:=by simpa using h7
         go_enter func230,ntmps230
         go_wp2
         go_ret
         exact ⟨rfl,SL.ag.right (SL.ag.alloc (ag.whole w) _),(aj.refl w).alloc _⟩
       .rw [show t.ok=false by simp [Tg.ok,h6]]
        have hd:decide (t.ct<=72)=false:=by simpa using h6
        go_enter func230,ntmps230
        go_wp2
        go_ret
        exact ⟨rfl,SL.ag.right (SL.ag.alloc (ag.whole w) _),(aj.refl w).alloc _⟩
      .rw [show t.ok=false by simp [Tg.ok,h5]]
       have hd:decide (1<=t.ct)=false:=by simpa using h5
       go_enter func230,ntmps230
       go_wp2
       go_ret
       exact ⟨rfl,SL.ag.right (SL.ag.alloc (ag.whole w) _),(aj.refl w).alloc _⟩
     .rw [show t.ok=false by simp [Tg.ok,h4]]
      have hd:decide (t.fl<t.sq)=false:=by simpa using h4
      go_enter func230,ntmps230
      go_wp2
      go_ret
      exact ⟨rfl,SL.ag.right (SL.ag.alloc (ag.whole w) _),(aj.refl w).alloc _⟩
    .rw [show t.ok=false by simp [Tg.ok,h3]]
     have hd:decide (t.sq<=281474976710655)=false:=by simpa using h3
     go_enter func230,ntmps230
     go_wp2
     go_ret
     exact ⟨rfl,SL.ag.right (SL.ag.alloc (ag.whole w) _),(aj.refl w).alloc _⟩
   .rw [show t.ok=false by simp [Tg.ok,h2]]
    have hd:decide (t.st<=t.sq)=false:=by simpa using h2
    go_enter func230,ntmps230
    go_wp2
    go_ret
    exact ⟨rfl,SL.ag.right (SL.ag.alloc (ag.whole w) _),(aj.refl w).alloc _⟩
  .rw [show t.ok=false by simp [Tg.ok,h1]]
   have hd:decide (1<=t.st)=false:=by simpa using h1
   go_enter func230,ntmps230
   go_wp2
   go_ret
   exact ⟨rfl,SL.ag.right (SL.ag.alloc (ag.whole w) _),(aj.refl w).alloc _⟩
 .rw [show t.ok=false by simp [Tg.ok,h0]]
  have hd:decide (1<=t.ep)=false:=by simpa using h0
  go_enter func230,ntmps230
  go_wp2
  go_ret
  exact ⟨rfl,SL.ag.right (SL.ag.alloc (ag.whole w) _),(aj.refl w).alloc _⟩
end Go.Proofs.Nn
namespace Go.SL
open Go.RowKit
def pK (t:Tg) (k:Nat):List UInt8:=(L1 k).flatMap fun i=>dg (t.field i) (dQ i)
theorem kC (t:Tg) (k:Nat):pK t (k+1)=pK t k++dg (t.field k) (dQ k):=by simp [pK,M1]
def enc (t:Tg):List UInt8:=pK t 9
theorem lU (k:Nat):dQ k<=6:=by
 unfold dQ
 split <;> omega
theorem yD (t:Tg) (k:Nat):(pK t k).length<=6*k:=by
 induction k with
 | zero=>simp [pK]
 | succ k a=>rw [kC,E1,aU];have:=lU k;omega
theorem dS (t:Tg):(enc t).length=32:=by
 simp [enc,pK,M1,aU,dQ]
end Go.SL
namespace Go.Proofs.Nn
open Go.RowKit Go.SL
theorem C6 (b:Fb) (k:Nat) (a:k<9) (w:V):(Instr.index 291 (oJ b) (Z .i64 (k:Int))).run Y w = .ok (.agg (Bk b k)) w:=by
 obtain rfl|rfl|rfl|rfl|rfl|rfl|rfl|rfl|rfl:k=0\/k=1\/k=2\/k=3\/k=4\/k=5\/k=6\/k=7\/k=8:=by omega
 all_goals kernel_rfl
theorem mq {w:V} {v:N} {l:List UInt8} {x:UInt8} {F:ai} (h:ag w (bs 5 v l*F)) (z:l.length<=1000000) :
  ∃ b d,(Builtin.append_ #[37,37] 37 #[v,O (U ⟨w.heap.size,0,R⟩) 1 1]).run Y (w.alloc (W #[u8 x] 5 (0,0))) = .ok b d/\ag d (bs 5 b (l++[x])*F)/\aj w d/\∃ a c,b = O a (l.length+1) c:=by
 obtain ⟨A,o,y,q,m⟩:=info_parts gj;have f:=h.alloc (W #[u8 x] 5 (0,0))
 have i:nG (w.alloc (W #[u8 x] 5 (0,0))) 1 (O (U ⟨w.heap.size,0,R⟩) 1 1) 1 [u8 x]:=
  ⟨rfl,.inr ⟨_,_,rfl,fun j u e=>by
   rw [Addr.add_lit,Nat.zero_add];exact (f.cell j).trans (by simpa using e)⟩⟩
 obtain ⟨b,d,p,g,r⟩:=ag.append (P:=Y) (ty:=37) underlying37 o y q m rfl f.right i (by intro u e;rw [List.mem_singleton.1 e];rfl) (by unfold maxLen;omega) (by omega);refine ⟨b,d,p,g.to (by rw [bs,E1,N1];rfl),((aj.refl w).alloc _).trans r,aC g⟩
def QH (a:List UInt8) (n:Int) (s:Nat) (X:ai) (w0:V) (gk:Nat) (u6 u9 u29:N) (wr:V):Prop:=
 ∃ j:Nat,j<=s/\s-j<=gk/\u29 = Z .i64 (j:Int)/\u9 = Z .u64 (n/(256:Int) ^ j)/\ag wr (bs 5 u6 (a++dg n j)*X)/\aj w0 wr
def Pa (t:Tg) (b:Fb) (a:Nat) (X:ai) (w0:V) (gk:Nat) (u6 u20:N) (wr:V):Prop:=
 ∃ k:Nat,k<=9/\9-k<=gk/\u20 = Z .i64 (k:Int)/\ag wr (bs 5 u6 (pK t k)*(cX b*(pt a (W t.cells 245 (0,0))*X)))/\aj w0 wr
def LD (l:List UInt8) (w:V) (e:Ending) (a:V):Prop:=∃ v,e = Q (.tuple #[v,Z .i64 0])/\ag a (bs 5 v l*whole w)/\aj w a
theorem Ab (t:Tg) (a:t.Fit) (k:Nat):0<=t.field k/\t.field k<18446744073709551616:=by
 obtain ⟨b,c,d,e,f,g,h,i⟩:=a;unfold Tg.field Ni EK
 split <;> omega
theorem lq (t:Tg) (ht:t.Fit) (hok:t.ok=true) (bv:Value) (l:List UInt8) (hl:l.length=480) (w:World) (hr:Rd w bv l) :
  Calls prog 174 #[.agg t.cells,bv] w (LD (enc t++l) w):=by
 obtain ⟨ba,bc,rfl⟩:=hr.shape;rw [hl] at hr ⊢
 have hmk:∀ w,(Instr.makeSlice 37 (.int .i64 0) (.int .i64 512)).run prog w = .ok (.slice (some ⟨w.heap.size,0,none⟩) 0 512) (w.alloc (.cells (dG (zs 512)) 5 (0,0))):=fun w=>by
  obtain ⟨i,hi,hz,hs,hb⟩:=info_parts gj;have:=run_make (P:=prog) w 37 5 i _ underlying37 hi hz .i64 .i64 0 512 (by omega) (by omega) (by rw [hb];omega) (by omega);rw [this,hs];exact congrArg (fun c=>Result.ok _ (w.alloc (.cells c _ (0,0)))) (iT 512)
 have hri:=ji t;rw [hok] at hri;have hA:=(ag.whole w).alloc (.cells t.cells 245 (0,0));have hs:=(aj.refl w).alloc (.cells t.cells 245 (0,0));have Hl:=ae hl;have Hr:=ae hr
 go_enter func174,ntmps174
 simp only [Tg.cells] at hA hri ⊢
 go_wp2_with fail
 refine (hri _).mono ?_;rintro e w2 ⟨rfl,h2,d2⟩;have H2:=h2.dU hA;have D2:=aj.trans hs d2;generalize w.heap.size=bt at H2 ⊢;have hlt:=H2.lt
 go_wp2_with fail
 have H3:=H2.alloc (.cells (dG (zs 512)) 5 (0,0));have D3:=D2.alloc (.cells (dG (zs 512)) 5 (0,0));generalize hw3:w2.alloc (.cells (dG (zs 512)) 5 (0,0))=w3 at H3 D3 ⊢;generalize w2.heap.size=gb at H3 ⊢;refine (sD w3).mono ?_;rintro e w4 ⟨fb,rfl,h4,d4⟩;have H4:=h4.under H3;have D4:=D3.trans d4
 have H5:ag w4 (bs 5 (.slice (some ⟨gb,0,none⟩) 0 512) (pK t 0)*(cX fb*(pt bt (.cells t.cells 245 (0,0))*whole w))):=by
  have:=ag.mH (sz:=1) (n:=0) (cap:=512) H4.ah (by omega) (by unfold maxLen;omega) (by simp [eD,aV]);exact this
 have hix:=C6 fb;have hgk:=QI fb t;generalize hfv:oJ fb=fv at hix;clear hfv H4
 go_wp2_with fail
 go_loopg [6,20] 9 (fun gk u6 u20 wr=>Pa t fb bt (whole w) w gk u6 u20 wr)
 case atStart=>exact ⟨0,by omega,by omega,rfl,H5,D4⟩
 case round=>
  clear H5 D4;obtain ⟨gko,rfl⟩:∃ n,n=gk:=⟨gk,rfl⟩
  obtain ⟨k,hk,hgo,rfl,hsat,hside⟩:=hrel;have hlen:=yD t k;have hshape:=aC hsat;obtain ⟨va,vc,rfl⟩:=hshape
  by_cases hlt:k<9
  .have hlt':(k:Int)<9:=by omega
   have hixk:=hix k hlt;obtain ⟨f,caps,hf,hen,hget⟩:=hgk k hlt ht;obtain ⟨f2,caps2,hf2⟩:∃ f2 caps2,jF fb k=(f2,caps2):=⟨_,_,rfl⟩
   simp only [Bk,hf,hf2] at hixk;have hsz:(dQ k:Int)<=6:=by have:=lU k;omega
   have hA:=hsat.alloc (.cells #[.int .i64 (dQ k),eS f caps,eS f2 caps2] 290 (0,0));have hsA:=hside.alloc (.cells #[.int .i64 (dQ k),eS f caps,eS f2 caps2] 290 (0,0));have cb:∀ o,wr.cell? ⟨bt,o,none⟩=t.cells[o]?:=fun o=>hsat.aq.cell o;have cb0:=cb 0;have cb1:=cb 1;have cb2:=cb 2;have cb3:=cb 3;have cb4:=cb 4;have cb5:=cb 5;have cb6:=cb 6;simp only [Tg.cells] at cb0 cb1 cb2 cb3 cb4 cb5 cb6;have hbl:=hsat.aq.lt;have hcall:=hget _ _ (hA.aq.ah.ah);clear hix hgk hget cb hf hf2 hsat hside
   go_wp2_with fail
   refine hcall.mono ?_;rintro e w5 ⟨rfl,h5,d5⟩;have H5:=h5.dU hA;have D5:=hsA.trans d5;generalize wr.heap.size=b8 at H5 ⊢;have c8:=H5.cell 0;obtain ⟨fn0,fn1⟩:=Ab t ht k;have Hes:Hid (pK t (k+1)=pK t k++dg (t.field k) (dQ k)):=kC t k;generalize hfk:t.field k=n at *;generalize hsk:dQ k=sz at *;generalize hpre:pK t k=pre at *;have H6:ag w5 (bs 5 (.slice va pre.length vc) (pre++dg n 0)*(pt b8 (.cells #[.int .i64 (sz:Int),eS f caps,eS f2 caps2] 290 (0,0))*(cX fb*(pt bt (.cells t.cells 245 (0,0))*whole w)))):=H5.ah.to (by simp only [dg,List.range_zero,List.map_nil,List.append_nil])
   go_wp2_with fail
   go_loopg [6,9,29] sz (fun gk u6 u9 u29 wr=>QH pre n sz (pt b8 (.cells #[.int .i64 (sz:Int),eS f caps,eS f2 caps2] 290 (0,0))*(cX fb*(pt bt (.cells t.cells 245 (0,0))*whole w))) w gk u6 u9 u29 wr)
   case atStart=>exact ⟨0,by omega,by omega,rfl,by simp,H6,D5⟩
   case round=>
    obtain ⟨j,hj,hgj,rfl,rfl,hsat,hside⟩:=hrel;have hl6:(pre++dg n j).length<=60:=by rw [E1,aU];omega
    by_cases hjl:j<sz
    .have hjl':(j:Int)<(sz:Int):=by omega
     have hp:0<(256:Int) ^ j:=Int.pow_pos (by decide)
     have q2:n/(256:Int) ^ (j+1)=n/(256:Int) ^ j/256:=by
      rw [Int.pow_succ,Int.ediv_ediv,if_neg (fun hh=>absurd hh.1 (by omega)),Int.sub_zero]
     have hs8:=zA n j;obtain ⟨v',w6,hrun,h6,d6,a6,c6,rfl⟩:=mq (x:=UInt8.ofInt (n/(256:Int) ^ j)) hsat (by omega);have hu8:=xE (n/(256:Int) ^ j);rw [IntKind.wrap_u8] at hu8;rw [List.append_assoc,<- hs8] at h6;generalize hq:n/(256:Int) ^ j=q at *;rw [<- hu8] at hrun;have Hrun:=ae hrun;have Hq2:=ae q2;clear hrun hs8 hu8 hsat hq q2 hp
     go_wp2_with (at_builtin;refine wpList_append_run Hrun.out _ _ rfl rfl rfl rfl rfl ?_)
     go_roundg (gk-1)
     case measure=>omega
     case rel=>
      refine ⟨j+1,by omega,by omega,by go_num,by rw [Hq2.out],?_,hside.trans d6⟩;rw [E1] at h6;exact h6
    .obtain rfl:j=sz:=by omega
     have hshape:=aC hsat;obtain ⟨a6,c6,rfl⟩:=hshape;rw [<- Hes.out] at hsat;have H9:=hsat.ig
     go_wp2
     go_roundg (gko-1)
     case measure=>omega
     case rel=>
      refine ⟨k+1,by omega,by omega,by go_num,?_,hside⟩
      first|exact H9|(rw [<- Hes.out];exact H9)
  .obtain rfl:k=9:=by omega
   have hrl:=nG.carry Hr.out fun a u hu=>(hsat.right.right.right.lV.to (ee _ _)).bT hu;obtain ⟨i0,hi,hz,hs0,hb0⟩:=info_parts gj
   have hrl2:nG wr 1 (.slice ba 480 bc) 480 (l.map Go.SL.u8):=by
    have:=hrl;unfold Rd at this;rwa [Hl.out] at this
   obtain ⟨v',w6,hrun,h6,d6⟩:=ag.append (P:=prog) (ty:=37) underlying37 hi hz hs0 hb0 rfl hsat hrl2 (by
    intro u hu;obtain ⟨x,_,rfl⟩:=List.mem_map.1 hu;rfl) (by unfold maxLen;omega) (by omega)
   have hbs:ag w6 (bs 5 v' (enc t++l)*(cX fb*(pt bt (.cells t.cells 245 (0,0))*whole w))):=h6.to (by
    rw [bs,E1,N1,Hl.out];rfl)
   have Hrun:=ae hrun
   go_wp2_with (at_builtin;refine wpList_append_run Hrun.out _ _ rfl rfl rfl rfl rfl ?_)
   go_ret2
   exact ⟨v',rfl,hbs.ig.ig,hside.trans d6⟩
end Go.Proofs.Nn
namespace Go.SL
open Go.RowKit
def Tg.zero:Tg:=⟨0,0,0,0,0,0,0⟩
def Tg.set (t:Tg) (n:Int):Nat->Tg
 | 1=>{ t with ep:=n%4294967296 }
 | 2=>{ t with sq:=n }
 | 3=>{ t with fl:=n }
 | 4=>{ t with st:=n }
 | 5=>{ t with ix:=wrap64 n }
 | 6=>{ t with ct:=wrap64 n }
 | 7=>{ t with id:=wrap64 n }
 | _=>t
def kR (k:Nat):Nat:=((L1 k).map dQ).sum
theorem qU (k:Nat):kR (k+1)=kR k+dQ k:=by simp [kR,M1]
def il (l:List UInt8):Nat->Tg
 | 0=>Tg.zero
 | k+1=>(il l k).set (ib (l.drop (kR k)) (dQ k)) k
end Go.SL
namespace Go.Proofs.Nn
open Go.RowKit Go.SL
def ud (b:Nat) (t:Tg) (F:ai) (w:V) (e:Ending) (a:V):Prop:=e = Q (.tuple #[])/\ag a (pt b (W t.cells 245 (0,0))*F)/\aj w a
theorem Qt (b:Nat) (n:Int) (t:Tg) (w:V) (F:ai) (h:ag w (pt b (W t.cells 245 (0,0))*F)) :
  Calls Y 270 #[ay b,Z .u64 n] w (ud b t F w):=by
 go_enter func270,ntmps270
 go_wp2
 go_end0
 exact ⟨rfl,h,aj.refl w⟩
theorem RJ (b:Nat) (n:Int) (t:Tg) (w:V) (F:ai) (h:ag w (pt b (W t.cells 245 (0,0))*F)) :
  Calls Y 251 #[ay b,Z .u64 n] w (ud b (t.set n 1) F w):=by
 have d:=h.cell 0;have e:=h.frozen 0;have c:=h.setCell 0 (Z .u32 (n%4294967296));have a:=ae c
 go_enter func251,ntmps251
 go_wp2
 go_end0
 exact ⟨rfl,a.out,(aj.refl w).setCell _ _⟩
theorem F2 (b c f o:Nat) (n v:Int) (t g:Tg) (w:V) (F:ai) (h:ag w (pt c (W #[eS f #[]] 313 (0,0))*(pt b (W t.cells 245 (0,0))*F))) (r:∀ a w,(callFunc f a).run Y w = .ok (.enter f a) w)
  (i:∀ (b:Nat) (w:V),Calls Y f #[ay b] w fun e m=>e = Q (M (U ⟨b,o,R⟩))/\w=m) (j:t.cells[o]?=U (Z .u64 v)) (l:t.cells.setIfInBounds o (Z .u64 n)=g.cells) :
  Calls Y 272 #[ay b,Z .u64 n,ay c] w (ud b g (pt c (W #[eS f #[]] 313 (0,0))*F) w):=by
 have p:=h.cell 0;have q:=(h.ah.cell o).trans j;have u:=h.ah.frozen o;have d:=h.ah.setCell o (Z .u64 n);rw [l] at d
 go_enter func272,ntmps272
 go_wp2_with fail
 refine (i _ _).mono ?_;rintro e x ⟨rfl,rfl⟩
 go_wp2
 go_end0
 exact ⟨rfl,d,(aj.refl w).setCell _ _⟩
theorem On (b c f o:Nat) (n v:Int) (t g:Tg) (w:V) (F:ai) (h:ag w (pt c (W #[eS f #[]] 316 (0,0))*(pt b (W t.cells 245 (0,0))*F))) (r:∀ a w,(callFunc f a).run Y w = .ok (.enter f a) w)
  (i:∀ (b:Nat) (w:V),Calls Y f #[ay b] w fun e m=>e = Q (M (U ⟨b,o,R⟩))/\w=m) (j:t.cells[o]?=U (Z .i64 v)) (l:t.cells.setIfInBounds o (Z .i64 (wrap64 n))=g.cells) :
  Calls Y 274 #[ay b,Z .u64 n,ay c] w (ud b g (pt c (W #[eS f #[]] 316 (0,0))*F) w):=by
 have p:=h.cell 0;have q:=(h.ah.cell o).trans j;have u:=h.ah.frozen o;have d:=h.ah.setCell o (Z .i64 (wrap64 n));rw [l] at d
 go_enter func274,ntmps274
 go_wp2_with fail
 refine (i _ _).mono ?_;rintro e x ⟨rfl,rfl⟩
 go_wp2
 go_end0
 exact ⟨rfl,d,(aj.refl w).setCell _ _⟩
theorem Qj (a:Fb) (b:Nat) (t:Tg) (n:Int) (k:Nat) (v:k<9) :
  ∃ f l,jF a k=(f,l)/\(∀ j w,(callFunc f j).run Y w = .ok (.enter f j) w) /\
   ∀ w F,ag w (cX a*(pt b (W t.cells 245 (0,0))*F))->Calls Y f (#[ay b,Z .u64 n]++l) w (ud b (t.set n k) (cX a*F) w):=by
 have d:∀ {g:Tg} {i F:ai} {w:V} {e:Ending} {m:V} {c:Nat} {o:Obj},ud b g (pt c o*i) w e m->(pt b (W g.cells 245 (0,0))*(pt c o*i)=pt b (W g.cells 245 (0,0))*(cX a*F))->ud b g (cX a*F) w e m:=
  fun ⟨p,r,u⟩ e=>⟨p,r.to e,u⟩
 match k,v with
 | 0,_=>exact ⟨_,_,rfl,Nk,fun w F h=>Qt b n t w _ h.ah⟩
 | 1,_=>exact ⟨_,_,rfl,Qy,fun w F h=>RJ b n t w _ h.ah⟩
 | 2,_=>exact ⟨_,_,rfl,IX,fun w F h=>(F2 b a.b2 _ 2 n _ t (t.set n 2) w _ ((fw h).ah.ke.ah) Ny Sa rfl rfl).mono fun _ _ q=>d q (by unfold cX;ac_rfl)⟩
 | 3,_=>exact ⟨_,_,rfl,IX,fun w F h=>(F2 b a.b3 _ 3 n _ t (t.set n 3) w _ ((fw h).aq.ke.ah) NC R8 rfl rfl).mono fun _ _ q=>d q (by unfold cX;ac_rfl)⟩
 | 4,_=>exact ⟨_,_,rfl,IX,fun w F h=>(F2 b a.b4 _ 1 n _ t (t.set n 4) w _ ((fw h).aD.ke.ah) Nt RX rfl rfl).mono fun _ _ q=>d q (by unfold cX;ac_rfl)⟩
 | 5,_=>exact ⟨_,_,rfl,KN,fun w F h=>(On b a.b5 _ 4 n _ t (t.set n 5) w _ ((fw h).aI.ke.ah) NA RY rfl rfl).mono fun _ _ q=>d q (by unfold cX;ac_rfl)⟩
 | 6,_=>exact ⟨_,_,rfl,KN,fun w F h=>(On b a.b6 _ 5 n _ t (t.set n 6) w _ ((fw h).du.ke.ah) Nv R3 rfl rfl).mono fun _ _ q=>d q (by unfold cX;ac_rfl)⟩
 | 7,_=>exact ⟨_,_,rfl,KN,fun w F h=>(On b a.b7 _ 6 n _ t (t.set n 7) w _ ((fw h).bP.ke.ah) Nf at8 rfl rfl).mono fun _ _ q=>d q (by unfold cX;ac_rfl)⟩
 | 8,_=>exact ⟨_,_,rfl,Nk,fun w F h=>Qt b n t w _ h.ah⟩
theorem zY (l:List UInt8):∀ (n i:Nat) (a:List UInt8),l.length-i=n->ByteArray.toList.loop ⟨l.toArray⟩ i a=a.reverse++l.drop i:=by
 intro n
 induction n with
 | zero=>
  intro i a h;rw [ByteArray.toList.loop];have:¬ i<ByteArray.size ⟨l.toArray⟩:=by show ¬ i<l.toArray.size;simp;omega
  rw [if_neg this,List.drop_of_length_le (by omega)];simp
 | succ n c=>
  intro i a h;rw [ByteArray.toList.loop];have b:i<l.length:=by omega
  have:i<ByteArray.size ⟨l.toArray⟩:=by show i<l.toArray.size;simpa using b
  rw [if_pos this,c (i+1) _ (by omega),List.drop_eq_getElem_cons b];simp [ByteArray.get!,b]
theorem tZ (l:List UInt8):(str l).toList=l:=by
 show ByteArray.toList.loop ⟨l.toArray⟩ 0 []=l
 rw [zY l _ 0 [] rfl];rfl
theorem oQ (w:V) (v:N) (l:List UInt8) (h:Rd w v l):(convert 37 9 v).run Y w = .ok (.string (str l)) w:=by
 have uM:∀ (l:List UInt8) (s:ByteArray),(l.map fun x=>(x.toNat:Int)).foldl (fun r n=>r.push (UInt8.ofNat n.toNat)) s=⟨s.data++l.toArray⟩:=by
  intro l
  induction l with
  | nil=>intro s;simp
  | cons a l g=>intro s;simp only [List.map_cons,List.foldl_cons,g];simp [ByteArray.push]
 obtain ⟨_,f⟩:=h;rcases f with ⟨rfl,d⟩|⟨a,c,rfl,e⟩
 .have:l=[]:=List.eq_nil_of_length_eq_zero d
  subst this;rw [run_convert_bytes_string w _ _ 5 R 0 0 underlying37 underlying5 underlying9]
  rfl
 .rw [run_convert_bytes_string w _ _ 5 (U a) _ c underlying37 underlying5 underlying9]
  have b:=run_loadCells_list (P:=Y) (w:=w) a (l.map u8) e;rw [List.length_map] at b
  have:=run_bytesToString (P:=Y) w a l.length c (l.map fun x=>(x.toNat:Int)) (by
   rw [b];simp [u8,Function.comp_def])
  rw [this,uM];simp [str]
theorem qe (t:Tg) (hok:t.ok=false) (bv:Value) (l:List UInt8) (w:World) (hr:Rd w bv l) :
  Calls prog 174 #[.agg t.cells,bv] w (kx (.tuple #[.slice none 0 0,.int .i64 1]) w):=by
 have hri:=ji t;rw [hok] at hri;have hA:=(ag.whole w).alloc (.cells t.cells 245 (0,0));have hs:=(aj.refl w).alloc (.cells t.cells 245 (0,0))
 go_enter func174,ntmps174
 simp only [Tg.cells] at hA hri ⊢
 go_wp2_with fail
 refine (hri _).mono ?_;rintro e w2 ⟨rfl,h2,d2⟩;have H2:=(h2.dU hA).right;have D2:=aj.trans hs d2
 go_wp2
 go_ret2
 exact ⟨rfl,H2,D2⟩
theorem En (w:V) (d e:N) (a b:List UInt8) (f:Rd w d a) (g:Rd w e b) :
  Calls Y 248 #[d,e] w (uk (decide (a=b)) w):=by
 have i:=oQ w d a f;have j:=oQ w e b g
 by_cases c:a=b
 .subst c
  rw [show decide (a=a)=Z' by simp]
  go_enter func248,ntmps248
  go_wp2
  go_ret
  exact ⟨rfl,rfl⟩
 .rw [show decide (a=b)=false by simpa using c]
  have h:((str a).toList == (str b).toList)=false:=by
   rw [tZ,tZ];simpa using c
  go_enter func248,ntmps248
  go_wp2
  go_ret
  exact ⟨rfl,rfl⟩
end Go.Proofs.Nn
namespace Go.SL
open Go.RowKit
def cO (l:List UInt8):Option (Tg × List UInt8):=
 if (il l 9).ok=Z'/\enc (il l 9)++l.drop 32=l then U (il l 9,l.drop 32) else R
theorem De (k:Nat) (h:k<=9):kR k<=32:=by
 obtain rfl|rfl|rfl|rfl|rfl|rfl|rfl|rfl|rfl|rfl:k=0\/k=1\/k=2\/k=3\/k=4\/k=5\/k=6\/k=7\/k=8\/k=9:=by omega
 all_goals decide
theorem LX (t:Tg) (n:Int) (k:Nat) (h:t.Fit) (j:0<=n) (l:n<18446744073709551616):(t.set n k).Fit:=by
 obtain ⟨a,b,c,d,e,f,g,i⟩:=h;unfold Tg.set
 split
 .exact ⟨Int.emod_nonneg _ (by decide),Int.emod_lt_of_pos _ (by decide),c,d,e,f,g,i⟩
 .exact ⟨a,b,c,d,j,l,g,i⟩
 .exact ⟨a,b,c,d,e,f,j,l⟩
 .exact ⟨a,b,j,l,e,f,g,i⟩
 all_goals exact ⟨a,b,c,d,e,f,g,i⟩
theorem Ko (l:List UInt8) (k:Nat):(il l k).Fit:=by
 induction k with
 | zero=>exact (show Tg.zero.Fit from ⟨by decide,by decide,by decide,by decide,by decide,by decide,by decide,by decide⟩)
 | succ k j=>
  obtain ⟨a,b,c,d,e,f,g,h⟩:=j;obtain ⟨m,o⟩:=gI (l.drop (kR k)) (dQ k);have i:=wj (lU k);rw [il];have p:ib (l.drop (kR k)) (dQ k)<18446744073709551616:=by omega
  clear o i;generalize ib (l.drop (kR k)) (dQ k)=n at *;exact LX (il l k) n k ⟨a,b,c,d,e,f,g,h⟩ m p
end Go.SL
namespace Go.Proofs.Nn
open Go.RowKit Go.SL
variable {w:V}
theorem uD {g o c:Nat} {l:List UInt8} (h:∀ i,i<l.length->w.cell? ⟨g,o+i,R⟩=U (u8 (l.getD i 0))):Rd w (O (U ⟨g,o,R⟩) l.length c) l:=by
 refine ⟨by simp,.inr ⟨_,_,rfl,fun j u a=>?_⟩⟩;rw [Addr.add_lit];rw [List.getElem?_map] at a
 by_cases b:j<l.length
 .rw [K1 b] at a
  rw [h j b,<- a,A1,K1 b];rfl
 .rw [List.getElem?_eq_none (Nat.le_of_not_lt b)] at a;cases a
theorem Eb:(prog.info? 245).map (·.size)=U 7:=by kernel_rfl
theorem Ao (t:Tg):(prog.info? 245).map (·.size)=U t.cells.size:=Eb
theorem CX (t:Tg):t.cells.all (·.oneCell')=Z':=by simp [Tg.cells,Value.oneCell']
theorem mi {b:Array N} {c:Nat} {t:Tg} {v u:N} {F:ai} (g:b[2]?=U (ay c)) (i:b[3]?=U v) (j:b[4]?=U u) (h:ag w (pt c (W t.cells 245 (0,0))*F)) :
  (results Tryz.f229 b).run Y w = .ok (.tuple #[.agg t.cells,v,u]) w:=by
 have a:∀ o,w.cell? ⟨c,o,R⟩=t.cells[o]?:=fun o=>h.cell o;have z0:=a 0;have d:=a 1;have e:=a 2;have z3:=a 3;have z4:=a 4;have z5:=a 5;have f:=a 6;clear a h;simp only [Tg.cells] at z0 d e z3 z4 z5 f ⊢;simp [results,Tryz.results229,go_sem,g,i,j,z0,d,e,z3,z4,z5,f]
def QG (l:List UInt8) (a:Nat) (s:Nat) (X:ai) (w0:V) (gk:Nat) (u9 u24:N) (wr:V):Prop:=
 ∃ j:Nat,j<=s/\s-j<=gk/\u24 = Z .i64 (j:Int)/\u9 = Z .u64 (ib (l.drop a) j)/\ag wr X/\aj w0 wr
def N3 (l:List UInt8) (g a:Nat) (b:Fb) (b5:Nat) (X:ai) (w0:V) (gk:Nat) (u6 u19:N) (wr:V):Prop:=
 ∃ k:Nat,k<=9/\9-k<=gk/\u19 = Z .i64 (k:Int)/\u6 = O (U ⟨g,kR k,R⟩) (512-kR k) (a-kR k) /\
  ag wr (cX b*(pt b5 (W (il l k).cells 245 (0,0))*X))/\aj w0 wr
def MV (o:Option (Tg × List UInt8)) (w:V) (e:Ending) (a:V):Prop:=
 match o with
 | some (t,l)=>∃ v,e = Q (.tuple #[.agg t.cells,v,Z .i64 0])/\ag a (bs 5 v l*whole w)/\aj w a
 | none=>e = Q (.tuple #[.agg Tg.zero.cells,O R 0 0,Z .i64 4])/\ag a (whole w)/\aj w a
theorem oe (l:List UInt8) (hl:l.length=512) (g cap:Nat) (hcap:512<=cap) (hcm:cap<=maxLen) (w:World) (hb:∀ o,o<512->w.cell? ⟨g,o,none⟩=some (u8 (l.getD o 0))) :
  Calls prog 229 #[.slice (some ⟨g,0,none⟩) 512 cap] w (MV (cO l) w):=by
 have hA:=((ag.whole w).alloc (.cells Tg.zero.cells 245 (0,0))).alloc (.cells Tg.zero.cells 245 (0,0));have hs:=((aj.refl w).alloc (.cells Tg.zero.cells 245 (0,0))).alloc (.cells Tg.zero.cells 245 (0,0));rw [World.size_alloc] at hA;have Hb:=ae hb;clear hb hcm
 go_enter func229,ntmps229
 go_wp2_with fail
 refine (sD _).mono ?_;rintro e w4 ⟨fb,rfl,h4,d4⟩;have H4:=h4.under hA;have D4:=aj.trans hs d4;clear h4 d4 hA hs;generalize w.heap.size+1=b5 at H4 ⊢;generalize w.heap.size=z2 at H4 ⊢;have hix:=C6 fb;have hsk:=fun t n k hk=>Qj fb b5 t n k hk;generalize hfv:oJ fb=fv at hix;clear hfv
 go_wp2_with fail
 go_loopg [6,19] 9 (fun gk u6 u19 wr=>N3 l g cap fb b5 (pt z2 (.cells Tg.zero.cells 245 (0,0))*whole w) w gk u6 u19 wr)
 case atStart=>exact ⟨0,by omega,by omega,rfl,rfl,H4,D4⟩
 case round=>
  clear H4 D4;obtain ⟨gko,rfl⟩:∃ n,n=gk:=⟨gk,rfl⟩
  obtain ⟨k,hk,hgo,rfl,rfl,hsat,hside⟩:=hrel;have hoff:=De k hk
  by_cases hlt:k<9
  .have hlt':(k:Int)<9:=by omega
   have hixk:=hix k hlt;have hoff2:=De (k+1) (by omega);rw [qU] at hoff2;obtain ⟨f2,caps2,hf2,hen,hset⟩:=hsk (il l k) (ib (l.drop (kR k)) (dQ k)) k hlt;obtain ⟨f,caps,hf⟩:∃ f caps,jH fb k=(f,caps):=⟨_,_,rfl⟩
   simp only [Bk,hf,hf2] at hixk;have hsz:(dQ k:Int)<=6:=by have:=lU k;omega
   have hszn:dQ k<=6:=lU k;have hA:=hsat.alloc (.cells #[.int .i64 (dQ k),eS f caps,eS f2 caps2] 290 (0,0));have hsA:=hside.alloc (.cells #[.int .i64 (dQ k),eS f caps,eS f2 caps2] 290 (0,0));have Hdec:Hid (il l (k+1)=(il l k).set (ib (l.drop (kR k)) (dQ k)) k):=rfl;have Hoff:Hid (kR (k+1)=kR k+dQ k):=qU k;have Hset:=ae hset;clear hix hsk hf hf2 hsat hside hset;generalize hsk2:dQ k=sz at *;generalize hok:kR k=off at *;clear hsk2 hok
   go_wp2_with fail
   generalize wr.alloc (.cells #[.int .i64 (sz:Int),eS f caps,eS f2 caps2] 290 (0,0))=w5 at hA hsA ⊢;generalize wr.heap.size=b8 at hA ⊢;have c8:w5.cell? ⟨b8,0,none⟩=some (.int .i64 (sz:Int)):=hA.cell 0
   go_loopg [9,24] sz (fun gk u9 u24 wr=>QG l off sz (pt b8 (.cells #[.int .i64 (sz:Int),eS f caps,eS f2 caps2] 290 (0,0))*(cX fb*(pt b5 (.cells (il l k).cells 245 (0,0))*(pt z2 (.cells Tg.zero.cells 245 (0,0))*whole w)))) w gk u9 u24 wr)
   case atStart=>exact ⟨0,by omega,by omega,rfl,rfl,hA,hsA⟩
   case round=>
    clear hA hsA c8;obtain ⟨j,hj,hgj,rfl,rfl,hsat,hside⟩:=hrel
    by_cases hjl:j<sz
    .have hjl':(j:Int)<(sz:Int):=by omega
     have hcj:wr.cell? ⟨g,off+j,none⟩=some (.int .u8 ((l.getD (off+j) 0).toNat:Int)):=(hsat.right.right.right.right.lV.to (ee _ _)).bT (Hb.out (off+j) (by omega));have hidx:(j:Int)<((512-off:Nat):Int):=by omega
     obtain ⟨r0,r1⟩:=gI (l.drop off) j
     go_wp2_with fail
     go_roundg (gk-1)
     case measure=>omega
     case rel=>exact ⟨j+1,by omega,by omega,by go_num,by rw [Lt l off j (by omega)],hsat,hside⟩
    .obtain rfl:j=sz:=by omega
     have c8:wr.cell? ⟨b8,0,none⟩=some (.int .i64 (j:Int)):=hsat.cell 0;have c82:wr.cell? ⟨b8,2,none⟩=some (eS f2 caps2):=hsat.cell 2;have hcall:=Hset.out wr _ hsat.aq.aq;clear hjl
     go_wp2_with fail
     refine hcall.mono ?_;rintro e w7 ⟨rfl,h7,d7⟩;have H7:=h7;have c8':w7.cell? ⟨b8,0,none⟩=some (.int .i64 (j:Int)):=H7.aq.cell 0;have hb1:(j:Int)<=((512-off:Nat):Int):=by omega
     have hb2:j<=512-off:=by omega
     have hb3:j<=cap-off:=by omega
     have hb4:512-off<=cap-off:=by omega
     have hb5:¬ cap-off=j:=by omega
     have hb6:¬ cap-off-j=0:=by omega
     have hside7:=hside.trans d7;clear hcall h7 d7 c8 c82 hsat hside
     go_wp2
     go_roundg (gko-1)
     case measure=>omega
     case rel=>
      refine ⟨k+1,by omega,by omega,by go_num,by rw [Hoff.out,Nat.sub_sub,Nat.sub_sub],?_,hside7⟩;rw [Hdec.out];exact H7.kD.ah
  .obtain rfl:k=9:=by omega
   have ho9:kR 9=32:=by decide
   have Ht:=ae (Ko l 9);rw [ho9];have cb:∀ o,wr.cell? ⟨b5,o,none⟩=(il l 9).cells[o]?:=fun o=>hsat.ah.cell o;have cb0:=cb 0;have cb1:=cb 1;have cb2:=cb 2;have cb3:=cb 3;have cb4:=cb 4;have cb5:=cb 5;have cb6:=cb 6;simp only [Tg.cells] at cb0 cb1 cb2 cb3 cb4 cb5 cb6
   have hrest:Rd wr (.slice (some ⟨g,32,none⟩) 480 (cap-32)) (l.drop 32):=by
    have hdl:(l.drop 32).length=480:=by rw [D1,hl]
    have:=uD (w:=wr) (g:=g) (o:=32) (c:=cap-32) (l:=l.drop 32) fun o h=>by
     have hc:=(hsat.right.right.right.lV.to (ee _ _)).bT (Hb.out (32+o) (by omega));rw [hc];simp [A1]
    rwa [hdl] at this
   have hfull:∀ w',ag w' (whole w)->Rd w' (.slice (some ⟨g,0,none⟩) 512 cap) l:=fun w' h=>by
    have:=uD (w:=w') (g:=g) (o:=0) (c:=cap) (l:=l) fun o hh=>by
     have hc:=(h.lV.to (ee _ _)).bT (Hb.out o (by omega));rw [Nat.zero_add];exact hc
    rwa [hl] at this
   have Hfull:=ae hfull;have Hrest:=ae hrest;have Hl:=ae hl;have hz:∀ o,wr.cell? ⟨z2,o,none⟩=Tg.zero.cells[o]?:=fun o=>hsat.aq.cell o;have Hdn:Hid ((il l 9).ok=false->cO l=none):=fun hok=>by unfold cO;rw [if_neg];rintro ⟨h1,_⟩;rw [hok] at h1;cases h1
   have Hdy:Hid ((il l 9).ok=true->enc (il l 9)++l.drop 32=l->cO l=some (il l 9,l.drop 32)):=fun h1 h2=>by unfold cO;rw [if_pos ⟨h1,h2⟩]
   have Hdz:Hid (¬ enc (il l 9)++l.drop 32=l->cO l=none):=fun h2=>by unfold cO;rw [if_neg];rintro ⟨_,h3⟩;exact h2 h3
   clear cb hfull hrest hix hsk hoff hlt hl;generalize il l 9=t at *
   cases hok:t.ok with
   | false=>
    have hdec:cO l=none:=Hdn.out hok;have Hdec:=ae hdec;have hcall:=qe t hok _ _ wr Hrest.out;clear hdec hok;simp only [Tg.cells] at hcall
    go_wp2_with fail
    refine hcall.mono ?_;rintro e w7 ⟨rfl,h7,d7⟩;have H7:=h7.dU hsat;clear hcall hsat cb0 cb1 cb2 cb3 cb4 cb5 cb6 hz h7;have hzh:w7.heap[z2]?=some (.cells Tg.zero.cells 245 (0,0)):=H7.aq.heap;have H8:=H7.aq.setRow (cs':=Tg.zero.cells);have hs8:=(hside.trans d7).setRow z2 Tg.zero.cells
    go_wp2_with (refine wpList_store_row rfl 245 (.tmp 2) (.tmp 61) rfl z2 Tg.zero.cells rfl rfl 245 Tg.zero.cells hzh (Ao _) rfl (CX _) ?_)
    refine bodyPost_ret (mi rfl rfl rfl H8) rfl ?_;rw [Hdec.out];exact ⟨rfl,H8.right.right.right,hs8⟩
   | true=>
    have hcall:=lq t Ht.out hok _ _ (by rw [D1,Hl.out]) wr Hrest.out;have Hok:=ae hok;clear hok;simp only [Tg.cells] at hcall
    go_wp2_with fail
    refine hcall.mono ?_;rintro e w7 ⟨v,rfl,h7,d7⟩;have H7:=h7.under hsat;have hside7:=hside.trans d7;have hag:Rd w7 v (enc t++l.drop 32):=h7.lC;have hfull:=Hfull.out w7 H7.right.right.right.right;have heq:=En w7 v _ _ _ hag hfull;clear hcall hsat cb0 cb1 cb2 cb3 cb4 cb5 cb6 hz h7 d7 hside hag hfull
    by_cases he:enc t++l.drop 32=l
    .rw [show decide (enc t++l.drop 32=l)=true by simpa using he] at heq
     have hdec:cO l=some (t,l.drop 32):=Hdy.out Hok.out he;have Hdec:=ae hdec;have hcb:∀ o,w7.cell? ⟨b5,o,none⟩=t.cells[o]?:=fun o=>H7.aq.cell o;have cb0:=hcb 0;have cb1:=hcb 1;have cb2:=hcb 2;have cb3:=hcb 3;have cb4:=hcb 4;have cb5:=hcb 5;have cb6:=hcb 6;simp only [Tg.cells] at cb0 cb1 cb2 cb3 cb4 cb5 cb6
     have Hrest7:Hid (Rd w7 (.slice (some ⟨g,32,none⟩) 480 (cap-32)) (l.drop 32)):=by
      have hdl:(l.drop 32).length=480:=by rw [D1,Hl.out]
      have:=uD (w:=w7) (g:=g) (o:=32) (c:=cap-32) (l:=l.drop 32) fun o h=>by
       have hc:=(H7.right.right.right.right.lV.to (ee _ _)).bT (Hb.out (32+o) (by omega));rw [hc];simp [A1]
      rwa [hdl] at this
     clear hcb he hdec
     go_wp2_with (go_at_call 248;(with_reducible refine heq.mono ?_);rintro e w8 ⟨rfl,rfl⟩)
     obtain ⟨i0,hi,hz,hs0,hb0⟩:=info_parts gj;obtain ⟨B3,hB3⟩:∃ X,X=pt b5 (.cells t.cells 245 (0,0))*(cX fb*whole w):=⟨_,rfl⟩
     have K7:ag w7.drew (sl 5 1 (.slice none 0 0) 0 []*(pt z2 (.cells Tg.zero.cells 245 (0,0))*B3)):=(ag.eC (F:=pt z2 (.cells Tg.zero.cells 245 (0,0))*B3) (H7.right.to (by rw [hB3];ac_rfl)) _ _)
     have hrl2:nG w7.drew 1 (.slice (some ⟨g,32,none⟩) 480 (cap-32)) 480 ((l.drop 32).map Go.SL.u8):=by
      have:=Hrest7.out;unfold Rd at this;rwa [D1,Hl.out] at this
     obtain ⟨v',w8,hrun,h8,d8⟩:=ag.append (P:=prog) (ty:=37) underlying37 hi hz hs0 hb0 rfl K7 hrl2 (qO _) (by unfold maxLen;omega) (by omega)
     have hbs:ag w8 (bs 5 v' (l.drop 32)*(pt z2 (.cells Tg.zero.cells 245 (0,0))*B3)):=h8.to (by
      rw [bs,D1,Hl.out];rfl)
     obtain ⟨va',vc',rfl⟩:=aC hbs;have hz8:∀ o,w8.cell? ⟨z2,o,none⟩=Tg.zero.cells[o]?:=fun o=>hbs.ah.cell o;have zz0:w8.cell? ⟨z2,0,none⟩=some (.int .u32 0):=hz8 0;have zz1:w8.cell? ⟨z2,1,none⟩=some (.int .u64 0):=hz8 1;have zz2:w8.cell? ⟨z2,2,none⟩=some (.int .u64 0):=hz8 2;have zz3:w8.cell? ⟨z2,3,none⟩=some (.int .u64 0):=hz8 3;have zz4:w8.cell? ⟨z2,4,none⟩=some (.int .i64 0):=hz8 4;have zz5:w8.cell? ⟨z2,5,none⟩=some (.int .i64 0):=hz8 5;have zz6:w8.cell? ⟨z2,6,none⟩=some (.int .i64 0):=hz8 6;have fz0:w8.frozen? ⟨z2,0,none⟩=false:=hbs.ah.frozen 0;have fz1:w8.frozen? ⟨z2,1,none⟩=false:=hbs.ah.frozen 1;have fz2:w8.frozen? ⟨z2,2,none⟩=false:=hbs.ah.frozen 2;have fz3:w8.frozen? ⟨z2,3,none⟩=false:=hbs.ah.frozen 3;have fz4:w8.frozen? ⟨z2,4,none⟩=false:=hbs.ah.frozen 4;have fz5:w8.frozen? ⟨z2,5,none⟩=false:=hbs.ah.frozen 5;have fz6:w8.frozen? ⟨z2,6,none⟩=false:=hbs.ah.frozen 6;have K9:=((((((hbs.ah.setCell 0 (.int .u32 t.ep)).setCell 1 (.int .u64 t.st)).setCell 2 (.int .u64 t.sq)).setCell 3 (.int .u64 t.fl)).setCell 4 (.int .i64 t.ix)).setCell 5 (.int .i64 t.ct)).setCell 6 (.int .i64 t.id);have S9:=K9.right.right;have S8:=hbs.right.right;have S7:=K7.right.right;have gb:∀ o w',ag w' B3->w'.cell? ⟨b5,o,none⟩=t.cells[o]?:=fun o w' h=>(hB3▸h).cell o;have gb0:∀ w',ag w' B3->w'.cell? ⟨b5,0,none⟩=some (.int .u32 t.ep):=gb 0;have gb1:∀ w',ag w' B3->w'.cell? ⟨b5,1,none⟩=some (.int .u64 t.st):=gb 1;have gb2:∀ w',ag w' B3->w'.cell? ⟨b5,2,none⟩=some (.int .u64 t.sq):=gb 2;have gb3:∀ w',ag w' B3->w'.cell? ⟨b5,3,none⟩=some (.int .u64 t.fl):=gb 3;have gb4:∀ w',ag w' B3->w'.cell? ⟨b5,4,none⟩=some (.int .i64 t.ix):=gb 4;have gb5:∀ w',ag w' B3->w'.cell? ⟨b5,5,none⟩=some (.int .i64 t.ct):=gb 5;have gb6:∀ w',ag w' B3->w'.cell? ⟨b5,6,none⟩=some (.int .i64 t.id):=gb 6;have Hrun:=ae hrun;have HB3:=ae hB3;clear hrun gb h8 hz8 hB3 hi hz hs0 hb0 hrl2 K7 H7 heq cb0 cb1 cb2 cb3 cb4 cb5 cb6;have S9d:=S9.drew
     go_region_held3 (fun w'=>ag w' B3) (first|(with_reducible exact S7)|(with_reducible exact S8)|(with_reducible exact S9)|(with_reducible exact S9d)) (first
      | (refine lG Hrun.out rfl _ _ rfl rfl (by rfl) (by rfl) ?_))
     go_wp2
     have K10:ag ((((((((w8.setCell ⟨z2,0,none⟩ (.int .u32 t.ep)).setCell ⟨z2,1,none⟩ (.int .u64 t.st)).setCell ⟨z2,2,none⟩ (.int .u64 t.sq)).setCell ⟨z2,3,none⟩ (.int .u64 t.fl)).setCell ⟨z2,4,none⟩ (.int .i64 t.ix)).setCell ⟨z2,5,none⟩ (.int .i64 t.ct)).setCell ⟨z2,6,none⟩ (.int .i64 t.id))) (pt z2 (.cells t.cells 245 (0,0))*(bs 5 (.slice va' (l.length-32) vc') (l.drop 32)*B3)):=by
      rw [D1] at K9;exact K9
     refine bodyPost_ret (mi rfl rfl rfl K10) rfl ?_;rw [Hdec.out];refine ⟨_,rfl,?_,(((((((hside7.drew.trans d8).setCell _ _).setCell _ _).setCell _ _).setCell _ _).setCell _ _).setCell _ _).setCell _ _⟩;rw [HB3.out] at K10;exact K10.right.ig.ig
    .rw [show decide (enc t++l.drop 32=l)=false by simpa using he] at heq
     have hdec:cO l=none:=Hdz.out he;have Hdec:=ae hdec;have hzh:w7.heap[z2]?=some (.cells Tg.zero.cells 245 (0,0)):=H7.aD.heap;have H8:=H7.aD.setRow (cs':=Tg.zero.cells);have hs8:=hside7.setRow z2 Tg.zero.cells;clear he hdec H7
     go_wp2_with (first
      | (go_at_call 248;(with_reducible refine heq.mono ?_);rintro e w8 ⟨rfl,rfl⟩)
      | (refine wpList_store_row rfl 245 (.tmp 2) (.tmp 61) rfl z2 Tg.zero.cells rfl rfl 245 Tg.zero.cells hzh (Ao _) rfl (CX _) ?_))
     refine bodyPost_ret (mi rfl rfl rfl H8) rfl ?_;rw [Hdec.out];exact ⟨rfl,H8.right.right.right.right,hs8⟩
end Go.Proofs.Nn
namespace Go.SL
open Go.RowKit
variable {w:V} {F:ai}
structure Jr where
 P:Nat
 T:Tb
 n:Int
 ep:Int
 st:Int
 sq:Int
 hd:Int
 us:Int
 fr:Int
 br:Bool
def bZ (P:Nat):List Int:=(L1 P).map fun i:Nat=>(i:Int)+1
theorem aP (P:Nat):(bZ P).length=P:=by simp [bZ]
theorem wJ {P k:Nat} (h:k<P):(bZ P).getD k 0=(k:Int)+1:=by simp [bZ,A1,h]
def Jr.cells (J:Jr) (d r t:Nat):Array N:=
 #[ay d,ay r,ay t,Z .i64 J.n,Z .u32 J.ep,Z .u64 J.st,Z .u64 J.sq,Z .i64 J.hd,Z .i64 J.us,Z .i64 J.fr,.bool J.br]
def jk (j d r t:Nat) (J:Jr):ai:=pt j (W (J.cells d r t) 183 (0,0))*(bL r (bZ J.P)*bB t J.T)
def nY (j d:Nat) (J:Jr):ai:=ex fun x:Nat × Nat=>pt j (W (J.cells d x.1 x.2) 183 (0,0))*(bL x.1 (bZ J.P)*bB x.2 J.T)
structure Jr.Ok (J:Jr):Prop where
 p0:0<J.P
 p1:J.P<=20000
 T:J.T.Ok
 ps:(J.T.ps.length:Int)=J.n
 os:J.T.os.length=J.P
 BM:0<=J.us
 Po:J.us<=J.P
 Gh:0<=J.hd
 yo:J.hd<J.P
 Ro:0<=J.fr
 Ss:J.fr<=48
theorem ag.qE {j d:Nat} {J:Jr} (h:ag w (nY j d J*F)):∃ r t,ag w (pt j (W (J.cells d r t) 183 (0,0))*(bL r (bZ J.P)*(bB t J.T*F))):=by
 obtain ⟨x,h⟩:=ag.aw.1 h;exact ⟨x.1,x.2,h.to (by ac_rfl)⟩
theorem ag.wV {j d r t:Nat} {J:Jr} (h:ag w (pt j (W (J.cells d r t) 183 (0,0))*(bL r (bZ J.P)*(bB t J.T*F)))):ag w (nY j d J*F):=
 ag.aw.2 ⟨(r,t),h.to (by ac_rfl)⟩
theorem ag.Dt {j d r t:Nat} {J:Jr} (h:ag w (jk j d r t J*F)):ag w (nY j d J*F):=ag.aw.2 ⟨(r,t),h⟩
theorem ag.CV {j d:Nat} {J:Jr} (h:ag w (nY j d J*F)):∃ r t,ag w (jk j d r t J*F):=by
 obtain ⟨x,h⟩:=ag.aw.1 h;exact ⟨x.1,x.2,h⟩
theorem ag.MH {j d r t:Nat} {J:Jr} (h:ag w (pt j (W (J.cells d r t) 183 (0,0))*(bL r (bZ J.P)*(bB t J.T*F)))):ag w (jk j d r t J*F):=h.to (by unfold jk;ac_rfl)
theorem ag.CK {j d r t:Nat} {J:Jr} (h:ag w (jk j d r t J*F)):ag w (pt j (W (J.cells d r t) 183 (0,0))*(bL r (bZ J.P)*(bB t J.T*F))):=h.to (by unfold jk;ac_rfl)
def Jr.load (J:Jr) (D:az) (id place:Int):(Int × List UInt8) × Jr × az:=
 let a:=D.read (place%(J.P:Int)+1)
 if a.1.1=0 then
  match cO a.1.2 with
  | some (t,b)=>if t.id=id then ((0,b),J,a.2) else ((2,[]),{ J with br:=Z' },a.2)
  | none=>((2,[]),{ J with br:=Z' },a.2)
 else ((2,[]),{ J with br:=Z' },a.2)
def Jr.read (J:Jr) (D:az) (id:Int):(Int × List UInt8) × Jr × az:=
 if id<0\/J.n<=id then ((1,[]),J,D)
 else if J.br then ((2,[]),J,D)
 else match told J.T.ps id with
  | none=>((0,zs 480),J,D)
  | some p=>J.load D id p
def Jr.flush (J:Jr) (D:az):Int × Jr × az:=
 if J.br then (2,J,D) else if D.flush.1=0 then (0,J,D.flush.2) else (2,{ J with br:=Z' },D.flush.2)
end Go.SL
namespace Go.Proofs.Nn
open Go.RowKit Go.SL
def RS (j d r t:Nat) (J:Jr) (v:N) (F:ai) (w:V) (e:Ending) (a:V):Prop:=e = Q v/\ag a (jk j d r t J*F)/\aj w a
theorem mX (w:V) (j d r t:Nat) (J:Jr) (F:ai) (h:ag w (jk j d r t J*F)) :
  Calls Y 169 #[ay j] w (RS j d r t { J with br:=Z' } (Z .i64 2) F w):=by
 have a:ag w (pt j (W (J.cells d r t) 183 (0,0))*(bL r (bZ J.P)*(bB t J.T*F))):=h.to (by unfold jk;ac_rfl);have e:w.cell? ⟨j,10,R⟩=U (.bool J.br):=a.cell 10;have f:=a.frozen 10;have b:=a.setCell 10 (.bool Z');have c:=ae b;clear h a b
 go_enter func169,ntmps169
 go_wp2
 go_ret
 exact ⟨rfl,ag.MH (J:={ J with br:=Z' }) c.out,(aj.refl w).setCell _ _⟩
def Se (j d:Nat) (J:Jr) (v:N) (F:ai) (w:V) (e:Ending) (a:V):Prop:=e = Q v/\ag a (nY j d J*F)/\aj w a
theorem zi (w:V) (j d:Nat) (J:Jr) (F:ai) (h:ag w (nY j d J*F)) :
  Calls Y 169 #[ay j] w (Se j d { J with br:=Z' } (Z .i64 2) F w):=by
 obtain ⟨r,t,e⟩:=h.CV;exact (mX w j d r t J F e).mono fun _ _ ⟨a,b,c⟩=>⟨a,b.Dt,c⟩
theorem Ka (w:V) (j d:Nat) (J:Jr) (F:ai) (h:ag w (nY j d J*F)) (m:J.Ok) :
  Calls Y 127 #[ay j] w (kx (Z .i64 ((J.P:Int)-J.us-J.fr)) w):=by
 obtain ⟨r,t,b⟩:=h.qE;have g:w.cell? ⟨j,1,R⟩=U (ay r):=b.cell 1;have i:w.cell? ⟨j,8,R⟩=U (Z .i64 J.us):=b.cell 8;have l:w.cell? ⟨j,9,R⟩=U (Z .i64 J.fr):=b.cell 9;have c:=b.ah
 have f:∀ a,ag a (bL r (bZ J.P)*(pt j (W (J.cells d r t) 183 (0,0))*(bB t J.T*F)))->Calls Y 173 #[ay r] a (mm J.P a):=fun a h=>by
  have:=rM a r (bZ J.P) _ h
  rwa [aP] at this
 obtain ⟨p0,p1,_,_,_,u0,u1,_,_,p,q⟩:=m;have x:=f w c;have o:=f w.drew c;have u:(J.P:Int)<=20000:=by omega
 have v:0<=(J.P:Int):=by omega
 have y:J.us<=20000:=by omega
 clear h b c f
 go_enter func127,ntmps127
 have z:IntKind.i64.wrap ((J.P:Int)-J.us)=(J.P:Int)-J.us:=by rw [IntKind.wrap_i64];omega
 have A:IntKind.i64.wrap ((J.P:Int)-J.us-J.fr)=(J.P:Int)-J.us-J.fr:=by rw [IntKind.wrap_i64];omega
 go_wp2_with fail
 go_region_held3 (fun a=>a.cell? ⟨j,1,R⟩=U (ay r)/\a.cell? ⟨j,8,R⟩=U (Z .i64 J.us)/\a.cell? ⟨j,9,R⟩=U (Z .i64 J.fr)) (first|exact ⟨g,i,l⟩) (first
  | (go_at_call 173;(with_reducible refine o.mono ?_);rintro e B ⟨rfl,rfl⟩))
 go_wp2
 go_ret
 exact ⟨rfl,(ag.whole w).drew,(aj.refl w).drew⟩
def ON (S:Hp) (j d:Nat) (a:Int × Jr × az) (F:ai) (w:V) (e:Ending) (b:V):Prop:=
 e = Q (Z .i64 a.1)/\ag b (nY j d a.2.1*(aL S d a.2.2*F))/\aj w b
theorem tQ (w:V) (S:Hp) (j d:Nat) (J:Jr) (D:az) (F:ai) (h:ag w (nY j d J*(aL S d D*F))) (y:D.Ok) :
  Calls Y 124 #[ay j] w (ON S j d (J.flush D) F w):=by
 obtain ⟨r,t,l⟩:=h.qE;have c:w.cell? ⟨j,10,R⟩=U (.bool J.br):=l.cell 10;have m:w.cell? ⟨j,0,R⟩=U (ay d):=l.cell 0;have a:=mR w S d D _ h.ah y;clear l;unfold Jr.flush
 cases g:J.br with
 | true=>
  rw [g] at c;clear a
  go_enter func124,ntmps124
  go_wp2
  go_ret
  exact ⟨rfl,h,aj.refl w⟩
 | false=>
  rw [g] at c
  by_cases b:D.flush.1=0
  .rw [if_neg (by simp),if_pos b]
   rw [b] at a;clear h b g
   go_enter func124,ntmps124
   go_wp2_with fail
   refine a.mono ?_;rintro e p ⟨rfl,f,i⟩;clear a m c
   go_wp2
   go_ret
   exact ⟨rfl,f.ah,i⟩
  .rw [if_neg (by simp),if_neg b]
   have u:(D.flush.1 == 0)=false:=by simpa using b
   generalize D.flush.1=v at a u;clear h b g
   go_enter func124,ntmps124
   go_wp2_with fail
   refine a.mono ?_;rintro e p ⟨rfl,f,i⟩;have o:=zi p j d J _ f.ah;clear a m c f
   go_wp2_with fail
   refine o.mono ?_;rintro e z ⟨rfl,x,q⟩;clear o
   go_wp2
   go_ret
   exact ⟨rfl,x,i.trans q⟩
def Ox (S:Hp) (j d r t:Nat) (a:(Int × List UInt8) × Jr × az) (F:ai) (w:V) (e:Ending) (c:V):Prop:=
 ∃ b,e = Q (.tuple #[b,Z .i64 a.1.1])/\ag c (oa 5 a.1 b*(jk j d r t a.2.1*(aL S d a.2.2*(ak S*F))))/\aj w c
def Nj (S:Hp) (j d:Nat) (a:(Int × List UInt8) × Jr × az) (F:ai) (w:V) (e:Ending) (c:V):Prop:=
 ∃ b,e = Q (.tuple #[b,Z .i64 a.1.1])/\ag c (oa 5 a.1 b*(nY j d a.2.1*(aL S d a.2.2*(ak S*F))))/\aj w c
theorem Q1 {w:V} {v:N} {l:List UInt8} {F:ai} (h:ag w (bs 5 v l*F)) (r:0<l.length) (u:l.length<=1000000) :
  ∃ g c,v = O (U ⟨g,0,R⟩) l.length c/\l.length<=c/\∀ o,o<l.length->w.cell? ⟨g,o,R⟩=U (u8 (l.getD o 0)):=by
 rcases h.de with ⟨_,m,_⟩|⟨g,b,j,rfl,d,p,q,f,i⟩
 .omega
 .refine ⟨g,b,rfl,d,fun o a=>?_⟩
  rw [i.cell];have e:=congrArg (·[o]?) f;simp only [List.getElem?_take,Nat.mul_one,a,if_true,List.getElem?_map,Array.getElem?_toList] at e;rw [e,K1 a,A1,K1 a];rfl
theorem wE (D:az) (a:Int) (h:(D.bV a).1=0):(D.bV a).2.length=512:=by
 unfold az.bV at h ⊢
 split
 .exact bS _ _
 .rename_i c
  rw [c] at h;simp only at h
  split
  .rename_i b;rw [if_pos b] at h;cases h
  .exact bS _ _
theorem oZ (D:az) (a:Int) (h:(D.read a).1.1=0):(D.read a).1.2.length=512:=by
 unfold az.read at h ⊢
 split
 .rename_i b
  rw [if_pos b] at h
  split
  .rename_i c;rw [if_pos c] at h;exact wE _ _ h
  .rename_i c;rw [if_neg c] at h;cases h
 .rename_i b;rw [if_neg b] at h;cases h
theorem wR (w:V) (S:Hp) (j d r t:Nat) (J:Jr) (D:az) (id place:Int) (F:ai) (l0:ag w (jk j d r t J*(aL S d D*(ak S*F)))) (hJ:J.Ok) (hD:D.Ok) :
  Calls Y 171 #[ay j,Z .i64 id,Z .i64 place] w (Ox S j d r t (J.load D id place) F w):=by
 have hx:ag w (pt j (W (J.cells d r t) 183 (0,0))*(bL r (bZ J.P)*(bB t J.T*(aL S d D*(ak S*F))))):=l0.to (by unfold jk;ac_rfl);have c0:w.cell? ⟨j,0,R⟩=U (ay d):=hx.cell 0;have c1:w.cell? ⟨j,1,R⟩=U (ay r):=hx.cell 1;have q0:=hJ.p0;have G0:=hJ.p1;have g0:=C7 w.drew r (bZ J.P) place _ hx.ah.drew (by rw [aP];exact q0) (by rw [aP];omega);obtain ⟨k,hk,o0⟩:=na place q0;rw [aP,hk,Int.toNat_natCast,wJ o0,<- hk] at g0;obtain ⟨G,u⟩:∃ G,G=J.load D id place:=⟨_,rfl⟩
 rw [<- u];have h0:=oZ D (place%(J.P:Int)+1);obtain ⟨a,hR⟩:∃ a,a=D.read (place%(J.P:Int)+1):=⟨_,rfl⟩
 rw [<- hR] at h0
 have r0:∀ y,ag y (pt j (W (J.cells d r t) 183 (0,0))*(bL r (bZ J.P)*(bB t J.T*(aL S d D*(ak S*F)))))->Calls Y 228 #[ay d,Z .i64 (place%(J.P:Int)+1)] y (jO S d a.2 a.1 (pt j (W (J.cells d r t) 183 (0,0))*(bL r (bZ J.P)*(bB t J.T*F))) y):=fun y h'=>by
  rw [hR];exact mn y S d D _ _ (h'.to (by ac_rfl)) hD
 unfold Jr.load at u;rw [<- hR] at u;have A:Hid (a.1.1≠0->G=((2,[]),{ J with br:=Z' },a.2)):=fun q=>by rw [u];simp only [if_neg q]
 have B:Hid (a.1.1=0->cO a.1.2=R->G=((2,[]),{ J with br:=Z' },a.2)):=fun q q2=>by rw [u];simp only [if_pos q,q2]
 have C:Hid (a.1.1=0->∀ t b,cO a.1.2=U (t,b)->t.id≠id->G=((2,[]),{ J with br:=Z' },a.2)):=fun q t b q2 q3=>by rw [u];simp only [if_pos q,q2,if_neg q3]
 have E:Hid (a.1.1=0->∀ t b,cO a.1.2=U (t,b)->t.id=id->G=((0,b),J,a.2)):=fun q t b q2 q3=>by rw [u];simp only [if_pos q,q2,if_pos q3]
 clear u;have d0:=ae r0;have i0:=ae h0;generalize place%(J.P:Int)+1=K0 at *;clear hk o0 r0 hR h0;obtain ⟨⟨rc,rl⟩,D'⟩:=a;simp only at i0 d0 A B C E
 go_enter func171,ntmps171
 go_wp2_with fail
 go_region_held3 (fun y=>y.cell? ⟨j,0,R⟩=U (ay d)/\y.cell? ⟨j,1,R⟩=U (ay r)) (first|(with_reducible exact ⟨a0,a1⟩)|(with_reducible exact ⟨b0,b1⟩)|exact ⟨c0,c1⟩) (first
  | (go_at_call 175;(with_reducible refine g0.mono ?_);rintro e w1 ⟨rfl,h1,d1⟩;have H1:=h1.dU (ag.drew hx);have a0:w1.cell? ⟨j,0,R⟩=U (ay d):=H1.cell 0;have a1:w1.cell? ⟨j,1,R⟩=U (ay r):=H1.cell 1;have s0:=d0.out w1 H1)
  | (go_at_call 228;(with_reducible refine s0.mono ?_);rintro e w2 ⟨dv,rfl,h2,d2⟩;have b0:w2.cell? ⟨j,0,R⟩=U (ay d):=h2.aD.cell 0;have b1:w2.cell? ⟨j,1,R⟩=U (ay r):=h2.aD.cell 1))
 have D2:=((aj.refl w).drew.trans d1).trans d2;have h3:ag w2 (oa 5 (rc,rl) dv*(jk j d r t J*(aL S d D'*(ak S*F)))):=h2.to (by unfold jk;ac_rfl);clear l0 hx c0 c1 g0 h1 d1 H1 a0 a1 s0 d2 b0 b1 h2 d0
 by_cases X:rc=0
 .subst X
  have f:=h3.tU;have L:=i0.out rfl;obtain ⟨u0,k0,rfl,e0,f0⟩:=Q1 f (by omega) (by omega);rw [L] at e0 f0
  have m0:k0<=maxLen:=by
   rcases f.de with ⟨hv,_⟩|⟨g',D0,F0,hv,i,z,_⟩
   .cases hv
   .cases hv;exact z
  have x:=oe rl L u0 k0 e0 m0 w2 f0;have Hl:=ae L;rw [L];clear h3 f0 L e0 m0
  match hd:cO rl with
  | none=>
   rw [hd] at x;have g:=B.out rfl hd;clear hd A B C E
   go_wp2_with fail
   refine x.mono ?_;rintro e w3 ⟨rfl,i,I⟩;have o:=(i.dU f).right;have p:=o.alloc (W Tg.zero.cells 245 (0,0));have m:=(D2.trans I).alloc (W Tg.zero.cells 245 (0,0));have h:=mX _ j d r t J _ p.right;have c:=ae g;clear x f i o p g;simp only [Tg.cells,Tg.zero] at h m ⊢
   go_wp2_with fail
   refine h.mono ?_;rintro e w4 ⟨rfl,z,K⟩;clear h
   go_wp2
   go_ret2
   refine ⟨O R 0 0,by rw [c.out];rfl,?_,m.trans K⟩;rw [c.out];exact ag.iN z (show (2:Int)≠0 by decide)
  | some (l,b)=>
   rw [hd] at x
   by_cases H:l.id=id
   .have g:=E.out rfl l b hd H
    have c:=ae g;have x0:(l.id != id)=false:=by simp [H]
    clear hd A B C E g H
    go_wp2_with fail
    refine x.mono ?_;rintro e w3 ⟨v,rfl,i,I⟩;have o:=(i.under f).ig;have p:=o.alloc (W l.cells 245 (0,0));have m:=(D2.trans I).alloc (W l.cells 245 (0,0));clear x f i o;simp only [Tg.cells] at p m ⊢
    go_wp2
    go_ret2
    refine ⟨v,by rw [c.out];rfl,?_,m⟩;rw [c.out];exact ag.rC p.right
   .have g:=C.out rfl l b hd H
    have c:=ae g;have x0:(l.id != id)=Z':=by simpa using H
    clear hd A B C E g H
    go_wp2_with fail
    refine x.mono ?_;rintro e w3 ⟨v,rfl,i,I⟩;have o:=(i.under f).right.right;have p:=o.alloc (W l.cells 245 (0,0));have m:=(D2.trans I).alloc (W l.cells 245 (0,0));have h:=mX _ j d r t J _ p.right;clear x f i o p;simp only [Tg.cells] at h m ⊢
    go_wp2_with fail
    refine h.mono ?_;rintro e w4 ⟨rfl,z,K⟩;clear h
    go_wp2
    go_ret2
    refine ⟨O R 0 0,by rw [c.out];rfl,?_,m.trans K⟩;rw [c.out];exact ag.iN z (show (2:Int)≠0 by decide)
 .have H0:(rc == 0)=false:=by simpa using X
  have g:=A.out X;have c:=ae g;obtain ⟨rfl,f⟩:=h3.zk X;have h:=mX _ j d r t J _ f;clear h3 f g A B C E X
  go_wp2_with fail
  refine h.mono ?_;rintro e w4 ⟨rfl,z,K⟩;clear h
  go_wp2
  go_ret2
  refine ⟨O R 0 0,by rw [c.out];rfl,?_,D2.trans K⟩;rw [c.out];exact ag.iN z (show (2:Int)≠0 by decide)
theorem tJ (w:V) (S:Hp) (j d:Nat) (J:Jr) (D:az) (id place:Int) (F:ai) (h:ag w (nY j d J*(aL S d D*(ak S*F)))) (g:J.Ok) (f:D.Ok) :
  Calls Y 171 #[ay j,Z .i64 id,Z .i64 place] w (Nj S j d (J.load D id place) F w):=by
 obtain ⟨r,t,i⟩:=h.CV;exact (wR w S j d r t J D id place F i g f).mono fun _ _ ⟨e,a,b,c⟩=>⟨e,a,ag.ah (b.ah.Dt),c⟩
theorem F5 (w:V) (S:Hp) (j d:Nat) (J:Jr) (D:az) (id:Int) (F:ai) (h:ag w (nY j d J*(aL S d D*(ak S*F)))) (A:J.Ok) (z:D.Ok) :
  Calls Y 314 #[ay j,Z .i64 id] w (Nj S j d (J.read D id) F w):=by
 obtain ⟨r,t,c⟩:=h.qE;have E:w.cell? ⟨j,2,R⟩=U (ay t):=c.cell 2;have G:w.cell? ⟨j,3,R⟩=U (Z .i64 J.n):=c.cell 3;have i:w.cell? ⟨j,10,R⟩=U (.bool J.br):=c.cell 10;have a:=JX w t J.T id _ c.aq;have b:=fun p=>tJ w S j d J D id p F h A z;unfold Jr.read;clear c
 by_cases u:id<0
 .rw [if_pos (.inl u)]
  clear a b
  go_enter func314,ntmps314
  go_wp2
  go_ret2
  exact ⟨_,rfl,ag.iN h (show (1:Int)≠0 by decide),aj.refl w⟩
 .by_cases v:J.n<=id
  .rw [if_pos (.inr v)]
   clear a b
   go_enter func314,ntmps314
   go_wp2
   go_ret2
   exact ⟨_,rfl,ag.iN h (show (1:Int)≠0 by decide),aj.refl w⟩
  .rw [if_neg (by rintro (q|q) <;> contradiction)]
   cases l:J.br with
   | true=>
    rw [l] at i;rw [if_pos rfl];clear a b
    go_enter func314,ntmps314
    go_wp2
    go_ret2
    exact ⟨_,rfl,ag.iN h (show (2:Int)≠0 by decide),aj.refl w⟩
   | false=>
    rw [l] at i;rw [if_neg (by simp)]
    cases f:told J.T.ps id with
    | none=>
     rw [f] at a;simp only
     have H:∀ w,(Instr.makeSlice 37 (Z .i64 480) (Z .i64 480)).run Y w =
      .ok (O (U ⟨w.heap.size,0,R⟩) 480 480) (w.alloc (W (dG (zs 480)) 5 (0,0))):=eL 480 (by omega)
     have y:=h.alloc (W (dG (zs 480)) 5 (0,0));clear b f
     go_enter func314,ntmps314
     go_wp2_with fail
     refine a.mono ?_;rintro e B ⟨rfl,rfl⟩;unfold pj;clear a
     go_wp2
     go_ret2
     exact ⟨_,rfl,ag.rC (pX (aV 480) y),(aj.refl w).alloc _⟩
    | some p=>
     rw [f] at a;simp only;have g:=b p;clear b f h;generalize J.load D id p=C at g ⊢
     go_enter func314,ntmps314
     go_wp2_with fail
     refine a.mono ?_;rintro e B ⟨rfl,rfl⟩;unfold pj;clear a
     go_wp2_with fail
     refine g.mono ?_;rintro e I ⟨o,rfl,x,m⟩;clear g
     go_wp2
     go_ret2
     exact ⟨o,rfl,x,m⟩
end Go.Proofs.Nn
namespace Go.SL
open Go.RowKit
structure Js where
 ep:Int
 st:Int
 sq:Int
 hd:Int
 us:Int
 at_:List Int
def Js.v (s:Js) (a:N):N:=.agg #[Z .u32 s.ep,Z .u64 s.st,Z .u64 s.sq,Z .i64 s.hd,Z .i64 s.us,a]
def qJ (P hd v:Int):Int:=if hd-v<=0 then hd-v+P else hd-v
def Js.y9 (P:Int) (s:Js) (k:Nat):Prop:=
 s.at_.getD k 0=-1\/(0<=s.at_.getD k 0/\s.at_.getD k 0<P/\s.at_.getD k 0 ∉ s.at_.take k/\qJ P s.hd (s.at_.getD k 0)<=s.us)
instance (P:Int) (s:Js) (k:Nat):Decidable (s.y9 P k):=by unfold Js.y9;infer_instance
structure Js.uN (P:Int) (s:Js):Prop where
 ep:1<=s.ep
 sq:s.sq<=281474976710655
 PQ:1<=s.st
 aQ:s.st<=s.sq+1
 Gh:0<=s.hd
 yo:s.hd<P
 BM:0<=s.us
 Po:s.us<=P
 n0:1<=s.at_.length
 n1:s.at_.length<=3840
 ok:∀ k,k<s.at_.length->s.y9 P k
def fo (l:List Int):Nat->KV
 | 0=>[]
 | k+1=>if l.getD k 0=-1 then fo l k else fo l k++[(l.getD k 0,Z .i64 (k:Int))]
theorem AV (l:List Int) (k:Nat) (d:k<=l.length) (v:Int) (c:v ≠ -1):v ∈ (fo l k).map Prod.fst↔v ∈ l.take k:=by
 induction k with
 | zero=>simp [fo]
 | succ k a=>
  have a:=a (by omega)
  have b:l.take (k+1)=l.take k++[l.getD k 0]:=by
   rw [List.take_add_one,A1,K1 (by omega)];rfl
  rw [b,fo]
  split
  .rename_i h;rw [a,h];simp [c]
  .rw [N1,List.mem_append,List.mem_append,a];simp
theorem yN {l:List Int} {k:Nat} (a:k<=l.length) {v:Int} (c:v ≠ -1):(aG (fo l k) v).isSome=decide (v ∈ l.take k):=by
 rw [Bool.eq_iff_iff,decide_eq_true_iff,<- AV l k a v c]
 cases h:aG (fo l k) v with
 | none=>simpa using fN.1 h
 | some x=>
  have b:v ∈ (fo l k).map Prod.fst:=Classical.byContradiction fun q=>by rw [fN.2 q] at h;cases h
  simp only [Option.isSome_some,b]
end Go.SL
namespace Go.Proofs.Nn
open Go.RowKit Go.SL
def OH (B:Bool) (w:V) (e:Ending) (a:V):Prop:=e = Q (.bool B)/\ag a (whole w)/\aj w a
def Ic (P:Int) (s:Js) (n a m:Nat) (o:Obj) (w:V) (u:N) (wr:V):Prop:=
 ∃ k:Nat,k<=n/\u = Z .i64 (k:Int)/\(∀ i,i<k->s.y9 P i)/\ag wr (mp m (fo s.at_ k)*(pt a o*whole w))/\aj w wr
theorem Ci (P:Int) (s:Js) (c0:N) (w:V) (hP:P<=9223372036854775807) (L0:-9223372036854775808<=P) (hq:0<=s.sq) (hl:s.at_.length<=9223372036854775807) (c:nM w c0 s.at_) (B:Bool) (hB:B=Z'↔s.uN P) :
  Calls Y 221 #[Z .i64 P,s.v c0] w (OH B w):=by
 have HB:=ae hB
 have no:Hid (¬ s.uN P->B=false):=fun h=>by
  cases hb:B
  .rfl
  .exact absurd (hB.1 hb) h
 clear hB;obtain ⟨n,m⟩:∃ n,n=s.at_.length:=⟨_,rfl⟩
 obtain ⟨u,z,u0⟩:∃ u z,c0 = O u n z:=by
  rcases c with ⟨_,_,rfl,h⟩|⟨g,o,s0,rfl,_⟩
  .rw [m,h];exact ⟨_,_,rfl⟩
  .rw [m];exact ⟨_,_,rfl⟩
 subst u0;rw [<- m] at hl;have j:=ae m;clear m;unfold Js.v;have a:=(ag.whole w).alloc (W #[Z .u32 s.ep,Z .u64 s.st,Z .u64 s.sq,Z .i64 s.hd,Z .i64 s.us,O u n z] 168 (0,0));have b:=(aj.refl w).alloc (W #[Z .u32 s.ep,Z .u64 s.st,Z .u64 s.sq,Z .i64 s.hd,Z .i64 s.us,O u n z] 168 (0,0))
 by_cases h1:s.ep<1
 .have e:=no.out fun h=>by have:=h.ep;omega
  subst e
  go_enter func221,ntmps221
  go_wp2
  go_ret
  exact ⟨rfl,a.right,b⟩
 by_cases h2:281474976710655<s.sq
 .have e:=no.out fun h=>by have:=h.sq;omega
  subst e
  go_enter func221,ntmps221
  go_wp2
  go_ret
  exact ⟨rfl,a.right,b⟩
 by_cases h3:s.st<1
 .have e:=no.out fun h=>by have:=h.PQ;omega
  subst e
  go_enter func221,ntmps221
  go_wp2
  go_ret
  exact ⟨rfl,a.right,b⟩
 have Z0:IntKind.u64.wrap (s.sq+1)=s.sq+1:=by rw [IntKind.wrap_u64];omega
 by_cases h4:s.sq+1<s.st
 .have e:=no.out fun h=>by have:=h.aQ;omega
  subst e
  go_enter func221,ntmps221
  go_wp2
  go_ret
  exact ⟨rfl,a.right,b⟩
 by_cases h5:s.hd<0
 .have e:=no.out fun h=>by have:=h.Gh;omega
  subst e
  go_enter func221,ntmps221
  go_wp2
  go_ret
  exact ⟨rfl,a.right,b⟩
 by_cases E:P<=s.hd
 .have e:=no.out fun h=>by have:=h.yo;omega
  subst e
  go_enter func221,ntmps221
  go_wp2
  go_ret
  exact ⟨rfl,a.right,b⟩
 by_cases h7:s.us<0
 .have e:=no.out fun h=>by have:=h.BM;omega
  subst e
  go_enter func221,ntmps221
  go_wp2
  go_ret
  exact ⟨rfl,a.right,b⟩
 by_cases h8:P<s.us
 .have e:=no.out fun h=>by have:=h.Po;omega
  subst e
  go_enter func221,ntmps221
  go_wp2
  go_ret
  exact ⟨rfl,a.right,b⟩
 by_cases h9:n<1
 .have e:=no.out fun h=>by have:=h.n0;have:=j.out;omega
  subst e;obtain rfl:n=0:=by omega
  go_enter func221,ntmps221
  go_wp2
  go_ret
  exact ⟨rfl,a.right,b⟩
 have K0:¬ (n:Int)<1:=by omega
 by_cases H0:3840<(n:Int)
 .have e:=no.out fun h=>by have:=h.n1;have:=j.out;omega
  subst e
  go_enter func221,ntmps221
  go_wp2
  go_ret
  exact ⟨rfl,a.right,b⟩
 have G0:=@iq Y _ _ _ underlying177;have F:=((a.alloc (.map #[] 0)).sQ isMap_empty)
 have i0:=b.alloc (.map #[] 0);rw [World.size_alloc] at F;have N0:1<=P:=by omega
 go_enter func221,ntmps221
 go_wp2
 generalize ((w.alloc (W #[Z .u32 s.ep,Z .u64 s.st,Z .u64 s.sq,Z .i64 s.hd,Z .i64 s.us,O u n z] 168 (0,0))).alloc (.map #[] 0))=w2 at F i0 ⊢;generalize R0:w.heap.size=l at F ⊢;clear a b G0
 go_loopw [58] (fun k0 wr=>Ic P s n l (l+1) (W #[Z .u32 s.ep,Z .u64 s.st,Z .u64 s.sq,Z .i64 s.hd,Z .i64 s.us,O u n z] 168 (0,0)) w k0 wr) (fun k0 _=>n-(intOf k0).toNat)
 case atStart=>exact ⟨0,O1 _,rfl,fun i hi=>absurd hi (Nat.not_lt_zero i),F,i0⟩
 case round=>
  clear F i0;obtain ⟨k,hk,rfl,L,p,C⟩:=hrel
  by_cases F0:k<n
  .have S0:(k:Int)<(n:Int):=by omega
   obtain ⟨g,o,rfl,x0⟩:∃ g o,u=U ⟨g,o,R⟩/\wr.cell? ⟨g,o+k,R⟩=U (Z .i64 (s.at_.getD k 0)):=by
    have m:=j.out;rcases c with ⟨_,_,h,h0⟩|⟨g,o,s0,h,_,_,hc⟩
    .rw [h0] at m;simp at m;omega
    .injection h with e1 e2 e3
     exact ⟨g,o,e1,(p.to (by ac_rfl:_=(mp (l+1) (fo s.at_ k)*pt l _)*whole w)).bT (hc k (by omega))⟩
   have d0:=p.ah;have b3:wr.cell? ⟨l,3,R⟩=U (Z .i64 s.hd):=d0.cell 3;have b4:wr.cell? ⟨l,4,R⟩=U (Z .i64 s.us):=d0.cell 4;have f0:=fun v f=>yN (l:=s.at_) (k:=k) (by have:=j.out;omega) (v:=v) f;have x:fo s.at_ (k+1)=if s.at_.getD k 0=-1 then fo s.at_ k else fo s.at_ k++[(s.at_.getD k 0,Z .i64 (k:Int))]:=rfl
   have G:s.y9 P k↔(s.at_.getD k 0=-1\/(0<=s.at_.getD k 0/\s.at_.getD k 0<P/\s.at_.getD k 0 ∉ s.at_.take k/\qJ P s.hd (s.at_.getD k 0)<=s.us)):=Iff.rfl;have e0:¬ s.y9 P k->¬ s.uN P:=fun q h=>q (h.ok k (by have:=j.out;omega))
   have I:s.y9 P k->∀ i,i<k+1->s.y9 P i:=fun q i hi=>by
    rcases Nat.lt_or_eq_of_le (Nat.lt_succ_iff.1 hi) with h|h
    .exact L i h
    .rw [h];exact q
   generalize s.at_.getD k 0=v at x0 x G;have A:=ag.lookup (P:=Y) underlying177 underlying3 (z:=Z .i64 0) (by kernel_rfl) p v Z';clear c L d0
   by_cases f:v=-1
   .have q0:=I (G.2 (.inl f))
    rw [if_pos f] at x;subst f;have r0:=ae q0;have S:=ae x;clear q0 x A f0 G e0 I
    go_wp2
    go_roundw
    case rel=>exact ⟨k+1,by omega,by go_num,r0.out,by rw [S.out];exact p,C⟩
    case measure=>simp [intOf];omega
   .have W0:(v == -1)=false:=by simpa using f
    rw [if_neg f] at x;have d:=f0 v f;have S:=ae x;have r:=ae G;have D:=ae e0;have l0:=ae I;clear x G e0 I f0;have K:=p.right.right
    by_cases U0:v<0
    .have e:=no.out (D.out fun q=>by rcases r.out.1 q with q|q <;> omega)
     subst e;clear A d
     go_wp2
     go_ret
     exact ⟨rfl,K,C⟩
    .by_cases V0:P<=v
     .have e:=no.out (D.out fun q=>by rcases r.out.1 q with q|q <;> omega)
      subst e;clear A d
      go_wp2
      go_ret
      exact ⟨rfl,K,C⟩
     .by_cases y:v ∈ s.at_.take k
      .have e:=no.out (D.out fun q=>by
        rcases r.out.1 q with q|q
        .exact f q
        .exact q.2.2.1 y)
       subst e;rw [d,decide_eq_true y,if_pos rfl] at A;generalize (aG (fo s.at_ k) v).getD (Z .i64 0)=vv at A;clear d y
       go_wp2
       go_ret
       exact ⟨rfl,K,C⟩
      .have g0:aG (fo s.at_ k) v=R:=by
        rw [decide_eq_false y] at d
        cases h:aG (fo s.at_ k) v with
        | none=>rfl
        | some a1=>rw [h] at d;cases d
       rw [d,decide_eq_false y,if_pos rfl,g0,Option.getD_none] at A;obtain ⟨w6,T0,E,d6,ce⟩:=ag.mapUpdate (P:=Y) underlying177 underlying3 p v (Z .i64 (k:Int));have e6:SL.fm (fo s.at_ k) v (Z .i64 (k:Int))=fo s.at_ k++[(v,Z .i64 (k:Int))]:=by unfold SL.fm;rw [g0];rfl
       rw [e6,<- S.out] at E;have c3:w6.cell? ⟨l,3,R⟩=U (Z .i64 s.hd):=(ce.1 _).trans b3;have c4:w6.cell? ⟨l,4,R⟩=U (Z .i64 s.us):=(ce.1 _).trans b4;have X0:IntKind.i64.wrap (s.hd-v)=s.hd-v:=by rw [IntKind.wrap_i64];omega
       have H:=C.trans d6;have h7:=E.right.right;have H6:=ae E;have m0:=ae y;clear d g0 ce e6 E y K
       by_cases o0:s.hd-v<=0
       .have Y0:IntKind.i64.wrap (s.hd-v+P)=s.hd-v+P:=by rw [IntKind.wrap_i64];omega
        have c:qJ P s.hd v=s.hd-v+P:=by unfold qJ;rw [if_pos o0]
        by_cases D0:s.us<s.hd-v+P
        .have e:=no.out (D.out fun q=>by rcases r.out.1 q with q|q <;> omega)
         subst e;clear c
         go_wp2
         go_ret
         exact ⟨rfl,h7,H⟩
        .have X:=ae (l0.out (r.out.2 (.inr ⟨by omega,by omega,m0.out,by omega⟩)))
         clear c
         go_wp2
         go_roundw
         case rel=>exact ⟨k+1,by omega,by go_num,X.out,H6.out,H⟩
         case measure=>simp [intOf];omega
       .have c:qJ P s.hd v=s.hd-v:=by unfold qJ;rw [if_neg o0]
        by_cases D0:s.us<s.hd-v
        .have e:=no.out (D.out fun q=>by rcases r.out.1 q with q|q <;> omega)
         subst e;clear c
         go_wp2
         go_ret
         exact ⟨rfl,h7,H⟩
        .have X:=ae (l0.out (r.out.2 (.inr ⟨by omega,by omega,m0.out,by omega⟩)))
         clear c
         go_wp2
         go_roundw
         case rel=>exact ⟨k+1,by omega,by go_num,X.out,H6.out,H⟩
         case measure=>simp [intOf];omega
  .obtain rfl:k=n:=by omega
   have e:=HB.out.2 ⟨by omega,by omega,by omega,by omega,by omega,by omega,by omega,by omega,by have:=j.out;omega,by have:=j.out;omega,by rw [<- j.out];exact L⟩;subst e;have h3:=p.right.right;clear L p c F0
   go_wp2
   go_ret
   exact ⟨rfl,h3,C⟩
end Go.Proofs.Nn
namespace Go.SL
open Go.RowKit
theorem nM.under {w a:V} {X:ai} {v:N} {l:List Int} (h:nM w v l) (j:ag a (X*whole w)):nM a v l:=by
 rcases h with h|⟨g,o,c,b,d,e,f⟩
 .exact .inl h
 .exact .inr ⟨g,o,c,b,d,e,fun k i=>j.bT (f k i)⟩
theorem Tb.MS {T:Tb} (h:T.Ok) (id:Int):(T.drop id).2.Ok:=by
 unfold Tb.drop
 split
 .refine ⟨by simpa using h.n,by simpa using h.m,fun v a=>?_⟩
  simp only [List.length_set];rcases R1 a with a|a
  .exact h.ps v a
  .exact .inl a
 .exact h
theorem Tb.Iw {T:Tb} (h:T.Ok) (id p:Int):(T.put id p).2.Ok:=by
 have hd:=Tb.MS h id;have c:(T.drop id).2.os.length=T.os.length:=by unfold Tb.drop;split <;> simp
 unfold Tb.put
 split
 .rename_i b
  refine ⟨by simpa using hd.n,by simpa using hd.m,fun v a=>?_⟩;simp only [List.length_set];rcases R1 a with a|a
  .exact hd.ps v a
  .right;rw [c,a];exact ⟨b.2.2.1,b.2.2.2.1⟩
 .exact h
theorem Tb.nh (T:Tb) (id p:Int):(T.put id p).2.ps.length=T.ps.length/\(T.put id p).2.os.length=T.os.length:=by
 have a:(T.drop id).2.ps.length=T.ps.length:=by unfold Tb.drop;split <;> simp
 have b:(T.drop id).2.os.length=T.os.length:=by unfold Tb.drop;split <;> simp
 unfold Tb.put
 split
 .simp [a,b]
 .exact ⟨rfl,rfl⟩
def rp (P:Nat) (l:List Int):Nat->Tb
 | 0=>Tb.fresh l.length P
 | k+1=>if 0<=l.getD k 0 then ((rp P l k).put (k:Int) (l.getD k 0)).2 else rp P l k
theorem C3 (P:Nat) (l:List Int) (k:Nat):(rp P l k).ps.length=l.length/\(rp P l k).os.length=P:=by
 induction k with
 | zero=>simp [rp,Tb.fresh]
 | succ k a=>
  rw [rp]
  split
  .rw [(Tb.nh _ _ _).1,(Tb.nh _ _ _).2];exact a
  .exact a
theorem GN (P:Nat) (l:List Int) (b:P<=1048576) (c:l.length<=1048576) (k:Nat):(rp P l k).Ok:=by
 induction k with
 | zero=>exact ⟨by simpa [rp,Tb.fresh] using c,by simpa [rp,Tb.fresh] using b,fun v d=>.inl (List.eq_of_mem_replicate d)⟩
 | succ k a=>
  rw [rp]
  split
  .exact Tb.Iw a _ _
  .exact a
def lL (P k:Nat):List Int:=(L1 k).map (fun i:Nat=>(i:Int)+1)++List.replicate (P-k) 0
theorem qj {P k:Nat} (h:k<=P):(lL P k).length=P:=by simp [lL];omega
theorem Bc {P k:Nat} (h:k<P):(lL P k).set ((k:Int)%((lL P k).length:Int)).toNat ((k:Int)+1)=lL P (k+1):=by
 rw [qj (by omega),Int.emod_eq_of_lt (by omega) (by omega),Int.toNat_natCast];unfold lL;have e:P-k=(P-(k+1))+1:=by omega
 rw [e,List.replicate_succ,List.set_append_right _ _ (by simp),M1];simp
theorem FM (P:Nat):lL P P=bZ P:=by simp [lL,bZ]
def Jr.Jg (P:Nat) (s:Js):Jr:=⟨P,rp P s.at_ s.at_.length,s.at_.length,s.ep,s.st,s.sq,s.hd,s.us,0,false⟩
theorem Jr.Of {P:Nat} {s:Js} (h:s.uN P) (b:1<=P) (c:P<=20000):(Jr.Jg P s).Ok:=by
 have a:=C3 P s.at_ s.at_.length;have:=h.n1;exact ⟨b,c,GN _ _ (by omega) (by omega) _,by rw [Jr.Jg];simp only;rw [a.1],a.2,h.BM,h.Po,h.Gh,h.yo,Int.le_refl _,by show (0:Int)<=48;decide⟩
end Go.SL
namespace Go.Proofs.Nn
open Go.RowKit Go.SL
def QO (d:Nat) (J:Jr) (w:V) (e:Ending) (a:V):Prop:=∃ j,e = Q (.tuple #[ay j,Z .i64 0])/\ag a (nY j d J*whole w)/\aj w a
def wW (P:Nat) (s:Js) (n d r t:Nat):Array N:=#[ay d,ay r,ay t,Z .i64 (n:Int),Z .u32 s.ep,Z .u64 s.st,Z .u64 s.sq,Z .i64 s.hd,Z .i64 s.us,Z .i64 0,.bool false]
def Ll (P:Nat) (s:Js) (n d j r t a:Nat) (o:Obj) (w:V) (u:N) (wr:V):Prop:=
 ∃ k:Nat,k<=P/\u = Z .i64 (k:Int)/\ag wr (pt j (W (wW P s n d r t) 183 (0,0))*(bL r (lL P k)*(bB t (rp P s.at_ 0)*(pt a o*whole w))))/\aj w wr
def Lk (P:Nat) (s:Js) (n d j r t a:Nat) (o:Obj) (w:V) (u:N) (wr:V):Prop:=
 ∃ k:Nat,k<=n/\u = Z .i64 (k:Int)/\ag wr (pt j (W (wW P s n d r t) 183 (0,0))*(bL r (bZ P)*(bB t (rp P s.at_ k)*(pt a o*whole w))))/\aj w wr
theorem GB (w:V) (u0:Hp) (d:Nat) (D:az) (G0:ai) (hd:ag w (aL u0 d D*G0)) (P:Nat) (s:Js) (m0:N) (ha:nM w m0 s.at_) (L0:1<=P) (hP:P<=20000) (d1:P+1<=D.sec.length) (X0:D.sec.length<=20000) (hq:0<=s.sq) (S:s.uN P) :
  Calls Y 167 #[ay d,Z .i64 (P:Int),s.v m0] w (QO d (Jr.Jg P s) w):=by
 have U0:=S.n1;have T0:=S.n0;have Hr:=ae S;obtain ⟨n,p⟩:∃ n,n=s.at_.length:=⟨_,rfl⟩
 have N0:∃ b f,m0 = O b n f:=by
  rcases ha with ⟨_,_,rfl,d0⟩|⟨g,o,K0,rfl,_⟩
  .rw [p,d0];exact ⟨_,_,rfl⟩
  .rw [p];exact ⟨_,_,rfl⟩
 obtain ⟨b,f,rfl⟩:=N0;rw [<- p] at U0 T0;have K:=ae p;have h:=(ag.whole w).alloc (W #[Z .u32 s.ep,Z .u64 s.st,Z .u64 s.sq,Z .i64 s.hd,Z .i64 s.us,O b n f] 168 (0,0));have o0:=(aj.refl w).alloc (W #[Z .u32 s.ep,Z .u64 s.st,Z .u64 s.sq,Z .i64 s.hd,Z .i64 s.us,O b n f] 168 (0,0));have q0:=lZ _ u0 d D _ (h.under hd).right;have a1:(1:Int)<=(P:Int):=by omega
 have Z0:(P:Int)<=20000:=by omega
 have e1:(P:Int)<=(D.sec.length:Int)-1:=by omega
 have Y0:(D.sec.length:Int)<=20000:=by omega
 have W0:IntKind.i64.wrap ((D.sec.length:Int)-1)=(D.sec.length:Int)-1:=by rw [IntKind.wrap_i64];omega
 have k0:=Ci (P:Int) s (O b n f) _ (by omega) (by omega) hq (by rw [<- p];omega) (ha.under h) Z' ⟨fun _=>S,fun _=>rfl⟩;have Ha:=ae ha;clear p S hd ha hq;unfold Js.v at k0 ⊢;obtain ⟨a,x0⟩:∃ a,a=w.heap.size:=⟨_,rfl⟩
 go_enter func167,ntmps167
 go_wp2_with fail
 rw [<- x0] at h ⊢;generalize w.alloc (W #[Z .u32 s.ep,Z .u64 s.st,Z .u64 s.sq,Z .i64 s.hd,Z .i64 s.us,O b n f] 168 (0,0))=G at h o0 q0 k0 ⊢;have c0:G.cell? ⟨a,0,R⟩=U (Z .u32 s.ep):=h.cell 0;have c1:G.cell? ⟨a,1,R⟩=U (Z .u64 s.st):=h.cell 1;have c2:G.cell? ⟨a,2,R⟩=U (Z .u64 s.sq):=h.cell 2;have c3:G.cell? ⟨a,3,R⟩=U (Z .i64 s.hd):=h.cell 3;have c4:G.cell? ⟨a,4,R⟩=U (Z .i64 s.us):=h.cell 4;have c5:G.cell? ⟨a,5,R⟩=U (O b n f):=h.cell 5;clear x0
 go_wp2_with fail
 refine q0.mono ?_;rintro e h1 ⟨rfl,rfl⟩;clear q0
 go_wp2_with fail
 refine k0.mono ?_;rintro e E ⟨rfl,h2,d2⟩;have q:=h2.dU h;have D2:=o0.trans d2;have b0:E.cell? ⟨a,0,R⟩=U (Z .u32 s.ep):=q.cell 0;have b1:E.cell? ⟨a,1,R⟩=U (Z .u64 s.st):=q.cell 1;have b2:E.cell? ⟨a,2,R⟩=U (Z .u64 s.sq):=q.cell 2;have b3:E.cell? ⟨a,3,R⟩=U (Z .i64 s.hd):=q.cell 3;have b4:E.cell? ⟨a,4,R⟩=U (Z .i64 s.us):=q.cell 4;have b5:E.cell? ⟨a,5,R⟩=U (O b n f):=q.cell 5;clear k0 h2 d2 h o0 c0 c1 c2 c3 c4 c5 W0;have D0:=zw P 0 E.drew L0 (by omega);have F0:=fun w=>B1 n P w (by omega) (by omega);have R2:=ae (ag.drew q);clear q
 go_wp2_with fail
 go_region_held3 (fun F=>F.cell? ⟨a,0,R⟩=U (Z .u32 s.ep)/\F.cell? ⟨a,1,R⟩=U (Z .u64 s.st)/\F.cell? ⟨a,2,R⟩=U (Z .u64 s.sq)/\F.cell? ⟨a,3,R⟩=U (Z .i64 s.hd)/\F.cell? ⟨a,4,R⟩=U (Z .i64 s.us)/\F.cell? ⟨a,5,R⟩=U (O b n f)) (first|(with_reducible exact ⟨f0,f1,f2,f3,f4,f5⟩)|(with_reducible exact ⟨bH _ _ _ _ f0,bH _ _ _ _ f1,bH _ _ _ _ f2,bH _ _ _ _ f3,bH _ _ _ _ f4,bH _ _ _ _ f5⟩)|(with_reducible exact ⟨e0,z,A,e3,e4,e5⟩)|exact ⟨b0,b1,b2,b3,b4,b5⟩) (first
  | (go_at_call 222;(with_reducible refine D0.mono ?_);rintro e H ⟨r,rfl,h3,d3⟩;have x:=h3.under R2.out;have e0:H.cell? ⟨a,0,R⟩=U (Z .u32 s.ep):=x.ah.cell 0;have z:H.cell? ⟨a,1,R⟩=U (Z .u64 s.st):=x.ah.cell 1;have A:H.cell? ⟨a,2,R⟩=U (Z .u64 s.sq):=x.ah.cell 2;have e3:H.cell? ⟨a,3,R⟩=U (Z .i64 s.hd):=x.ah.cell 3;have e4:H.cell? ⟨a,4,R⟩=U (Z .i64 s.us):=x.ah.cell 4;have e5:H.cell? ⟨a,5,R⟩=U (O b n f):=x.ah.cell 5)
  | (go_at_call 223;(with_reducible refine (F0 _).mono ?_);rintro e m ⟨t,rfl,h4,d4⟩;have y:=h4.under x;have f0:m.cell? ⟨a,0,R⟩=U (Z .u32 s.ep):=y.aq.cell 0;have f1:m.cell? ⟨a,1,R⟩=U (Z .u64 s.st):=y.aq.cell 1;have f2:m.cell? ⟨a,2,R⟩=U (Z .u64 s.sq):=y.aq.cell 2;have f3:m.cell? ⟨a,3,R⟩=U (Z .i64 s.hd):=y.aq.cell 3;have f4:m.cell? ⟨a,4,R⟩=U (Z .i64 s.us):=y.aq.cell 4;have f5:m.cell? ⟨a,5,R⟩=U (O b n f):=y.aq.cell 5))
 have H5:=y.alloc (W (wW P s n d r t) 183 (0,0));have X:=((D2.drew.trans d3).trans d4).alloc (W (wW P s n d r t) 183 (0,0));clear h3 h4 D0 F0 d3 d4 D2 R2 x y e0 z A e3 e4 e5 f0 f1 f2 f3 f4 f5 b0 b1 b2 b3 b4 b5
 have I:ag (m.alloc (W (wW P s n d r t) 183 (0,0))) (pt m.heap.size (W (wW P s n d r t) 183 (0,0))*(bL r (lL P 0)*(bB t (rp P s.at_ 0)*(pt a (W #[Z .u32 s.ep,Z .u64 s.st,Z .u64 s.sq,Z .i64 s.hd,Z .i64 s.us,O b n f] 168 (0,0))*whole w)))):=by
  have z:rp P s.at_ 0=Tb.fresh n P:=by rw [K.out];rfl
  have A:lL P 0=List.replicate P 0:=rfl;rw [z,A];exact H5.to (by ac_rfl)
 clear H5;unfold wW at X I;generalize V0:(m.alloc (W #[ay d,ay r,ay t,Z .i64 (n:Int),Z .u32 s.ep,Z .u64 s.st,Z .u64 s.sq,Z .i64 s.hd,Z .i64 s.us,Z .i64 0,.bool false] 183 (0,0)))=w5 at X I ⊢;generalize m.heap.size=j at I ⊢;clear V0
 go_wp2
 go_loopw [55] (fun u wr=>Ll P s n d j r t a (W #[Z .u32 s.ep,Z .u64 s.st,Z .u64 s.sq,Z .i64 s.hd,Z .i64 s.us,O b n f] 168 (0,0)) w u wr) (fun u _=>P-(intOf u).toNat)
 case atStart=>exact ⟨0,O1 _,rfl,I,X⟩
 case round=>
  clear I X;obtain ⟨k,hk,rfl,c,B⟩:=hrel
  by_cases g0:k<P
  .have S0:(k:Int)<(P:Int):=by omega
   have j1:wr.cell? ⟨j,1,R⟩=U (ay r):=c.cell 1;have r0:=ss wr r (lL P k) (k:Int) ((k:Int)+1) _ c.ah (by rw [qj hk];omega) (by rw [qj hk];omega);rw [Bc g0] at r0;have g1:IntKind.i64.wrap ((k:Int)+1)=(k:Int)+1:=by rw [IntKind.wrap_i64];omega
   clear c
   go_wp2_with fail
   refine r0.mono ?_;rintro e w6 ⟨rfl,L,d6⟩;have l:=ae L.ah;clear r0 L
   go_wp2
   go_roundw
   case rel=>exact ⟨k+1,by omega,by go_num,l.out,B.trans d6⟩
   case measure=>simp [intOf];omega
  .obtain rfl:k=P:=by omega
   rw [FM] at c;have h5:wr.cell? ⟨a,5,R⟩=U (O b n f):=c.aD.cell 5;have l:=ae c;clear c g0
   go_wp2
   go_loopw [70] (fun u wr=>Lk k s n d j r t a (W #[Z .u32 s.ep,Z .u64 s.st,Z .u64 s.sq,Z .i64 s.hd,Z .i64 s.us,O b n f] 168 (0,0)) w u wr) (fun u _=>n-(intOf u).toNat)
   case atStart=>exact ⟨0,O1 _,rfl,l.out,B⟩
   case round=>
    clear l B h5;obtain ⟨i,hi,rfl,c,B⟩:=hrel;have j2:wr.cell? ⟨j,2,R⟩=U (ay t):=c.cell 2;have s0:=C3 k s.at_ i;have l0:=GN k s.at_ (by omega) (by have:=K.out;omega) i
    by_cases g0:i<n
    .have S0:(i:Int)<(n:Int):=by omega
     obtain ⟨g,o,rfl,R0⟩:∃ g o,b=U ⟨g,o,R⟩/\wr.cell? ⟨g,o+i,R⟩=U (Z .i64 (s.at_.getD i 0)):=by
      have p:=K.out;rcases Ha.out with ⟨_,_,d0,h0⟩|⟨g,o,K0,d0,_,_,hc⟩
      .rw [h0] at p;simp at p;omega
      .injection d0 with z A e3
       exact ⟨g,o,z,(c.to (by ac_rfl:_=(pt j _*(bL r (bZ k)*(bB t (rp k s.at_ i)*pt a _)))*whole w)).bT (hc i (by omega))⟩
     have C:rp k s.at_ (i+1)=if 0<=s.at_.getD i 0 then ((rp k s.at_ i).put (i:Int) (s.at_.getD i 0)).2 else rp k s.at_ i:=rfl
     generalize s.at_.getD i 0=v at R0 C
     by_cases hv:0<=v
     .rw [if_pos hv] at C
      have i0:=eO wr t (rp k s.at_ i) (i:Int) v _ c.aq l0;rw [<- C] at i0;generalize ((rp k s.at_ i).put (i:Int) v).1=pb at i0;clear c C s0 l0
      go_wp2_with fail
      refine i0.mono ?_;rintro e w6 ⟨rfl,L,d6⟩;have l:=ae L.aq;clear i0 L
      go_wp2
      go_roundw
      case rel=>exact ⟨i+1,by omega,by go_num,l.out.to (by ac_rfl),B.trans d6⟩
      case measure=>simp [intOf];omega
     .rw [if_neg hv] at C
      have l:=ae c;have H0:=ae C;clear c C s0 l0
      go_wp2
      go_roundw
      case rel=>exact ⟨i+1,by omega,by go_num,by rw [H0.out];exact l.out,B⟩
      case measure=>simp [intOf];omega
    .obtain rfl:i=n:=by omega
     have l:=ae c;clear c g0 s0 l0
     go_wp2
     go_ret2
     refine ⟨j,rfl,ag.wV (r:=r) (t:=t) ?_,B⟩;have z:(Jr.Jg k s).cells d r t=wW k s i d r t:=by unfold Jr.Jg Jr.cells wW;rw [K.out]
     have A:(Jr.Jg k s).T=rp k s.at_ i:=by rw [K.out];rfl
     rw [z,A];exact (ag.jL l.out).to (by unfold Jr.Jg;ac_rfl)
end Go.Proofs.Nn
