/- Steps. -/
import Derived.Test.YtiomanbgcfjblaaGreatDoorLP9
import Derived.Laws.EntriesVeiled
import Derived.Laws.Tables
import Derived.Laws.Rows
set_option linter.all false
set_option maxRecDepth 99999
set_option maxHeartbeats 0
open Go.SL
open Go.Value renaming int->Z,slice->N,pointer->H,tuple->Z'
open Go.IntKind renaming i64->V,u64->O
open Go.Obj renaming cells->Y
open Go.Ending renaming returned->M
open Go renaming World->Q,Value->K
open Go.Proofs.Tryz renaming prog->W
open Option renaming some->R,none->U
open Bool renaming true->G,false->L
open Go.SL renaming Om0->I
open Go.Proofs.Tryz
open List renaming getD->B3,length_drop->D9,range->D7,length_append->E5,getElem?_eq_getElem->E4,range_succ->E3,map_append->G3,mem_or_eq_of_mem_set->H3
open Nat renaming zero_le->H7
namespace Go.SL
open RowKit
structure Tg where
 ep:Int
 st:Int
 sq:Int
 fl:Int
 ix:Int
 ct:Int
 id:Int
def Tg.cells (t:Tg):Array K:=#[Z .u32 t.ep,Z O t.st,Z O t.sq,Z O t.fl,Z V t.ix,Z V t.ct,Z V t.id]
structure Tg.Fit (t:Tg):Prop where
 Mj:0<=t.ep
 Vz:t.ep<4294967296
 Tp:0<=t.st
 bS:t.st<18446744073709551616
 Qg:0<=t.sq
 Vu:t.sq<18446744073709551616
 YO:0<=t.fl
 YK:t.fl<18446744073709551616
def Th:Int:=1465012808
def Tg.ok (t:Tg):Bool:=decide (1<=t.ep) && decide (1<=t.st) && decide (t.st<=t.sq) && decide (t.sq<=281474976710655) && decide (t.fl<t.sq) &&
 decide (1<=t.ct) && decide (t.ct<=72) && decide (0<=t.ix) && decide (t.ix<t.ct) && decide (0<=t.id) && decide (t.id<3840)
def JA (n:Int):Int:=n%18446744073709551616
def Tg.field (t:Tg):Nat->Int
 | 0=>Th
 | 1=>t.ep
 | 2=>t.sq
 | 3=>t.fl
 | 4=>t.st
 | 5=>JA t.ix
 | 6=>JA t.ct
 | 7=>JA t.id
 | _=>0
def er:Nat->Nat
 | 0=>4
 | 1=>4
 | 2=>6
 | 3=>6
 | 4=>6
 | 5=>1
 | 6=>1
 | 7=>2
 | _=>2
structure Fb where
 b0:Nat
 b2:Nat
 b3:Nat
 b4:Nat
 b5:Nat
 b6:Nat
 b7:Nat
 b8:Nat
abbrev fC (f:Nat) (a:Array K):K:=.func (.func f) #[] a
def kT (b:Fb):Nat->Nat × Array K
 | 0=>(339,#[ax b.b0])
 | 1=>(319,#[])
 | 2=>(341,#[ax b.b2])
 | 3=>(341,#[ax b.b3])
 | 4=>(341,#[ax b.b4])
 | 5=>(343,#[ax b.b5])
 | 6=>(343,#[ax b.b6])
 | 7=>(343,#[ax b.b7])
 | _=>(339,#[ax b.b8])
def kN (b:Fb):Nat->Nat × Array K
 | 0=>(340,#[])
 | 1=>(320,#[])
 | 2=>(342,#[ax b.b2])
 | 3=>(342,#[ax b.b3])
 | 4=>(342,#[ax b.b4])
 | 5=>(344,#[ax b.b5])
 | 6=>(344,#[ax b.b6])
 | 7=>(344,#[ax b.b7])
 | _=>(340,#[])
def DT (b:Fb) (k:Nat):Array K:=#[Z V (er k),fC (kT b k).1 (kT b k).2,fC (kN b k).1 (kN b k).2]
def oG (b:Fb):Array K:=#[Z V 4,fC (kT b 0).1 (kT b 0).2,fC (kN b 0).1 (kN b 0).2,Z V 4,fC (kT b 1).1 (kT b 1).2,fC (kN b 1).1 (kN b 1).2,
 Z V 6,fC (kT b 2).1 (kT b 2).2,fC (kN b 2).1 (kN b 2).2,Z V 6,fC (kT b 3).1 (kT b 3).2,fC (kN b 3).1 (kN b 3).2,Z V 6,fC (kT b 4).1 (kT b 4).2,fC (kN b 4).1 (kN b 4).2,
 Z V 1,fC (kT b 5).1 (kT b 5).2,fC (kN b 5).1 (kN b 5).2,Z V 1,fC (kT b 6).1 (kT b 6).2,fC (kN b 6).1 (kN b 6).2,Z V 2,fC (kT b 7).1 (kT b 7).2,fC (kN b 7).1 (kN b 7).2,
 Z V 2,fC (kT b 8).1 (kT b 8).2,fC (kN b 8).1 (kN b 8).2]
def qF (b:Fb):K:=.agg (oG b)
def cW (b:Fb):ai:=
 pt b.b0 (Y #[Z O 1465012808] 171 (0,0))*(pt b.b2 (Y #[fC 322 #[]] 380 (0,0))*(pt b.b3 (Y #[fC 323 #[]] 380 (0,0))*(pt b.b4 (Y #[fC 324 #[]] 380 (0,0)) *
  (pt b.b5 (Y #[fC 326 #[]] 383 (0,0))*(pt b.b6 (Y #[fC 327 #[]] 383 (0,0))*(pt b.b7 (Y #[fC 328 #[]] 383 (0,0))*pt b.b8 (Y #[Z O 0] 171 (0,0))))))))
end Go.SL
namespace Go.Proofs.Nn
open RowKit SL
def TI (c n:Int) (w:Q) (e:Ending) (a:Q):Prop:=
 ∃ b,e = M (.agg #[Z V c,fC 339 #[ax b],fC 340 #[]])/\ah a (pt b (Y #[Z O n] 171 (0,0))*whole w)/\ak w a
def yR (a n:Int) (w:Q):Calls W 318 #[Z V a,Z O n] w (TI a n w):=by
 have b:=(ah.whole w).alloc (Y #[Z O n] 171 (0,0));have c:=(ak.refl w).alloc (Y #[Z O n] 171 (0,0))
 go_in
 go_wp2
 exact bodyPost_ret (v:=.agg #[Z V a,fC 339 #[ax w.heap.size],fC 340 #[]]) (by simp [results,Tryz.results318,go_sem]) rfl ⟨_,rfl,SL.ah.right (SL.ah.alloc b _),c.alloc _⟩
def V6 (f:Nat) (w:Q) (e:Ending) (a:Q):Prop:=
 ∃ b,e = M (.agg #[Z V 6,fC 341 #[ax b],fC 342 #[ax b]])/\ah a (pt b (Y #[fC f #[]] 380 (0,0))*whole w)/\ak w a
def vY (f:Nat) (w:Q):Calls W 321 #[fC f #[]] w (V6 f w):=by
 have a:=(ah.whole w).alloc (Y #[fC f #[]] 380 (0,0));have b:=(ak.refl w).alloc (Y #[fC f #[]] 380 (0,0))
 go_in
 go_wp2
 exact bodyPost_ret (v:=.agg #[Z V 6,fC 341 #[ax w.heap.size],fC 342 #[ax w.heap.size]]) (by simp [results,Tryz.results321,go_sem]) rfl ⟨_,rfl,SL.ah.right (SL.ah.alloc a _),b.alloc _⟩
def TQ (c:Int) (f:Nat) (w:Q) (e:Ending) (a:Q):Prop:=
 ∃ b,e = M (.agg #[Z V c,fC 343 #[ax b],fC 344 #[ax b]])/\ah a (pt b (Y #[fC f #[]] 383 (0,0))*whole w)/\ak w a
def ta (a:Int) (f:Nat) (w:Q):Calls W 325 #[Z V a,fC f #[]] w (TQ a f w):=by
 have b:=(ah.whole w).alloc (Y #[fC f #[]] 383 (0,0));have c:=(ak.refl w).alloc (Y #[fC f #[]] 383 (0,0))
 go_in
 go_wp2
 exact bodyPost_ret (v:=.agg #[Z V a,fC 343 #[ax w.heap.size],fC 344 #[ax w.heap.size]]) (by simp [results,Tryz.results325,go_sem]) rfl ⟨_,rfl,SL.ah.right (SL.ah.alloc b _),c.alloc _⟩
def QP (w:Q) (e:Ending) (a:Q):Prop:=∃ b,e = M (qF b)/\ah a (cW b*whole w)/\ak w a
def AD:(prog.info? 359).map (·.size)=R 27:=Kr0
def tA (b:Fb):(prog.info? 359).map (·.size)=R (oG b).size:=AD
def CQ (b:Fb):(oG b).all (·.oneCell')=G:=by
 simp [oG,Value.oneCell',fC]
def sx:Array K:=#[Z V 0,.nilFunc,.nilFunc,Z V 0,.nilFunc,.nilFunc,Z V 0,.nilFunc,.nilFunc,Z V 0,.nilFunc,.nilFunc,Z V 0,.nilFunc,.nilFunc,Z V 0,.nilFunc,.nilFunc,Z V 0,.nilFunc,.nilFunc,Z V 0,.nilFunc,.nilFunc,Z V 0,.nilFunc,.nilFunc]
def xd (w:Q):Calls W 296 #[] w (QP w):=by
 have a:=(ah.whole w).alloc (Y sx 359 (0,0));have b:=(ak.refl w).alloc (Y sx 359 (0,0))
 go_in
 go_wp2_with fail
 change Calls _ _ _ (w.alloc (Y sx 359 (0,0))) _;generalize w.alloc (Y sx 359 (0,0))=w0 at a b ⊢;generalize w.heap.size=z at a ⊢;apply (yR 4 1465012808 _).mono;rintro e w1 ⟨b0,rfl,h1,A⟩;have o:=h1.under a;have f:=b.trans A;clear h1 A a b
 go_wp2_with fail
 apply (vY 322 _).mono;rintro e w2 ⟨b2,rfl,h2,B⟩;have p:=h2.under o;have g:=f.trans B;clear h2 B o f
 go_wp2_with fail
 apply (vY 323 _).mono;rintro e w3 ⟨b3,rfl,h3,C⟩;have q:=h3.under p;have h:=g.trans C;clear h3 C p g
 go_wp2_with fail
 apply (vY 324 _).mono;rintro e w4 ⟨b4,rfl,h4,D⟩;have r:=h4.under q;have i:=h.trans D;clear h4 D q h
 go_wp2_with fail
 apply (ta 1 326 _).mono;rintro e w5 ⟨b5,rfl,h5,E⟩;have u:=h5.under r;have j:=i.trans E;clear h5 E r i
 go_wp2_with fail
 apply (ta 1 327 _).mono;rintro e w6 ⟨b6,rfl,h6,F⟩;have v:=h6.under u;have l:=j.trans F;clear h6 F u j
 go_wp2_with fail
 apply (ta 2 328 _).mono;rintro e w7 ⟨b7,rfl,h7,S⟩;have x:=h7.under v;have m:=l.trans S;clear h7 S v l
 go_wp2_with fail
 apply (yR 2 0 _).mono;rintro e w8 ⟨b8,rfl,h8,X⟩;have y:=h8.under x;have D8:=m.trans X;clear h8 X x m;obtain ⟨d,c0⟩:∃ d:Fb,d=⟨b0,b2,b3,b4,b5,b6,b7,b8⟩:=⟨_,rfl⟩
 have hz:w8.heap[z]?=R (Y sx 359 (0,0)):=y.lO.heap;have c:=y.lO.setRow (cs':=oG d);have d0:=ae c0;clear c0
 go_wp2_with (refine wpList_store_row rfl 359 (.tmp 0) (.tmp 10) rfl z (oG ⟨b0,b2,b3,b4,b5,b6,b7,b8⟩) rfl rfl 359 sx hz (tA _) rfl (CQ _) ?_)
 rw [d0.o] at c;refine bodyPost_ret (v:=qF ⟨b0,b2,b3,b4,b5,b6,b7,b8⟩) (results_cell_row rfl _ _ z 359 _ (0,0) _ rfl c.heap underlying359 rfl (tA _)) rfl ⟨⟨b0,b2,b3,b4,b5,b6,b7,b8⟩,rfl,?_,D8.setRow _ _⟩;exact c.right.to (by unfold cW;ac_rfl)
def Yg (b:Nat) (w:Q):Calls W 322 #[ax b] w fun e a=>e = M (H (R ⟨b,2,U⟩))/\w=a:=by
 go_in
 go_wp2
 go_ret
 exact ⟨rfl,rfl⟩
def X0 (b:Nat) (w:Q):Calls W 323 #[ax b] w fun e a=>e = M (H (R ⟨b,3,U⟩))/\w=a:=by
 go_in
 go_wp2
 go_ret
 exact ⟨rfl,rfl⟩
def Yp (b:Nat) (w:Q):Calls W 324 #[ax b] w fun e a=>e = M (H (R ⟨b,1,U⟩))/\w=a:=by
 go_in
 go_wp2
 go_ret
 exact ⟨rfl,rfl⟩
def Yb (b:Nat) (w:Q):Calls W 326 #[ax b] w fun e a=>e = M (H (R ⟨b,4,U⟩))/\w=a:=by
 go_in
 go_wp2
 go_ret
 exact ⟨rfl,rfl⟩
def Yc (b:Nat) (w:Q):Calls W 327 #[ax b] w fun e a=>e = M (H (R ⟨b,5,U⟩))/\w=a:=by
 go_in
 go_wp2
 go_ret
 exact ⟨rfl,rfl⟩
def at8 (b:Nat) (w:Q):Calls W 328 #[ax b] w fun e a=>e = M (H (R ⟨b,6,U⟩))/\w=a:=by
 go_in
 go_wp2
 go_ret
 exact ⟨rfl,rfl⟩
def Ty:∀ a w,(callFunc 339 a).run W w = .ok (.enter 339 a) w:=enters func339 Kr0 rfl
def SQ:∀ a w,(callFunc 340 a).run W w = .ok (.enter 340 a) w:=enters func340 Kr0 rfl
def Om:∀ a w,(callFunc 341 a).run W w = .ok (.enter 341 a) w:=enters func341 Kr0 rfl
def PR:∀ a w,(callFunc 342 a).run W w = .ok (.enter 342 a) w:=enters func342 Kr0 rfl
def Qc:∀ a w,(callFunc 343 a).run W w = .ok (.enter 343 a) w:=enters func343 Kr0 rfl
def PH:∀ a w,(callFunc 344 a).run W w = .ok (.enter 344 a) w:=enters func344 Kr0 rfl
def WL:∀ a w,(callFunc 319 a).run W w = .ok (.enter 319 a) w:=enters func319 Kr0 rfl
def WW:∀ a w,(callFunc 320 a).run W w = .ok (.enter 320 a) w:=enters func320 Kr0 rfl
def SN:∀ a w,(callFunc 322 a).run W w = .ok (.enter 322 a) w:=enters func322 Kr0 rfl
def SG:∀ a w,(callFunc 323 a).run W w = .ok (.enter 323 a) w:=enters func323 Kr0 rfl
def Ta:∀ a w,(callFunc 324 a).run W w = .ok (.enter 324 a) w:=enters func324 Kr0 rfl
def SP:∀ a w,(callFunc 326 a).run W w = .ok (.enter 326 a) w:=enters func326 Kr0 rfl
def Tk:∀ a w,(callFunc 327 a).run W w = .ok (.enter 327 a) w:=enters func327 Kr0 rfl
def Td:∀ a w,(callFunc 328 a).run W w = .ok (.enter 328 a) w:=enters func328 Kr0 rfl
def Wp (b:Nat) (n:Int) (t:Tg) (w:Q) (F:ai) (h:ah w (pt b (Y #[Z O n] 171 (0,0))*F)) :
  Calls W 339 #[.agg t.cells,ax b] w (kL (Z O n) w):=by
 have a:w.cell? ⟨b,0,U⟩=R (Z O n):=h.cell 0;have c:=h.lt;clear h;simp only [Tg.cells]
 go_in
 go_wp2
 go_ret
 exact ⟨rfl,SL.ah.right (SL.ah.alloc (ah.whole w) _),(ak.refl w).alloc _⟩
def XZ (t:Tg) (w:Q) (a:t.Fit):Calls W 319 #[.agg t.cells] w (kL (Z O t.ep) w):=by
 obtain ⟨b,c,_,_,_,_,_,_⟩:=a;simp only [Tg.cells]
 go_in
 go_wp2
 go_ret
 exact ⟨rfl,SL.ah.right (SL.ah.alloc (ah.whole w) _),(ak.refl w).alloc _⟩
def Vd (b f o:Nat) (n:Int) (t:Tg) (w:Q) (F:ai) (h:ah w (pt b (Y #[fC f #[]] 380 (0,0))*F)) (m:∀ c w,(callFunc f c).run W w = .ok (.enter f c) w)
  (g:∀ (b:Nat) (w:Q),Calls W f #[ax b] w fun e j=>e = M (H (R ⟨b,o,U⟩))/\w=j) (d:t.cells[o]?=R (Z O n)) :
  Calls W 341 #[.agg t.cells,ax b] w (kL (Z O n) w):=by
 have l:w.cell? ⟨b,0,U⟩=R (fC f #[]):=h.cell 0;have p:=h.lt;have a:=(ah.whole w).alloc (Y t.cells 250 (0,0));have i:=(a.cell o).trans d;clear h d;simp only [Tg.cells] at a i ⊢
 go_in
 go_wp2_with fail
 apply (g _ _).mono;rintro e q ⟨rfl,rfl⟩
 go_wp2
 go_ret
 exact ⟨rfl,SL.ah.right a,(ak.refl w).alloc _⟩
def US (b f o:Nat) (n:Int) (t:Tg) (w:Q) (F:ai) (h:ah w (pt b (Y #[fC f #[]] 383 (0,0))*F)) (m:∀ c w,(callFunc f c).run W w = .ok (.enter f c) w)
  (g:∀ (b:Nat) (w:Q),Calls W f #[ax b] w fun e j=>e = M (H (R ⟨b,o,U⟩))/\w=j) (d:t.cells[o]?=R (Z V n)) :
  Calls W 343 #[.agg t.cells,ax b] w (kL (Z O (JA n)) w):=by
 have l:w.cell? ⟨b,0,U⟩=R (fC f #[]):=h.cell 0;have p:=h.lt;have a:=(ah.whole w).alloc (Y t.cells 250 (0,0));have i:=(a.cell o).trans d;clear h d;simp only [Tg.cells] at a i ⊢
 go_in
 go_wp2_with fail
 apply (g _ _).mono;rintro e q ⟨rfl,rfl⟩
 go_wp2
 go_ret
 exact ⟨rfl,SL.ah.right a,(ak.refl w).alloc _⟩
def fO {w:Q} {b:Fb} {F:ai} (h:ah w (cW b*F)):ah w (pt b.b0 (Y #[Z O 1465012808] 171 (0,0))*(pt b.b2 (Y #[fC 322 #[]] 380 (0,0))*(pt b.b3 (Y #[fC 323 #[]] 380 (0,0))*(pt b.b4 (Y #[fC 324 #[]] 380 (0,0)) *
  (pt b.b5 (Y #[fC 326 #[]] 383 (0,0))*(pt b.b6 (Y #[fC 327 #[]] 383 (0,0))*(pt b.b7 (Y #[fC 328 #[]] 383 (0,0))*(pt b.b8 (Y #[Z O 0] 171 (0,0))*F)))))))):=h.to (by unfold cW;ac_rfl)
def Wi (b:Fb) (t:Tg) (k:Nat) (d:k<9) (e:t.Fit) :
  ∃ f c,kT b k=(f,c)/\(∀ a w,(callFunc f a).run W w = .ok (.enter f a) w) /\
   ∀ w F,ah w (cW b*F)->Calls W f (#[.agg t.cells]++c) w (kL (Z O (t.field k)) w):=by
 match k,d with
 | 0,_=>exact ⟨_,_,rfl,Ty,fun w F h=>Wp b.b0 _ t w _ (fO h)⟩
 | 1,_=>exact ⟨_,_,rfl,WL,fun w F h=>XZ t w e⟩
 | 2,_=>exact ⟨_,_,rfl,Om,fun w F h=>Vd b.b2 _ 2 _ t w _ (fO h).aj SN Yg rfl⟩
 | 3,_=>exact ⟨_,_,rfl,Om,fun w F h=>Vd b.b3 _ 3 _ t w _ (fO h).au SG X0 rfl⟩
 | 4,_=>exact ⟨_,_,rfl,Om,fun w F h=>Vd b.b4 _ 1 _ t w _ (fO h).aC Ta Yp rfl⟩
 | 5,_=>exact ⟨_,_,rfl,Qc,fun w F h=>US b.b5 _ 4 _ t w _ (fO h).aI SP Yb rfl⟩
 | 6,_=>exact ⟨_,_,rfl,Qc,fun w F h=>US b.b6 _ 5 _ t w _ (fO h).et Tk Yc rfl⟩
 | 7,_=>exact ⟨_,_,rfl,Qc,fun w F h=>US b.b7 _ 6 _ t w _ (fO h).eN Td at8 rfl⟩
 | 8,_=>exact ⟨_,_,rfl,Ty,fun w F h=>Wp b.b8 _ t w _ (fO h).mE⟩
def ke (t:Tg) (w:Q):Calls W 295 #[.agg t.cells] w (kL (.bool t.ok) w):=by
 simp only [Tg.cells]
 by_cases a:1<=t.ep
 .skip
  by_cases b:1<=t.st
  .skip
   by_cases d:t.st<=t.sq
   .skip
    by_cases e:t.sq<=281474976710655
    .skip
     by_cases h4:t.fl<t.sq
     .skip
      by_cases h5:1<=t.ct
      .skip
       by_cases f:t.ct<=72
       .skip
        by_cases g:0<=t.ix
        .skip
         by_cases h:t.ix<t.ct
         .skip
          by_cases i:0<=t.id
          .skip
           by_cases c:t.id<3840
           .skip
            rw [show t.ok=G by simp [Tg.ok,a,b,d,e,h4,h5,f,g,h,i,c]]
            go_in
            go_wp2
            go_ret
            exact ⟨rfl,SL.ah.right (SL.ah.alloc (ah.whole w) _),(ak.refl w).alloc _⟩
           .rw [show t.ok=L by simp [Tg.ok,c]]
            have hd:decide (t.id<3840)=L:=by simpa using c
            go_in
            go_wp2
            go_ret
            exact ⟨rfl,SL.ah.right (SL.ah.alloc (ah.whole w) _),(ak.refl w).alloc _⟩
          .rw [show t.ok=L by simp [Tg.ok,i]]
           have hd:decide (0<=t.id)=L:=by simpa using i
           go_in
           go_wp2
           go_ret
           exact ⟨rfl,SL.ah.right (SL.ah.alloc (ah.whole w) _),(ak.refl w).alloc _⟩
         .rw [show t.ok=L by simp [Tg.ok,h]]
          have hd:decide (t.ix<t.ct)=L:=by simpa using h
          go_in
          go_wp2
          go_ret
          exact ⟨rfl,SL.ah.right (SL.ah.alloc (ah.whole w) _),(ak.refl w).alloc _⟩
        .rw [show t.ok=L by simp [Tg.ok,g]]
         have hd:decide (0<=t.ix)=L:=by simpa using g
         go_in
         go_wp2
         go_ret
         exact ⟨rfl,SL.ah.right (SL.ah.alloc (ah.whole w) _),(ak.refl w).alloc _⟩
       .rw [show t.ok=L by simp [Tg.ok,f]]
        have hd:decide (t.ct<=72)=L:=by simpa using f
        go_in
        go_wp2
        go_ret
        exact ⟨rfl,SL.ah.right (SL.ah.alloc (ah.whole w) _),(ak.refl w).alloc _⟩
      .rw [show t.ok=L by simp [Tg.ok,h5]]
       have hd:decide (1<=t.ct)=L:=by simpa using h5
       go_in
       go_wp2
       go_ret
       exact ⟨rfl,SL.ah.right (SL.ah.alloc (ah.whole w) _),(ak.refl w).alloc _⟩
     .rw [show t.ok=L by simp [Tg.ok,h4]]
      have hd:decide (t.fl<t.sq)=L:=by simpa using h4
      go_in
      go_wp2
      go_ret
      exact ⟨rfl,SL.ah.right (SL.ah.alloc (ah.whole w) _),(ak.refl w).alloc _⟩
    .rw [show t.ok=L by simp [Tg.ok,e]]
     have hd:decide (t.sq<=281474976710655)=L:=by simpa using e
     go_in
     go_wp2
     go_ret
     exact ⟨rfl,SL.ah.right (SL.ah.alloc (ah.whole w) _),(ak.refl w).alloc _⟩
   .rw [show t.ok=L by simp [Tg.ok,d]]
    have hd:decide (t.st<=t.sq)=L:=by simpa using d
    go_in
    go_wp2
    go_ret
    exact ⟨rfl,SL.ah.right (SL.ah.alloc (ah.whole w) _),(ak.refl w).alloc _⟩
  .rw [show t.ok=L by simp [Tg.ok,b]]
   have hd:decide (1<=t.st)=L:=by simpa using b
   go_in
   go_wp2
   go_ret
   exact ⟨rfl,SL.ah.right (SL.ah.alloc (ah.whole w) _),(ak.refl w).alloc _⟩
 .rw [show t.ok=L by simp [Tg.ok,a]]
  have hd:decide (1<=t.ep)=L:=by simpa using a
  go_in
  go_wp2
  go_ret
  exact ⟨rfl,SL.ah.right (SL.ah.alloc (ah.whole w) _),(ak.refl w).alloc _⟩
end Go.Proofs.Nn
namespace Go.SL
open RowKit
def rK (t:Tg) (k:Nat):List UInt8:=(D7 k).flatMap fun i=>cO (t.field i) (er i)
def mr (t:Tg) (k:Nat):rK t (k+1)=rK t k++cO (t.field k) (er k):=by simp [rK,E3]
def enc (t:Tg):List UInt8:=rK t 9
def nD (k:Nat):er k<=6:=by
 unfold er
 split <;> omega
def Dp (t:Tg) (k:Nat):(rK t k).length<=6*k:=by
 induction k with
 | zero=>simp [rK]
 | succ k a=>rw [mr,E5,aT];have:=nD k;omega
def cV (t:Tg):(enc t).length=32:=by
 simp [enc,rK,E3,aT,er]
end Go.SL
namespace Go.Proofs.Nn
open RowKit SL
def ID (b:Fb) (k:Nat) (a:k<9) (w:Q):(Instr.index 359 (qF b) (Z V (k:Int))).run W w = .ok (.agg (DT b k)) w:=by
 obtain rfl|rfl|rfl|rfl|rfl|rfl|rfl|rfl|rfl:k=0\/k=1\/k=2\/k=3\/k=4\/k=5\/k=6\/k=7\/k=8:=I
 all_goals kernel_rfl
def nE {w:Q} {v:K} {l:List UInt8} {x:UInt8} {F:ai} (h:ah w (bs 5 v l*F)) (z:l.length<=1000000) :
  ∃ b d,(Builtin.append_ #[23,23] 23 #[v,N (R ⟨w.heap.size,0,U⟩) 1 1]).run W (w.alloc (Y #[u8 x] 5 (0,0))) = .ok b d/\ah d (bs 5 b (l++[x])*F)/\ak w d/\∃ a c,b = N a (l.length+1) c:=by
 obtain ⟨A,o,y,q,m⟩:=info_parts gW;have f:=h.alloc (Y #[u8 x] 5 (0,0))
 have i:nt (w.alloc (Y #[u8 x] 5 (0,0))) 1 (N (R ⟨w.heap.size,0,U⟩) 1 1) 1 [u8 x]:=
  ⟨rfl,.inr ⟨_,_,rfl,fun j u e=>by
   rw [Addr.add_lit,Nat.zero_add];exact (f.cell j).trans (by simpa using e)⟩⟩
 obtain ⟨b,d,p,g,r⟩:=ah.append (P:=W) (ty:=23) underlying23 o y q m rfl f.right i (by intro u e;rw [List.mem_singleton.1 e];rfl) (by unfold maxLen;omega) I;refine ⟨b,d,p,g.to (by rw [bs,E5,G3];rfl),((ak.refl w).alloc _).trans r,az g⟩
def WH (a:List UInt8) (n:Int) (s:Nat) (X:ai) (w0:Q) (gk:Nat) (u6 u9 u29:K) (wr:Q):Prop:=
 ∃ j:Nat,j<=s/\s-j<=gk/\u29 = Z V (j:Int)/\u9 = Z O (n/(256:Int) ^ j)/\ah wr (bs 5 u6 (a++cO n j)*X)/\ak w0 wr
def UC (t:Tg) (b:Fb) (a:Nat) (X:ai) (w0:Q) (gk:Nat) (u6 u20:K) (wr:Q):Prop:=
 ∃ k:Nat,k<=9/\9-k<=gk/\u20 = Z V (k:Int)/\ah wr (bs 5 u6 (rK t k)*(cW b*(pt a (Y t.cells 250 (0,0))*X)))/\ak w0 wr
def Sh (l:List UInt8) (w:Q) (e:Ending) (a:Q):Prop:=∃ v,e = M (Z' #[v,Z V 0])/\ah a (bs 5 v l*whole w)/\ak w a
def DM (t:Tg) (a:t.Fit) (k:Nat):0<=t.field k/\t.field k<18446744073709551616:=by
 obtain ⟨b,c,d,e,h4,h5,f,g⟩:=a;unfold Tg.field Th JA
 split <;> omega
def mQ (t:Tg) (ht:t.Fit) (R0:t.ok=G) (bv:K) (l:List UInt8) (hl:l.length=480) (w:Q) (S:Rd w bv l) :
  Calls W 235 #[.agg t.cells,bv] w (Sh (enc t++l) w):=by
 obtain ⟨ba,bc,rfl⟩:=S.shape;rw [hl] at S ⊢
 have o1:∀ w,(Instr.makeSlice 23 (Z V 0) (Z V 512)).run W w = .ok (N (R ⟨w.heap.size,0,U⟩) 0 512) (w.alloc (Y (dP (zs 512)) 5 (0,0))):=fun w=>by
  obtain ⟨Y0,D,hz,hs,hb⟩:=info_parts gW;have:=run_make (P:=W) w 23 5 Y0 _ underlying23 D hz V V 0 512 I I (by rw [hb];omega) I;rw [this,hs];exact congrArg (fun c=>Result.ok _ (w.alloc (Y c _ (0,0)))) (jS 512)
 have X:=ke t;rw [R0] at X;have r:=(ah.whole w).alloc (Y t.cells 250 (0,0));have hs:=(ak.refl w).alloc (Y t.cells 250 (0,0));have Hl:=ae hl;have Hr:=ae S
 go_in
 simp only [Tg.cells] at r X ⊢
 go_wp2_with fail
 apply (X _).mono;rintro f0 w2 ⟨rfl,h2,d2⟩;have z:=h2.cU r;have D2:=ak.trans hs d2;generalize w.heap.size=h at z ⊢;have F:=z.lt
 go_wp2_with fail
 have A:=z.alloc (Y (dP (zs 512)) 5 (0,0));have D3:=D2.alloc (Y (dP (zs 512)) 5 (0,0));generalize t1:w2.alloc (Y (dP (zs 512)) 5 (0,0))=w3 at A D3 ⊢;generalize w2.heap.size=gb at A ⊢;apply (xd w3).mono;rintro f0 w4 ⟨b,rfl,h4,d4⟩;have H4:=h4.under A;have D4:=D3.trans d4
 have g:ah w4 (bs 5 (N (R ⟨gb,0,U⟩) 0 512) (rK t 0)*(cW b*(pt h (Y t.cells 250 (0,0))*whole w))):=by
  have:=ah.nz (sz:=1) (n:=0) (cap:=512) H4.aj I (by unfold maxLen;omega) (by simp [eX,aX]);exact this
 have E:=ID b;have k0:=Wi b t;generalize L0:qF b=fv at E;clear L0 H4
 go_wp2_with fail
 go_loopg [6,20] 9 (fun gk u6 u20 wr=>UC t b h (whole w) w gk u6 u20 wr)
 case atStart=>exact ⟨0,I,I,rfl,g,D4⟩
 case round=>
  clear g D4;obtain ⟨F0,rfl⟩:∃ n,n=gk:=⟨gk,rfl⟩
  obtain ⟨k,hk,h1,rfl,a,p⟩:=hrel;have l1:=Dp t k;have c0:=az a;obtain ⟨va,vc,rfl⟩:=c0
  by_cases F:k<9
  .have m1:(k:Int)<9:=I
   have N0:=E k F;obtain ⟨f,v,hf,e1,h0⟩:=k0 k F ht;obtain ⟨m,i,g0⟩:∃ m i,kN b k=(m,i):=⟨_,_,rfl⟩
   simp only [DT,hf,g0] at N0;have s1:(er k:Int)<=6:=by have:=nD k;omega
   have r:=a.alloc (Y #[Z V (er k),fC f v,fC m i] 358 (0,0));have W0:=p.alloc (Y #[Z V (er k),fC f v,fC m i] 358 (0,0));have d:∀ o,wr.cell? ⟨h,o,U⟩=t.cells[o]?:=fun o=>a.au.cell o;have o0:=d 0;have q0:=d 1;have r0:=d 2;have s0:=d 3;have u0:=d 4;have x0:=d 5;have D0:=d 6;simp only [Tg.cells] at o0 q0 r0 s0 u0 x0 D0;have d1:=a.au.lt;have K0:=h0 _ _ (r.au.aj.aj);clear E k0 h0 d hf g0 a p
   go_wp2_with fail
   apply K0.mono;rintro f0 w5 ⟨rfl,h5,d5⟩;have g:=h5.cU r;have D5:=W0.trans d5;generalize wr.heap.size=b8 at g ⊢;have c8:=g.cell 0;obtain ⟨b1,c1⟩:=DM t ht k;have e0:Hid (rK t (k+1)=rK t k++cO (t.field k) (er k)):=mr t k;generalize f1:t.field k=n at *;generalize r1:er k=e at *;generalize q1:rK t k=y at *;have H6:ah w5 (bs 5 (N va y.length vc) (y++cO n 0)*(pt b8 (Y #[Z V (e:Int),fC f v,fC m i] 358 (0,0))*(cW b*(pt h (Y t.cells 250 (0,0))*whole w)))):=g.aj.to (by simp only [cO,List.range_zero,List.map_nil,List.append_nil])
   go_wp2_with fail
   go_loopg [6,9,29] e (fun gk u6 u9 u29 wr=>WH y n e (pt b8 (Y #[Z V (e:Int),fC f v,fC m i] 358 (0,0))*(cW b*(pt h (Y t.cells 250 (0,0))*whole w))) w gk u6 u9 u29 wr)
   case atStart=>exact ⟨0,I,I,rfl,Si0,H6,D5⟩
   case round=>
    obtain ⟨j,hj,g1,rfl,rfl,a,p⟩:=hrel;have k1:(y++cO n j).length<=60:=by rw [E5,aT];omega
    by_cases i1:j<e
    .have j1:(j:Int)<(e:Int):=I
     have hp:0<(256:Int) ^ j:=Int.pow_pos De0
     have q2:n/(256:Int) ^ (j+1)=n/(256:Int) ^ j/256:=by
      rw [Int.pow_succ,Int.ediv_ediv,if_neg (fun hh=>absurd hh.1 I),Int.sub_zero]
     have l0:=C6 n j;obtain ⟨v',w6,u,q,C,a6,c6,rfl⟩:=nE (x:=UInt8.ofInt (n/(256:Int) ^ j)) a I;have d0:=G6 (n/(256:Int) ^ j);rw [IntKind.wrap_u8] at d0;rw [List.append_assoc,<- l0] at q;generalize hq:n/(256:Int) ^ j=u1 at *;rw [<- d0] at u;have B:=ae u;have m0:=ae q2;clear u l0 d0 a hq q2 hp
     go_wp2_with (at_builtin;refine wpList_append_run B.o _ _ rfl rfl rfl rfl rfl ?_)
     go_roundg (gk-1)
     case measure=>omega
     case rel=>
      refine ⟨j+1,I,I,by go_num,by rw [m0.o],?_,p.trans C⟩;rw [E5] at q;exact q
    .obtain rfl:j=e:=I
     have c0:=az a;obtain ⟨a6,c6,rfl⟩:=c0;rw [<- e0.o] at a;have H9:=a.fT
     go_wp2
     go_roundg (F0-1)
     case measure=>omega
     case rel=>
      refine ⟨k+1,I,I,by go_num,?_,p⟩
      first|exact H9|(rw [<- e0.o];exact H9)
  .obtain rfl:k=9:=I
   have S0:=nt.carry Hr.o fun a1 Z0 hu=>(a.right.right.right.kp.to (eV _ _)).bX hu;obtain ⟨i0,D,hz,V0,G0⟩:=info_parts gW
   have T0:nt wr 1 (N ba 480 bc) 480 (l.map Go.SL.u8):=by
    have:=S0;unfold Rd at this;rwa [Hl.o] at this
   obtain ⟨v',w6,u,q,C⟩:=ah.append (P:=W) (ty:=23) underlying23 D hz V0 G0 rfl a T0 (by
    intro Z0 hu;obtain ⟨x,_,rfl⟩:=List.mem_map.1 hu;rfl) (by unfold maxLen;omega) I
   have H0:ah w6 (bs 5 v' (enc t++l)*(cW b*(pt h (Y t.cells 250 (0,0))*whole w))):=q.to (by
    rw [bs,E5,G3,Hl.o];rfl)
   have B:=ae u
   go_wp2_with (at_builtin;refine wpList_append_run B.o _ _ rfl rfl rfl rfl rfl ?_)
   go_ret2
   exact ⟨v',rfl,H0.fT.fT,p.trans C⟩
end Go.Proofs.Nn
namespace Go.SL
open RowKit
def Tg.zero:Tg:=⟨0,0,0,0,0,0,0⟩
def Tg.set (t:Tg) (n:Int):Nat->Tg
 | 1=>{ t with ep:=n%4294967296 }
 | 2=>{ t with sq:=n }
 | 3=>{ t with fl:=n }
 | 4=>{ t with st:=n }
 | 5=>{ t with ix:=wrap64 n }
 | 6=>{ t with ct:=wrap64 n }
 | 7=>{ t with id:=wrap64 n }
 | _=>t
def mF (k:Nat):Nat:=((D7 k).map er).sum
def s4 (k:Nat):mF (k+1)=mF k+er k:=by simp [mF,E3]
def iX (l:List UInt8):Nat->Tg
 | 0=>Tg.zero
 | k+1=>(iX l k).set (gE (l.drop (mF k)) (er k)) k
end Go.SL
namespace Go.Proofs.Nn
open RowKit SL
def vR (b:Nat) (t:Tg) (F:ai) (w:Q) (e:Ending) (a:Q):Prop:=e = M (Z' #[])/\ah a (pt b (Y t.cells 250 (0,0))*F)/\ak w a
def Wv (b:Nat) (n:Int) (t:Tg) (w:Q) (F:ai) (h:ah w (pt b (Y t.cells 250 (0,0))*F)) :
  Calls W 340 #[ax b,Z O n] w (vR b t F w):=by
 go_in
 go_wp2
 go_end0
 exact ⟨rfl,h,ak.refl w⟩
def Xz (b:Nat) (n:Int) (t:Tg) (w:Q) (F:ai) (h:ah w (pt b (Y t.cells 250 (0,0))*F)) :
  Calls W 320 #[ax b,Z O n] w (vR b (t.set n 1) F w):=by
 have d:=h.cell 0;have e:=h.frozen 0;have c:=h.setCell 0 (Z .u32 (n%4294967296));have a:=ae c
 go_in
 go_wp2
 go_end0
 exact ⟨rfl,a.o,(ak.refl w).setCell _ _⟩
def Kp (b c f o:Nat) (n v:Int) (t g:Tg) (w:Q) (F:ai) (h:ah w (pt c (Y #[fC f #[]] 380 (0,0))*(pt b (Y t.cells 250 (0,0))*F))) (r:∀ a w,(callFunc f a).run W w = .ok (.enter f a) w)
  (i:∀ (b:Nat) (w:Q),Calls W f #[ax b] w fun e m=>e = M (H (R ⟨b,o,U⟩))/\w=m) (j:t.cells[o]?=R (Z O v)) (l:t.cells.setIfInBounds o (Z O n)=g.cells) :
  Calls W 342 #[ax b,Z O n,ax c] w (vR b g (pt c (Y #[fC f #[]] 380 (0,0))*F) w):=by
 have p:=h.cell 0;have q:=(h.aj.cell o).trans j;have u:=h.aj.frozen o;have d:=h.aj.setCell o (Z O n);rw [l] at d
 go_in
 go_wp2_with fail
 apply (i _ _).mono;rintro e x ⟨rfl,rfl⟩
 go_wp2
 go_end0
 exact ⟨rfl,d,(ak.refl w).setCell _ _⟩
def TF (b c f o:Nat) (n v:Int) (t g:Tg) (w:Q) (F:ai) (h:ah w (pt c (Y #[fC f #[]] 383 (0,0))*(pt b (Y t.cells 250 (0,0))*F))) (r:∀ a w,(callFunc f a).run W w = .ok (.enter f a) w)
  (i:∀ (b:Nat) (w:Q),Calls W f #[ax b] w fun e m=>e = M (H (R ⟨b,o,U⟩))/\w=m) (j:t.cells[o]?=R (Z V v)) (l:t.cells.setIfInBounds o (Z V (wrap64 n))=g.cells) :
  Calls W 344 #[ax b,Z O n,ax c] w (vR b g (pt c (Y #[fC f #[]] 383 (0,0))*F) w):=by
 have p:=h.cell 0;have q:=(h.aj.cell o).trans j;have u:=h.aj.frozen o;have d:=h.aj.setCell o (Z V (wrap64 n));rw [l] at d
 go_in
 go_wp2_with fail
 apply (i _ _).mono;rintro e x ⟨rfl,rfl⟩
 go_wp2
 go_end0
 exact ⟨rfl,d,(ak.refl w).setCell _ _⟩
def VC (a:Fb) (b:Nat) (t:Tg) (n:Int) (k:Nat) (v:k<9) :
  ∃ f l,kN a k=(f,l)/\(∀ j w,(callFunc f j).run W w = .ok (.enter f j) w) /\
   ∀ w F,ah w (cW a*(pt b (Y t.cells 250 (0,0))*F))->Calls W f (#[ax b,Z O n]++l) w (vR b (t.set n k) (cW a*F) w):=by
 have d:∀ {g:Tg} {i F:ai} {w:Q} {e:Ending} {m:Q} {c:Nat} {o:Obj},vR b g (pt c o*i) w e m->(pt b (Y g.cells 250 (0,0))*(pt c o*i)=pt b (Y g.cells 250 (0,0))*(cW a*F))->vR b g (cW a*F) w e m:=
  fun ⟨p,r,u⟩ e=>⟨p,r.to e,u⟩
 match k,v with
 | 0,_=>exact ⟨_,_,rfl,SQ,fun w F h=>Wv b n t w _ h.aj⟩
 | 1,_=>exact ⟨_,_,rfl,WW,fun w F h=>Xz b n t w _ h.aj⟩
 | 2,_=>exact ⟨_,_,rfl,PR,fun w F h=>(Kp b a.b2 _ 2 n _ t (t.set n 2) w _ ((fO h).aj.lO.aj) SN Yg rfl rfl).mono fun _ _ q=>d q (by unfold cW;ac_rfl)⟩
 | 3,_=>exact ⟨_,_,rfl,PR,fun w F h=>(Kp b a.b3 _ 3 n _ t (t.set n 3) w _ ((fO h).au.lO.aj) SG X0 rfl rfl).mono fun _ _ q=>d q (by unfold cW;ac_rfl)⟩
 | 4,_=>exact ⟨_,_,rfl,PR,fun w F h=>(Kp b a.b4 _ 1 n _ t (t.set n 4) w _ ((fO h).aC.lO.aj) Ta Yp rfl rfl).mono fun _ _ q=>d q (by unfold cW;ac_rfl)⟩
 | 5,_=>exact ⟨_,_,rfl,PH,fun w F h=>(TF b a.b5 _ 4 n _ t (t.set n 5) w _ ((fO h).aI.lO.aj) SP Yb rfl rfl).mono fun _ _ q=>d q (by unfold cW;ac_rfl)⟩
 | 6,_=>exact ⟨_,_,rfl,PH,fun w F h=>(TF b a.b6 _ 5 n _ t (t.set n 6) w _ ((fO h).et.lO.aj) Tk Yc rfl rfl).mono fun _ _ q=>d q (by unfold cW;ac_rfl)⟩
 | 7,_=>exact ⟨_,_,rfl,PH,fun w F h=>(TF b a.b7 _ 6 n _ t (t.set n 7) w _ ((fO h).eN.lO.aj) Td at8 rfl rfl).mono fun _ _ q=>d q (by unfold cW;ac_rfl)⟩
 | 8,_=>exact ⟨_,_,rfl,SQ,fun w F h=>Wv b n t w _ h.aj⟩
def BP (l:List UInt8):∀ (n i:Nat) (a:List UInt8),l.length-i=n->ByteArray.toList.loop ⟨l.toArray⟩ i a=a.reverse++l.drop i:=by
 intro n
 induction n with
 | zero=>
  intro i a h;rw [ByteArray.toList.loop];have:¬ i<ByteArray.size ⟨l.toArray⟩:=by show ¬ i<l.toArray.size;simp;omega
  rw [if_neg this,List.drop_of_length_le I];simp
 | succ n c=>
  intro i a h;rw [ByteArray.toList.loop];have b:i<l.length:=I
  have:i<ByteArray.size ⟨l.toArray⟩:=by show i<l.toArray.size;simpa using b
  rw [if_pos this,c (i+1) _ I,List.drop_eq_getElem_cons b];simp [ByteArray.get!,b]
def vE (l:List UInt8):(str l).toList=l:=by
 show ByteArray.toList.loop ⟨l.toArray⟩ 0 []=l
 rw [BP l _ 0 [] rfl];rfl
def ry (w:Q) (v:K) (l:List UInt8) (h:Rd w v l):(convert 23 9 v).run W w = .ok (.string (str l)) w:=by
 have nh:∀ (l:List UInt8) (s:ByteArray),(l.map fun x=>(x.toNat:Int)).foldl (fun r n=>r.push (UInt8.ofNat n.toNat)) s=⟨s.data++l.toArray⟩:=by
  intro l
  induction l with
  | nil=>intro s;simp
  | cons a l g=>intro s;simp only [List.map_cons,List.foldl_cons,g];simp [ByteArray.push]
 obtain ⟨_,f⟩:=h;rcases f with ⟨rfl,d⟩|⟨a,c,rfl,e⟩
 .have:l=[]:=List.eq_nil_of_length_eq_zero d
  subst this;rw [run_convert_bytes_string w _ _ 5 U 0 0 underlying23 underlying5 underlying9]
  rfl
 .rw [run_convert_bytes_string w _ _ 5 (R a) _ c underlying23 underlying5 underlying9]
  have b:=run_loadCells_list (P:=W) (w:=w) a (l.map u8) e;rw [List.length_map] at b
  have:=run_bytesToString (P:=W) w a l.length c (l.map fun x=>(x.toNat:Int)) (by
   rw [b];simp [u8,Function.comp_def])
  rw [this,nh];simp [str]
def sr (t:Tg) (i:t.ok=L) (b:K) (l:List UInt8) (w:Q) (m:Rd w b l) :
  Calls W 235 #[.agg t.cells,b] w (kL (Z' #[N U 0 0,Z V 1]) w):=by
 have a:=ke t;rw [i] at a;have c:=(ah.whole w).alloc (Y t.cells 250 (0,0));have j:=(ak.refl w).alloc (Y t.cells 250 (0,0))
 go_in
 simp only [Tg.cells] at c a ⊢
 go_wp2_with fail
 apply (a _).mono;rintro e o ⟨rfl,h,g⟩;have f:=(h.cU c).right;have d:=ak.trans j g
 go_wp2
 go_ret2
 exact ⟨rfl,f,d⟩
def KO (w:Q) (d e:K) (a b:List UInt8) (f:Rd w d a) (g:Rd w e b) :
  Calls W 307 #[d,e] w (vS (decide (a=b)) w):=by
 have i:=ry w d a f;have j:=ry w e b g
 by_cases c:a=b
 .subst c
  rw [show decide (a=a)=G by simp]
  go_in
  go_wp2
  go_ret
  exact ⟨rfl,rfl⟩
 .rw [show decide (a=b)=L by simpa using c]
  have h:((str a).toList == (str b).toList)=L:=by
   rw [vE,vE];simpa using c
  go_in
  go_wp2
  go_ret
  exact ⟨rfl,rfl⟩
end Go.Proofs.Nn
namespace Go.SL
open RowKit
def bH (l:List UInt8):Option (Tg × List UInt8):=
 if (iX l 9).ok=G/\enc (iX l 9)++l.drop 32=l then R (iX l 9,l.drop 32) else U
def GZ (k:Nat) (h:k<=9):mF k<=32:=by
 obtain rfl|rfl|rfl|rfl|rfl|rfl|rfl|rfl|rfl|rfl:k=0\/k=1\/k=2\/k=3\/k=4\/k=5\/k=6\/k=7\/k=8\/k=9:=I
 all_goals decide
def Rl (t:Tg) (n:Int) (k:Nat) (h:t.Fit) (g:0<=n) (i:n<18446744073709551616):(t.set n k).Fit:=by
 obtain ⟨a,b,c,d,h4,h5,e,f⟩:=h;unfold Tg.set
 split
 .exact ⟨Int.emod_nonneg _ De0,Int.emod_lt_of_pos _ De0,c,d,h4,h5,e,f⟩
 .exact ⟨a,b,c,d,g,i,e,f⟩
 .exact ⟨a,b,c,d,h4,h5,g,i⟩
 .exact ⟨a,b,g,i,h4,h5,e,f⟩
 all_goals exact ⟨a,b,c,d,h4,h5,e,f⟩
def BC (l:List UInt8) (k:Nat):(iX l k).Fit:=by
 induction k with
 | zero=>exact (show Tg.zero.Fit from ⟨De0,De0,De0,De0,De0,De0,De0,De0⟩)
 | succ k h=>
  obtain ⟨a,b,c,d,h4,h5,e,f⟩:=h;obtain ⟨i,j⟩:=gw (l.drop (mF k)) (er k);have g:=yr (nD k);rw [iX];have m:gE (l.drop (mF k)) (er k)<18446744073709551616:=I
  clear j g;generalize gE (l.drop (mF k)) (er k)=n at *;exact Rl (iX l k) n k ⟨a,b,c,d,h4,h5,e,f⟩ i m
end Go.SL
namespace Go.Proofs.Nn
open RowKit SL
variable {w:Q}
def vV {g o c:Nat} {l:List UInt8} (h:∀ i,i<l.length->w.cell? ⟨g,o+i,U⟩=R (u8 (l.getD i 0))):Rd w (N (R ⟨g,o,U⟩) l.length c) l:=by
 refine ⟨Si0,.inr ⟨_,_,rfl,fun j u a=>?_⟩⟩;rw [Addr.add_lit];rw [List.getElem?_map] at a
 by_cases b:j<l.length
 .rw [E4 b] at a
  rw [h j b,<- a,B3,E4 b];rfl
 .rw [List.getElem?_eq_none (Nat.le_of_not_lt b)] at a;cases a
def JC:(prog.info? 250).map (·.size)=R 7:=Kr0
def Dr (t:Tg):(prog.info? 250).map (·.size)=R t.cells.size:=JC
def Iy (t:Tg):t.cells.all (·.oneCell')=G:=by simp [Tg.cells,Value.oneCell']
def nW {b:Array K} {c:Nat} {t:Tg} {v u:K} {F:ai} (g:b[2]?=R (ax c)) (i:b[3]?=R v) (h4:b[4]?=R u) (h:ah w (pt c (Y t.cells 250 (0,0))*F)) :
  (results Tryz.f264 b).run W w = .ok (Z' #[.agg t.cells,v,u]) w:=by
 have a:∀ o,w.cell? ⟨c,o,U⟩=t.cells[o]?:=fun o=>h.cell o;have z0:=a 0;have d:=a 1;have e:=a 2;have z3:=a 3;have z4:=a 4;have z5:=a 5;have f:=a 6;clear a h;simp only [Tg.cells] at z0 d e z3 z4 z5 f ⊢;simp [results,Tryz.results264,go_sem,g,i,h4,z0,d,e,z3,z4,z5,f]
def VU (l:List UInt8) (a:Nat) (s:Nat) (X:ai) (w0:Q) (gk:Nat) (u9 u24:K) (wr:Q):Prop:=
 ∃ j:Nat,j<=s/\s-j<=gk/\u24 = Z V (j:Int)/\u9 = Z O (gE (l.drop a) j)/\ah wr X/\ak w0 wr
def UZ (l:List UInt8) (g a:Nat) (b:Fb) (b5:Nat) (X:ai) (w0:Q) (gk:Nat) (u6 u19:K) (wr:Q):Prop:=
 ∃ k:Nat,k<=9/\9-k<=gk/\u19 = Z V (k:Int)/\u6 = N (R ⟨g,mF k,U⟩) (512-mF k) (a-mF k) /\
  ah wr (cW b*(pt b5 (Y (iX l k).cells 250 (0,0))*X))/\ak w0 wr
def A4 (o:Option (Tg × List UInt8)) (w:Q) (e:Ending) (a:Q):Prop:=
 match o with
 | some (t,l)=>∃ v,e = M (Z' #[.agg t.cells,v,Z V 0])/\ah a (bs 5 v l*whole w)/\ak w a
 | none=>e = M (Z' #[.agg Tg.zero.cells,N U 0 0,Z V 4])/\ah a (whole w)/\ak w a
def mO (l:List UInt8) (hl:l.length=512) (g e:Nat) (n2:512<=e) (w1:e<=maxLen) (w:Q) (hb:∀ o,o<512->w.cell? ⟨g,o,U⟩=R (u8 (l.getD o 0))) :
  Calls W 264 #[N (R ⟨g,0,U⟩) 512 e] w (A4 (bH l) w):=by
 have x:=((ah.whole w).alloc (Y Tg.zero.cells 250 (0,0))).alloc (Y Tg.zero.cells 250 (0,0));have hs:=((ak.refl w).alloc (Y Tg.zero.cells 250 (0,0))).alloc (Y Tg.zero.cells 250 (0,0));rw [World.size_alloc] at x;have Hb:=ae hb;clear hb w1
 go_in
 go_wp2_with fail
 apply (xd _).mono;rintro q0 w4 ⟨X,rfl,h4,d4⟩;have H4:=h4.under x;have D4:=ak.trans hs d4;clear h4 d4 x hs;generalize w.heap.size+1=b5 at H4 ⊢;generalize w.heap.size=a at H4 ⊢;have F0:=ID X;have S0:=fun t n k hk=>VC X b5 t n k hk;generalize x1:qF X=fv at F0;clear x1
 go_wp2_with fail
 go_loopg [6,19] 9 (fun gk u6 u19 wr=>UZ l g e X b5 (pt a (Y Tg.zero.cells 250 (0,0))*whole w) w gk u6 u19 wr)
 case atStart=>exact ⟨0,I,I,rfl,rfl,H4,D4⟩
 case round=>
  clear H4 D4;obtain ⟨v1,rfl⟩:∃ n,n=gk:=⟨gk,rfl⟩
  obtain ⟨k,hk,r2,rfl,rfl,d,y⟩:=hrel;have D1:=GZ k hk
  by_cases L0:k<9
  .have u2:(k:Int)<9:=I
   have y1:=F0 k L0;have E1:=GZ (k+1) I;rw [s4] at E1;obtain ⟨f2,o0,Z0,p2,e1⟩:=S0 (iX l k) (gE (l.drop (mF k)) (er k)) k L0;obtain ⟨m0,c0,hf⟩:∃ m0 c0,kT X k=(m0,c0):=⟨_,_,rfl⟩
   simp only [DT,hf,Z0] at y1;have v2:(er k:Int)<=6:=by have:=nD k;omega
   have w2:er k<=6:=nD k;have x:=d.alloc (Y #[Z V (er k),fC m0 c0,fC f2 o0] 358 (0,0));have R0:=y.alloc (Y #[Z V (er k),fC m0 c0,fC f2 o0] 358 (0,0));have F:Hid (iX l (k+1)=(iX l k).set (gE (l.drop (mF k)) (er k)) k):=rfl;have l1:Hid (mF (k+1)=mF k+er k):=s4 k;have s1:=ae e1;clear F0 S0 hf Z0 d y e1;generalize H1:er k=E at *;generalize r:mF k=h at *;clear H1 r
   go_wp2_with fail
   generalize wr.alloc (Y #[Z V (E:Int),fC m0 c0,fC f2 o0] 358 (0,0))=w5 at x R0 ⊢;generalize wr.heap.size=b8 at x ⊢;have c8:w5.cell? ⟨b8,0,U⟩=R (Z V (E:Int)):=x.cell 0
   go_loopg [9,24] E (fun gk u9 u24 wr=>VU l h E (pt b8 (Y #[Z V (E:Int),fC m0 c0,fC f2 o0] 358 (0,0))*(cW X*(pt b5 (Y (iX l k).cells 250 (0,0))*(pt a (Y Tg.zero.cells 250 (0,0))*whole w)))) w gk u9 u24 wr)
   case atStart=>exact ⟨0,I,I,rfl,rfl,x,R0⟩
   case round=>
    clear x R0 c8;obtain ⟨j,hj,q2,rfl,rfl,d,y⟩:=hrel
    by_cases z1:j<E
    .have t2:(j:Int)<(E:Int):=I
     have o2:wr.cell? ⟨g,h+j,U⟩=R (Z .u8 ((l.getD (h+j) 0).toNat:Int)):=(d.right.right.right.right.kp.to (eV _ _)).bX (Hb.o (h+j) I);have s2:(j:Int)<((512-h:Nat):Int):=I
     obtain ⟨r0,r1⟩:=gw (l.drop h) j
     go_wp2_with fail
     go_roundg (gk-1)
     case measure=>omega
     case rel=>exact ⟨j+1,I,I,by go_num,by rw [Qv l h j I],d,y⟩
    .obtain rfl:j=E:=I
     have c8:wr.cell? ⟨b8,0,U⟩=R (Z V (j:Int)):=d.cell 0;have u1:wr.cell? ⟨b8,2,U⟩=R (fC f2 o0):=d.cell 2;have q:=s1.o wr _ d.au.au;clear z1
     go_wp2_with fail
     apply q.mono;rintro q0 m ⟨rfl,u,S⟩;have f:=u;have M1:m.cell? ⟨b8,0,U⟩=R (Z V (j:Int)):=f.au.cell 0;have g2:(j:Int)<=((512-h:Nat):Int):=I
     have i2:j<=512-h:=I
     have j2:j<=e-h:=I
     have k2:512-h<=e-h:=I
     have l2:¬ e-h=j:=I
     have m2:¬ e-h-j=0:=I
     have G0:=y.trans S;clear q u S c8 u1 d y
     go_wp2
     go_roundg (v1-1)
     case measure=>omega
     case rel=>
      refine ⟨k+1,I,I,by go_num,by rw [l1.o,Nat.sub_sub,Nat.sub_sub],?_,G0⟩;rw [F.o];exact f.ly.aj
  .obtain rfl:k=9:=I
   have A1:mF 9=32:=De0
   have Ht:=ae (BC l 9);rw [A1];have z:∀ o,wr.cell? ⟨b5,o,U⟩=(iX l 9).cells[o]?:=fun o=>d.aj.cell o;have d0:=z 0;have e0:=z 1;have f0:=z 2;have g0:=z 3;have h0:=z 4;have k0:=z 5;have l0:=z 6;simp only [Tg.cells] at d0 e0 f0 g0 h0 k0 l0
   have a1:Rd wr (N (R ⟨g,32,U⟩) 480 (e-32)) (l.drop 32):=by
    have K0:(l.drop 32).length=480:=by rw [D9,hl]
    have:=vV (w:=wr) (g:=g) (o:=32) (c:=e-32) (l:=l.drop 32) fun o s0=>by
     have hc:=(d.right.right.right.kp.to (eV _ _)).bX (Hb.o (32+o) I);rw [hc];simp [B3]
    rwa [K0] at this
   have x0:∀ b,ah b (whole w)->Rd b (N (R ⟨g,0,U⟩) 512 e) l:=fun b s0=>by
    have:=vV (w:=b) (g:=g) (o:=0) (c:=e) (l:=l) fun o hh=>by
     have hc:=(s0.kp.to (eV _ _)).bX (Hb.o o I);rw [Nat.zero_add];exact hc
    rwa [hl] at this
   have k1:=ae x0;have V0:=ae a1;have Hl:=ae hl;have hz:∀ o,wr.cell? ⟨a,o,U⟩=Tg.zero.cells[o]?:=fun o=>d.au.cell o;have g1:Hid ((iX l 9).ok=L->bH l=U):=fun r=>by unfold bH;rw [if_neg];rintro ⟨h1,_⟩;rw [r] at h1;cases h1
   have i1:Hid ((iX l 9).ok=G->enc (iX l 9)++l.drop 32=l->bH l=R (iX l 9,l.drop 32)):=fun h1 h2=>by unfold bH;rw [if_pos ⟨h1,h2⟩]
   have j1:Hid (¬ enc (iX l 9)++l.drop 32=l->bH l=U):=fun h2=>by unfold bH;rw [if_neg];rintro ⟨_,h3⟩;exact h2 h3
   clear z x0 a1 F0 S0 D1 L0 hl;generalize iX l 9=t at *
   cases r:t.ok with
   | false=>
    have C:bH l=U:=g1.o r;have F:=ae C;have q:=sr t r _ _ wr V0.o;clear C r;simp only [Tg.cells] at q
    go_wp2_with fail
    apply q.mono;rintro q0 m ⟨rfl,u,S⟩;have f:=u.cU d;clear q d d0 e0 f0 g0 h0 k0 l0 hz u;have T0:m.heap[a]?=R (Y Tg.zero.cells 250 (0,0)):=f.au.heap;have H8:=f.au.setRow (cs':=Tg.zero.cells);have N0:=(y.trans S).setRow a Tg.zero.cells
    go_wp2_with (refine wpList_store_row rfl 250 (.tmp 2) (.tmp 61) rfl a Tg.zero.cells rfl rfl 250 Tg.zero.cells T0 (Dr _) rfl (Iy _) ?_)
    refine bodyPost_ret (nW rfl rfl rfl H8) rfl ?_;rw [F.o];exact ⟨rfl,H8.right.right.right,N0⟩
   | true=>
    have q:=mQ t Ht.o r _ _ (by rw [D9,Hl.o]) wr V0.o;have m1:=ae r;clear r;simp only [Tg.cells] at q
    go_wp2_with fail
    apply q.mono;rintro q0 m ⟨v,rfl,u,S⟩;have f:=u.under d;have G0:=y.trans S;have W0:Rd m v (enc t++l.drop 32):=u.mI;have x0:=k1.o m f.right.right.right.right;have u0:=KO m v _ _ _ W0 x0;clear q d d0 e0 f0 g0 h0 k0 l0 hz u S y W0 x0
    by_cases he:enc t++l.drop 32=l
    .rw [show decide (enc t++l.drop 32=l)=G by simpa using he] at u0
     have C:bH l=R (t,l.drop 32):=i1.o m1.o he;have F:=ae C;have B:∀ o,m.cell? ⟨b5,o,U⟩=t.cells[o]?:=fun o=>f.au.cell o;have d0:=B 0;have e0:=B 1;have f0:=B 2;have g0:=B 3;have h0:=B 4;have k0:=B 5;have l0:=B 6;simp only [Tg.cells] at d0 e0 f0 g0 h0 k0 l0
     have o1:Hid (Rd m (N (R ⟨g,32,U⟩) 480 (e-32)) (l.drop 32)):=by
      have K0:(l.drop 32).length=480:=by rw [D9,Hl.o]
      have:=vV (w:=m) (g:=g) (o:=32) (c:=e-32) (l:=l.drop 32) fun o s0=>by
       have hc:=(f.right.right.right.right.kp.to (eV _ _)).bX (Hb.o (32+o) I);rw [hc];simp [B3]
      rwa [K0] at this
     clear B he C
     go_wp2_with (go_at_call 307;(with_reducible apply u0.mono);rintro q0 c ⟨rfl,rfl⟩)
     obtain ⟨i0,hi,hz,d1,Y0⟩:=info_parts gW;obtain ⟨i,D0⟩:=Mn0 (pt b5 (Y t.cells 250 (0,0))*(cW X*whole w))
     have K7:ah m.drew (sl 5 1 (N U 0 0) 0 []*(pt a (Y Tg.zero.cells 250 (0,0))*i)):=(ah.dR (F:=pt a (Y Tg.zero.cells 250 (0,0))*i) (f.right.to (by rw [D0];ac_rfl)) _ _)
     have b1:nt m.drew 1 (N (R ⟨g,32,U⟩) 480 (e-32)) 480 ((l.drop 32).map Go.SL.u8):=by
      have:=o1.o;unfold Rd at this;rwa [D9,Hl.o] at this
     obtain ⟨v',c,c1,h8,d8⟩:=ah.append (P:=W) (ty:=23) underlying23 hi hz d1 Y0 rfl K7 b1 (s5 _) (by unfold maxLen;omega) I
     have p:ah c (bs 5 v' (l.drop 32)*(pt a (Y Tg.zero.cells 250 (0,0))*i)):=h8.to (by
      rw [bs,D9,Hl.o];rfl)
     obtain ⟨K1,L1,rfl⟩:=az p;have D:∀ o,c.cell? ⟨a,o,U⟩=Tg.zero.cells[o]?:=fun o=>p.aj.cell o;have x2:c.cell? ⟨a,0,U⟩=R (Z .u32 0):=D 0;have y2:c.cell? ⟨a,1,U⟩=R (Z O 0):=D 1;have z2:c.cell? ⟨a,2,U⟩=R (Z O 0):=D 2;have D2:c.cell? ⟨a,3,U⟩=R (Z O 0):=D 3;have E2:c.cell? ⟨a,4,U⟩=R (Z V 0):=D 4;have H2:c.cell? ⟨a,5,U⟩=R (Z V 0):=D 5;have J2:c.cell? ⟨a,6,U⟩=R (Z V 0):=D 6;have N1:c.frozen? ⟨a,0,U⟩=L:=p.aj.frozen 0;have O1:c.frozen? ⟨a,1,U⟩=L:=p.aj.frozen 1;have R1:c.frozen? ⟨a,2,U⟩=L:=p.aj.frozen 2;have S1:c.frozen? ⟨a,3,U⟩=L:=p.aj.frozen 3;have T1:c.frozen? ⟨a,4,U⟩=L:=p.aj.frozen 4;have V1:c.frozen? ⟨a,5,U⟩=L:=p.aj.frozen 5;have W1:c.frozen? ⟨a,6,U⟩=L:=p.aj.frozen 6;have K9:=((((((p.aj.setCell 0 (Z .u32 t.ep)).setCell 1 (Z O t.st)).setCell 2 (Z O t.sq)).setCell 3 (Z O t.fl)).setCell 4 (Z V t.ix)).setCell 5 (Z V t.ct)).setCell 6 (Z V t.id);have S9:=K9.right.right;have S8:=p.right.right;have S7:=K7.right.right;have A:∀ o b,ah b i->b.cell? ⟨b5,o,U⟩=t.cells[o]?:=fun o b s0=>(D0▸s0).cell o;have X1:∀ b,ah b i->b.cell? ⟨b5,0,U⟩=R (Z .u32 t.ep):=A 0;have Y1:∀ b,ah b i->b.cell? ⟨b5,1,U⟩=R (Z O t.st):=A 1;have Z1:∀ b,ah b i->b.cell? ⟨b5,2,U⟩=R (Z O t.sq):=A 2;have a2:∀ b,ah b i->b.cell? ⟨b5,3,U⟩=R (Z O t.fl):=A 3;have c2:∀ b,ah b i->b.cell? ⟨b5,4,U⟩=R (Z V t.ix):=A 4;have d2:∀ b,ah b i->b.cell? ⟨b5,5,U⟩=R (Z V t.ct):=A 5;have e2:∀ b,ah b i->b.cell? ⟨b5,6,U⟩=R (Z V t.id):=A 6;have q1:=ae c1;have f1:=ae D0;clear c1 A h8 D D0 hi hz d1 Y0 b1 K7 f u0 d0 e0 f0 g0 h0 k0 l0;have t1:=S9.drew
     go_region_held3 (fun b=>ah b i) (first|(with_reducible exact S7)|(with_reducible exact S8)|(with_reducible exact S9)|(with_reducible exact t1)) (first
      | (refine nf q1.o rfl _ _ rfl rfl Rf0 Rf0 ?_))
     go_wp2
     have H0:ah ((((((((c.setCell ⟨a,0,U⟩ (Z .u32 t.ep)).setCell ⟨a,1,U⟩ (Z O t.st)).setCell ⟨a,2,U⟩ (Z O t.sq)).setCell ⟨a,3,U⟩ (Z O t.fl)).setCell ⟨a,4,U⟩ (Z V t.ix)).setCell ⟨a,5,U⟩ (Z V t.ct)).setCell ⟨a,6,U⟩ (Z V t.id))) (pt a (Y t.cells 250 (0,0))*(bs 5 (N K1 (l.length-32) L1) (l.drop 32)*i)):=by
      rw [D9] at K9;exact K9
     refine bodyPost_ret (nW rfl rfl rfl H0) rfl ?_;rw [F.o];refine ⟨_,rfl,?_,(((((((G0.drew.trans d8).setCell _ _).setCell _ _).setCell _ _).setCell _ _).setCell _ _).setCell _ _).setCell _ _⟩;rw [f1.o] at H0;exact H0.right.fT.fT
    .rw [show decide (enc t++l.drop 32=l)=L by simpa using he] at u0
     have C:bH l=U:=j1.o he;have F:=ae C;have T0:m.heap[a]?=R (Y Tg.zero.cells 250 (0,0)):=f.aC.heap;have H8:=f.aC.setRow (cs':=Tg.zero.cells);have N0:=G0.setRow a Tg.zero.cells;clear he C f
     go_wp2_with (first
      | (go_at_call 307;(with_reducible apply u0.mono);rintro q0 c ⟨rfl,rfl⟩)
      | (refine wpList_store_row rfl 250 (.tmp 2) (.tmp 61) rfl a Tg.zero.cells rfl rfl 250 Tg.zero.cells T0 (Dr _) rfl (Iy _) ?_))
     refine bodyPost_ret (nW rfl rfl rfl H8) rfl ?_;rw [F.o];exact ⟨rfl,H8.right.right.right.right,N0⟩
end Go.Proofs.Nn
namespace Go.SL
open RowKit
variable {w:Q} {F:ai}
structure Jr where
 P:Nat
 T:Tb
 n:Int
 ep:Int
 st:Int
 sq:Int
 hd:Int
 us:Int
 fr:Int
 br:Bool
def bW (P:Nat):List Int:=(D7 P).map fun i:Nat=>(i:Int)+1
def aO (P:Nat):(bW P).length=P:=by simp [bW]
def yG {P k:Nat} (h:k<P):(bW P).getD k 0=(k:Int)+1:=by simp [bW,B3,h]
def Jr.cells (J:Jr) (d r t:Nat):Array K:=
 #[ax d,ax r,ax t,Z V J.n,Z .u32 J.ep,Z O J.st,Z O J.sq,Z V J.hd,Z V J.us,Z V J.fr,.bool J.br]
def j9 (j d r t:Nat) (J:Jr):ai:=pt j (Y (J.cells d r t) 184 (0,0))*(bC r (bW J.P)*bG t J.T)
def nA (j d:Nat) (J:Jr):ai:=ex fun x:Nat × Nat=>pt j (Y (J.cells d x.1 x.2) 184 (0,0))*(bC x.1 (bW J.P)*bG x.2 J.T)
structure Jr.Ok (J:Jr):Prop where
 p0:0<J.P
 p1:J.P<=20000
 T:J.T.Ok
 ps:(J.T.ps.length:Int)=J.n
 os:J.T.os.length=J.P
 uH:0<=J.us
 LV:J.us<=J.P
 Bf:0<=J.hd
 xL:J.hd<J.P
 SX:0<=J.fr
 Yq:J.fr<=48
def ah.sD {j d:Nat} {J:Jr} (h:ah w (nA j d J*F)):∃ r t,ah w (pt j (Y (J.cells d r t) 184 (0,0))*(bC r (bW J.P)*(bG t J.T*F))):=by
 obtain ⟨x,h⟩:=ah.aq.1 h;exact ⟨x.1,x.2,h.to Ac0⟩
def ah.z7 {j d r t:Nat} {J:Jr} (h:ah w (pt j (Y (J.cells d r t) 184 (0,0))*(bC r (bW J.P)*(bG t J.T*F)))):ah w (nA j d J*F):=
 ah.aq.2 ⟨(r,t),h.to Ac0⟩
def ah.GJ {j d r t:Nat} {J:Jr} (h:ah w (j9 j d r t J*F)):ah w (nA j d J*F):=ah.aq.2 ⟨(r,t),h⟩
def ah.IC {j d:Nat} {J:Jr} (h:ah w (nA j d J*F)):∃ r t,ah w (j9 j d r t J*F):=by
 obtain ⟨x,h⟩:=ah.aq.1 h;exact ⟨x.1,x.2,h⟩
def ah.Sr {j d r t:Nat} {J:Jr} (h:ah w (pt j (Y (J.cells d r t) 184 (0,0))*(bC r (bW J.P)*(bG t J.T*F)))):ah w (j9 j d r t J*F):=h.to (by unfold j9;ac_rfl)
def ah.Iv {j d r t:Nat} {J:Jr} (h:ah w (j9 j d r t J*F)):ah w (pt j (Y (J.cells d r t) 184 (0,0))*(bC r (bW J.P)*(bG t J.T*F))):=h.to (by unfold j9;ac_rfl)
def Jr.load (J:Jr) (D:aw) (id place:Int):(Int × List UInt8) × Jr × aw:=
 let a:=D.read (place%(J.P:Int)+1)
 if a.1.1=0 then
  match bH a.1.2 with
  | some (t,b)=>if t.id=id then ((0,b),J,a.2) else ((2,[]),{ J with br:=G },a.2)
  | none=>((2,[]),{ J with br:=G },a.2)
 else ((2,[]),{ J with br:=G },a.2)
def Jr.read (J:Jr) (D:aw) (id:Int):(Int × List UInt8) × Jr × aw:=
 if id<0\/J.n<=id then ((1,[]),J,D)
 else if J.br then ((2,[]),J,D)
 else match told J.T.ps id with
  | none=>((0,zs 480),J,D)
  | some p=>J.load D id p
def Jr.flush (J:Jr) (D:aw):Int × Jr × aw:=
 if J.br then (2,J,D) else if D.flush.1=0 then (0,J,D.flush.2) else (2,{ J with br:=G },D.flush.2)
end Go.SL
namespace Go.Proofs.Nn
open RowKit SL
def XD (j d r t:Nat) (J:Jr) (v:K) (F:ai) (w:Q) (e:Ending) (a:Q):Prop:=e = M v/\ah a (j9 j d r t J*F)/\ak w a
def oT (w:Q) (j d r t:Nat) (J:Jr) (F:ai) (h:ah w (j9 j d r t J*F)) :
  Calls W 189 #[ax j] w (XD j d r t { J with br:=G } (Z V 2) F w):=by
 have a:ah w (pt j (Y (J.cells d r t) 184 (0,0))*(bC r (bW J.P)*(bG t J.T*F))):=h.to (by unfold j9;ac_rfl);have e:w.cell? ⟨j,10,U⟩=R (.bool J.br):=a.cell 10;have f:=a.frozen 10;have b:=a.setCell 10 (.bool G);have c:=ae b;clear h a b
 go_in
 go_wp2
 go_ret
 exact ⟨rfl,ah.Sr (J:={ J with br:=G }) c.o,(ak.refl w).setCell _ _⟩
def Ys (j d:Nat) (J:Jr) (v:K) (F:ai) (w:Q) (e:Ending) (a:Q):Prop:=e = M v/\ah a (nA j d J*F)/\ak w a
def Cs (w:Q) (j d:Nat) (J:Jr) (F:ai) (h:ah w (nA j d J*F)) :
  Calls W 189 #[ax j] w (Ys j d { J with br:=G } (Z V 2) F w):=by
 obtain ⟨r,t,e⟩:=h.IC;exact (oT w j d r t J F e).mono fun _ _ ⟨a,b,c⟩=>⟨a,b.GJ,c⟩
def MN (w:Q) (j d:Nat) (J:Jr) (F:ai) (h:ah w (nA j d J*F)) (m:J.Ok) :
  Calls W 168 #[ax j] w (kL (Z V ((J.P:Int)-J.us-J.fr)) w):=by
 obtain ⟨r,t,b⟩:=h.sD;have g:w.cell? ⟨j,1,U⟩=R (ax r):=b.cell 1;have i:w.cell? ⟨j,8,U⟩=R (Z V J.us):=b.cell 8;have l:w.cell? ⟨j,9,U⟩=R (Z V J.fr):=b.cell 9;have c:=b.aj
 have f:∀ a,ah a (bC r (bW J.P)*(pt j (Y (J.cells d r t) 184 (0,0))*(bG t J.T*F)))->Calls W 234 #[ax r] a (lB J.P a):=fun a h=>by
  have:=nQ a r (bW J.P) _ h
  rwa [aO] at this
 obtain ⟨p0,p1,_,_,_,u0,u1,_,_,p,q⟩:=m;have x:=f w c;have o:=f w.drew c;have u:(J.P:Int)<=20000:=I
 have v:0<=(J.P:Int):=I
 have y:J.us<=20000:=I
 clear h b c f
 go_in
 have z:IntKind.i64.wrap ((J.P:Int)-J.us)=(J.P:Int)-J.us:=by rw [IntKind.wrap_i64];omega
 have A:IntKind.i64.wrap ((J.P:Int)-J.us-J.fr)=(J.P:Int)-J.us-J.fr:=by rw [IntKind.wrap_i64];omega
 go_wp2_with fail
 go_region_held3 (fun a=>a.cell? ⟨j,1,U⟩=R (ax r)/\a.cell? ⟨j,8,U⟩=R (Z V J.us)/\a.cell? ⟨j,9,U⟩=R (Z V J.fr)) (first|exact ⟨g,i,l⟩) (first
  | (go_at_call 234;(with_reducible apply o.mono);rintro e B ⟨rfl,rfl⟩))
 go_wp2
 go_ret
 exact ⟨rfl,(ah.whole w).drew,(ak.refl w).drew⟩
def Ux (S:Hp) (j d:Nat) (a:Int × Jr × aw) (F:ai) (w:Q) (e:Ending) (b:Q):Prop:=
 e = M (Z V a.1)/\ah b (nA j d a.2.1*(aD S d a.2.2*F))/\ak w b
def xk (w:Q) (S:Hp) (j d:Nat) (J:Jr) (D:aw) (F:ai) (h:ah w (nA j d J*(aD S d D*F))) (y:D.Ok) :
  Calls W 112 #[ax j] w (Ux S j d (J.flush D) F w):=by
 obtain ⟨r,t,l⟩:=h.sD;have c:w.cell? ⟨j,10,U⟩=R (.bool J.br):=l.cell 10;have m:w.cell? ⟨j,0,U⟩=R (ax d):=l.cell 0;have a:=mg w S d D _ h.aj y;clear l;unfold Jr.flush
 cases g:J.br with
 | true=>
  rw [g] at c;clear a
  go_in
  go_wp2
  go_ret
  exact ⟨rfl,h,ak.refl w⟩
 | false=>
  rw [g] at c
  by_cases b:D.flush.1=0
  .rw [if_neg Si0,if_pos b]
   rw [b] at a;clear h b g
   go_in
   go_wp2_with fail
   apply a.mono;rintro e p ⟨rfl,f,i⟩;clear a m c
   go_wp2
   go_ret
   exact ⟨rfl,f.aj,i⟩
  .rw [if_neg Si0,if_neg b]
   have u:(D.flush.1 == 0)=L:=by simpa using b
   generalize D.flush.1=v at a u;clear h b g
   go_in
   go_wp2_with fail
   apply a.mono;rintro e p ⟨rfl,f,i⟩;have o:=Cs p j d J _ f.aj;clear a m c f
   go_wp2_with fail
   apply o.mono;rintro e z ⟨rfl,x,q⟩;clear o
   go_wp2
   go_ret
   exact ⟨rfl,x,i.trans q⟩
def Vf (S:Hp) (j d r t:Nat) (a:(Int × List UInt8) × Jr × aw) (F:ai) (w:Q) (e:Ending) (c:Q):Prop:=
 ∃ b,e = M (Z' #[b,Z V a.1.1])/\ah c (nL 5 a.1 b*(j9 j d r t a.2.1*(aD S d a.2.2*(al S*F))))/\ak w c
def MR (S:Hp) (j d:Nat) (a:(Int × List UInt8) × Jr × aw) (F:ai) (w:Q) (e:Ending) (c:Q):Prop:=
 ∃ b,e = M (Z' #[b,Z V a.1.1])/\ah c (nL 5 a.1 b*(nA j d a.2.1*(aD S d a.2.2*(al S*F))))/\ak w c
def Tl {w:Q} {v:K} {l:List UInt8} {F:ai} (h:ah w (bs 5 v l*F)) (p:0<l.length) (q:l.length<=1000000) :
  ∃ g c,v = N (R ⟨g,0,U⟩) l.length c/\l.length<=c/\∀ o,o<l.length->w.cell? ⟨g,o,U⟩=R (u8 (l.getD o 0)):=by
 rcases h.cH with ⟨_,m,_⟩|⟨g,b,j,rfl,d,h4,h5,f,i⟩
 .omega
 .refine ⟨g,b,rfl,d,fun o a=>?_⟩
  rw [i.cell];have e:=congrArg (·[o]?) f;simp only [List.getElem?_take,Nat.mul_one,a,if_true,List.getElem?_map,Array.getElem?_toList] at e;rw [e,E4 a,B3,E4 a];rfl
def zD (D:aw) (a:Int) (h:(D.aG a).1=0):(D.aG a).2.length=512:=by
 unfold aw.aG at h ⊢
 split
 .exact bT _ _
 .rename_i c
  rw [c] at h;simp only at h
  split
  .rename_i b;rw [if_pos b] at h;cases h
  .exact bT _ _
def oh (D:aw) (a:Int) (h:(D.read a).1.1=0):(D.read a).1.2.length=512:=by
 unfold aw.read at h ⊢
 split
 .rename_i b
  rw [if_pos b] at h
  split
  .rename_i c;rw [if_pos c] at h;exact zD _ _ h
  .rename_i c;rw [if_neg c] at h;cases h
 .rename_i b;rw [if_neg b] at h;cases h
def zn (w:Q) (S:Hp) (j d r t:Nat) (J:Jr) (D:aw) (id place:Int) (F:ai) (o0:ah w (j9 j d r t J*(aD S d D*(al S*F)))) (hJ:J.Ok) (hD:D.Ok) :
  Calls W 202 #[ax j,Z V id,Z V place] w (Vf S j d r t (J.load D id place) F w):=by
 have hx:ah w (pt j (Y (J.cells d r t) 184 (0,0))*(bC r (bW J.P)*(bG t J.T*(aD S d D*(al S*F))))):=o0.to (by unfold j9;ac_rfl);have c0:w.cell? ⟨j,0,U⟩=R (ax d):=hx.cell 0;have c1:w.cell? ⟨j,1,U⟩=R (ax r):=hx.cell 1;have s0:=hJ.p0;have K0:=hJ.p1;have i0:=G1 w.drew r (bW J.P) place _ hx.aj.drew (by rw [aO];exact s0) (by rw [aO];omega);obtain ⟨k,hk,r0⟩:=oN place s0;rw [aO,hk,Int.toNat_natCast,yG r0,<- hk] at i0;obtain ⟨e0,o⟩:=Mn0 (J.load D id place)
 rw [<- o];have k0:=oh D (place%(J.P:Int)+1);obtain ⟨a,hR⟩:=Mn0 (D.read (place%(J.P:Int)+1))
 rw [<- hR] at k0
 have u0:∀ u,ah u (pt j (Y (J.cells d r t) 184 (0,0))*(bC r (bW J.P)*(bG t J.T*(aD S d D*(al S*F)))))->Calls W 191 #[ax d,Z V (place%(J.P:Int)+1)] u (nB S d a.2 a.1 (pt j (Y (J.cells d r t) 184 (0,0))*(bC r (bW J.P)*(bG t J.T*F))) u):=fun u h'=>by
  rw [hR];exact jx u S d D _ _ (h'.u00) hD
 unfold Jr.load at o;rw [<- hR] at o;have y:Hid (a.1.1≠0->e0=((2,[]),{ J with br:=G },a.2)):=fun q=>by rw [o];simp only [if_neg q]
 have z:Hid (a.1.1=0->bH a.1.2=U->e0=((2,[]),{ J with br:=G },a.2)):=fun q q2=>by rw [o];simp only [if_pos q,q2]
 have A:Hid (a.1.1=0->∀ t b,bH a.1.2=R (t,b)->t.id≠id->e0=((2,[]),{ J with br:=G },a.2)):=fun q t b q2 q3=>by rw [o];simp only [if_pos q,q2,if_neg q3]
 have B:Hid (a.1.1=0->∀ t b,bH a.1.2=R (t,b)->t.id=id->e0=((0,b),J,a.2)):=fun q t b q2 q3=>by rw [o];simp only [if_pos q,q2,if_pos q3]
 clear o;have f0:=ae u0;have l0:=ae k0;generalize place%(J.P:Int)+1=N0 at *;clear hk r0 u0 hR k0;obtain ⟨⟨rc,rl⟩,D'⟩:=a;simp only at l0 f0 y z A B
 go_in
 go_wp2_with fail
 go_region_held3 (fun u=>u.cell? ⟨j,0,U⟩=R (ax d)/\u.cell? ⟨j,1,U⟩=R (ax r)) (first|(with_reducible exact ⟨a0,a1⟩)|(with_reducible exact ⟨b0,b1⟩)|exact ⟨c0,c1⟩) (first
  | (go_at_call 236;(with_reducible apply i0.mono);rintro e w1 ⟨rfl,h1,d1⟩;have H1:=h1.cU (ah.drew hx);have a0:w1.cell? ⟨j,0,U⟩=R (ax d):=H1.cell 0;have a1:w1.cell? ⟨j,1,U⟩=R (ax r):=H1.cell 1;have x0:=f0.o w1 H1)
  | (go_at_call 191;(with_reducible apply x0.mono);rintro e w2 ⟨dv,rfl,h2,d2⟩;have b0:w2.cell? ⟨j,0,U⟩=R (ax d):=h2.aC.cell 0;have b1:w2.cell? ⟨j,1,U⟩=R (ax r):=h2.aC.cell 1))
 have D2:=((ak.refl w).drew.trans d1).trans d2;have h3:ah w2 (nL 5 (rc,rl) dv*(j9 j d r t J*(aD S d D'*(al S*F)))):=h2.to (by unfold j9;ac_rfl);clear o0 hx c0 c1 i0 h1 d1 H1 a0 a1 x0 d2 b0 b1 h2 f0
 by_cases d0:rc=0
 .subst d0
  have h4:=h3.n9;have hl:=l0.o rfl;obtain ⟨D0,m0,rfl,g0,h0⟩:=Tl h4 I I;rw [hl] at g0 h0
  have q0:m0<=maxLen:=by
   rcases h4.cH with ⟨hv,_⟩|⟨g',G0,H0,hv,h5,x,_⟩
   .cases hv
   .cases hv;exact x
  have p:=mO rl hl D0 m0 g0 q0 w2 h0;have Hl:=ae hl;rw [hl];clear h3 h0 hl g0 q0
  match hd:bH rl with
  | none=>
   rw [hd] at p;have f:=z.o rfl hd;clear hd y z A B
   go_wp2_with fail
   apply p.mono;rintro e w3 ⟨rfl,h5,E⟩;have l:=(h5.cU h4).right;have m:=l.alloc (Y Tg.zero.cells 250 (0,0));have i:=(D2.trans E).alloc (Y Tg.zero.cells 250 (0,0));have g:=oT _ j d r t J _ m.right;have c:=ae f;clear p h4 h5 l m f;simp only [Tg.cells,Tg.zero] at g i ⊢
   go_wp2_with fail
   apply g.mono;rintro e w4 ⟨rfl,x,X⟩;clear g
   go_wp2
   go_ret2
   refine ⟨N U 0 0,by rw [c.o];rfl,?_,i.trans X⟩;rw [c.o];exact ah.jH x (show (2:Int)≠0 by decide)
  | some (h,b)=>
   rw [hd] at p
   by_cases C:h.id=id
   .have f:=B.o rfl h b hd C
    have c:=ae f;have F0:(h.id != id)=L:=by simp [C]
    clear hd y z A B f C
    go_wp2_with fail
    apply p.mono;rintro e w3 ⟨v,rfl,h5,E⟩;have l:=(h5.under h4).fT;have m:=l.alloc (Y h.cells 250 (0,0));have i:=(D2.trans E).alloc (Y h.cells 250 (0,0));clear p h4 h5 l;simp only [Tg.cells] at m i ⊢
    go_wp2
    go_ret2
    refine ⟨v,by rw [c.o];rfl,?_,i⟩;rw [c.o];exact ah.tJ m.right
   .have f:=A.o rfl h b hd C
    have c:=ae f;have F0:(h.id != id)=G:=by simpa using C
    clear hd y z A B f C
    go_wp2_with fail
    apply p.mono;rintro e w3 ⟨v,rfl,h5,E⟩;have l:=(h5.under h4).right.right;have m:=l.alloc (Y h.cells 250 (0,0));have i:=(D2.trans E).alloc (Y h.cells 250 (0,0));have g:=oT _ j d r t J _ m.right;clear p h4 h5 l m;simp only [Tg.cells] at g i ⊢
    go_wp2_with fail
    apply g.mono;rintro e w4 ⟨rfl,x,X⟩;clear g
    go_wp2
    go_ret2
    refine ⟨N U 0 0,by rw [c.o];rfl,?_,i.trans X⟩;rw [c.o];exact ah.jH x (show (2:Int)≠0 by decide)
 .have L0:(rc == 0)=L:=by simpa using d0
  have f:=y.o d0;have c:=ae f;obtain ⟨rfl,h4⟩:=h3.xn d0;have g:=oT _ j d r t J _ h4;clear h3 h4 f y z A B d0
  go_wp2_with fail
  apply g.mono;rintro e w4 ⟨rfl,x,X⟩;clear g
  go_wp2
  go_ret2
  refine ⟨N U 0 0,by rw [c.o];rfl,?_,D2.trans X⟩;rw [c.o];exact ah.jH x (show (2:Int)≠0 by decide)
def vW (w:Q) (S:Hp) (j d:Nat) (J:Jr) (D:aw) (id place:Int) (F:ai) (h:ah w (nA j d J*(aD S d D*(al S*F)))) (g:J.Ok) (f:D.Ok) :
  Calls W 202 #[ax j,Z V id,Z V place] w (MR S j d (J.load D id place) F w):=by
 obtain ⟨r,t,i⟩:=h.IC;exact (zn w S j d r t J D id place F i g f).mono fun _ _ ⟨e,a,b,c⟩=>⟨e,a,ah.aj (b.aj.GJ),c⟩
def yJ (w:Q) (S:Hp) (j d:Nat) (J:Jr) (D:aw) (id:Int) (F:ai) (h:ah w (nA j d J*(aD S d D*(al S*F)))) (z:J.Ok) (y:D.Ok) :
  Calls W 122 #[ax j,Z V id] w (MR S j d (J.read D id) F w):=by
 obtain ⟨c0,t,c⟩:=h.sD;have C:w.cell? ⟨j,2,U⟩=R (ax t):=c.cell 2;have E:w.cell? ⟨j,3,U⟩=R (Z V J.n):=c.cell 3;have i:w.cell? ⟨j,10,U⟩=R (.bool J.br):=c.cell 10;have a:=N5 w t J.T id _ c.au;have b:=fun p=>vW w S j d J D id p F h z y;unfold Jr.read;clear c
 by_cases r:id<0
 .rw [if_pos (.inl r)]
  clear a b
  go_in
  go_wp2
  go_ret2
  exact ⟨_,rfl,ah.jH h (show (1:Int)≠0 by decide),ak.refl w⟩
 .by_cases u:J.n<=id
  .rw [if_pos (.inr u)]
   clear a b
   go_in
   go_wp2
   go_ret2
   exact ⟨_,rfl,ah.jH h (show (1:Int)≠0 by decide),ak.refl w⟩
  .rw [if_neg (by rintro (q|q) <;> contradiction)]
   cases l:J.br with
   | true=>
    rw [l] at i;rw [if_pos rfl];clear a b
    go_in
    go_wp2
    go_ret2
    exact ⟨_,rfl,ah.jH h (show (2:Int)≠0 by decide),ak.refl w⟩
   | false=>
    rw [l] at i;rw [if_neg Si0]
    cases f:told J.T.ps id with
    | none=>
     rw [f] at a;simp only
     have X:∀ w,(Instr.makeSlice 23 (Z V 480) (Z V 480)).run W w =
      .ok (N (R ⟨w.heap.size,0,U⟩) 480 480) (w.alloc (Y (dP (zs 480)) 5 (0,0))):=fm 480 I
     have x:=h.alloc (Y (dP (zs 480)) 5 (0,0));clear b f
     go_in
     go_wp2_with fail
     apply a.mono;rintro e A ⟨rfl,rfl⟩;unfold qR;clear a
     go_wp2
     go_ret2
     exact ⟨_,rfl,ah.tJ (rj (aX 480) x),(ak.refl w).alloc _⟩
    | some p=>
     rw [f] at a;simp only;have g:=b p;clear b f h;generalize J.load D id p=B at g ⊢
     go_in
     go_wp2_with fail
     apply a.mono;rintro e A ⟨rfl,rfl⟩;unfold qR;clear a
     go_wp2_with fail
     apply g.mono;rintro e w2 ⟨o,rfl,v,m⟩;clear g
     go_wp2
     go_ret2
     exact ⟨o,rfl,v,m⟩
end Go.Proofs.Nn
namespace Go.SL
open RowKit
structure Js where
 ep:Int
 st:Int
 sq:Int
 hd:Int
 us:Int
 at_:List Int
def Js.v (s:Js) (a:K):K:=.agg #[Z .u32 s.ep,Z O s.st,Z O s.sq,Z V s.hd,Z V s.us,a]
def nT (P hd v:Int):Int:=if hd-v<=0 then hd-v+P else hd-v
def Js.Ad (P:Int) (s:Js) (k:Nat):Prop:=
 s.at_.getD k 0=-1\/(0<=s.at_.getD k 0/\s.at_.getD k 0<P/\s.at_.getD k 0 ∉ s.at_.take k/\nT P s.hd (s.at_.getD k 0)<=s.us)
instance (P:Int) (s:Js) (k:Nat):Decidable (s.Ad P k):=by unfold Js.Ad;infer_instance
structure Js.rf (P:Int) (s:Js):Prop where
 ep:1<=s.ep
 sq:s.sq<=281474976710655
 Tp:1<=s.st
 bS:s.st<=s.sq+1
 Bf:0<=s.hd
 xL:s.hd<P
 uH:0<=s.us
 LV:s.us<=P
 n0:1<=s.at_.length
 n1:s.at_.length<=3840
 ok:∀ k,k<s.at_.length->s.Ad P k
def fN (l:List Int):Nat->KV
 | 0=>[]
 | k+1=>if l.getD k 0=-1 then fN l k else fN l k++[(l.getD k 0,Z V (k:Int))]
def FC (l:List Int) (k:Nat) (c:k<=l.length) (v:Int) (hv:v ≠ -1):v ∈ (fN l k).map Prod.fst↔v ∈ l.take k:=by
 induction k with
 | zero=>simp [fN]
 | succ k a=>
  have a:=a I
  have b:l.take (k+1)=l.take k++[l.getD k 0]:=by
   rw [List.take_add_one,B3,E4 I];rfl
  rw [b,fN]
  split
  .rename_i h;rw [a,h];simp [hv]
  .rw [G3,List.mem_append,List.mem_append,a];simp
def Cg {l:List Int} {k:Nat} (a:k<=l.length) {v:Int} (hv:v ≠ -1):(aA (fN l k) v).isSome=decide (v ∈ l.take k):=by
 rw [Bool.eq_iff_iff,decide_eq_true_iff,<- FC l k a v hv]
 cases h:aA (fN l k) v with
 | none=>simpa using eD.1 h
 | some x=>
  have b:v ∈ (fN l k).map Prod.fst:=Classical.byContradiction fun q=>by rw [eD.2 q] at h;cases h
  simp only [Option.isSome_some,b]
end Go.SL
namespace Go.Proofs.Nn
open RowKit SL
def Uw (B:Bool) (w:Q) (e:Ending) (a:Q):Prop:=e = M (.bool B)/\ah a (whole w)/\ak w a
def OO (P:Int) (s:Js) (n a m:Nat) (o:Obj) (w:Q) (u:K) (wr:Q):Prop:=
 ∃ k:Nat,k<=n/\u = Z V (k:Int)/\(∀ i,i<k->s.Ad P i)/\ah wr (mp m (fN s.at_ k)*(pt a o*whole w))/\ak w wr
def Fw (P:Int) (s:Js) (f0:K) (w:Q) (hP:P<=9223372036854775807) (R0:-9223372036854775808<=P) (hq:0<=s.sq) (hl:s.at_.length<=9223372036854775807) (d:pL w f0 s.at_) (B:Bool) (hB:B=G↔s.rf P) :
  Calls W 269 #[Z V P,s.v f0] w (Uw B w):=by
 have HB:=ae hB
 have no:Hid (¬ s.rf P->B=L):=fun h=>by
  cases hb:B
  .rfl
  .exact absurd (hB.1 hb) h
 clear hB;obtain ⟨n,m⟩:=Mn0 s.at_.length
 obtain ⟨u,A,D0⟩:∃ u A,f0 = N u n A:=by
  rcases d with ⟨_,_,rfl,h⟩|⟨g,o,c,rfl,_⟩
  .rw [m,h];exact ⟨_,_,rfl⟩
  .rw [m];exact ⟨_,_,rfl⟩
 subst D0;rw [<- m] at hl;have j:=ae m;clear m;unfold Js.v;have a:=(ah.whole w).alloc (Y #[Z .u32 s.ep,Z O s.st,Z O s.sq,Z V s.hd,Z V s.us,N u n A] 173 (0,0));have b:=(ak.refl w).alloc (Y #[Z .u32 s.ep,Z O s.st,Z O s.sq,Z V s.hd,Z V s.us,N u n A] 173 (0,0))
 by_cases h1:s.ep<1
 .have e:=no.o fun h=>by have:=h.ep;omega
  subst e
  go_in
  go_wp2
  go_ret
  exact ⟨rfl,a.right,b⟩
 by_cases h2:281474976710655<s.sq
 .have e:=no.o fun h=>by have:=h.sq;omega
  subst e
  go_in
  go_wp2
  go_ret
  exact ⟨rfl,a.right,b⟩
 by_cases h3:s.st<1
 .have e:=no.o fun h=>by have:=h.Tp;omega
  subst e
  go_in
  go_wp2
  go_ret
  exact ⟨rfl,a.right,b⟩
 have d1:IntKind.u64.wrap (s.sq+1)=s.sq+1:=by rw [IntKind.wrap_u64];omega
 by_cases h4:s.sq+1<s.st
 .have e:=no.o fun h=>by have:=h.bS;omega
  subst e
  go_in
  go_wp2
  go_ret
  exact ⟨rfl,a.right,b⟩
 by_cases h5:s.hd<0
 .have e:=no.o fun h=>by have:=h.Bf;omega
  subst e
  go_in
  go_wp2
  go_ret
  exact ⟨rfl,a.right,b⟩
 by_cases F:P<=s.hd
 .have e:=no.o fun h=>by have:=h.xL;omega
  subst e
  go_in
  go_wp2
  go_ret
  exact ⟨rfl,a.right,b⟩
 by_cases h7:s.us<0
 .have e:=no.o fun h=>by have:=h.uH;omega
  subst e
  go_in
  go_wp2
  go_ret
  exact ⟨rfl,a.right,b⟩
 by_cases h8:P<s.us
 .have e:=no.o fun h=>by have:=h.LV;omega
  subst e
  go_in
  go_wp2
  go_ret
  exact ⟨rfl,a.right,b⟩
 by_cases h9:n<1
 .have e:=no.o fun h=>by have:=h.n0;have:=j.o;omega
  subst e;obtain rfl:n=0:=I
  go_in
  go_wp2
  go_ret
  exact ⟨rfl,a.right,b⟩
 have N0:¬ (n:Int)<1:=I
 by_cases L0:3840<(n:Int)
 .have e:=no.o fun h=>by have:=h.n1;have:=j.o;omega
  subst e
  go_in
  go_wp2
  go_ret
  exact ⟨rfl,a.right,b⟩
 have K0:=@jg W _ _ _ underlying212;have S:=((a.alloc (.map #[] 0)).xw isMap_empty)
 have m0:=b.alloc (.map #[] 0);rw [World.size_alloc] at S;have S0:1<=P:=I
 go_in
 go_wp2
 generalize ((w.alloc (Y #[Z .u32 s.ep,Z O s.st,Z O s.sq,Z V s.hd,Z V s.us,N u n A] 173 (0,0))).alloc (.map #[] 0))=w2 at S m0 ⊢;generalize T0:w.heap.size=l at S ⊢;clear a b K0
 go_loopw [58] (fun o0 wr=>OO P s n l (l+1) (Y #[Z .u32 s.ep,Z O s.st,Z O s.sq,Z V s.hd,Z V s.us,N u n A] 173 (0,0)) w o0 wr) (fun o0 _=>n-(intOf o0).toNat)
 case atStart=>exact ⟨0,H7 _,rfl,fun i hi=>absurd hi (Nat.not_lt_zero i),S,m0⟩
 case round=>
  clear S m0;obtain ⟨k,hk,rfl,d0,p,D⟩:=hrel
  by_cases H0:k<n
  .have V0:(k:Int)<(n:Int):=I
   obtain ⟨g,o,rfl,F0⟩:∃ g o,u=R ⟨g,o,U⟩/\wr.cell? ⟨g,o+k,U⟩=R (Z V (s.at_.getD k 0)):=by
    have m:=j.o;rcases d with ⟨_,_,h,h0⟩|⟨g,o,c,h,_,_,hc⟩
    .rw [h0] at m;simp at m;omega
    .injection h with e1 e2 e3
     exact ⟨g,o,e1,(p.t00 ((mp (l+1) (fN s.at_ k)*pt l _)*whole w)).bX (hc k I)⟩
   have g0:=p.aj;have b3:wr.cell? ⟨l,3,U⟩=R (Z V s.hd):=g0.cell 3;have b4:wr.cell? ⟨l,4,U⟩=R (Z V s.us):=g0.cell 4;have k0:=fun v hv=>Cg (l:=s.at_) (k:=k) (by have:=j.o;omega) (v:=v) hv;have y:fN s.at_ (k+1)=if s.at_.getD k 0=-1 then fN s.at_ k else fN s.at_ k++[(s.at_.getD k 0,Z V (k:Int))]:=rfl
   have X:s.Ad P k↔(s.at_.getD k 0=-1\/(0<=s.at_.getD k 0/\s.at_.getD k 0<P/\s.at_.getD k 0 ∉ s.at_.take k/\nT P s.hd (s.at_.getD k 0)<=s.us)):=Iff.rfl;have i0:¬ s.Ad P k->¬ s.rf P:=fun q h=>q (h.ok k (by have:=j.o;omega))
   have c0:s.Ad P k->∀ i,i<k+1->s.Ad P i:=fun q i hi=>by
    rcases Nat.lt_or_eq_of_le (Nat.lt_succ_iff.1 hi) with h|h
    .exact d0 i h
    .rw [h];exact q
   generalize s.at_.getD k 0=v at F0 y X;have C:=ah.lookup (P:=W) underlying212 underlying3 (z:=Z V 0) Kr0 p v G;clear d d0 g0
   by_cases hv:v=-1
   .have u0:=c0 (X.2 (.inl hv))
    rw [if_pos hv] at y;subst hv;have x0:=ae u0;have e0:=ae y;clear u0 y C k0 X i0 c0
    go_wp2
    go_roundw
    case rel=>exact ⟨k+1,I,by go_num,x0.o,by rw [e0.o];exact p,D⟩
    case measure=>simp [intOf];omega
   .have a1:(v == -1)=L:=by simpa using hv
    rw [if_neg hv] at y;have f:=k0 v hv;have e0:=ae y;have r:=ae X;have E:=ae i0;have q0:=ae c0;clear y X i0 c0 k0;have ho:=p.right.right
    by_cases Y0:v<0
    .have e:=no.o (E.o fun q=>by rcases r.o.1 q with q|q <;> omega)
     subst e;clear C f
     go_wp2
     go_ret
     exact ⟨rfl,ho,D⟩
    .by_cases Z0:P<=v
     .have e:=no.o (E.o fun q=>by rcases r.o.1 q with q|q <;> omega)
      subst e;clear C f
      go_wp2
      go_ret
      exact ⟨rfl,ho,D⟩
     .by_cases z:v ∈ s.at_.take k
      .have e:=no.o (E.o fun q=>by
        rcases r.o.1 q with q|q
        .exact hv q
        .exact q.2.2.1 z)
       subst e;rw [f,decide_eq_true z,if_pos rfl] at C;generalize (aA (fN s.at_ k) v).getD (Z V 0)=vv at C;clear f z
       go_wp2
       go_ret
       exact ⟨rfl,ho,D⟩
      .have l0:aA (fN s.at_ k) v=U:=by
        rw [decide_eq_false z] at f
        cases h:aA (fN s.at_ k) v with
        | none=>rfl
        | some x=>rw [h] at f;cases f
       rw [f,decide_eq_false z,if_pos rfl,l0,Option.getD_none] at C;obtain ⟨w6,W0,F,d6,ce⟩:=ah.mapUpdate (P:=W) underlying212 underlying3 p v (Z V (k:Int));have e6:SL.dM (fN s.at_ k) v (Z V (k:Int))=fN s.at_ k++[(v,Z V (k:Int))]:=by unfold SL.dM;rw [l0];rfl
       rw [e6,<- e0.o] at F;have c3:w6.cell? ⟨l,3,U⟩=R (Z V s.hd):=(ce.1 _).trans b3;have c4:w6.cell? ⟨l,4,U⟩=R (Z V s.us):=(ce.1 _).trans b4;have b1:IntKind.i64.wrap (s.hd-v)=s.hd-v:=by rw [IntKind.wrap_i64];omega
       have D6:=D.trans d6;have h7:=F.right.right;have H6:=ae F;have r0:=ae z;clear f l0 ce e6 F z ho
       by_cases s0:s.hd-v<=0
       .have c1:IntKind.i64.wrap (s.hd-v+P)=s.hd-v+P:=by rw [IntKind.wrap_i64];omega
        have d:nT P s.hd v=s.hd-v+P:=by unfold nT;rw [if_pos s0]
        by_cases G0:s.us<s.hd-v+P
        .have e:=no.o (E.o fun q=>by rcases r.o.1 q with q|q <;> omega)
         subst e;clear d
         go_wp2
         go_ret
         exact ⟨rfl,h7,D6⟩
        .have Hx:=ae (q0.o (r.o.2 (.inr ⟨I,I,r0.o,I⟩)))
         clear d
         go_wp2
         go_roundw
         case rel=>exact ⟨k+1,I,by go_num,Hx.o,H6.o,D6⟩
         case measure=>simp [intOf];omega
       .have d:nT P s.hd v=s.hd-v:=by unfold nT;rw [if_neg s0]
        by_cases G0:s.us<s.hd-v
        .have e:=no.o (E.o fun q=>by rcases r.o.1 q with q|q <;> omega)
         subst e;clear d
         go_wp2
         go_ret
         exact ⟨rfl,h7,D6⟩
        .have Hx:=ae (q0.o (r.o.2 (.inr ⟨I,I,r0.o,I⟩)))
         clear d
         go_wp2
         go_roundw
         case rel=>exact ⟨k+1,I,by go_num,Hx.o,H6.o,D6⟩
         case measure=>simp [intOf];omega
  .obtain rfl:k=n:=I
   have e:=HB.o.2 ⟨I,I,I,I,I,I,I,I,by have:=j.o;omega,by have:=j.o;omega,by rw [<- j.o];exact d0⟩;subst e;have h3:=p.right.right;clear d0 p d H0
   go_wp2
   go_ret
   exact ⟨rfl,h3,D⟩
end Go.Proofs.Nn
namespace Go.SL
open RowKit
def pL.under {w a:Q} {X:ai} {v:K} {l:List Int} (h:pL w v l) (i:ah a (X*whole w)):pL a v l:=by
 rcases h with h|⟨g,o,c,b,d,e,h4⟩
 .exact .inl h
 .exact .inr ⟨g,o,c,b,d,e,fun k f=>i.bX (h4 k f)⟩
def Tb.Rb {T:Tb} (h:T.Ok) (id:Int):(T.drop id).2.Ok:=by
 unfold Tb.drop
 split
 .refine ⟨by simpa using h.n,by simpa using h.m,fun v hv=>?_⟩
  simp only [List.length_set];rcases H3 hv with hv|hv
  .exact h.ps v hv
  .exact .inl hv
 .exact h
def Tb.O7 {T:Tb} (h:T.Ok) (id p:Int):(T.put id p).2.Ok:=by
 have hd:=Tb.Rb h id;have b:(T.drop id).2.os.length=T.os.length:=by unfold Tb.drop;split <;> simp
 unfold Tb.put
 split
 .rename_i a
  refine ⟨by simpa using hd.n,by simpa using hd.m,fun v hv=>?_⟩;simp only [List.length_set];rcases H3 hv with hv|hv
  .exact hd.ps v hv
  .right;rw [b,hv];exact ⟨a.2.2.1,a.2.2.2.1⟩
 .exact h
def Tb.oI (T:Tb) (id p:Int):(T.put id p).2.ps.length=T.ps.length/\(T.put id p).2.os.length=T.os.length:=by
 have a:(T.drop id).2.ps.length=T.ps.length:=by unfold Tb.drop;split <;> simp
 have b:(T.drop id).2.os.length=T.os.length:=by unfold Tb.drop;split <;> simp
 unfold Tb.put
 split
 .simp [a,b]
 .exact ⟨rfl,rfl⟩
def j5 (P:Nat) (l:List Int):Nat->Tb
 | 0=>Tb.fresh l.length P
 | k+1=>if 0<=l.getD k 0 then ((j5 P l k).put (k:Int) (l.getD k 0)).2 else j5 P l k
def AX (P:Nat) (l:List Int) (k:Nat):(j5 P l k).ps.length=l.length/\(j5 P l k).os.length=P:=by
 induction k with
 | zero=>simp [j5,Tb.fresh]
 | succ k a=>
  rw [j5]
  split
  .rw [(Tb.oI _ _ _).1,(Tb.oI _ _ _).2];exact a
  .exact a
def Md (P:Nat) (l:List Int) (b:P<=1048576) (c:l.length<=1048576) (k:Nat):(j5 P l k).Ok:=by
 induction k with
 | zero=>exact ⟨by simpa [j5,Tb.fresh] using c,by simpa [j5,Tb.fresh] using b,fun v hv=>.inl (List.eq_of_mem_replicate hv)⟩
 | succ k a=>
  rw [j5]
  split
  .exact Tb.O7 a _ _
  .exact a
def nn (P k:Nat):List Int:=(D7 k).map (fun i:Nat=>(i:Int)+1)++List.replicate (P-k) 0
def su {P k:Nat} (h:k<=P):(nn P k).length=P:=by simp [nn];omega
def Fg {P k:Nat} (h:k<P):(nn P k).set ((k:Int)%((nn P k).length:Int)).toNat ((k:Int)+1)=nn P (k+1):=by
 rw [su I,Int.emod_eq_of_lt I I,Int.toNat_natCast];unfold nn;have e:P-k=(P-(k+1))+1:=I
 rw [e,List.replicate_succ,List.set_append_right _ _ Si0,E3];simp
def Ky (P:Nat):nn P P=bW P:=by simp [nn,bW]
def Jr.px (P:Nat) (s:Js):Jr:=⟨P,j5 P s.at_ s.at_.length,s.at_.length,s.ep,s.st,s.sq,s.hd,s.us,0,L⟩
def Jr.NB {P:Nat} {s:Js} (h:s.rf P) (b:1<=P) (c:P<=20000):(Jr.px P s).Ok:=by
 have a:=AX P s.at_ s.at_.length;have:=h.n1;exact ⟨b,c,Md _ _ I I _,by rw [Jr.px];simp only;rw [a.1],a.2,h.uH,h.LV,h.Bf,h.xL,Int.le_refl _,by show (0:Int)<=48;decide⟩
end Go.SL
namespace Go.Proofs.Nn
open RowKit SL
def VD (d:Nat) (J:Jr) (w:Q) (e:Ending) (a:Q):Prop:=∃ j,e = M (Z' #[ax j,Z V 0])/\ah a (nA j d J*whole w)/\ak w a
def Ah (P:Nat) (s:Js) (n d r t:Nat):Array K:=#[ax d,ax r,ax t,Z V (n:Int),Z .u32 s.ep,Z O s.st,Z O s.sq,Z V s.hd,Z V s.us,Z V 0,.bool L]
def Rt (P:Nat) (s:Js) (n d j r t a:Nat) (o:Obj) (w:Q) (u:K) (wr:Q):Prop:=
 ∃ k:Nat,k<=P/\u = Z V (k:Int)/\ah wr (pt j (Y (Ah P s n d r t) 184 (0,0))*(bC r (nn P k)*(bG t (j5 P s.at_ 0)*(pt a o*whole w))))/\ak w wr
def Ql (P:Nat) (s:Js) (n d j r t a:Nat) (o:Obj) (w:Q) (u:K) (wr:Q):Prop:=
 ∃ k:Nat,k<=n/\u = Z V (k:Int)/\ah wr (pt j (Y (Ah P s n d r t) 184 (0,0))*(bC r (bW P)*(bG t (j5 P s.at_ k)*(pt a o*whole w))))/\ak w wr
def Py (w:Q) (x0:Hp) (d:Nat) (D:aw) (H0:ai) (hd:ah w (aD x0 d D*H0)) (P:Nat) (s:Js) (o0:K) (ha:pL w o0 s.at_) (L0:1<=P) (hP:P<=20000) (g1:P+1<=D.sec.length) (Z0:D.sec.length<=20000) (hq:0<=s.sq) (hr:s.rf P) :
  Calls W 200 #[ax d,Z V (P:Int),s.v o0] w (VD d (Jr.px P s) w):=by
 have V0:=hr.n1;have T0:=hr.n0;have Hr:=ae hr;obtain ⟨n,p⟩:=Mn0 s.at_.length
 have N0:∃ b f,o0 = N b n f:=by
  rcases ha with ⟨_,_,rfl,g0⟩|⟨g,o,c,rfl,_⟩
  .rw [p,g0];exact ⟨_,_,rfl⟩
  .rw [p];exact ⟨_,_,rfl⟩
 obtain ⟨b,f,rfl⟩:=N0;rw [<- p] at V0 T0;have Hn:=ae p;have h:=(ah.whole w).alloc (Y #[Z .u32 s.ep,Z O s.st,Z O s.sq,Z V s.hd,Z V s.us,N b n f] 173 (0,0));have q0:=(ak.refl w).alloc (Y #[Z .u32 s.ep,Z O s.st,Z O s.sq,Z V s.hd,Z V s.us,N b n f] 173 (0,0));have r0:=jw _ x0 d D _ (h.under hd).right;have e1:(1:Int)<=(P:Int):=I
 have d1:(P:Int)<=20000:=I
 have h1:(P:Int)<=(D.sec.length:Int)-1:=I
 have a1:(D.sec.length:Int)<=20000:=I
 have Y0:IntKind.i64.wrap ((D.sec.length:Int)-1)=(D.sec.length:Int)-1:=by rw [IntKind.wrap_i64];omega
 have l0:=Fw (P:Int) s (N b n f) _ I I hq (by rw [<- p];omega) (ha.under h) G ⟨fun _=>hr,fun _=>rfl⟩;have Ha:=ae ha;clear p hr hd ha hq;unfold Js.v at l0 ⊢;obtain ⟨a,D0⟩:=Mn0 w.heap.size
 go_in
 go_wp2_with fail
 rw [<- D0] at h ⊢;generalize w.alloc (Y #[Z .u32 s.ep,Z O s.st,Z O s.sq,Z V s.hd,Z V s.us,N b n f] 173 (0,0))=S at h q0 r0 l0 ⊢;have c0:S.cell? ⟨a,0,U⟩=R (Z .u32 s.ep):=h.cell 0;have c1:S.cell? ⟨a,1,U⟩=R (Z O s.st):=h.cell 1;have c2:S.cell? ⟨a,2,U⟩=R (Z O s.sq):=h.cell 2;have c3:S.cell? ⟨a,3,U⟩=R (Z V s.hd):=h.cell 3;have c4:S.cell? ⟨a,4,U⟩=R (Z V s.us):=h.cell 4;have c5:S.cell? ⟨a,5,U⟩=R (N b n f):=h.cell 5;clear D0
 go_wp2_with fail
 apply r0.mono;rintro d0 k1 ⟨rfl,rfl⟩;clear r0
 go_wp2_with fail
 apply l0.mono;rintro d0 E ⟨rfl,h2,d2⟩;have q:=h2.cU h;have D2:=q0.trans d2;have b0:E.cell? ⟨a,0,U⟩=R (Z .u32 s.ep):=q.cell 0;have b1:E.cell? ⟨a,1,U⟩=R (Z O s.st):=q.cell 1;have b2:E.cell? ⟨a,2,U⟩=R (Z O s.sq):=q.cell 2;have b3:E.cell? ⟨a,3,U⟩=R (Z V s.hd):=q.cell 3;have b4:E.cell? ⟨a,4,U⟩=R (Z V s.us):=q.cell 4;have b5:E.cell? ⟨a,5,U⟩=R (N b n f):=q.cell 5;clear l0 h2 d2 h q0 c0 c1 c2 c3 c4 c5 Y0;have F0:=tK P 0 E.drew L0 I;have G0:=fun w=>Gi n P w I I;have R2:=ae (ah.drew q);clear q
 go_wp2_with fail
 go_region_held3 (fun F=>F.cell? ⟨a,0,U⟩=R (Z .u32 s.ep)/\F.cell? ⟨a,1,U⟩=R (Z O s.st)/\F.cell? ⟨a,2,U⟩=R (Z O s.sq)/\F.cell? ⟨a,3,U⟩=R (Z V s.hd)/\F.cell? ⟨a,4,U⟩=R (Z V s.us)/\F.cell? ⟨a,5,U⟩=R (N b n f)) (first|(with_reducible exact ⟨f0,f1,f2,f3,f4,f5⟩)|(with_reducible exact ⟨bF _ _ _ _ f0,bF _ _ _ _ f1,bF _ _ _ _ f2,bF _ _ _ _ f3,bF _ _ _ _ f4,bF _ _ _ _ f5⟩)|(with_reducible exact ⟨e0,z,A,e3,e4,e5⟩)|exact ⟨b0,b1,b2,b3,b4,b5⟩) (first
  | (go_at_call 196;(with_reducible apply F0.mono);rintro d0 X ⟨r,rfl,h3,d3⟩;have x:=h3.under R2.o;have e0:X.cell? ⟨a,0,U⟩=R (Z .u32 s.ep):=x.aj.cell 0;have z:X.cell? ⟨a,1,U⟩=R (Z O s.st):=x.aj.cell 1;have A:X.cell? ⟨a,2,U⟩=R (Z O s.sq):=x.aj.cell 2;have e3:X.cell? ⟨a,3,U⟩=R (Z V s.hd):=x.aj.cell 3;have e4:X.cell? ⟨a,4,U⟩=R (Z V s.us):=x.aj.cell 4;have e5:X.cell? ⟨a,5,U⟩=R (N b n f):=x.aj.cell 5)
  | (go_at_call 270;(with_reducible apply (G0 _).mono);rintro d0 m ⟨t,rfl,h4,d4⟩;have y:=h4.under x;have f0:m.cell? ⟨a,0,U⟩=R (Z .u32 s.ep):=y.au.cell 0;have f1:m.cell? ⟨a,1,U⟩=R (Z O s.st):=y.au.cell 1;have f2:m.cell? ⟨a,2,U⟩=R (Z O s.sq):=y.au.cell 2;have f3:m.cell? ⟨a,3,U⟩=R (Z V s.hd):=y.au.cell 3;have f4:m.cell? ⟨a,4,U⟩=R (Z V s.us):=y.au.cell 4;have f5:m.cell? ⟨a,5,U⟩=R (N b n f):=y.au.cell 5))
 have H5:=y.alloc (Y (Ah P s n d r t) 184 (0,0));have D5:=((D2.drew.trans d3).trans d4).alloc (Y (Ah P s n d r t) 184 (0,0));clear h3 h4 F0 G0 d3 d4 D2 R2 x y e0 z A e3 e4 e5 f0 f1 f2 f3 f4 f5 b0 b1 b2 b3 b4 b5
 have H6:ah (m.alloc (Y (Ah P s n d r t) 184 (0,0))) (pt m.heap.size (Y (Ah P s n d r t) 184 (0,0))*(bC r (nn P 0)*(bG t (j5 P s.at_ 0)*(pt a (Y #[Z .u32 s.ep,Z O s.st,Z O s.sq,Z V s.hd,Z V s.us,N b n f] 173 (0,0))*whole w)))):=by
  have z:j5 P s.at_ 0=Tb.fresh n P:=by rw [Hn.o];rfl
  have A:nn P 0=List.replicate P 0:=rfl;rw [z,A];exact H5.u00
 clear H5;unfold Ah at D5 H6;generalize W0:(m.alloc (Y #[ax d,ax r,ax t,Z V (n:Int),Z .u32 s.ep,Z O s.st,Z O s.sq,Z V s.hd,Z V s.us,Z V 0,.bool L] 184 (0,0)))=w5 at D5 H6 ⊢;generalize m.heap.size=j at H6 ⊢;clear W0
 go_wp2
 go_loopw [55] (fun u wr=>Rt P s n d j r t a (Y #[Z .u32 s.ep,Z O s.st,Z O s.sq,Z V s.hd,Z V s.us,N b n f] 173 (0,0)) w u wr) (fun u _=>P-(intOf u).toNat)
 case atStart=>exact ⟨0,H7 _,rfl,H6,D5⟩
 case round=>
  clear H6 D5;obtain ⟨k,hk,rfl,e,B⟩:=hrel
  by_cases i0:k<P
  .have S0:(k:Int)<(P:Int):=I
   have j1:wr.cell? ⟨j,1,U⟩=R (ax r):=e.cell 1;have s0:=uV wr r (nn P k) (k:Int) ((k:Int)+1) _ e.aj (by rw [su hk];omega) (by rw [su hk];omega);rw [Fg i0] at s0;have i1:IntKind.i64.wrap ((k:Int)+1)=(k:Int)+1:=by rw [IntKind.wrap_i64];omega
   clear e
   go_wp2_with fail
   apply s0.mono;rintro d0 w6 ⟨rfl,h6,d6⟩;have l:=ae h6.aj;clear s0 h6
   go_wp2
   go_roundw
   case rel=>exact ⟨k+1,I,by go_num,l.o,B.trans d6⟩
   case measure=>simp [intOf];omega
  .obtain rfl:k=P:=I
   rw [Ky] at e;have h5:wr.cell? ⟨a,5,U⟩=R (N b n f):=e.aC.cell 5;have l:=ae e;clear e i0
   go_wp2
   go_loopw [70] (fun u wr=>Ql k s n d j r t a (Y #[Z .u32 s.ep,Z O s.st,Z O s.sq,Z V s.hd,Z V s.us,N b n f] 173 (0,0)) w u wr) (fun u _=>n-(intOf u).toNat)
   case atStart=>exact ⟨0,H7 _,rfl,l.o,B⟩
   case round=>
    clear l B h5;obtain ⟨i,hi,rfl,e,B⟩:=hrel;have j2:wr.cell? ⟨j,2,U⟩=R (ax t):=e.cell 2;have u0:=AX k s.at_ i;have m0:=Md k s.at_ I (by have:=Hn.o;omega) i
    by_cases i0:i<n
    .have S0:(i:Int)<(n:Int):=I
     obtain ⟨g,o,rfl,R0⟩:∃ g o,b=R ⟨g,o,U⟩/\wr.cell? ⟨g,o+i,U⟩=R (Z V (s.at_.getD i 0)):=by
      have p:=Hn.o;rcases Ha.o with ⟨_,_,g0,h0⟩|⟨g,o,c,g0,_,_,hc⟩
      .rw [h0] at p;simp at p;omega
      .injection g0 with z A e3
       exact ⟨g,o,z,(e.t00 ((pt j _*(bC r (bW k)*(bG t (j5 k s.at_ i)*pt a _)))*whole w)).bX (hc i I)⟩
     have C:j5 k s.at_ (i+1)=if 0<=s.at_.getD i 0 then ((j5 k s.at_ i).put (i:Int) (s.at_.getD i 0)).2 else j5 k s.at_ i:=rfl
     generalize s.at_.getD i 0=v at R0 C
     by_cases hv:0<=v
     .rw [if_pos hv] at C
      have k0:=fA wr t (j5 k s.at_ i) (i:Int) v _ e.au m0;rw [<- C] at k0;generalize ((j5 k s.at_ i).put (i:Int) v).1=pb at k0;clear e C u0 m0
      go_wp2_with fail
      apply k0.mono;rintro d0 w6 ⟨rfl,h6,d6⟩;have l:=ae h6.au;clear k0 h6
      go_wp2
      go_roundw
      case rel=>exact ⟨i+1,I,by go_num,l.o.u00,B.trans d6⟩
      case measure=>simp [intOf];omega
     .rw [if_neg hv] at C
      have l:=ae e;have K0:=ae C;clear e C u0 m0
      go_wp2
      go_roundw
      case rel=>exact ⟨i+1,I,by go_num,by rw [K0.o];exact l.o,B⟩
      case measure=>simp [intOf];omega
    .obtain rfl:i=n:=I
     have l:=ae e;clear e i0 u0 m0
     go_wp2
     go_ret2
     refine ⟨j,rfl,ah.z7 (r:=r) (t:=t) ?_,B⟩;have z:(Jr.px k s).cells d r t=Ah k s i d r t:=by unfold Jr.px Jr.cells Ah;rw [Hn.o]
     have A:(Jr.px k s).T=j5 k s.at_ i:=by rw [Hn.o];rfl
     rw [z,A];exact (ah.lv l.o).to (by unfold Jr.px;ac_rfl)
def Jr.jJ (J:Jr):List Int:=(D7 J.T.ps.length).map fun i:Nat=>(told J.T.ps (i:Int)).getD (-1)
end Go.Proofs.Nn
namespace Go.Proofs.Nn
open RowKit SL
attribute [local go_sem] Oper.semAt_some
theorem B7:(prog.info? 173).map (·.size)=R 6:=Kr0
def Jr.js (J:Jr):Js:=⟨J.ep,J.st,J.sq,J.hd,J.us,Jr.jJ J⟩
end Go.Proofs.Nn
