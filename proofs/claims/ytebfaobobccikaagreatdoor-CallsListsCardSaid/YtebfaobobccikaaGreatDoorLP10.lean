/- Steps. -/
import Derived.Test.YtebfaobobccikaaGreatDoorLP9
import Derived.Laws.EntriesVeiled
import Derived.Laws.Tables
import Derived.Laws.Rows
set_option linter.all false
set_option maxRecDepth 99999
set_option maxHeartbeats 0
open Go.SL
open Go.Value renaming int->Z,slice->Q,pointer->L,tuple->Z'
open Go.Obj renaming cells->Y
open Go.Ending renaming returned->O
open Go renaming World->R,Value->M
open Go.Proofs.Tryz renaming prog->W
open Option renaming some->U,none->V
open Bool renaming true->K,false->N
open Go.Proofs.Tryz
open List renaming getD->A2,length_drop->B2,length_append->E2,getElem?_eq_getElem->H2,range->J2,range_succ->K2,map_append->L2,mem_or_eq_of_mem_set->N2
open Nat renaming zero_le->M2
namespace Go.SL
open RowKit
structure Tg where
 ep:Int
 st:Int
 sq:Int
 fl:Int
 ix:Int
 ct:Int
 id:Int
def Tg.cells (t:Tg):Array M:=#[Z .u32 t.ep,Z .u64 t.st,Z .u64 t.sq,Z .u64 t.fl,Z .i64 t.ix,Z .i64 t.ct,Z .i64 t.id]
structure Tg.Fit (t:Tg):Prop where
 Us:0<=t.ep
 Ut:t.ep<4294967296
 Sg:0<=t.st
 aR:t.st<18446744073709551616
 Sl:0<=t.sq
 UH:t.sq<18446744073709551616
 VP:0<=t.fl
 VR:t.fl<18446744073709551616
def PX:Int:=1465012808
def Tg.ok (t:Tg):Bool:=decide (1<=t.ep) && decide (1<=t.st) && decide (t.st<=t.sq) && decide (t.sq<=281474976710655) && decide (t.fl<t.sq) &&
 decide (1<=t.ct) && decide (t.ct<=72) && decide (0<=t.ix) && decide (t.ix<t.ct) && decide (0<=t.id) && decide (t.id<3840)
def Gq (n:Int):Int:=n%18446744073709551616
def Tg.field (t:Tg):Nat->Int
 | 0=>PX
 | 1=>t.ep
 | 2=>t.sq
 | 3=>t.fl
 | 4=>t.st
 | 5=>Gq t.ix
 | 6=>Gq t.ct
 | 7=>Gq t.id
 | _=>0
def er:Nat->Nat
 | 0=>4
 | 1=>4
 | 2=>6
 | 3=>6
 | 4=>6
 | 5=>1
 | 6=>1
 | 7=>2
 | _=>2
structure Fb where
 b0:Nat
 b2:Nat
 b3:Nat
 b4:Nat
 b5:Nat
 b6:Nat
 b7:Nat
 b8:Nat
abbrev fm (f:Nat) (a:Array M):M:=.func (.func f) #[] a
def kz (b:Fb):Nat->Nat × Array M
 | 0=>(271,#[az b.b0])
 | 1=>(252,#[])
 | 2=>(273,#[az b.b2])
 | 3=>(273,#[az b.b3])
 | 4=>(273,#[az b.b4])
 | 5=>(275,#[az b.b5])
 | 6=>(275,#[az b.b6])
 | 7=>(275,#[az b.b7])
 | _=>(271,#[az b.b8])
def kB (b:Fb):Nat->Nat × Array M
 | 0=>(272,#[])
 | 1=>(253,#[])
 | 2=>(274,#[az b.b2])
 | 3=>(274,#[az b.b3])
 | 4=>(274,#[az b.b4])
 | 5=>(276,#[az b.b5])
 | 6=>(276,#[az b.b6])
 | 7=>(276,#[az b.b7])
 | _=>(272,#[])
def CQ (b:Fb) (k:Nat):Array M:=#[Z .i64 (er k),fm (kz b k).1 (kz b k).2,fm (kB b k).1 (kB b k).2]
def od (b:Fb):Array M:=#[Z .i64 4,fm (kz b 0).1 (kz b 0).2,fm (kB b 0).1 (kB b 0).2,Z .i64 4,fm (kz b 1).1 (kz b 1).2,fm (kB b 1).1 (kB b 1).2,
 Z .i64 6,fm (kz b 2).1 (kz b 2).2,fm (kB b 2).1 (kB b 2).2,Z .i64 6,fm (kz b 3).1 (kz b 3).2,fm (kB b 3).1 (kB b 3).2,Z .i64 6,fm (kz b 4).1 (kz b 4).2,fm (kB b 4).1 (kB b 4).2,
 Z .i64 1,fm (kz b 5).1 (kz b 5).2,fm (kB b 5).1 (kB b 5).2,Z .i64 1,fm (kz b 6).1 (kz b 6).2,fm (kB b 6).1 (kB b 6).2,Z .i64 2,fm (kz b 7).1 (kz b 7).2,fm (kB b 7).1 (kB b 7).2,
 Z .i64 2,fm (kz b 8).1 (kz b 8).2,fm (kB b 8).1 (kB b 8).2]
def qh (b:Fb):M:=.agg (od b)
def dh (b:Fb):ai:=
 pt b.b0 (Y #[Z .u64 1465012808] 166 (0,0))*(pt b.b2 (Y #[fm 255 #[]] 313 (0,0))*(pt b.b3 (Y #[fm 256 #[]] 313 (0,0))*(pt b.b4 (Y #[fm 257 #[]] 313 (0,0)) *
  (pt b.b5 (Y #[fm 259 #[]] 316 (0,0))*(pt b.b6 (Y #[fm 260 #[]] 316 (0,0))*(pt b.b7 (Y #[fm 261 #[]] 316 (0,0))*pt b.b8 (Y #[Z .u64 0] 166 (0,0))))))))
end Go.SL
namespace Go.Proofs.Nn
open RowKit SL
def Qv (c n:Int) (w:R) (e:Ending) (a:R):Prop:=
 ∃ b,e = O (.agg #[Z .i64 c,fm 271 #[az b],fm 272 #[]])/\ag a (pt b (Y #[Z .u64 n] 166 (0,0))*whole w)/\aj w a
theorem xf (a n:Int) (w:R):Calls W 251 #[Z .i64 a,Z .u64 n] w (Qv a n w):=by
 have b:=(ag.whole w).alloc (Y #[Z .u64 n] 166 (0,0));have c:=(aj.refl w).alloc (Y #[Z .u64 n] 166 (0,0))
 go_enter func251,ntmps251
 go_wp2
 exact bodyPost_ret (v:=.agg #[Z .i64 a,fm 271 #[az w.heap.size],fm 272 #[]]) (by simp [results,Tryz.results251,go_sem]) rfl ⟨_,rfl,SL.ag.right (SL.ag.alloc b _),c.alloc _⟩
def Tt (f:Nat) (w:R) (e:Ending) (a:R):Prop:=
 ∃ b,e = O (.agg #[Z .i64 6,fm 273 #[az b],fm 274 #[az b]])/\ag a (pt b (Y #[fm f #[]] 313 (0,0))*whole w)/\aj w a
theorem uW (f:Nat) (w:R):Calls W 254 #[fm f #[]] w (Tt f w):=by
 have a:=(ag.whole w).alloc (Y #[fm f #[]] 313 (0,0));have b:=(aj.refl w).alloc (Y #[fm f #[]] 313 (0,0))
 go_enter func254,ntmps254
 go_wp2
 exact bodyPost_ret (v:=.agg #[Z .i64 6,fm 273 #[az w.heap.size],fm 274 #[az w.heap.size]]) (by simp [results,Tryz.results254,go_sem]) rfl ⟨_,rfl,SL.ag.right (SL.ag.alloc a _),b.alloc _⟩
def RF (c:Int) (f:Nat) (w:R) (e:Ending) (a:R):Prop:=
 ∃ b,e = O (.agg #[Z .i64 c,fm 275 #[az b],fm 276 #[az b]])/\ag a (pt b (Y #[fm f #[]] 316 (0,0))*whole w)/\aj w a
theorem rO (a:Int) (f:Nat) (w:R):Calls W 258 #[Z .i64 a,fm f #[]] w (RF a f w):=by
 have b:=(ag.whole w).alloc (Y #[fm f #[]] 316 (0,0));have c:=(aj.refl w).alloc (Y #[fm f #[]] 316 (0,0))
 go_enter func258,ntmps258
 go_wp2
 exact bodyPost_ret (v:=.agg #[Z .i64 a,fm 275 #[az w.heap.size],fm 276 #[az w.heap.size]]) (by simp [results,Tryz.results258,go_sem]) rfl ⟨_,rfl,SL.ag.right (SL.ag.alloc b _),c.alloc _⟩
def N3 (w:R) (e:Ending) (a:R):Prop:=∃ b,e = O (qh b)/\ag a (dh b*whole w)/\aj w a
theorem yW:(prog.info? 291).map (·.size)=U 27:=by kernel_rfl
theorem sT (b:Fb):(prog.info? 291).map (·.size)=U (od b).size:=yW
theorem Af (b:Fb):(od b).all (·.oneCell')=K:=by
 simp [od,Value.oneCell',fm]
def rI:Array M:=#[Z .i64 0,.nilFunc,.nilFunc,Z .i64 0,.nilFunc,.nilFunc,Z .i64 0,.nilFunc,.nilFunc,Z .i64 0,.nilFunc,.nilFunc,Z .i64 0,.nilFunc,.nilFunc,Z .i64 0,.nilFunc,.nilFunc,Z .i64 0,.nilFunc,.nilFunc,Z .i64 0,.nilFunc,.nilFunc,Z .i64 0,.nilFunc,.nilFunc]
theorem ur (w:R):Calls W 233 #[] w (N3 w):=by
 have a:=(ag.whole w).alloc (Y rI 291 (0,0));have b:=(aj.refl w).alloc (Y rI 291 (0,0))
 go_enter func233,ntmps233
 go_wp2_with fail
 change Calls _ _ _ (w.alloc (Y rI 291 (0,0))) _;generalize w.alloc (Y rI 291 (0,0))=w0 at a b ⊢;generalize w.heap.size=z at a ⊢;refine (xf 4 1465012808 _).mono ?_;rintro e w1 ⟨b0,rfl,I,A⟩;have o:=I.under a;have f:=b.trans A;clear I A a b
 go_wp2_with fail
 refine (uW 255 _).mono ?_;rintro e w2 ⟨b2,rfl,S,B⟩;have p:=S.under o;have g:=f.trans B;clear S B o f
 go_wp2_with fail
 refine (uW 256 _).mono ?_;rintro e w3 ⟨b3,rfl,X,C⟩;have q:=X.under p;have h:=g.trans C;clear X C p g
 go_wp2_with fail
 refine (uW 257 _).mono ?_;rintro e w4 ⟨b4,rfl,h4,D⟩;have r:=h4.under q;have i:=h.trans D;clear h4 D q h
 go_wp2_with fail
 refine (rO 1 259 _).mono ?_;rintro e w5 ⟨b5,rfl,h5,E⟩;have u:=h5.under r;have j:=i.trans E;clear h5 E r i
 go_wp2_with fail
 refine (rO 1 260 _).mono ?_;rintro e w6 ⟨b6,rfl,h6,F⟩;have v:=h6.under u;have l:=j.trans F;clear h6 F u j
 go_wp2_with fail
 refine (rO 2 261 _).mono ?_;rintro e w7 ⟨b7,rfl,h7,G⟩;have x:=h7.under v;have m:=l.trans G;clear h7 G v l
 go_wp2_with fail
 refine (xf 2 0 _).mono ?_;rintro e w8 ⟨b8,rfl,h8,H⟩;have y:=h8.under x;have D8:=m.trans H;clear h8 H x m;obtain ⟨d,c0⟩:∃ d:Fb,d=⟨b0,b2,b3,b4,b5,b6,b7,b8⟩:=⟨_,rfl⟩
 have hz:w8.heap[z]?=U (Y rI 291 (0,0)):=y.kT.heap;have c:=y.kT.setRow (cs':=od d);have d0:=ae c0;clear c0
 go_wp2_with (refine wpList_store_row rfl 291 (.tmp 0) (.tmp 10) rfl z (od ⟨b0,b2,b3,b4,b5,b6,b7,b8⟩) rfl rfl 291 rI hz (sT _) rfl (Af _) ?_)
 rw [d0.out] at c;refine bodyPost_ret (v:=qh ⟨b0,b2,b3,b4,b5,b6,b7,b8⟩) (results_cell_row rfl _ _ z 291 _ (0,0) _ rfl c.heap underlying291 rfl (sT _)) rfl ⟨⟨b0,b2,b3,b4,b5,b6,b7,b8⟩,rfl,?_,D8.setRow _ _⟩;exact c.right.to (by unfold dh;ac_rfl)
theorem Vj (b:Nat) (w:R):Calls W 255 #[az b] w fun e a=>e = O (L (U ⟨b,2,V⟩))/\w=a:=by
 go_enter func255,ntmps255
 go_wp2
 go_ret
 exact ⟨rfl,rfl⟩
theorem Vk (b:Nat) (w:R):Calls W 256 #[az b] w fun e a=>e = O (L (U ⟨b,3,V⟩))/\w=a:=by
 go_enter func256,ntmps256
 go_wp2
 go_ret
 exact ⟨rfl,rfl⟩
theorem Vn (b:Nat) (w:R):Calls W 257 #[az b] w fun e a=>e = O (L (U ⟨b,1,V⟩))/\w=a:=by
 go_enter func257,ntmps257
 go_wp2
 go_ret
 exact ⟨rfl,rfl⟩
theorem Ve (b:Nat) (w:R):Calls W 259 #[az b] w fun e a=>e = O (L (U ⟨b,4,V⟩))/\w=a:=by
 go_enter func259,ntmps259
 go_wp2
 go_ret
 exact ⟨rfl,rfl⟩
theorem U8 (b:Nat) (w:R):Calls W 260 #[az b] w fun e a=>e = O (L (U ⟨b,5,V⟩))/\w=a:=by
 go_enter func260,ntmps260
 go_wp2
 go_ret
 exact ⟨rfl,rfl⟩
theorem at8 (b:Nat) (w:R):Calls W 261 #[az b] w fun e a=>e = O (L (U ⟨b,6,V⟩))/\w=a:=by
 go_enter func261,ntmps261
 go_wp2
 go_ret
 exact ⟨rfl,rfl⟩
theorem P1:∀ a w,(callFunc 271 a).run W w = .ok (.enter 271 a) w:=enters func271 (by kernel_rfl) rfl
theorem Qe:∀ a w,(callFunc 272 a).run W w = .ok (.enter 272 a) w:=enters func272 (by kernel_rfl) rfl
theorem Lh:∀ a w,(callFunc 273 a).run W w = .ok (.enter 273 a) w:=enters func273 (by kernel_rfl) rfl
theorem Kk:∀ a w,(callFunc 274 a).run W w = .ok (.enter 274 a) w:=enters func274 (by kernel_rfl) rfl
theorem JE:∀ a w,(callFunc 275 a).run W w = .ok (.enter 275 a) w:=enters func275 (by kernel_rfl) rfl
theorem Lk:∀ a w,(callFunc 276 a).run W w = .ok (.enter 276 a) w:=enters func276 (by kernel_rfl) rfl
theorem Ul:∀ a w,(callFunc 252 a).run W w = .ok (.enter 252 a) w:=enters func252 (by kernel_rfl) rfl
theorem Ss:∀ a w,(callFunc 253 a).run W w = .ok (.enter 253 a) w:=enters func253 (by kernel_rfl) rfl
theorem PR:∀ a w,(callFunc 255 a).run W w = .ok (.enter 255 a) w:=enters func255 (by kernel_rfl) rfl
theorem PU:∀ a w,(callFunc 256 a).run W w = .ok (.enter 256 a) w:=enters func256 (by kernel_rfl) rfl
theorem Qi:∀ a w,(callFunc 257 a).run W w = .ok (.enter 257 a) w:=enters func257 (by kernel_rfl) rfl
theorem Qh:∀ a w,(callFunc 259 a).run W w = .ok (.enter 259 a) w:=enters func259 (by kernel_rfl) rfl
theorem PD:∀ a w,(callFunc 260 a).run W w = .ok (.enter 260 a) w:=enters func260 (by kernel_rfl) rfl
theorem PT:∀ a w,(callFunc 261 a).run W w = .ok (.enter 261 a) w:=enters func261 (by kernel_rfl) rfl
theorem SI (b:Nat) (n:Int) (t:Tg) (w:R) (F:ai) (h:ag w (pt b (Y #[Z .u64 n] 166 (0,0))*F)) :
  Calls W 271 #[.agg t.cells,az b] w (lG (Z .u64 n) w):=by
 have a:w.cell? ⟨b,0,V⟩=U (Z .u64 n):=h.cell 0;have c:=h.lt;clear h;simp only [Tg.cells]
 go_enter func271,ntmps271
 go_wp2
 go_ret
 exact ⟨rfl,SL.ag.right (SL.ag.alloc (ag.whole w) _),(aj.refl w).alloc _⟩
theorem Uw (t:Tg) (w:R) (a:t.Fit):Calls W 252 #[.agg t.cells] w (lG (Z .u64 t.ep) w):=by
 obtain ⟨b,c,_,_,_,_,_,_⟩:=a;simp only [Tg.cells]
 go_enter func252,ntmps252
 go_wp2
 go_ret
 exact ⟨rfl,SL.ag.right (SL.ag.alloc (ag.whole w) _),(aj.refl w).alloc _⟩
theorem Rr (b f o:Nat) (n:Int) (t:Tg) (w:R) (F:ai) (h:ag w (pt b (Y #[fm f #[]] 313 (0,0))*F)) (m:∀ c w,(callFunc f c).run W w = .ok (.enter f c) w)
  (g:∀ (b:Nat) (w:R),Calls W f #[az b] w fun e j=>e = O (L (U ⟨b,o,V⟩))/\w=j) (d:t.cells[o]?=U (Z .u64 n)) :
  Calls W 273 #[.agg t.cells,az b] w (lG (Z .u64 n) w):=by
 have l:w.cell? ⟨b,0,V⟩=U (fm f #[]):=h.cell 0;have p:=h.lt;have a:=(ag.whole w).alloc (Y t.cells 244 (0,0));have i:=(a.cell o).trans d;clear h d;simp only [Tg.cells] at a i ⊢
 go_enter func273,ntmps273
 go_wp2_with fail
 refine (g _ _).mono ?_;rintro e q ⟨rfl,rfl⟩
 go_wp2
 go_ret
 exact ⟨rfl,SL.ag.right a,(aj.refl w).alloc _⟩
theorem Qr (b f o:Nat) (n:Int) (t:Tg) (w:R) (F:ai) (h:ag w (pt b (Y #[fm f #[]] 316 (0,0))*F)) (m:∀ c w,(callFunc f c).run W w = .ok (.enter f c) w)
  (g:∀ (b:Nat) (w:R),Calls W f #[az b] w fun e j=>e = O (L (U ⟨b,o,V⟩))/\w=j) (d:t.cells[o]?=U (Z .i64 n)) :
  Calls W 275 #[.agg t.cells,az b] w (lG (Z .u64 (Gq n)) w):=by
 have l:w.cell? ⟨b,0,V⟩=U (fm f #[]):=h.cell 0;have p:=h.lt;have a:=(ag.whole w).alloc (Y t.cells 244 (0,0));have i:=(a.cell o).trans d;clear h d;simp only [Tg.cells] at a i ⊢
 go_enter func275,ntmps275
 go_wp2_with fail
 refine (g _ _).mono ?_;rintro e q ⟨rfl,rfl⟩
 go_wp2
 go_ret
 exact ⟨rfl,SL.ag.right a,(aj.refl w).alloc _⟩
theorem fO {w:R} {b:Fb} {F:ai} (h:ag w (dh b*F)):ag w (pt b.b0 (Y #[Z .u64 1465012808] 166 (0,0))*(pt b.b2 (Y #[fm 255 #[]] 313 (0,0))*(pt b.b3 (Y #[fm 256 #[]] 313 (0,0))*(pt b.b4 (Y #[fm 257 #[]] 313 (0,0)) *
  (pt b.b5 (Y #[fm 259 #[]] 316 (0,0))*(pt b.b6 (Y #[fm 260 #[]] 316 (0,0))*(pt b.b7 (Y #[fm 261 #[]] 316 (0,0))*(pt b.b8 (Y #[Z .u64 0] 166 (0,0))*F)))))))):=h.to (by unfold dh;ac_rfl)
theorem Tw (b:Fb) (t:Tg) (k:Nat) (d:k<9) (e:t.Fit) :
  ∃ f c,kz b k=(f,c)/\(∀ a w,(callFunc f a).run W w = .ok (.enter f a) w) /\
   ∀ w F,ag w (dh b*F)->Calls W f (#[.agg t.cells]++c) w (lG (Z .u64 (t.field k)) w):=by
 match k,d with
 | 0,_=>exact ⟨_,_,rfl,P1,fun w F h=>SI b.b0 _ t w _ (fO h)⟩
 | 1,_=>exact ⟨_,_,rfl,Ul,fun w F h=>Uw t w e⟩
 | 2,_=>exact ⟨_,_,rfl,Lh,fun w F h=>Rr b.b2 _ 2 _ t w _ (fO h).ah PR Vj rfl⟩
 | 3,_=>exact ⟨_,_,rfl,Lh,fun w F h=>Rr b.b3 _ 3 _ t w _ (fO h).aw PU Vk rfl⟩
 | 4,_=>exact ⟨_,_,rfl,Lh,fun w F h=>Rr b.b4 _ 1 _ t w _ (fO h).aD Qi Vn rfl⟩
 | 5,_=>exact ⟨_,_,rfl,JE,fun w F h=>Qr b.b5 _ 4 _ t w _ (fO h).aM Qh Ve rfl⟩
 | 6,_=>exact ⟨_,_,rfl,JE,fun w F h=>Qr b.b6 _ 5 _ t w _ (fO h).dI PD U8 rfl⟩
 | 7,_=>exact ⟨_,_,rfl,JE,fun w F h=>Qr b.b7 _ 6 _ t w _ (fO h).bZ PT at8 rfl⟩
 | 8,_=>exact ⟨_,_,rfl,P1,fun w F h=>SI b.b8 _ t w _ (fO h).eu⟩
theorem jR (t:Tg) (w:R):Calls W 232 #[.agg t.cells] w (lG (.bool t.ok) w):=by
 simp only [Tg.cells]
 by_cases a:1<=t.ep
 .skip
  by_cases b:1<=t.st
  .skip
   by_cases d:t.st<=t.sq
   .skip
    by_cases e:t.sq<=281474976710655
    .skip
     by_cases f:t.fl<t.sq
     .skip
      by_cases g:1<=t.ct
      .skip
       by_cases h:t.ct<=72
       .skip
        by_cases i:0<=t.ix
        .skip
         by_cases j:t.ix<t.ct
         .skip
          by_cases l:0<=t.id
          .skip
           by_cases c:t.id<3840
           .skip
            rw [show t.ok=K by simp [Tg.ok,a,b,d,e,f,g,h,i,j,l,c]]
            go_enter func232,ntmps232
            go_wp2
            go_ret
            exact ⟨rfl,SL.ag.right (SL.ag.alloc (ag.whole w) _),(aj.refl w).alloc _⟩
           .rw [show t.ok=N by simp [Tg.ok,c]]
            have hd:decide (t.id<3840)=N:=by simpa using c
            go_enter func232,ntmps232
            go_wp2
            go_ret
            exact ⟨rfl,SL.ag.right (SL.ag.alloc (ag.whole w) _),(aj.refl w).alloc _⟩
          .rw [show t.ok=N by simp [Tg.ok,l]]
           have hd:decide (0<=t.id)=N:=by simpa using l
           go_enter func232,ntmps232
           go_wp2
           go_ret
           exact ⟨rfl,SL.ag.right (SL.ag.alloc (ag.whole w) _),(aj.refl w).alloc _⟩
         .rw [show t.ok=N by simp [Tg.ok,j]]
          have hd:decide (t.ix<t.ct)=N:=by simpa using j
          go_enter func232,ntmps232
          go_wp2
          go_ret
          exact ⟨rfl,SL.ag.right (SL.ag.alloc (ag.whole w) _),(aj.refl w).alloc _⟩
        .rw [show t.ok=N by simp [Tg.ok,i]]
         have hd:decide (0<=t.ix)=N:=by simpa using i
         go_enter func232,ntmps232
         go_wp2
         go_ret
         exact ⟨rfl,SL.ag.right (SL.ag.alloc (ag.whole w) _),(aj.refl w).alloc _⟩
       .rw [show t.ok=N by simp [Tg.ok,h]]
        have hd:decide (t.ct<=72)=N:=by simpa using h
        go_enter func232,ntmps232
        go_wp2
        go_ret
        exact ⟨rfl,SL.ag.right (SL.ag.alloc (ag.whole w) _),(aj.refl w).alloc _⟩
      .rw [show t.ok=N by simp [Tg.ok,g]]
       have hd:decide (1<=t.ct)=N:=by simpa using g
       go_enter func232,ntmps232
       go_wp2
       go_ret
       exact ⟨rfl,SL.ag.right (SL.ag.alloc (ag.whole w) _),(aj.refl w).alloc _⟩
     .rw [show t.ok=N by simp [Tg.ok,f]]
      have hd:decide (t.fl<t.sq)=N:=by simpa using f
      go_enter func232,ntmps232
      go_wp2
      go_ret
      exact ⟨rfl,SL.ag.right (SL.ag.alloc (ag.whole w) _),(aj.refl w).alloc _⟩
    .rw [show t.ok=N by simp [Tg.ok,e]]
     have hd:decide (t.sq<=281474976710655)=N:=by simpa using e
     go_enter func232,ntmps232
     go_wp2
     go_ret
     exact ⟨rfl,SL.ag.right (SL.ag.alloc (ag.whole w) _),(aj.refl w).alloc _⟩
   .rw [show t.ok=N by simp [Tg.ok,d]]
    have hd:decide (t.st<=t.sq)=N:=by simpa using d
    go_enter func232,ntmps232
    go_wp2
    go_ret
    exact ⟨rfl,SL.ag.right (SL.ag.alloc (ag.whole w) _),(aj.refl w).alloc _⟩
  .rw [show t.ok=N by simp [Tg.ok,b]]
   have hd:decide (1<=t.st)=N:=by simpa using b
   go_enter func232,ntmps232
   go_wp2
   go_ret
   exact ⟨rfl,SL.ag.right (SL.ag.alloc (ag.whole w) _),(aj.refl w).alloc _⟩
 .rw [show t.ok=N by simp [Tg.ok,a]]
  have hd:decide (1<=t.ep)=N:=by simpa using a
  go_enter func232,ntmps232
  go_wp2
  go_ret
  exact ⟨rfl,SL.ag.right (SL.ag.alloc (ag.whole w) _),(aj.refl w).alloc _⟩
end Go.Proofs.Nn
namespace Go.SL
open RowKit
def qz (t:Tg) (k:Nat):List UInt8:=(J2 k).flatMap fun i=>dx (t.field i) (er i)
theorem lu (t:Tg) (k:Nat):qz t (k+1)=qz t k++dx (t.field k) (er k):=by simp [qz,K2]
def enc (t:Tg):List UInt8:=qz t 9
theorem mW (k:Nat):er k<=6:=by
 unfold er
 split <;> omega
theorem AI (t:Tg) (k:Nat):(qz t k).length<=6*k:=by
 induction k with
 | zero=>simp [qz]
 | succ k a=>rw [lu,E2,bp];have:=mW k;omega
theorem dF (t:Tg):(enc t).length=32:=by
 simp [enc,qz,K2,bp,er]
end Go.SL
namespace Go.Proofs.Nn
open RowKit SL
theorem EU (b:Fb) (k:Nat) (a:k<9) (w:R):(Instr.index 291 (qh b) (Z .i64 (k:Int))).run W w = .ok (.agg (CQ b k)) w:=by
 obtain rfl|rfl|rfl|rfl|rfl|rfl|rfl|rfl|rfl:k=0\/k=1\/k=2\/k=3\/k=4\/k=5\/k=6\/k=7\/k=8:=by omega
 all_goals kernel_rfl
theorem nf {w:R} {v:M} {l:List UInt8} {x:UInt8} {F:ai} (h:ag w (bs 5 v l*F)) (z:l.length<=1000000) :
  ∃ b d,(Builtin.append_ #[22,22] 22 #[v,Q (U ⟨w.heap.size,0,V⟩) 1 1]).run W (w.alloc (Y #[u8 x] 5 (0,0))) = .ok b d/\ag d (bs 5 b (l++[x])*F)/\aj w d/\∃ a c,b = Q a (l.length+1) c:=by
 obtain ⟨A,o,y,q,m⟩:=info_parts gM;have f:=h.alloc (Y #[u8 x] 5 (0,0))
 have i:oG (w.alloc (Y #[u8 x] 5 (0,0))) 1 (Q (U ⟨w.heap.size,0,V⟩) 1 1) 1 [u8 x]:=
  ⟨rfl,.inr ⟨_,_,rfl,fun j u e=>by
   rw [Addr.add_lit,Nat.zero_add];exact (f.cell j).trans (by simpa using e)⟩⟩
 obtain ⟨b,d,p,g,r⟩:=ag.append (P:=W) (ty:=22) underlying22 o y q m rfl f.right i (by intro u e;rw [List.mem_singleton.1 e];rfl) (by unfold maxLen;omega) (by omega);refine ⟨b,d,p,g.to (by rw [bs,E2,L2];rfl),((aj.refl w).alloc _).trans r,aE g⟩
def SK (a:List UInt8) (n:Int) (s:Nat) (X:ai) (w0:R) (gk:Nat) (u6 u9 u29:M) (wr:R):Prop:=
 ∃ j:Nat,j<=s/\s-j<=gk/\u29 = Z .i64 (j:Int)/\u9 = Z .u64 (n/(256:Int) ^ j)/\ag wr (bs 5 u6 (a++dx n j)*X)/\aj w0 wr
def Qw (t:Tg) (b:Fb) (a:Nat) (X:ai) (w0:R) (gk:Nat) (u6 u20:M) (wr:R):Prop:=
 ∃ k:Nat,k<=9/\9-k<=gk/\u20 = Z .i64 (k:Int)/\ag wr (bs 5 u6 (qz t k)*(dh b*(pt a (Y t.cells 244 (0,0))*X)))/\aj w0 wr
def OA (l:List UInt8) (w:R) (e:Ending) (a:R):Prop:=∃ v,e = O (Z' #[v,Z .i64 0])/\ag a (bs 5 v l*whole w)/\aj w a
theorem B8 (t:Tg) (a:t.Fit) (k:Nat):0<=t.field k/\t.field k<18446744073709551616:=by
 obtain ⟨b,c,d,e,f,g,h,i⟩:=a;unfold Tg.field PX Gq
 split <;> omega
theorem lX (t:Tg) (ht:t.Fit) (L0:t.ok=K) (bv:M) (l:List UInt8) (hl:l.length=480) (w:R) (E:Rd w bv l) :
  Calls W 179 #[.agg t.cells,bv] w (OA (enc t++l) w):=by
 obtain ⟨ba,bc,rfl⟩:=E.shape;rw [hl] at E ⊢
 have k1:∀ w,(Instr.makeSlice 22 (Z .i64 0) (Z .i64 512)).run W w = .ok (Q (U ⟨w.heap.size,0,V⟩) 0 512) (w.alloc (Y (dP (zs 512)) 5 (0,0))):=fun w=>by
  obtain ⟨V0,B,X,G,hb⟩:=info_parts gM;have:=run_make (P:=W) w 22 5 V0 _ underlying22 B X .i64 .i64 0 512 (by omega) (by omega) (by rw [hb];omega) (by omega);rw [this,G];exact congrArg (fun k0=>Result.ok _ (w.alloc (Y k0 _ (0,0)))) (jC 512)
 have F:=jR t;rw [L0] at F;have q:=(ag.whole w).alloc (Y t.cells 244 (0,0));have G:=(aj.refl w).alloc (Y t.cells 244 (0,0));have Hl:=ae hl;have Hr:=ae E
 go_enter func179,ntmps179
 simp only [Tg.cells] at q F ⊢
 go_wp2_with fail
 refine (F _).mono ?_;rintro d0 w2 ⟨rfl,h2,d2⟩;have x:=h2.du q;have D2:=aj.trans G d2;generalize w.heap.size=g at x ⊢;have D:=x.lt
 go_wp2_with fail
 have y:=x.alloc (Y (dP (zs 512)) 5 (0,0));have D3:=D2.alloc (Y (dP (zs 512)) 5 (0,0));generalize q1:w2.alloc (Y (dP (zs 512)) 5 (0,0))=w3 at y D3 ⊢;generalize w2.heap.size=gb at y ⊢;refine (ur w3).mono ?_;rintro d0 w4 ⟨b,rfl,h4,d4⟩;have H4:=h4.under y;have D4:=D3.trans d4
 have e:ag w4 (bs 5 (Q (U ⟨gb,0,V⟩) 0 512) (qz t 0)*(dh b*(pt g (Y t.cells 244 (0,0))*whole w))):=by
  have:=ag.nj (sz:=1) (n:=0) (cap:=512) H4.ah (by omega) (by unfold maxLen;omega) (by simp [eO,bh]);exact this
 have C:=EU b;have g0:=Tw b t;generalize H0:qh b=fv at C;clear H0 H4
 go_wp2_with fail
 go_loopg [6,20] 9 (fun gk u6 u20 wr=>Qw t b g (whole w) w gk u6 u20 wr)
 case atStart=>exact ⟨0,by omega,by omega,rfl,e,D4⟩
 case round=>
  clear e D4;obtain ⟨x0,rfl⟩:∃ n,n=gk:=⟨gk,rfl⟩
  obtain ⟨k,hk,e1,rfl,a,m⟩:=hrel;have i1:=AI t k;have H:=aE a;obtain ⟨va,vc,rfl⟩:=H
  by_cases D:k<9
  .have j1:(k:Int)<9:=by omega
   have K0:=C k D;obtain ⟨f,u,hf,b1,f0⟩:=g0 k D ht;obtain ⟨i,h,e0⟩:∃ i h,kB b k=(i,h):=⟨_,_,rfl⟩
   simp only [CQ,hf,e0] at K0;have o1:(er k:Int)<=6:=by have:=mW k;omega
   have q:=a.alloc (Y #[Z .i64 (er k),fm f u,fm i h] 290 (0,0));have T0:=m.alloc (Y #[Z .i64 (er k),fm f u,fm i h] 290 (0,0));have c:∀ o,wr.cell? ⟨g,o,V⟩=t.cells[o]?:=fun o=>a.aw.cell o;have l0:=c 0;have m0:=c 1;have o0:=c 2;have q0:=c 3;have r0:=c 4;have s0:=c 5;have u0:=c 6;simp only [Tg.cells] at l0 m0 o0 q0 r0 s0 u0;have a1:=a.aw.lt;have G0:=f0 _ _ (q.aw.ah.ah);clear C g0 f0 c hf e0 a m
   go_wp2_with fail
   refine G0.mono ?_;rintro d0 w5 ⟨rfl,h5,d5⟩;have e:=h5.du q;have D5:=T0.trans d5;generalize wr.heap.size=b8 at e ⊢;have c8:=e.cell 0;obtain ⟨Y0,Z0⟩:=B8 t ht k;have c0:Hid (qz t (k+1)=qz t k++dx (t.field k) (er k)):=lu t k;generalize c1:t.field k=n at *;generalize m1:er k=d at *;generalize l1:qz t k=v at *;have H6:ag w5 (bs 5 (Q va v.length vc) (v++dx n 0)*(pt b8 (Y #[Z .i64 (d:Int),fm f u,fm i h] 290 (0,0))*(dh b*(pt g (Y t.cells 244 (0,0))*whole w)))):=e.ah.to (by simp only [dx,List.range_zero,List.map_nil,List.append_nil])
   go_wp2_with fail
   go_loopg [6,9,29] d (fun gk u6 u9 u29 wr=>SK v n d (pt b8 (Y #[Z .i64 (d:Int),fm f u,fm i h] 290 (0,0))*(dh b*(pt g (Y t.cells 244 (0,0))*whole w))) w gk u6 u9 u29 wr)
   case atStart=>exact ⟨0,by omega,by omega,rfl,by simp,H6,D5⟩
   case round=>
    obtain ⟨j,hj,d1,rfl,rfl,a,m⟩:=hrel;have h1:(v++dx n j).length<=60:=by rw [E2,bp];omega
    by_cases f1:j<d
    .have g1:(j:Int)<(d:Int):=by omega
     have hp:0<(256:Int) ^ j:=Int.pow_pos (by decide)
     have q2:n/(256:Int) ^ (j+1)=n/(256:Int) ^ j/256:=by
      rw [Int.pow_succ,Int.ediv_ediv,if_neg (fun hh=>absurd hh.1 (by omega)),Int.sub_zero]
     have h0:=Ak n j;obtain ⟨v',w6,r,p,A,a6,c6,rfl⟩:=nf (x:=UInt8.ofInt (n/(256:Int) ^ j)) a (by omega);have S:=zF (n/(256:Int) ^ j);rw [IntKind.wrap_u8] at S;rw [List.append_assoc,<- h0] at p;generalize hq:n/(256:Int) ^ j=r1 at *;rw [<- S] at r;have z:=ae r;have j0:=ae q2;clear r h0 S a hq q2 hp
     go_wp2_with (at_builtin;refine wpList_append_run z.out _ _ rfl rfl rfl rfl rfl ?_)
     go_roundg (gk-1)
     case measure=>omega
     case rel=>
      refine ⟨j+1,by omega,by omega,by go_num,by rw [j0.out],?_,m.trans A⟩;rw [E2] at p;exact p
    .obtain rfl:j=d:=by omega
     have H:=aE a;obtain ⟨a6,c6,rfl⟩:=H;rw [<- c0.out] at a;have H9:=a.iC
     go_wp2
     go_roundg (x0-1)
     case measure=>omega
     case rel=>
      refine ⟨k+1,by omega,by omega,by go_num,?_,m⟩
      first|exact H9|(rw [<- c0.out];exact H9)
  .obtain rfl:k=9:=by omega
   have N0:=oG.carry Hr.out fun X0 W0 I=>(a.right.right.right.nD.to (eX _ _)).cF I;obtain ⟨i0,B,X,S0,D0⟩:=info_parts gM
   have R0:oG wr 1 (Q ba 480 bc) 480 (l.map Go.SL.u8):=by
    have:=N0;unfold Rd at this;rwa [Hl.out] at this
   obtain ⟨v',w6,r,p,A⟩:=ag.append (P:=W) (ty:=22) underlying22 B X S0 D0 rfl a R0 (by
    intro W0 I;obtain ⟨s1,_,rfl⟩:=List.mem_map.1 I;rfl) (by unfold maxLen;omega) (by omega)
   have F0:ag w6 (bs 5 v' (enc t++l)*(dh b*(pt g (Y t.cells 244 (0,0))*whole w))):=p.to (by
    rw [bs,E2,L2,Hl.out];rfl)
   have z:=ae r
   go_wp2_with (at_builtin;refine wpList_append_run z.out _ _ rfl rfl rfl rfl rfl ?_)
   go_ret2
   exact ⟨v',rfl,F0.iC.iC,m.trans A⟩
end Go.Proofs.Nn
namespace Go.SL
open RowKit
def Tg.zero:Tg:=⟨0,0,0,0,0,0,0⟩
def Tg.set (t:Tg) (n:Int):Nat->Tg
 | 1=>{ t with ep:=n%4294967296 }
 | 2=>{ t with sq:=n }
 | 3=>{ t with fl:=n }
 | 4=>{ t with st:=n }
 | 5=>{ t with ix:=wrap64 n }
 | 6=>{ t with ct:=wrap64 n }
 | 7=>{ t with id:=wrap64 n }
 | _=>t
def l7 (k:Nat):Nat:=((J2 k).map er).sum
theorem rZ (k:Nat):l7 (k+1)=l7 k+er k:=by simp [l7,K2]
def iZ (l:List UInt8):Nat->Tg
 | 0=>Tg.zero
 | k+1=>(iZ l k).set (iM (l.drop (l7 k)) (er k)) k
end Go.SL
namespace Go.Proofs.Nn
open RowKit SL
def wz (b:Nat) (t:Tg) (F:ai) (w:R) (e:Ending) (a:R):Prop:=e = O (Z' #[])/\ag a (pt b (Y t.cells 244 (0,0))*F)/\aj w a
theorem TQ (b:Nat) (n:Int) (t:Tg) (w:R) (F:ai) (h:ag w (pt b (Y t.cells 244 (0,0))*F)) :
  Calls W 272 #[az b,Z .u64 n] w (wz b t F w):=by
 go_enter func272,ntmps272
 go_wp2
 go_end0
 exact ⟨rfl,h,aj.refl w⟩
theorem UZ (b:Nat) (n:Int) (t:Tg) (w:R) (F:ai) (h:ag w (pt b (Y t.cells 244 (0,0))*F)) :
  Calls W 253 #[az b,Z .u64 n] w (wz b (t.set n 1) F w):=by
 have d:=h.cell 0;have e:=h.frozen 0;have c:=h.setCell 0 (Z .u32 (n%4294967296));have a:=ae c
 go_enter func253,ntmps253
 go_wp2
 go_end0
 exact ⟨rfl,a.out,(aj.refl w).setCell _ _⟩
theorem GB (b c f o:Nat) (n v:Int) (t g:Tg) (w:R) (F:ai) (h:ag w (pt c (Y #[fm f #[]] 313 (0,0))*(pt b (Y t.cells 244 (0,0))*F))) (r:∀ a w,(callFunc f a).run W w = .ok (.enter f a) w)
  (i:∀ (b:Nat) (w:R),Calls W f #[az b] w fun e m=>e = O (L (U ⟨b,o,V⟩))/\w=m) (j:t.cells[o]?=U (Z .u64 v)) (l:t.cells.setIfInBounds o (Z .u64 n)=g.cells) :
  Calls W 274 #[az b,Z .u64 n,az c] w (wz b g (pt c (Y #[fm f #[]] 313 (0,0))*F) w):=by
 have p:=h.cell 0;have q:=(h.ah.cell o).trans j;have u:=h.ah.frozen o;have d:=h.ah.setCell o (Z .u64 n);rw [l] at d
 go_enter func274,ntmps274
 go_wp2_with fail
 refine (i _ _).mono ?_;rintro e x ⟨rfl,rfl⟩
 go_wp2
 go_end0
 exact ⟨rfl,d,(aj.refl w).setCell _ _⟩
theorem QS (b c f o:Nat) (n v:Int) (t g:Tg) (w:R) (F:ai) (h:ag w (pt c (Y #[fm f #[]] 316 (0,0))*(pt b (Y t.cells 244 (0,0))*F))) (r:∀ a w,(callFunc f a).run W w = .ok (.enter f a) w)
  (i:∀ (b:Nat) (w:R),Calls W f #[az b] w fun e m=>e = O (L (U ⟨b,o,V⟩))/\w=m) (j:t.cells[o]?=U (Z .i64 v)) (l:t.cells.setIfInBounds o (Z .i64 (wrap64 n))=g.cells) :
  Calls W 276 #[az b,Z .u64 n,az c] w (wz b g (pt c (Y #[fm f #[]] 316 (0,0))*F) w):=by
 have p:=h.cell 0;have q:=(h.ah.cell o).trans j;have u:=h.ah.frozen o;have d:=h.ah.setCell o (Z .i64 (wrap64 n));rw [l] at d
 go_enter func276,ntmps276
 go_wp2_with fail
 refine (i _ _).mono ?_;rintro e x ⟨rfl,rfl⟩
 go_wp2
 go_end0
 exact ⟨rfl,d,(aj.refl w).setCell _ _⟩
theorem T9 (a:Fb) (b:Nat) (t:Tg) (n:Int) (k:Nat) (v:k<9) :
  ∃ f l,kB a k=(f,l)/\(∀ j w,(callFunc f j).run W w = .ok (.enter f j) w) /\
   ∀ w F,ag w (dh a*(pt b (Y t.cells 244 (0,0))*F))->Calls W f (#[az b,Z .u64 n]++l) w (wz b (t.set n k) (dh a*F) w):=by
 have d:∀ {g:Tg} {i F:ai} {w:R} {e:Ending} {m:R} {c:Nat} {o:Obj},wz b g (pt c o*i) w e m->(pt b (Y g.cells 244 (0,0))*(pt c o*i)=pt b (Y g.cells 244 (0,0))*(dh a*F))->wz b g (dh a*F) w e m:=
  fun ⟨p,r,u⟩ e=>⟨p,r.to e,u⟩
 match k,v with
 | 0,_=>exact ⟨_,_,rfl,Qe,fun w F h=>TQ b n t w _ h.ah⟩
 | 1,_=>exact ⟨_,_,rfl,Ss,fun w F h=>UZ b n t w _ h.ah⟩
 | 2,_=>exact ⟨_,_,rfl,Kk,fun w F h=>(GB b a.b2 _ 2 n _ t (t.set n 2) w _ ((fO h).ah.kT.ah) PR Vj rfl rfl).mono fun _ _ q=>d q (by unfold dh;ac_rfl)⟩
 | 3,_=>exact ⟨_,_,rfl,Kk,fun w F h=>(GB b a.b3 _ 3 n _ t (t.set n 3) w _ ((fO h).aw.kT.ah) PU Vk rfl rfl).mono fun _ _ q=>d q (by unfold dh;ac_rfl)⟩
 | 4,_=>exact ⟨_,_,rfl,Kk,fun w F h=>(GB b a.b4 _ 1 n _ t (t.set n 4) w _ ((fO h).aD.kT.ah) Qi Vn rfl rfl).mono fun _ _ q=>d q (by unfold dh;ac_rfl)⟩
 | 5,_=>exact ⟨_,_,rfl,Lk,fun w F h=>(QS b a.b5 _ 4 n _ t (t.set n 5) w _ ((fO h).aM.kT.ah) Qh Ve rfl rfl).mono fun _ _ q=>d q (by unfold dh;ac_rfl)⟩
 | 6,_=>exact ⟨_,_,rfl,Lk,fun w F h=>(QS b a.b6 _ 5 n _ t (t.set n 6) w _ ((fO h).dI.kT.ah) PD U8 rfl rfl).mono fun _ _ q=>d q (by unfold dh;ac_rfl)⟩
 | 7,_=>exact ⟨_,_,rfl,Lk,fun w F h=>(QS b a.b7 _ 6 n _ t (t.set n 7) w _ ((fO h).bZ.kT.ah) PT at8 rfl rfl).mono fun _ _ q=>d q (by unfold dh;ac_rfl)⟩
 | 8,_=>exact ⟨_,_,rfl,Qe,fun w F h=>TQ b n t w _ h.ah⟩
theorem CF (l:List UInt8):∀ (n i:Nat) (a:List UInt8),l.length-i=n->ByteArray.toList.loop ⟨l.toArray⟩ i a=a.reverse++l.drop i:=by
 intro n
 induction n with
 | zero=>
  intro i a h;rw [ByteArray.toList.loop];have:¬ i<ByteArray.size ⟨l.toArray⟩:=by show ¬ i<l.toArray.size;simp;omega
  rw [if_neg this,List.drop_of_length_le (by omega)];simp
 | succ n c=>
  intro i a h;rw [ByteArray.toList.loop];have b:i<l.length:=by omega
  have:i<ByteArray.size ⟨l.toArray⟩:=by show i<l.toArray.size;simpa using b
  rw [if_pos this,c (i+1) _ (by omega),List.drop_eq_getElem_cons b];simp [ByteArray.get!,b]
theorem uP (l:List UInt8):(str l).toList=l:=by
 show ByteArray.toList.loop ⟨l.toArray⟩ 0 []=l
 rw [CF l _ 0 [] rfl];rfl
theorem qm (w:R) (v:M) (l:List UInt8) (h:Rd w v l):(convert 22 9 v).run W w = .ok (.string (str l)) w:=by
 have uq:∀ (l:List UInt8) (s:ByteArray),(l.map fun x=>(x.toNat:Int)).foldl (fun r n=>r.push (UInt8.ofNat n.toNat)) s=⟨s.data++l.toArray⟩:=by
  intro l
  induction l with
  | nil=>intro s;simp
  | cons a l g=>intro s;simp only [List.map_cons,List.foldl_cons,g];simp [ByteArray.push]
 obtain ⟨_,f⟩:=h;rcases f with ⟨rfl,d⟩|⟨a,c,rfl,e⟩
 .have:l=[]:=List.eq_nil_of_length_eq_zero d
  subst this;rw [run_convert_bytes_string w _ _ 5 V 0 0 underlying22 underlying5 underlying9]
  rfl
 .rw [run_convert_bytes_string w _ _ 5 (U a) _ c underlying22 underlying5 underlying9]
  have b:=run_loadCells_list (P:=W) (w:=w) a (l.map u8) e;rw [List.length_map] at b
  have:=run_bytesToString (P:=W) w a l.length c (l.map fun x=>(x.toNat:Int)) (by
   rw [b];simp [u8,Function.comp_def])
  rw [this,uq];simp [str]
theorem rV (t:Tg) (i:t.ok=N) (b:M) (l:List UInt8) (w:R) (m:Rd w b l) :
  Calls W 179 #[.agg t.cells,b] w (lG (Z' #[Q V 0 0,Z .i64 1]) w):=by
 have a:=jR t;rw [i] at a;have c:=(ag.whole w).alloc (Y t.cells 244 (0,0));have j:=(aj.refl w).alloc (Y t.cells 244 (0,0))
 go_enter func179,ntmps179
 simp only [Tg.cells] at c a ⊢
 go_wp2_with fail
 refine (a _).mono ?_;rintro e o ⟨rfl,h,g⟩;have f:=(h.du c).right;have d:=aj.trans j g
 go_wp2
 go_ret2
 exact ⟨rfl,f,d⟩
theorem IQ (w:R) (d e:M) (a b:List UInt8) (f:Rd w d a) (g:Rd w e b) :
  Calls W 250 #[d,e] w (uE (decide (a=b)) w):=by
 have i:=qm w d a f;have j:=qm w e b g
 by_cases c:a=b
 .subst c
  rw [show decide (a=a)=K by simp]
  go_enter func250,ntmps250
  go_wp2
  go_ret
  exact ⟨rfl,rfl⟩
 .rw [show decide (a=b)=N by simpa using c]
  have h:((str a).toList == (str b).toList)=N:=by
   rw [uP,uP];simpa using c
  go_enter func250,ntmps250
  go_wp2
  go_ret
  exact ⟨rfl,rfl⟩
end Go.Proofs.Nn
namespace Go.SL
open RowKit
def cT (l:List UInt8):Option (Tg × List UInt8):=
 if (iZ l 9).ok=K/\enc (iZ l 9)++l.drop 32=l then U (iZ l 9,l.drop 32) else V
theorem E3 (k:Nat) (h:k<=9):l7 k<=32:=by
 obtain rfl|rfl|rfl|rfl|rfl|rfl|rfl|rfl|rfl|rfl:k=0\/k=1\/k=2\/k=3\/k=4\/k=5\/k=6\/k=7\/k=8\/k=9:=by omega
 all_goals decide
theorem Pg (t:Tg) (n:Int) (k:Nat) (h:t.Fit) (j:0<=n) (l:n<18446744073709551616):(t.set n k).Fit:=by
 obtain ⟨a,b,c,d,e,f,g,i⟩:=h;unfold Tg.set
 split
 .exact ⟨Int.emod_nonneg _ (by decide),Int.emod_lt_of_pos _ (by decide),c,d,e,f,g,i⟩
 .exact ⟨a,b,c,d,j,l,g,i⟩
 .exact ⟨a,b,c,d,e,f,j,l⟩
 .exact ⟨a,b,j,l,e,f,g,i⟩
 all_goals exact ⟨a,b,c,d,e,f,g,i⟩
theorem MP (l:List UInt8) (k:Nat):(iZ l k).Fit:=by
 induction k with
 | zero=>exact (show Tg.zero.Fit from ⟨by decide,by decide,by decide,by decide,by decide,by decide,by decide,by decide⟩)
 | succ k j=>
  obtain ⟨a,b,c,d,e,f,g,h⟩:=j;obtain ⟨m,o⟩:=gZ (l.drop (l7 k)) (er k);have i:=xb (mW k);rw [iZ];have p:iM (l.drop (l7 k)) (er k)<18446744073709551616:=by omega
  clear o i;generalize iM (l.drop (l7 k)) (er k)=n at *;exact Pg (iZ l k) n k ⟨a,b,c,d,e,f,g,h⟩ m p
end Go.SL
namespace Go.Proofs.Nn
open RowKit SL
variable {w:R}
theorem wq {g o c:Nat} {l:List UInt8} (h:∀ i,i<l.length->w.cell? ⟨g,o+i,V⟩=U (u8 (l.getD i 0))):Rd w (Q (U ⟨g,o,V⟩) l.length c) l:=by
 refine ⟨by simp,.inr ⟨_,_,rfl,fun j u a=>?_⟩⟩;rw [Addr.add_lit];rw [List.getElem?_map] at a
 by_cases b:j<l.length
 .rw [H2 b] at a
  rw [h j b,<- a,A2,H2 b];rfl
 .rw [List.getElem?_eq_none (Nat.le_of_not_lt b)] at a;cases a
theorem Gc:(prog.info? 244).map (·.size)=U 7:=by kernel_rfl
theorem Cy (t:Tg):(prog.info? 244).map (·.size)=U t.cells.size:=Gc
theorem Fo (t:Tg):t.cells.all (·.oneCell')=K:=by simp [Tg.cells,Value.oneCell']
theorem nn {b:Array M} {c:Nat} {t:Tg} {v u:M} {F:ai} (g:b[2]?=U (az c)) (i:b[3]?=U v) (j:b[4]?=U u) (h:ag w (pt c (Y t.cells 244 (0,0))*F)) :
  (results Tryz.f231 b).run W w = .ok (Z' #[.agg t.cells,v,u]) w:=by
 have a:∀ o,w.cell? ⟨c,o,V⟩=t.cells[o]?:=fun o=>h.cell o;have z0:=a 0;have d:=a 1;have e:=a 2;have z3:=a 3;have z4:=a 4;have z5:=a 5;have f:=a 6;clear a h;simp only [Tg.cells] at z0 d e z3 z4 z5 f ⊢;simp [results,Tryz.results231,go_sem,g,i,j,z0,d,e,z3,z4,z5,f]
def Uo (l:List UInt8) (a:Nat) (s:Nat) (X:ai) (w0:R) (gk:Nat) (u9 u24:M) (wr:R):Prop:=
 ∃ j:Nat,j<=s/\s-j<=gk/\u24 = Z .i64 (j:Int)/\u9 = Z .u64 (iM (l.drop a) j)/\ag wr X/\aj w0 wr
def QF (l:List UInt8) (g a:Nat) (b:Fb) (b5:Nat) (X:ai) (w0:R) (gk:Nat) (u6 u19:M) (wr:R):Prop:=
 ∃ k:Nat,k<=9/\9-k<=gk/\u19 = Z .i64 (k:Int)/\u6 = Q (U ⟨g,l7 k,V⟩) (512-l7 k) (a-l7 k) /\
  ag wr (dh b*(pt b5 (Y (iZ l k).cells 244 (0,0))*X))/\aj w0 wr
def NG (o:Option (Tg × List UInt8)) (w:R) (e:Ending) (a:R):Prop:=
 match o with
 | some (t,l)=>∃ v,e = O (Z' #[.agg t.cells,v,Z .i64 0])/\ag a (bs 5 v l*whole w)/\aj w a
 | none=>e = O (Z' #[.agg Tg.zero.cells,Q V 0 0,Z .i64 4])/\ag a (whole w)/\aj w a
theorem pP (l:List UInt8) (hl:l.length=512) (g e:Nat) (g2:512<=e) (s1:e<=maxLen) (w:R) (hb:∀ o,o<512->w.cell? ⟨g,o,V⟩=U (u8 (l.getD o 0))) :
  Calls W 231 #[Q (U ⟨g,0,V⟩) 512 e] w (NG (cT l) w):=by
 have x:=((ag.whole w).alloc (Y Tg.zero.cells 244 (0,0))).alloc (Y Tg.zero.cells 244 (0,0));have hs:=((aj.refl w).alloc (Y Tg.zero.cells 244 (0,0))).alloc (Y Tg.zero.cells 244 (0,0));rw [World.size_alloc] at x;have Hb:=ae hb;clear hb s1
 go_enter func231,ntmps231
 go_wp2_with fail
 refine (ur _).mono ?_;rintro k0 w4 ⟨H,rfl,h4,d4⟩;have H4:=h4.under x;have D4:=aj.trans hs d4;clear h4 d4 x hs;generalize w.heap.size+1=b5 at H4 ⊢;generalize w.heap.size=a at H4 ⊢;have s0:=EU H;have K0:=fun t n k hk=>T9 H b5 t n k hk;generalize t1:qh H=fv at s0;clear t1
 go_wp2_with fail
 go_loopg [6,19] 9 (fun gk u6 u19 wr=>QF l g e H b5 (pt a (Y Tg.zero.cells 244 (0,0))*whole w) w gk u6 u19 wr)
 case atStart=>exact ⟨0,by omega,by omega,rfl,rfl,H4,D4⟩
 case round=>
  clear H4 D4;obtain ⟨q1,rfl⟩:∃ n,n=gk:=⟨gk,rfl⟩
  obtain ⟨k,hk,l2,rfl,rfl,d,y⟩:=hrel;have x1:=E3 k hk
  by_cases F0:k<9
  .have o2:(k:Int)<9:=by omega
   have u1:=s0 k F0;have y1:=E3 (k+1) (by omega);rw [rZ] at y1;obtain ⟨f2,j0,T0,j2,Z0⟩:=K0 (iZ l k) (iM (l.drop (l7 k)) (er k)) k F0;obtain ⟨h0,I,hf⟩:∃ h0 I,kz H k=(h0,I):=⟨_,_,rfl⟩
   simp only [CQ,hf,T0] at u1;have p2:(er k:Int)<=6:=by have:=mW k;omega
   have q2:er k<=6:=mW k;have x:=d.alloc (Y #[Z .i64 (er k),fm h0 I,fm f2 j0] 290 (0,0));have H0:=y.alloc (Y #[Z .i64 (er k),fm h0 I,fm f2 j0] 290 (0,0));have F:Hid (iZ l (k+1)=(iZ l k).set (iM (l.drop (l7 k)) (er k)) k):=rfl;have f1:Hid (l7 (k+1)=l7 k+er k):=rZ k;have k1:=ae Z0;clear s0 K0 hf T0 d y Z0;generalize z1:er k=E at *;generalize r:l7 k=h at *;clear z1 r
   go_wp2_with fail
   generalize wr.alloc (Y #[Z .i64 (E:Int),fm h0 I,fm f2 j0] 290 (0,0))=w5 at x H0 ⊢;generalize wr.heap.size=b8 at x ⊢;have c8:w5.cell? ⟨b8,0,V⟩=U (Z .i64 (E:Int)):=x.cell 0
   go_loopg [9,24] E (fun gk u9 u24 wr=>Uo l h E (pt b8 (Y #[Z .i64 (E:Int),fm h0 I,fm f2 j0] 290 (0,0))*(dh H*(pt b5 (Y (iZ l k).cells 244 (0,0))*(pt a (Y Tg.zero.cells 244 (0,0))*whole w)))) w gk u9 u24 wr)
   case atStart=>exact ⟨0,by omega,by omega,rfl,rfl,x,H0⟩
   case round=>
    clear x H0 c8;obtain ⟨j,hj,k2,rfl,rfl,d,y⟩:=hrel
    by_cases v1:j<E
    .have n2:(j:Int)<(E:Int):=by omega
     have i2:wr.cell? ⟨g,h+j,V⟩=U (Z .u8 ((l.getD (h+j) 0).toNat:Int)):=(d.right.right.right.right.nD.to (eX _ _)).cF (Hb.out (h+j) (by omega));have m2:(j:Int)<((512-h:Nat):Int):=by omega
     obtain ⟨r0,r1⟩:=gZ (l.drop h) j
     go_wp2_with fail
     go_roundg (gk-1)
     case measure=>omega
     case rel=>exact ⟨j+1,by omega,by omega,by go_num,by rw [OG l h j (by omega)],d,y⟩
    .obtain rfl:j=E:=by omega
     have c8:wr.cell? ⟨b8,0,V⟩=U (Z .i64 (j:Int)):=d.cell 0;have o1:wr.cell? ⟨b8,2,V⟩=U (fm f2 j0):=d.cell 2;have q:=k1.out wr _ d.aw.aw;clear v1
     go_wp2_with fail
     refine q.mono ?_;rintro k0 m ⟨rfl,u,G⟩;have f:=u;have D1:m.cell? ⟨b8,0,V⟩=U (Z .i64 (j:Int)):=f.aw.cell 0;have Y1:(j:Int)<=((512-h:Nat):Int):=by omega
     have Z1:j<=512-h:=by omega
     have a2:j<=e-h:=by omega
     have c2:512-h<=e-h:=by omega
     have d2:¬ e-h=j:=by omega
     have e2:¬ e-h-j=0:=by omega
     have u0:=y.trans G;clear q u G c8 o1 d y
     go_wp2
     go_roundg (q1-1)
     case measure=>omega
     case rel=>
      refine ⟨k+1,by omega,by omega,by go_num,by rw [f1.out,Nat.sub_sub,Nat.sub_sub],?_,u0⟩;rw [F.out];exact f.lF.ah
  .obtain rfl:k=9:=by omega
   have w1:l7 9=32:=by decide
   have Ht:=ae (MP l 9);rw [w1];have z:∀ o,wr.cell? ⟨b5,o,V⟩=(iZ l 9).cells[o]?:=fun o=>d.ah.cell o;have S:=z 0;have X:=z 1;have c0:=z 2;have d0:=z 3;have e0:=z 4;have f0:=z 5;have g0:=z 6;simp only [Tg.cells] at S X c0 d0 e0 f0 g0
   have V0:Rd wr (Q (U ⟨g,32,V⟩) 480 (e-32)) (l.drop 32):=by
    have D0:(l.drop 32).length=480:=by rw [B2,hl]
    have:=wq (w:=wr) (g:=g) (o:=32) (c:=e-32) (l:=l.drop 32) fun o l0=>by
     have hc:=(d.right.right.right.nD.to (eX _ _)).cF (Hb.out (32+o) (by omega));rw [hc];simp [A2]
    rwa [D0] at this
   have o0:∀ b,ag b (whole w)->Rd b (Q (U ⟨g,0,V⟩) 512 e) l:=fun b l0=>by
    have:=wq (w:=b) (g:=g) (o:=0) (c:=e) (l:=l) fun o hh=>by
     have hc:=(l0.nD.to (eX _ _)).cF (Hb.out o (by omega));rw [Nat.zero_add];exact hc
    rwa [hl] at this
   have e1:=ae o0;have N0:=ae V0;have Hl:=ae hl;have hz:∀ o,wr.cell? ⟨a,o,V⟩=Tg.zero.cells[o]?:=fun o=>d.aw.cell o;have b1:Hid ((iZ l 9).ok=N->cT l=V):=fun r=>by unfold cT;rw [if_neg];rintro ⟨h1,_⟩;rw [r] at h1;cases h1
   have c1:Hid ((iZ l 9).ok=K->enc (iZ l 9)++l.drop 32=l->cT l=U (iZ l 9,l.drop 32)):=fun h1 h2=>by unfold cT;rw [if_pos ⟨h1,h2⟩]
   have d1:Hid (¬ enc (iZ l 9)++l.drop 32=l->cT l=V):=fun h2=>by unfold cT;rw [if_neg];rintro ⟨_,h3⟩;exact h2 h3
   clear z o0 V0 s0 K0 x1 F0 hl;generalize iZ l 9=t at *
   cases r:t.ok with
   | false=>
    have C:cT l=V:=b1.out r;have F:=ae C;have q:=rV t r _ _ wr N0.out;clear C r;simp only [Tg.cells] at q
    go_wp2_with fail
    refine q.mono ?_;rintro k0 m ⟨rfl,u,G⟩;have f:=u.du d;clear q d S X c0 d0 e0 f0 g0 hz u;have L0:m.heap[a]?=U (Y Tg.zero.cells 244 (0,0)):=f.aw.heap;have H8:=f.aw.setRow (cs':=Tg.zero.cells);have G0:=(y.trans G).setRow a Tg.zero.cells
    go_wp2_with (refine wpList_store_row rfl 244 (.tmp 2) (.tmp 61) rfl a Tg.zero.cells rfl rfl 244 Tg.zero.cells L0 (Cy _) rfl (Fo _) ?_)
    refine bodyPost_ret (nn rfl rfl rfl H8) rfl ?_;rw [F.out];exact ⟨rfl,H8.right.right.right,G0⟩
   | true=>
    have q:=lX t Ht.out r _ _ (by rw [B2,Hl.out]) wr N0.out;have g1:=ae r;clear r;simp only [Tg.cells] at q
    go_wp2_with fail
    refine q.mono ?_;rintro k0 m ⟨v,rfl,u,G⟩;have f:=u.under d;have u0:=y.trans G;have R0:Rd m v (enc t++l.drop 32):=u.ss;have o0:=e1.out m f.right.right.right.right;have m0:=IQ m v _ _ _ R0 o0;clear q d S X c0 d0 e0 f0 g0 hz u G y R0 o0
    by_cases he:enc t++l.drop 32=l
    .rw [show decide (enc t++l.drop 32=l)=K by simpa using he] at m0
     have C:cT l=U (t,l.drop 32):=c1.out g1.out he;have F:=ae C;have B:∀ o,m.cell? ⟨b5,o,V⟩=t.cells[o]?:=fun o=>f.aw.cell o;have S:=B 0;have X:=B 1;have c0:=B 2;have d0:=B 3;have e0:=B 4;have f0:=B 5;have g0:=B 6;simp only [Tg.cells] at S X c0 d0 e0 f0 g0
     have i1:Hid (Rd m (Q (U ⟨g,32,V⟩) 480 (e-32)) (l.drop 32)):=by
      have D0:(l.drop 32).length=480:=by rw [B2,Hl.out]
      have:=wq (w:=m) (g:=g) (o:=32) (c:=e-32) (l:=l.drop 32) fun o l0=>by
       have hc:=(f.right.right.right.right.nD.to (eX _ _)).cF (Hb.out (32+o) (by omega));rw [hc];simp [A2]
      rwa [D0] at this
     clear B he C
     go_wp2_with (go_at_call 250;(with_reducible refine m0.mono ?_);rintro k0 c ⟨rfl,rfl⟩)
     obtain ⟨i0,hi,hz,Y0,S0⟩:=info_parts gM;obtain ⟨i,q0⟩:∃ m1,m1=pt b5 (Y t.cells 244 (0,0))*(dh H*whole w):=⟨_,rfl⟩
     have K7:ag m.drew (sl 5 1 (Q V 0 0) 0 []*(pt a (Y Tg.zero.cells 244 (0,0))*i)):=(ag.eQ (F:=pt a (Y Tg.zero.cells 244 (0,0))*i) (f.right.to (by rw [q0];ac_rfl)) _ _)
     have W0:oG m.drew 1 (Q (U ⟨g,32,V⟩) 480 (e-32)) 480 ((l.drop 32).map Go.SL.u8):=by
      have:=i1.out;unfold Rd at this;rwa [B2,Hl.out] at this
     obtain ⟨v',c,X0,h8,d8⟩:=ag.append (P:=W) (ty:=22) underlying22 hi hz Y0 S0 rfl K7 W0 (sJ _) (by unfold maxLen;omega) (by omega)
     have p:ag c (bs 5 v' (l.drop 32)*(pt a (Y Tg.zero.cells 244 (0,0))*i)):=h8.to (by
      rw [bs,B2,Hl.out];rfl)
     obtain ⟨A1,B1,rfl⟩:=aE p;have D:∀ o,c.cell? ⟨a,o,V⟩=Tg.zero.cells[o]?:=fun o=>p.ah.cell o;have r2:c.cell? ⟨a,0,V⟩=U (Z .u32 0):=D 0;have s2:c.cell? ⟨a,1,V⟩=U (Z .u64 0):=D 1;have t2:c.cell? ⟨a,2,V⟩=U (Z .u64 0):=D 2;have u2:c.cell? ⟨a,3,V⟩=U (Z .u64 0):=D 3;have v2:c.cell? ⟨a,4,V⟩=U (Z .i64 0):=D 4;have w2:c.cell? ⟨a,5,V⟩=U (Z .i64 0):=D 5;have x2:c.cell? ⟨a,6,V⟩=U (Z .i64 0):=D 6;have E1:c.frozen? ⟨a,0,V⟩=N:=p.ah.frozen 0;have H1:c.frozen? ⟨a,1,V⟩=N:=p.ah.frozen 1;have K1:c.frozen? ⟨a,2,V⟩=N:=p.ah.frozen 2;have L1:c.frozen? ⟨a,3,V⟩=N:=p.ah.frozen 3;have M1:c.frozen? ⟨a,4,V⟩=N:=p.ah.frozen 4;have N1:c.frozen? ⟨a,5,V⟩=N:=p.ah.frozen 5;have O1:c.frozen? ⟨a,6,V⟩=N:=p.ah.frozen 6;have K9:=((((((p.ah.setCell 0 (Z .u32 t.ep)).setCell 1 (Z .u64 t.st)).setCell 2 (Z .u64 t.sq)).setCell 3 (Z .u64 t.fl)).setCell 4 (Z .i64 t.ix)).setCell 5 (Z .i64 t.ct)).setCell 6 (Z .i64 t.id);have S9:=K9.right.right;have S8:=p.right.right;have S7:=K7.right.right;have A:∀ o b,ag b i->b.cell? ⟨b5,o,V⟩=t.cells[o]?:=fun o b l0=>(q0▸l0).cell o;have R1:∀ b,ag b i->b.cell? ⟨b5,0,V⟩=U (Z .u32 t.ep):=A 0;have S1:∀ b,ag b i->b.cell? ⟨b5,1,V⟩=U (Z .u64 t.st):=A 1;have T1:∀ b,ag b i->b.cell? ⟨b5,2,V⟩=U (Z .u64 t.sq):=A 2;have U1:∀ b,ag b i->b.cell? ⟨b5,3,V⟩=U (Z .u64 t.fl):=A 3;have V1:∀ b,ag b i->b.cell? ⟨b5,4,V⟩=U (Z .i64 t.ix):=A 4;have W1:∀ b,ag b i->b.cell? ⟨b5,5,V⟩=U (Z .i64 t.ct):=A 5;have X1:∀ b,ag b i->b.cell? ⟨b5,6,V⟩=U (Z .i64 t.id):=A 6;have j1:=ae X0;have a1:=ae q0;clear X0 A h8 D q0 hi hz Y0 S0 W0 K7 f m0 S X c0 d0 e0 f0 g0;have l1:=S9.drew
     go_region_held3 (fun b=>ag b i) (first|(with_reducible exact S7)|(with_reducible exact S8)|(with_reducible exact S9)|(with_reducible exact l1)) (first
      | (refine mK j1.out rfl _ _ rfl rfl (by rfl) (by rfl) ?_))
     go_wp2
     have x0:ag ((((((((c.setCell ⟨a,0,V⟩ (Z .u32 t.ep)).setCell ⟨a,1,V⟩ (Z .u64 t.st)).setCell ⟨a,2,V⟩ (Z .u64 t.sq)).setCell ⟨a,3,V⟩ (Z .u64 t.fl)).setCell ⟨a,4,V⟩ (Z .i64 t.ix)).setCell ⟨a,5,V⟩ (Z .i64 t.ct)).setCell ⟨a,6,V⟩ (Z .i64 t.id))) (pt a (Y t.cells 244 (0,0))*(bs 5 (Q A1 (l.length-32) B1) (l.drop 32)*i)):=by
      rw [B2] at K9;exact K9
     refine bodyPost_ret (nn rfl rfl rfl x0) rfl ?_;rw [F.out];refine ⟨_,rfl,?_,(((((((u0.drew.trans d8).setCell _ _).setCell _ _).setCell _ _).setCell _ _).setCell _ _).setCell _ _).setCell _ _⟩;rw [a1.out] at x0;exact x0.right.iC.iC
    .rw [show decide (enc t++l.drop 32=l)=N by simpa using he] at m0
     have C:cT l=V:=d1.out he;have F:=ae C;have L0:m.heap[a]?=U (Y Tg.zero.cells 244 (0,0)):=f.aD.heap;have H8:=f.aD.setRow (cs':=Tg.zero.cells);have G0:=u0.setRow a Tg.zero.cells;clear he C f
     go_wp2_with (first
      | (go_at_call 250;(with_reducible refine m0.mono ?_);rintro k0 c ⟨rfl,rfl⟩)
      | (refine wpList_store_row rfl 244 (.tmp 2) (.tmp 61) rfl a Tg.zero.cells rfl rfl 244 Tg.zero.cells L0 (Cy _) rfl (Fo _) ?_))
     refine bodyPost_ret (nn rfl rfl rfl H8) rfl ?_;rw [F.out];exact ⟨rfl,H8.right.right.right.right,G0⟩
end Go.Proofs.Nn
namespace Go.SL
open RowKit
variable {w:R} {F:ai}
structure Jr where
 P:Nat
 T:Tb
 n:Int
 ep:Int
 st:Int
 sq:Int
 hd:Int
 us:Int
 fr:Int
 br:Bool
def cE (P:Nat):List Int:=(J2 P).map fun i:Nat=>(i:Int)+1
theorem aV (P:Nat):(cE P).length=P:=by simp [cE]
theorem yq {P k:Nat} (h:k<P):(cE P).getD k 0=(k:Int)+1:=by simp [cE,A2,h]
def Jr.cells (J:Jr) (d r t:Nat):Array M:=
 #[az d,az r,az t,Z .i64 J.n,Z .u32 J.ep,Z .u64 J.st,Z .u64 J.sq,Z .i64 J.hd,Z .i64 J.us,Z .i64 J.fr,.bool J.br]
def jJ (j d r t:Nat) (J:Jr):ai:=pt j (Y (J.cells d r t) 183 (0,0))*(bX r (cE J.P)*bO t J.T)
def pH (j d:Nat) (J:Jr):ai:=ex fun x:Nat × Nat=>pt j (Y (J.cells d x.1 x.2) 183 (0,0))*(bX x.1 (cE J.P)*bO x.2 J.T)
structure Jr.Ok (J:Jr):Prop where
 p0:0<J.P
 p1:J.P<=20000
 T:J.T.Ok
 ps:(J.T.ps.length:Int)=J.n
 os:J.T.os.length=J.P
 EM:0<=J.us
 QL:J.us<=J.P
 Jk:0<=J.hd
 zR:J.hd<J.P
 U4:0<=J.fr
 VC:J.fr<=48
theorem ag.sr {j d:Nat} {J:Jr} (h:ag w (pH j d J*F)):∃ r t,ag w (pt j (Y (J.cells d r t) 183 (0,0))*(bX r (cE J.P)*(bO t J.T*F))):=by
 obtain ⟨x,h⟩:=ag.ax.1 h;exact ⟨x.1,x.2,h.to (by ac_rfl)⟩
theorem ag.y5 {j d r t:Nat} {J:Jr} (h:ag w (pt j (Y (J.cells d r t) 183 (0,0))*(bX r (cE J.P)*(bO t J.T*F)))):ag w (pH j d J*F):=
 ag.ax.2 ⟨(r,t),h.to (by ac_rfl)⟩
theorem ag.FJ {j d r t:Nat} {J:Jr} (h:ag w (jJ j d r t J*F)):ag w (pH j d J*F):=ag.ax.2 ⟨(r,t),h⟩
theorem ag.EO {j d:Nat} {J:Jr} (h:ag w (pH j d J*F)):∃ r t,ag w (jJ j d r t J*F):=by
 obtain ⟨x,h⟩:=ag.ax.1 h;exact ⟨x.1,x.2,h⟩
theorem ag.Oy {j d r t:Nat} {J:Jr} (h:ag w (pt j (Y (J.cells d r t) 183 (0,0))*(bX r (cE J.P)*(bO t J.T*F)))):ag w (jJ j d r t J*F):=h.to (by unfold jJ;ac_rfl)
theorem ag.FB {j d r t:Nat} {J:Jr} (h:ag w (jJ j d r t J*F)):ag w (pt j (Y (J.cells d r t) 183 (0,0))*(bX r (cE J.P)*(bO t J.T*F))):=h.to (by unfold jJ;ac_rfl)
def Jr.load (J:Jr) (D:aC) (id place:Int):(Int × List UInt8) × Jr × aC:=
 let a:=D.read (place%(J.P:Int)+1)
 if a.1.1=0 then
  match cT a.1.2 with
  | some (t,b)=>if t.id=id then ((0,b),J,a.2) else ((2,[]),{ J with br:=K },a.2)
  | none=>((2,[]),{ J with br:=K },a.2)
 else ((2,[]),{ J with br:=K },a.2)
def Jr.read (J:Jr) (D:aC) (id:Int):(Int × List UInt8) × Jr × aC:=
 if id<0\/J.n<=id then ((1,[]),J,D)
 else if J.br then ((2,[]),J,D)
 else match told J.T.ps id with
  | none=>((0,zs 480),J,D)
  | some p=>J.load D id p
def Jr.flush (J:Jr) (D:aC):Int × Jr × aC:=
 if J.br then (2,J,D) else if D.flush.1=0 then (0,J,D.flush.2) else (2,{ J with br:=K },D.flush.2)
end Go.SL
namespace Go.Proofs.Nn
open RowKit SL
def U6 (j d r t:Nat) (J:Jr) (v:M) (F:ai) (w:R) (e:Ending) (a:R):Prop:=e = O v/\ag a (jJ j d r t J*F)/\aj w a
theorem nR (w:R) (j d r t:Nat) (J:Jr) (F:ai) (h:ag w (jJ j d r t J*F)) :
  Calls W 174 #[az j] w (U6 j d r t { J with br:=K } (Z .i64 2) F w):=by
 have a:ag w (pt j (Y (J.cells d r t) 183 (0,0))*(bX r (cE J.P)*(bO t J.T*F))):=h.to (by unfold jJ;ac_rfl);have e:w.cell? ⟨j,10,V⟩=U (.bool J.br):=a.cell 10;have f:=a.frozen 10;have b:=a.setCell 10 (.bool K);have c:=ae b;clear h a b
 go_enter func174,ntmps174
 go_wp2
 go_ret
 exact ⟨rfl,ag.Oy (J:={ J with br:=K }) c.out,(aj.refl w).setCell _ _⟩
def Vt (j d:Nat) (J:Jr) (v:M) (F:ai) (w:R) (e:Ending) (a:R):Prop:=e = O v/\ag a (pH j d J*F)/\aj w a
theorem Ao (w:R) (j d:Nat) (J:Jr) (F:ai) (h:ag w (pH j d J*F)) :
  Calls W 174 #[az j] w (Vt j d { J with br:=K } (Z .i64 2) F w):=by
 obtain ⟨r,t,e⟩:=h.EO;exact (nR w j d r t J F e).mono fun _ _ ⟨a,b,c⟩=>⟨a,b.FJ,c⟩
theorem MV (w:R) (j d:Nat) (J:Jr) (F:ai) (h:ag w (pH j d J*F)) (m:J.Ok) :
  Calls W 134 #[az j] w (lG (Z .i64 ((J.P:Int)-J.us-J.fr)) w):=by
 obtain ⟨r,t,b⟩:=h.sr;have g:w.cell? ⟨j,1,V⟩=U (az r):=b.cell 1;have i:w.cell? ⟨j,8,V⟩=U (Z .i64 J.us):=b.cell 8;have l:w.cell? ⟨j,9,V⟩=U (Z .i64 J.fr):=b.cell 9;have c:=b.ah
 have f:∀ a,ag a (bX r (cE J.P)*(pt j (Y (J.cells d r t) 183 (0,0))*(bO t J.T*F)))->Calls W 178 #[az r] a (mE J.P a):=fun a h=>by
  have:=sM a r (cE J.P) _ h
  rwa [aV] at this
 obtain ⟨p0,p1,_,_,_,u0,u1,_,_,p,q⟩:=m;have x:=f w c;have o:=f w.drew c;have u:(J.P:Int)<=20000:=by omega
 have v:0<=(J.P:Int):=by omega
 have y:J.us<=20000:=by omega
 clear h b c f
 go_enter func134,ntmps134
 have z:IntKind.i64.wrap ((J.P:Int)-J.us)=(J.P:Int)-J.us:=by rw [IntKind.wrap_i64];omega
 have A:IntKind.i64.wrap ((J.P:Int)-J.us-J.fr)=(J.P:Int)-J.us-J.fr:=by rw [IntKind.wrap_i64];omega
 go_wp2_with fail
 go_region_held3 (fun a=>a.cell? ⟨j,1,V⟩=U (az r)/\a.cell? ⟨j,8,V⟩=U (Z .i64 J.us)/\a.cell? ⟨j,9,V⟩=U (Z .i64 J.fr)) (first|exact ⟨g,i,l⟩) (first
  | (go_at_call 178;(with_reducible refine o.mono ?_);rintro e B ⟨rfl,rfl⟩))
 go_wp2
 go_ret
 exact ⟨rfl,(ag.whole w).drew,(aj.refl w).drew⟩
def RB (S:Hp) (j d:Nat) (a:Int × Jr × aC) (F:ai) (w:R) (e:Ending) (b:R):Prop:=
 e = O (Z .i64 a.1)/\ag b (pH j d a.2.1*(aS S d a.2.2*F))/\aj w b
theorem uN (w:R) (S:Hp) (j d:Nat) (J:Jr) (D:aC) (F:ai) (h:ag w (pH j d J*(aS S d D*F))) (y:D.Ok) :
  Calls W 131 #[az j] w (RB S j d (J.flush D) F w):=by
 obtain ⟨r,t,l⟩:=h.sr;have c:w.cell? ⟨j,10,V⟩=U (.bool J.br):=l.cell 10;have m:w.cell? ⟨j,0,V⟩=U (az d):=l.cell 0;have a:=nY w S d D _ h.ah y;clear l;unfold Jr.flush
 cases g:J.br with
 | true=>
  rw [g] at c;clear a
  go_enter func131,ntmps131
  go_wp2
  go_ret
  exact ⟨rfl,h,aj.refl w⟩
 | false=>
  rw [g] at c
  by_cases b:D.flush.1=0
  .rw [if_neg (by simp),if_pos b]
   rw [b] at a;clear h b g
   go_enter func131,ntmps131
   go_wp2_with fail
   refine a.mono ?_;rintro e p ⟨rfl,f,i⟩;clear a m c
   go_wp2
   go_ret
   exact ⟨rfl,f.ah,i⟩
  .rw [if_neg (by simp),if_neg b]
   have u:(D.flush.1 == 0)=N:=by simpa using b
   generalize D.flush.1=v at a u;clear h b g
   go_enter func131,ntmps131
   go_wp2_with fail
   refine a.mono ?_;rintro e p ⟨rfl,f,i⟩;have o:=Ao p j d J _ f.ah;clear a m c f
   go_wp2_with fail
   refine o.mono ?_;rintro e z ⟨rfl,x,q⟩;clear o
   go_wp2
   go_ret
   exact ⟨rfl,x,i.trans q⟩
def RD (S:Hp) (j d r t:Nat) (a:(Int × List UInt8) × Jr × aC) (F:ai) (w:R) (e:Ending) (c:R):Prop:=
 ∃ b,e = O (Z' #[b,Z .i64 a.1.1])/\ag c (pN 5 a.1 b*(jJ j d r t a.2.1*(aS S d a.2.2*(aq S*F))))/\aj w c
def PY (S:Hp) (j d:Nat) (a:(Int × List UInt8) × Jr × aC) (F:ai) (w:R) (e:Ending) (c:R):Prop:=
 ∃ b,e = O (Z' #[b,Z .i64 a.1.1])/\ag c (pN 5 a.1 b*(pH j d a.2.1*(aS S d a.2.2*(aq S*F))))/\aj w c
theorem Tq {w:R} {v:M} {l:List UInt8} {F:ai} (h:ag w (bs 5 v l*F)) (r:0<l.length) (u:l.length<=1000000) :
  ∃ g c,v = Q (U ⟨g,0,V⟩) l.length c/\l.length<=c/\∀ o,o<l.length->w.cell? ⟨g,o,V⟩=U (u8 (l.getD o 0)):=by
 rcases h.cW with ⟨_,m,_⟩|⟨g,b,j,rfl,d,p,q,f,i⟩
 .omega
 .refine ⟨g,b,rfl,d,fun o a=>?_⟩
  rw [i.cell];have e:=congrArg (·[o]?) f;simp only [List.getElem?_take,Nat.mul_one,a,if_true,List.getElem?_map,Array.getElem?_toList] at e;rw [e,H2 a,A2,H2 a];rfl
theorem xO (D:aC) (a:Int) (h:(D.cy a).1=0):(D.cy a).2.length=512:=by
 unfold aC.cy at h ⊢
 split
 .exact cm _ _
 .rename_i c
  rw [c] at h;simp only at h
  split
  .rename_i b;rw [if_pos b] at h;cases h
  .exact cm _ _
theorem qF (D:aC) (a:Int) (h:(D.read a).1.1=0):(D.read a).1.2.length=512:=by
 unfold aC.read at h ⊢
 split
 .rename_i b
  rw [if_pos b] at h
  split
  .rename_i c;rw [if_pos c] at h;exact xO _ _ h
  .rename_i c;rw [if_neg c] at h;cases h
 .rename_i b;rw [if_neg b] at h;cases h
theorem xJ (w:R) (S:Hp) (j d r t:Nat) (J:Jr) (D:aC) (id place:Int) (F:ai) (l0:ag w (jJ j d r t J*(aS S d D*(aq S*F)))) (hJ:J.Ok) (hD:D.Ok) :
  Calls W 176 #[az j,Z .i64 id,Z .i64 place] w (RD S j d r t (J.load D id place) F w):=by
 have hx:ag w (pt j (Y (J.cells d r t) 183 (0,0))*(bX r (cE J.P)*(bO t J.T*(aS S d D*(aq S*F))))):=l0.to (by unfold jJ;ac_rfl);have c0:w.cell? ⟨j,0,V⟩=U (az d):=hx.cell 0;have c1:w.cell? ⟨j,1,V⟩=U (az r):=hx.cell 1;have q0:=hJ.p0;have G0:=hJ.p1;have h0:=FQ w.drew r (cE J.P) place _ hx.ah.drew (by rw [aV];exact q0) (by rw [aV];omega);obtain ⟨k,hk,o0⟩:=ov place q0;rw [aV,hk,Int.toNat_natCast,yq o0,<- hk] at h0;obtain ⟨G,u⟩:∃ G,G=J.load D id place:=⟨_,rfl⟩
 rw [<- u];have i0:=qF D (place%(J.P:Int)+1);obtain ⟨a,hR⟩:∃ a,a=D.read (place%(J.P:Int)+1):=⟨_,rfl⟩
 rw [<- hR] at i0
 have r0:∀ y,ag y (pt j (Y (J.cells d r t) 183 (0,0))*(bX r (cE J.P)*(bO t J.T*(aS S d D*(aq S*F)))))->Calls W 230 #[az d,Z .i64 (place%(J.P:Int)+1)] y (ny S d a.2 a.1 (pt j (Y (J.cells d r t) 183 (0,0))*(bX r (cE J.P)*(bO t J.T*F))) y):=fun y h'=>by
  rw [hR];exact nu y S d D _ _ (h'.to (by ac_rfl)) hD
 unfold Jr.load at u;rw [<- hR] at u;have A:Hid (a.1.1≠0->G=((2,[]),{ J with br:=K },a.2)):=fun q=>by rw [u];simp only [if_neg q]
 have B:Hid (a.1.1=0->cT a.1.2=V->G=((2,[]),{ J with br:=K },a.2)):=fun q q2=>by rw [u];simp only [if_pos q,q2]
 have C:Hid (a.1.1=0->∀ t b,cT a.1.2=U (t,b)->t.id≠id->G=((2,[]),{ J with br:=K },a.2)):=fun q t b q2 q3=>by rw [u];simp only [if_pos q,q2,if_neg q3]
 have E:Hid (a.1.1=0->∀ t b,cT a.1.2=U (t,b)->t.id=id->G=((0,b),J,a.2)):=fun q t b q2 q3=>by rw [u];simp only [if_pos q,q2,if_pos q3]
 clear u;have e0:=ae r0;have j0:=ae i0;generalize place%(J.P:Int)+1=K0 at *;clear hk o0 r0 hR i0;obtain ⟨⟨rc,rl⟩,D'⟩:=a;simp only at j0 e0 A B C E
 go_enter func176,ntmps176
 go_wp2_with fail
 go_region_held3 (fun y=>y.cell? ⟨j,0,V⟩=U (az d)/\y.cell? ⟨j,1,V⟩=U (az r)) (first|(with_reducible exact ⟨a0,a1⟩)|(with_reducible exact ⟨b0,b1⟩)|exact ⟨c0,c1⟩) (first
  | (go_at_call 180;(with_reducible refine h0.mono ?_);rintro e w1 ⟨rfl,h1,d1⟩;have H1:=h1.du (ag.drew hx);have a0:w1.cell? ⟨j,0,V⟩=U (az d):=H1.cell 0;have a1:w1.cell? ⟨j,1,V⟩=U (az r):=H1.cell 1;have s0:=e0.out w1 H1)
  | (go_at_call 230;(with_reducible refine s0.mono ?_);rintro e w2 ⟨dv,rfl,h2,d2⟩;have b0:w2.cell? ⟨j,0,V⟩=U (az d):=h2.aD.cell 0;have b1:w2.cell? ⟨j,1,V⟩=U (az r):=h2.aD.cell 1))
 have D2:=((aj.refl w).drew.trans d1).trans d2;have h3:ag w2 (pN 5 (rc,rl) dv*(jJ j d r t J*(aS S d D'*(aq S*F)))):=h2.to (by unfold jJ;ac_rfl);clear l0 hx c0 c1 h0 h1 d1 H1 a0 a1 s0 d2 b0 b1 h2 e0
 by_cases d0:rc=0
 .subst d0
  have f:=h3.uz;have hl:=j0.out rfl;obtain ⟨u0,k0,rfl,f0,g0⟩:=Tq f (by omega) (by omega);rw [hl] at f0 g0
  have m0:k0<=maxLen:=by
   rcases f.cW with ⟨hv,_⟩|⟨g',D0,F0,hv,i,z,_⟩
   .cases hv
   .cases hv;exact z
  have x:=pP rl hl u0 k0 f0 m0 w2 g0;have Hl:=ae hl;rw [hl];clear h3 g0 hl f0 m0
  match hd:cT rl with
  | none=>
   rw [hd] at x;have g:=B.out rfl hd;clear hd A B C E
   go_wp2_with fail
   refine x.mono ?_;rintro e w3 ⟨rfl,i,I⟩;have o:=(i.du f).right;have p:=o.alloc (Y Tg.zero.cells 244 (0,0));have m:=(D2.trans I).alloc (Y Tg.zero.cells 244 (0,0));have h:=nR _ j d r t J _ p.right;have c:=ae g;clear x f i o p g;simp only [Tg.cells,Tg.zero] at h m ⊢
   go_wp2_with fail
   refine h.mono ?_;rintro e w4 ⟨rfl,z,X⟩;clear h
   go_wp2
   go_ret2
   refine ⟨Q V 0 0,by rw [c.out];rfl,?_,m.trans X⟩;rw [c.out];exact ag.jv z (show (2:Int)≠0 by decide)
  | some (l,b)=>
   rw [hd] at x
   by_cases H:l.id=id
   .have g:=E.out rfl l b hd H
    have c:=ae g;have x0:(l.id != id)=N:=by simp [H]
    clear hd A B C E g H
    go_wp2_with fail
    refine x.mono ?_;rintro e w3 ⟨v,rfl,i,I⟩;have o:=(i.under f).iC;have p:=o.alloc (Y l.cells 244 (0,0));have m:=(D2.trans I).alloc (Y l.cells 244 (0,0));clear x f i o;simp only [Tg.cells] at p m ⊢
    go_wp2
    go_ret2
    refine ⟨v,by rw [c.out];rfl,?_,m⟩;rw [c.out];exact ag.te p.right
   .have g:=C.out rfl l b hd H
    have c:=ae g;have x0:(l.id != id)=K:=by simpa using H
    clear hd A B C E g H
    go_wp2_with fail
    refine x.mono ?_;rintro e w3 ⟨v,rfl,i,I⟩;have o:=(i.under f).right.right;have p:=o.alloc (Y l.cells 244 (0,0));have m:=(D2.trans I).alloc (Y l.cells 244 (0,0));have h:=nR _ j d r t J _ p.right;clear x f i o p;simp only [Tg.cells] at h m ⊢
    go_wp2_with fail
    refine h.mono ?_;rintro e w4 ⟨rfl,z,X⟩;clear h
    go_wp2
    go_ret2
    refine ⟨Q V 0 0,by rw [c.out];rfl,?_,m.trans X⟩;rw [c.out];exact ag.jv z (show (2:Int)≠0 by decide)
 .have H0:(rc == 0)=N:=by simpa using d0
  have g:=A.out d0;have c:=ae g;obtain ⟨rfl,f⟩:=h3.Cz d0;have h:=nR _ j d r t J _ f;clear h3 f g A B C E d0
  go_wp2_with fail
  refine h.mono ?_;rintro e w4 ⟨rfl,z,X⟩;clear h
  go_wp2
  go_ret2
  refine ⟨Q V 0 0,by rw [c.out];rfl,?_,D2.trans X⟩;rw [c.out];exact ag.jv z (show (2:Int)≠0 by decide)
theorem vC (w:R) (S:Hp) (j d:Nat) (J:Jr) (D:aC) (id place:Int) (F:ai) (h:ag w (pH j d J*(aS S d D*(aq S*F)))) (g:J.Ok) (f:D.Ok) :
  Calls W 176 #[az j,Z .i64 id,Z .i64 place] w (PY S j d (J.load D id place) F w):=by
 obtain ⟨r,t,i⟩:=h.EO;exact (xJ w S j d r t J D id place F i g f).mono fun _ _ ⟨e,a,b,c⟩=>⟨e,a,ag.ah (b.ah.FJ),c⟩
theorem F8 (w:R) (S:Hp) (j d:Nat) (J:Jr) (D:aC) (id:Int) (F:ai) (h:ag w (pH j d J*(aS S d D*(aq S*F)))) (A:J.Ok) (z:D.Ok) :
  Calls W 316 #[az j,Z .i64 id] w (PY S j d (J.read D id) F w):=by
 obtain ⟨r,t,c⟩:=h.sr;have E:w.cell? ⟨j,2,V⟩=U (az t):=c.cell 2;have G:w.cell? ⟨j,3,V⟩=U (Z .i64 J.n):=c.cell 3;have i:w.cell? ⟨j,10,V⟩=U (.bool J.br):=c.cell 10;have a:=Md w t J.T id _ c.aw;have b:=fun p=>vC w S j d J D id p F h A z;unfold Jr.read;clear c
 by_cases u:id<0
 .rw [if_pos (.inl u)]
  clear a b
  go_enter func316,ntmps316
  go_wp2
  go_ret2
  exact ⟨_,rfl,ag.jv h (show (1:Int)≠0 by decide),aj.refl w⟩
 .by_cases v:J.n<=id
  .rw [if_pos (.inr v)]
   clear a b
   go_enter func316,ntmps316
   go_wp2
   go_ret2
   exact ⟨_,rfl,ag.jv h (show (1:Int)≠0 by decide),aj.refl w⟩
  .rw [if_neg (by rintro (q|q) <;> contradiction)]
   cases l:J.br with
   | true=>
    rw [l] at i;rw [if_pos rfl];clear a b
    go_enter func316,ntmps316
    go_wp2
    go_ret2
    exact ⟨_,rfl,ag.jv h (show (2:Int)≠0 by decide),aj.refl w⟩
   | false=>
    rw [l] at i;rw [if_neg (by simp)]
    cases f:told J.T.ps id with
    | none=>
     rw [f] at a;simp only
     have H:∀ w,(Instr.makeSlice 22 (Z .i64 480) (Z .i64 480)).run W w =
      .ok (Q (U ⟨w.heap.size,0,V⟩) 480 480) (w.alloc (Y (dP (zs 480)) 5 (0,0))):=fh 480 (by omega)
     have y:=h.alloc (Y (dP (zs 480)) 5 (0,0));clear b f
     go_enter func316,ntmps316
     go_wp2_with fail
     refine a.mono ?_;rintro e B ⟨rfl,rfl⟩;unfold qu;clear a
     go_wp2
     go_ret2
     exact ⟨_,rfl,ag.te (qR (bh 480) y),(aj.refl w).alloc _⟩
    | some p=>
     rw [f] at a;simp only;have g:=b p;clear b f h;generalize J.load D id p=C at g ⊢
     go_enter func316,ntmps316
     go_wp2_with fail
     refine a.mono ?_;rintro e B ⟨rfl,rfl⟩;unfold qu;clear a
     go_wp2_with fail
     refine g.mono ?_;rintro e I ⟨o,rfl,x,m⟩;clear g
     go_wp2
     go_ret2
     exact ⟨o,rfl,x,m⟩
end Go.Proofs.Nn
namespace Go.SL
open RowKit
structure Js where
 ep:Int
 st:Int
 sq:Int
 hd:Int
 us:Int
 at_:List Int
def Js.v (s:Js) (a:M):M:=.agg #[Z .u32 s.ep,Z .u64 s.st,Z .u64 s.sq,Z .i64 s.hd,Z .i64 s.us,a]
def rM (P hd v:Int):Int:=if hd-v<=0 then hd-v+P else hd-v
def Js.Bq (P:Int) (s:Js) (k:Nat):Prop:=
 s.at_.getD k 0=-1\/(0<=s.at_.getD k 0/\s.at_.getD k 0<P/\s.at_.getD k 0 ∉ s.at_.take k/\rM P s.hd (s.at_.getD k 0)<=s.us)
instance (P:Int) (s:Js) (k:Nat):Decidable (s.Bq P k):=by unfold Js.Bq;infer_instance
structure Js.uf (P:Int) (s:Js):Prop where
 ep:1<=s.ep
 sq:s.sq<=281474976710655
 Sg:1<=s.st
 aR:s.st<=s.sq+1
 Jk:0<=s.hd
 zR:s.hd<P
 EM:0<=s.us
 QL:s.us<=P
 n0:1<=s.at_.length
 n1:s.at_.length<=3840
 ok:∀ k,k<s.at_.length->s.Bq P k
def fJ (l:List Int):Nat->KV
 | 0=>[]
 | k+1=>if l.getD k 0=-1 then fJ l k else fJ l k++[(l.getD k 0,Z .i64 (k:Int))]
theorem DX (l:List Int) (k:Nat) (d:k<=l.length) (v:Int) (c:v ≠ -1):v ∈ (fJ l k).map Prod.fst↔v ∈ l.take k:=by
 induction k with
 | zero=>simp [fJ]
 | succ k a=>
  have a:=a (by omega)
  have b:l.take (k+1)=l.take k++[l.getD k 0]:=by
   rw [List.take_add_one,A2,H2 (by omega)];rfl
  rw [b,fJ]
  split
  .rename_i h;rw [a,h];simp [c]
  .rw [L2,List.mem_append,List.mem_append,a];simp
theorem Ai {l:List Int} {k:Nat} (a:k<=l.length) {v:Int} (c:v ≠ -1):(aP (fJ l k) v).isSome=decide (v ∈ l.take k):=by
 rw [Bool.eq_iff_iff,decide_eq_true_iff,<- DX l k a v c]
 cases h:aP (fJ l k) v with
 | none=>simpa using gn.1 h
 | some x=>
  have b:v ∈ (fJ l k).map Prod.fst:=Classical.byContradiction fun q=>by rw [gn.2 q] at h;cases h
  simp only [Option.isSome_some,b]
end Go.SL
namespace Go.Proofs.Nn
open RowKit SL
def Rv (B:Bool) (w:R) (e:Ending) (a:R):Prop:=e = O (.bool B)/\ag a (whole w)/\aj w a
def LS (P:Int) (s:Js) (n a m:Nat) (o:Obj) (w:R) (u:M) (wr:R):Prop:=
 ∃ k:Nat,k<=n/\u = Z .i64 (k:Int)/\(∀ i,i<k->s.Bq P i)/\ag wr (mp m (fJ s.at_ k)*(pt a o*whole w))/\aj w wr
theorem DI (P:Int) (s:Js) (d0:M) (w:R) (hP:P<=9223372036854775807) (L0:-9223372036854775808<=P) (hq:0<=s.sq) (hl:s.at_.length<=9223372036854775807) (c:oM w d0 s.at_) (B:Bool) (hB:B=K↔s.uf P) :
  Calls W 223 #[Z .i64 P,s.v d0] w (Rv B w):=by
 have HB:=ae hB
 have no:Hid (¬ s.uf P->B=N):=fun h=>by
  cases hb:B
  .rfl
  .exact absurd (hB.1 hb) h
 clear hB;obtain ⟨n,m⟩:∃ n,n=s.at_.length:=⟨_,rfl⟩
 obtain ⟨u,z,u0⟩:∃ u z,d0 = Q u n z:=by
  rcases c with ⟨_,_,rfl,h⟩|⟨g,o,s0,rfl,_⟩
  .rw [m,h];exact ⟨_,_,rfl⟩
  .rw [m];exact ⟨_,_,rfl⟩
 subst u0;rw [<- m] at hl;have j:=ae m;clear m;unfold Js.v;have a:=(ag.whole w).alloc (Y #[Z .u32 s.ep,Z .u64 s.st,Z .u64 s.sq,Z .i64 s.hd,Z .i64 s.us,Q u n z] 168 (0,0));have b:=(aj.refl w).alloc (Y #[Z .u32 s.ep,Z .u64 s.st,Z .u64 s.sq,Z .i64 s.hd,Z .i64 s.us,Q u n z] 168 (0,0))
 by_cases h1:s.ep<1
 .have e:=no.out fun h=>by have:=h.ep;omega
  subst e
  go_enter func223,ntmps223
  go_wp2
  go_ret
  exact ⟨rfl,a.right,b⟩
 by_cases h2:281474976710655<s.sq
 .have e:=no.out fun h=>by have:=h.sq;omega
  subst e
  go_enter func223,ntmps223
  go_wp2
  go_ret
  exact ⟨rfl,a.right,b⟩
 by_cases h3:s.st<1
 .have e:=no.out fun h=>by have:=h.Sg;omega
  subst e
  go_enter func223,ntmps223
  go_wp2
  go_ret
  exact ⟨rfl,a.right,b⟩
 have a1:IntKind.u64.wrap (s.sq+1)=s.sq+1:=by rw [IntKind.wrap_u64];omega
 by_cases h4:s.sq+1<s.st
 .have e:=no.out fun h=>by have:=h.aR;omega
  subst e
  go_enter func223,ntmps223
  go_wp2
  go_ret
  exact ⟨rfl,a.right,b⟩
 by_cases h5:s.hd<0
 .have e:=no.out fun h=>by have:=h.Jk;omega
  subst e
  go_enter func223,ntmps223
  go_wp2
  go_ret
  exact ⟨rfl,a.right,b⟩
 by_cases E:P<=s.hd
 .have e:=no.out fun h=>by have:=h.zR;omega
  subst e
  go_enter func223,ntmps223
  go_wp2
  go_ret
  exact ⟨rfl,a.right,b⟩
 by_cases h7:s.us<0
 .have e:=no.out fun h=>by have:=h.EM;omega
  subst e
  go_enter func223,ntmps223
  go_wp2
  go_ret
  exact ⟨rfl,a.right,b⟩
 by_cases h8:P<s.us
 .have e:=no.out fun h=>by have:=h.QL;omega
  subst e
  go_enter func223,ntmps223
  go_wp2
  go_ret
  exact ⟨rfl,a.right,b⟩
 by_cases h9:n<1
 .have e:=no.out fun h=>by have:=h.n0;have:=j.out;omega
  subst e;obtain rfl:n=0:=by omega
  go_enter func223,ntmps223
  go_wp2
  go_ret
  exact ⟨rfl,a.right,b⟩
 have K0:¬ (n:Int)<1:=by omega
 by_cases H0:3840<(n:Int)
 .have e:=no.out fun h=>by have:=h.n1;have:=j.out;omega
  subst e
  go_enter func223,ntmps223
  go_wp2
  go_ret
  exact ⟨rfl,a.right,b⟩
 have G0:=@iO W _ _ _ underlying177;have F:=((a.alloc (.map #[] 0)).tD isMap_empty)
 have j0:=b.alloc (.map #[] 0);rw [World.size_alloc] at F;have N0:1<=P:=by omega
 go_enter func223,ntmps223
 go_wp2
 generalize ((w.alloc (Y #[Z .u32 s.ep,Z .u64 s.st,Z .u64 s.sq,Z .i64 s.hd,Z .i64 s.us,Q u n z] 168 (0,0))).alloc (.map #[] 0))=w2 at F j0 ⊢;generalize R0:w.heap.size=l at F ⊢;clear a b G0
 go_loopw [58] (fun k0 wr=>LS P s n l (l+1) (Y #[Z .u32 s.ep,Z .u64 s.st,Z .u64 s.sq,Z .i64 s.hd,Z .i64 s.us,Q u n z] 168 (0,0)) w k0 wr) (fun k0 _=>n-(intOf k0).toNat)
 case atStart=>exact ⟨0,M2 _,rfl,fun i hi=>absurd hi (Nat.not_lt_zero i),F,j0⟩
 case round=>
  clear F j0;obtain ⟨k,hk,rfl,X,p,C⟩:=hrel
  by_cases F0:k<n
  .have S0:(k:Int)<(n:Int):=by omega
   obtain ⟨g,o,rfl,x0⟩:∃ g o,u=U ⟨g,o,V⟩/\wr.cell? ⟨g,o+k,V⟩=U (Z .i64 (s.at_.getD k 0)):=by
    have m:=j.out;rcases c with ⟨_,_,h,h0⟩|⟨g,o,s0,h,_,_,hc⟩
    .rw [h0] at m;simp at m;omega
    .injection h with e1 e2 e3
     exact ⟨g,o,e1,(p.to (by ac_rfl:_=(mp (l+1) (fJ s.at_ k)*pt l _)*whole w)).cF (hc k (by omega))⟩
   have e0:=p.ah;have b3:wr.cell? ⟨l,3,V⟩=U (Z .i64 s.hd):=e0.cell 3;have b4:wr.cell? ⟨l,4,V⟩=U (Z .i64 s.us):=e0.cell 4;have g0:=fun v f=>Ai (l:=s.at_) (k:=k) (by have:=j.out;omega) (v:=v) f;have x:fJ s.at_ (k+1)=if s.at_.getD k 0=-1 then fJ s.at_ k else fJ s.at_ k++[(s.at_.getD k 0,Z .i64 (k:Int))]:=rfl
   have G:s.Bq P k↔(s.at_.getD k 0=-1\/(0<=s.at_.getD k 0/\s.at_.getD k 0<P/\s.at_.getD k 0 ∉ s.at_.take k/\rM P s.hd (s.at_.getD k 0)<=s.us)):=Iff.rfl;have f0:¬ s.Bq P k->¬ s.uf P:=fun q h=>q (h.ok k (by have:=j.out;omega))
   have I:s.Bq P k->∀ i,i<k+1->s.Bq P i:=fun q i hi=>by
    rcases Nat.lt_or_eq_of_le (Nat.lt_succ_iff.1 hi) with h|h
    .exact X i h
    .rw [h];exact q
   generalize s.at_.getD k 0=v at x0 x G;have A:=ag.lookup (P:=W) underlying177 underlying3 (z:=Z .i64 0) (by kernel_rfl) p v K;clear c X e0
   by_cases f:v=-1
   .have q0:=I (G.2 (.inl f))
    rw [if_pos f] at x;subst f;have r0:=ae q0;have c0:=ae x;clear q0 x A g0 G f0 I
    go_wp2
    go_roundw
    case rel=>exact ⟨k+1,by omega,by go_num,r0.out,by rw [c0.out];exact p,C⟩
    case measure=>simp [intOf];omega
   .have X0:(v == -1)=N:=by simpa using f
    rw [if_neg f] at x;have d:=g0 v f;have c0:=ae x;have r:=ae G;have D:=ae f0;have l0:=ae I;clear x G f0 I g0;have S:=p.right.right
    by_cases V0:v<0
    .have e:=no.out (D.out fun q=>by rcases r.out.1 q with q|q <;> omega)
     subst e;clear A d
     go_wp2
     go_ret
     exact ⟨rfl,S,C⟩
    .by_cases W0:P<=v
     .have e:=no.out (D.out fun q=>by rcases r.out.1 q with q|q <;> omega)
      subst e;clear A d
      go_wp2
      go_ret
      exact ⟨rfl,S,C⟩
     .by_cases y:v ∈ s.at_.take k
      .have e:=no.out (D.out fun q=>by
        rcases r.out.1 q with q|q
        .exact f q
        .exact q.2.2.1 y)
       subst e;rw [d,decide_eq_true y,if_pos rfl] at A;generalize (aP (fJ s.at_ k) v).getD (Z .i64 0)=vv at A;clear d y
       go_wp2
       go_ret
       exact ⟨rfl,S,C⟩
      .have i0:aP (fJ s.at_ k) v=V:=by
        rw [decide_eq_false y] at d
        cases h:aP (fJ s.at_ k) v with
        | none=>rfl
        | some b1=>rw [h] at d;cases d
       rw [d,decide_eq_false y,if_pos rfl,i0,Option.getD_none] at A;obtain ⟨w6,T0,E,d6,ce⟩:=ag.mapUpdate (P:=W) underlying177 underlying3 p v (Z .i64 (k:Int));have e6:SL.fw (fJ s.at_ k) v (Z .i64 (k:Int))=fJ s.at_ k++[(v,Z .i64 (k:Int))]:=by unfold SL.fw;rw [i0];rfl
       rw [e6,<- c0.out] at E;have c3:w6.cell? ⟨l,3,V⟩=U (Z .i64 s.hd):=(ce.1 _).trans b3;have c4:w6.cell? ⟨l,4,V⟩=U (Z .i64 s.us):=(ce.1 _).trans b4;have Y0:IntKind.i64.wrap (s.hd-v)=s.hd-v:=by rw [IntKind.wrap_i64];omega
       have H:=C.trans d6;have h7:=E.right.right;have H6:=ae E;have m0:=ae y;clear d i0 ce e6 E y S
       by_cases o0:s.hd-v<=0
       .have Z0:IntKind.i64.wrap (s.hd-v+P)=s.hd-v+P:=by rw [IntKind.wrap_i64];omega
        have c:rM P s.hd v=s.hd-v+P:=by unfold rM;rw [if_pos o0]
        by_cases D0:s.us<s.hd-v+P
        .have e:=no.out (D.out fun q=>by rcases r.out.1 q with q|q <;> omega)
         subst e;clear c
         go_wp2
         go_ret
         exact ⟨rfl,h7,H⟩
        .have Hx:=ae (l0.out (r.out.2 (.inr ⟨by omega,by omega,m0.out,by omega⟩)))
         clear c
         go_wp2
         go_roundw
         case rel=>exact ⟨k+1,by omega,by go_num,Hx.out,H6.out,H⟩
         case measure=>simp [intOf];omega
       .have c:rM P s.hd v=s.hd-v:=by unfold rM;rw [if_neg o0]
        by_cases D0:s.us<s.hd-v
        .have e:=no.out (D.out fun q=>by rcases r.out.1 q with q|q <;> omega)
         subst e;clear c
         go_wp2
         go_ret
         exact ⟨rfl,h7,H⟩
        .have Hx:=ae (l0.out (r.out.2 (.inr ⟨by omega,by omega,m0.out,by omega⟩)))
         clear c
         go_wp2
         go_roundw
         case rel=>exact ⟨k+1,by omega,by go_num,Hx.out,H6.out,H⟩
         case measure=>simp [intOf];omega
  .obtain rfl:k=n:=by omega
   have e:=HB.out.2 ⟨by omega,by omega,by omega,by omega,by omega,by omega,by omega,by omega,by have:=j.out;omega,by have:=j.out;omega,by rw [<- j.out];exact X⟩;subst e;have h3:=p.right.right;clear X p c F0
   go_wp2
   go_ret
   exact ⟨rfl,h3,C⟩
end Go.Proofs.Nn
namespace Go.SL
open RowKit
theorem oM.under {w a:R} {X:ai} {v:M} {l:List Int} (h:oM w v l) (j:ag a (X*whole w)):oM a v l:=by
 rcases h with h|⟨g,o,c,b,d,e,f⟩
 .exact .inl h
 .exact .inr ⟨g,o,c,b,d,e,fun k i=>j.cF (f k i)⟩
theorem Tb.OW {T:Tb} (h:T.Ok) (id:Int):(T.drop id).2.Ok:=by
 unfold Tb.drop
 split
 .refine ⟨by simpa using h.n,by simpa using h.m,fun v a=>?_⟩
  simp only [List.length_set];rcases N2 a with a|a
  .exact h.ps v a
  .exact .inl a
 .exact h
theorem Tb.M0 {T:Tb} (h:T.Ok) (id p:Int):(T.put id p).2.Ok:=by
 have hd:=Tb.OW h id;have c:(T.drop id).2.os.length=T.os.length:=by unfold Tb.drop;split <;> simp
 unfold Tb.put
 split
 .rename_i b
  refine ⟨by simpa using hd.n,by simpa using hd.m,fun v a=>?_⟩;simp only [List.length_set];rcases N2 a with a|a
  .exact hd.ps v a
  .right;rw [c,a];exact ⟨b.2.2.1,b.2.2.2.1⟩
 .exact h
theorem Tb.nX (T:Tb) (id p:Int):(T.put id p).2.ps.length=T.ps.length/\(T.put id p).2.os.length=T.os.length:=by
 have a:(T.drop id).2.ps.length=T.ps.length:=by unfold Tb.drop;split <;> simp
 have b:(T.drop id).2.os.length=T.os.length:=by unfold Tb.drop;split <;> simp
 unfold Tb.put
 split
 .simp [a,b]
 .exact ⟨rfl,rfl⟩
def s5 (P:Nat) (l:List Int):Nat->Tb
 | 0=>Tb.fresh l.length P
 | k+1=>if 0<=l.getD k 0 then ((s5 P l k).put (k:Int) (l.getD k 0)).2 else s5 P l k
theorem E4 (P:Nat) (l:List Int) (k:Nat):(s5 P l k).ps.length=l.length/\(s5 P l k).os.length=P:=by
 induction k with
 | zero=>simp [s5,Tb.fresh]
 | succ k a=>
  rw [s5]
  split
  .rw [(Tb.nX _ _ _).1,(Tb.nX _ _ _).2];exact a
  .exact a
theorem Kx (P:Nat) (l:List Int) (b:P<=1048576) (c:l.length<=1048576) (k:Nat):(s5 P l k).Ok:=by
 induction k with
 | zero=>exact ⟨by simpa [s5,Tb.fresh] using c,by simpa [s5,Tb.fresh] using b,fun v d=>.inl (List.eq_of_mem_replicate d)⟩
 | succ k a=>
  rw [s5]
  split
  .exact Tb.M0 a _ _
  .exact a
def mB (P k:Nat):List Int:=(J2 k).map (fun i:Nat=>(i:Int)+1)++List.replicate (P-k) 0
theorem su {P k:Nat} (h:k<=P):(mB P k).length=P:=by simp [mB];omega
theorem Dv {P k:Nat} (h:k<P):(mB P k).set ((k:Int)%((mB P k).length:Int)).toNat ((k:Int)+1)=mB P (k+1):=by
 rw [su (by omega),Int.emod_eq_of_lt (by omega) (by omega),Int.toNat_natCast];unfold mB;have e:P-k=(P-(k+1))+1:=by omega
 rw [e,List.replicate_succ,List.set_append_right _ _ (by simp),K2];simp
theorem Gg (P:Nat):mB P P=cE P:=by simp [mB,cE]
def Jr.JY (P:Nat) (s:Js):Jr:=⟨P,s5 P s.at_ s.at_.length,s.at_.length,s.ep,s.st,s.sq,s.hd,s.us,0,N⟩
theorem Jr.RG {P:Nat} {s:Js} (h:s.uf P) (b:1<=P) (c:P<=20000):(Jr.JY P s).Ok:=by
 have a:=E4 P s.at_ s.at_.length;have:=h.n1;exact ⟨b,c,Kx _ _ (by omega) (by omega) _,by rw [Jr.JY];simp only;rw [a.1],a.2,h.EM,h.QL,h.Jk,h.zR,Int.le_refl _,by show (0:Int)<=48;decide⟩
end Go.SL
namespace Go.Proofs.Nn
open RowKit SL
def TC (d:Nat) (J:Jr) (w:R) (e:Ending) (a:R):Prop:=∃ j,e = O (Z' #[az j,Z .i64 0])/\ag a (pH j d J*whole w)/\aj w a
def yC (P:Nat) (s:Js) (n d r t:Nat):Array M:=#[az d,az r,az t,Z .i64 (n:Int),Z .u32 s.ep,Z .u64 s.st,Z .u64 s.sq,Z .i64 s.hd,Z .i64 s.us,Z .i64 0,.bool N]
def Pq (P:Nat) (s:Js) (n d j r t a:Nat) (o:Obj) (w:R) (u:M) (wr:R):Prop:=
 ∃ k:Nat,k<=P/\u = Z .i64 (k:Int)/\ag wr (pt j (Y (yC P s n d r t) 183 (0,0))*(bX r (mB P k)*(bO t (s5 P s.at_ 0)*(pt a o*whole w))))/\aj w wr
def NZ (P:Nat) (s:Js) (n d j r t a:Nat) (o:Obj) (w:R) (u:M) (wr:R):Prop:=
 ∃ k:Nat,k<=n/\u = Z .i64 (k:Int)/\ag wr (pt j (Y (yC P s n d r t) 183 (0,0))*(bX r (cE P)*(bO t (s5 P s.at_ k)*(pt a o*whole w))))/\aj w wr
theorem KC (w:R) (s0:Hp) (d:Nat) (D:aC) (F0:ai) (hd:ag w (aS s0 d D*F0)) (P:Nat) (s:Js) (l0:M) (ha:oM w l0 s.at_) (K0:1<=P) (hP:P<=20000) (d1:P+1<=D.sec.length) (X0:D.sec.length<=20000) (hq:0<=s.sq) (hr:s.uf P) :
  Calls W 172 #[az d,Z .i64 (P:Int),s.v l0] w (TC d (Jr.JY P s) w):=by
 have T0:=hr.n1;have S0:=hr.n0;have Hr:=ae hr;obtain ⟨n,p⟩:∃ n,n=s.at_.length:=⟨_,rfl⟩
 have L0:∃ b f,l0 = Q b n f:=by
  rcases ha with ⟨_,_,rfl,d0⟩|⟨g,o,H0,rfl,_⟩
  .rw [p,d0];exact ⟨_,_,rfl⟩
  .rw [p];exact ⟨_,_,rfl⟩
 obtain ⟨b,f,rfl⟩:=L0;rw [<- p] at T0 S0;have S:=ae p;have h:=(ag.whole w).alloc (Y #[Z .u32 s.ep,Z .u64 s.st,Z .u64 s.sq,Z .i64 s.hd,Z .i64 s.us,Q b n f] 168 (0,0));have m0:=(aj.refl w).alloc (Y #[Z .u32 s.ep,Z .u64 s.st,Z .u64 s.sq,Z .i64 s.hd,Z .i64 s.us,Q b n f] 168 (0,0));have o0:=mZ _ s0 d D _ (h.under hd).right;have a1:(1:Int)<=(P:Int):=by omega
 have Z0:(P:Int)<=20000:=by omega
 have e1:(P:Int)<=(D.sec.length:Int)-1:=by omega
 have Y0:(D.sec.length:Int)<=20000:=by omega
 have W0:IntKind.i64.wrap ((D.sec.length:Int)-1)=(D.sec.length:Int)-1:=by rw [IntKind.wrap_i64];omega
 have j0:=DI (P:Int) s (Q b n f) _ (by omega) (by omega) hq (by rw [<- p];omega) (ha.under h) K ⟨fun _=>hr,fun _=>rfl⟩;have Ha:=ae ha;clear p hr hd ha hq;unfold Js.v at j0 ⊢;obtain ⟨a,u0⟩:∃ a,a=w.heap.size:=⟨_,rfl⟩
 go_enter func172,ntmps172
 go_wp2_with fail
 rw [<- u0] at h ⊢;generalize w.alloc (Y #[Z .u32 s.ep,Z .u64 s.st,Z .u64 s.sq,Z .i64 s.hd,Z .i64 s.us,Q b n f] 168 (0,0))=G at h m0 o0 j0 ⊢;have c0:G.cell? ⟨a,0,V⟩=U (Z .u32 s.ep):=h.cell 0;have c1:G.cell? ⟨a,1,V⟩=U (Z .u64 s.st):=h.cell 1;have c2:G.cell? ⟨a,2,V⟩=U (Z .u64 s.sq):=h.cell 2;have c3:G.cell? ⟨a,3,V⟩=U (Z .i64 s.hd):=h.cell 3;have c4:G.cell? ⟨a,4,V⟩=U (Z .i64 s.us):=h.cell 4;have c5:G.cell? ⟨a,5,V⟩=U (Q b n f):=h.cell 5;clear u0
 go_wp2_with fail
 refine o0.mono ?_;rintro e h1 ⟨rfl,rfl⟩;clear o0
 go_wp2_with fail
 refine j0.mono ?_;rintro e E ⟨rfl,h2,d2⟩;have q:=h2.du h;have D2:=m0.trans d2;have b0:E.cell? ⟨a,0,V⟩=U (Z .u32 s.ep):=q.cell 0;have b1:E.cell? ⟨a,1,V⟩=U (Z .u64 s.st):=q.cell 1;have b2:E.cell? ⟨a,2,V⟩=U (Z .u64 s.sq):=q.cell 2;have b3:E.cell? ⟨a,3,V⟩=U (Z .i64 s.hd):=q.cell 3;have b4:E.cell? ⟨a,4,V⟩=U (Z .i64 s.us):=q.cell 4;have b5:E.cell? ⟨a,5,V⟩=U (Q b n f):=q.cell 5;clear j0 h2 d2 h m0 c0 c1 c2 c3 c4 c5 W0;have x0:=Cb P 0 E.drew K0 (by omega);have D0:=fun w=>CS n P w (by omega) (by omega);have R2:=ae (ag.drew q);clear q
 go_wp2_with fail
 go_region_held3 (fun F=>F.cell? ⟨a,0,V⟩=U (Z .u32 s.ep)/\F.cell? ⟨a,1,V⟩=U (Z .u64 s.st)/\F.cell? ⟨a,2,V⟩=U (Z .u64 s.sq)/\F.cell? ⟨a,3,V⟩=U (Z .i64 s.hd)/\F.cell? ⟨a,4,V⟩=U (Z .i64 s.us)/\F.cell? ⟨a,5,V⟩=U (Q b n f)) (first|(with_reducible exact ⟨f0,f1,f2,f3,f4,f5⟩)|(with_reducible exact ⟨bN _ _ _ _ f0,bN _ _ _ _ f1,bN _ _ _ _ f2,bN _ _ _ _ f3,bN _ _ _ _ f4,bN _ _ _ _ f5⟩)|(with_reducible exact ⟨e0,z,A,e3,e4,e5⟩)|exact ⟨b0,b1,b2,b3,b4,b5⟩) (first
  | (go_at_call 224;(with_reducible refine x0.mono ?_);rintro e H ⟨r,rfl,h3,d3⟩;have x:=h3.under R2.out;have e0:H.cell? ⟨a,0,V⟩=U (Z .u32 s.ep):=x.ah.cell 0;have z:H.cell? ⟨a,1,V⟩=U (Z .u64 s.st):=x.ah.cell 1;have A:H.cell? ⟨a,2,V⟩=U (Z .u64 s.sq):=x.ah.cell 2;have e3:H.cell? ⟨a,3,V⟩=U (Z .i64 s.hd):=x.ah.cell 3;have e4:H.cell? ⟨a,4,V⟩=U (Z .i64 s.us):=x.ah.cell 4;have e5:H.cell? ⟨a,5,V⟩=U (Q b n f):=x.ah.cell 5)
  | (go_at_call 225;(with_reducible refine (D0 _).mono ?_);rintro e m ⟨t,rfl,h4,d4⟩;have y:=h4.under x;have f0:m.cell? ⟨a,0,V⟩=U (Z .u32 s.ep):=y.aw.cell 0;have f1:m.cell? ⟨a,1,V⟩=U (Z .u64 s.st):=y.aw.cell 1;have f2:m.cell? ⟨a,2,V⟩=U (Z .u64 s.sq):=y.aw.cell 2;have f3:m.cell? ⟨a,3,V⟩=U (Z .i64 s.hd):=y.aw.cell 3;have f4:m.cell? ⟨a,4,V⟩=U (Z .i64 s.us):=y.aw.cell 4;have f5:m.cell? ⟨a,5,V⟩=U (Q b n f):=y.aw.cell 5))
 have H5:=y.alloc (Y (yC P s n d r t) 183 (0,0));have D5:=((D2.drew.trans d3).trans d4).alloc (Y (yC P s n d r t) 183 (0,0));clear h3 h4 x0 D0 d3 d4 D2 R2 x y e0 z A e3 e4 e5 f0 f1 f2 f3 f4 f5 b0 b1 b2 b3 b4 b5
 have I:ag (m.alloc (Y (yC P s n d r t) 183 (0,0))) (pt m.heap.size (Y (yC P s n d r t) 183 (0,0))*(bX r (mB P 0)*(bO t (s5 P s.at_ 0)*(pt a (Y #[Z .u32 s.ep,Z .u64 s.st,Z .u64 s.sq,Z .i64 s.hd,Z .i64 s.us,Q b n f] 168 (0,0))*whole w)))):=by
  have z:s5 P s.at_ 0=Tb.fresh n P:=by rw [S.out];rfl
  have A:mB P 0=List.replicate P 0:=rfl;rw [z,A];exact H5.to (by ac_rfl)
 clear H5;unfold yC at D5 I;generalize V0:(m.alloc (Y #[az d,az r,az t,Z .i64 (n:Int),Z .u32 s.ep,Z .u64 s.st,Z .u64 s.sq,Z .i64 s.hd,Z .i64 s.us,Z .i64 0,.bool N] 183 (0,0)))=w5 at D5 I ⊢;generalize m.heap.size=j at I ⊢;clear V0
 go_wp2
 go_loopw [55] (fun u wr=>Pq P s n d j r t a (Y #[Z .u32 s.ep,Z .u64 s.st,Z .u64 s.sq,Z .i64 s.hd,Z .i64 s.us,Q b n f] 168 (0,0)) w u wr) (fun u _=>P-(intOf u).toNat)
 case atStart=>exact ⟨0,M2 _,rfl,I,D5⟩
 case round=>
  clear I D5;obtain ⟨k,hk,rfl,c,B⟩:=hrel
  by_cases g0:k<P
  .have R0:(k:Int)<(P:Int):=by omega
   have j1:wr.cell? ⟨j,1,V⟩=U (az r):=c.cell 1;have q0:=ub wr r (mB P k) (k:Int) ((k:Int)+1) _ c.ah (by rw [su hk];omega) (by rw [su hk];omega);rw [Dv g0] at q0;have g1:IntKind.i64.wrap ((k:Int)+1)=(k:Int)+1:=by rw [IntKind.wrap_i64];omega
   clear c
   go_wp2_with fail
   refine q0.mono ?_;rintro e w6 ⟨rfl,X,d6⟩;have l:=ae X.ah;clear q0 X
   go_wp2
   go_roundw
   case rel=>exact ⟨k+1,by omega,by go_num,l.out,B.trans d6⟩
   case measure=>simp [intOf];omega
  .obtain rfl:k=P:=by omega
   rw [Gg] at c;have h5:wr.cell? ⟨a,5,V⟩=U (Q b n f):=c.aD.cell 5;have l:=ae c;clear c g0
   go_wp2
   go_loopw [70] (fun u wr=>NZ k s n d j r t a (Y #[Z .u32 s.ep,Z .u64 s.st,Z .u64 s.sq,Z .i64 s.hd,Z .i64 s.us,Q b n f] 168 (0,0)) w u wr) (fun u _=>n-(intOf u).toNat)
   case atStart=>exact ⟨0,M2 _,rfl,l.out,B⟩
   case round=>
    clear l B h5;obtain ⟨i,hi,rfl,c,B⟩:=hrel;have j2:wr.cell? ⟨j,2,V⟩=U (az t):=c.cell 2;have r0:=E4 k s.at_ i;have k0:=Kx k s.at_ (by omega) (by have:=S.out;omega) i
    by_cases g0:i<n
    .have R0:(i:Int)<(n:Int):=by omega
     obtain ⟨g,o,rfl,N0⟩:∃ g o,b=U ⟨g,o,V⟩/\wr.cell? ⟨g,o+i,V⟩=U (Z .i64 (s.at_.getD i 0)):=by
      have p:=S.out;rcases Ha.out with ⟨_,_,d0,h0⟩|⟨g,o,H0,d0,_,_,hc⟩
      .rw [h0] at p;simp at p;omega
      .injection d0 with z A e3
       exact ⟨g,o,z,(c.to (by ac_rfl:_=(pt j _*(bX r (cE k)*(bO t (s5 k s.at_ i)*pt a _)))*whole w)).cF (hc i (by omega))⟩
     have C:s5 k s.at_ (i+1)=if 0<=s.at_.getD i 0 then ((s5 k s.at_ i).put (i:Int) (s.at_.getD i 0)).2 else s5 k s.at_ i:=rfl
     generalize s.at_.getD i 0=v at N0 C
     by_cases hv:0<=v
     .rw [if_pos hv] at C
      have i0:=eZ wr t (s5 k s.at_ i) (i:Int) v _ c.aw k0;rw [<- C] at i0;generalize ((s5 k s.at_ i).put (i:Int) v).1=pb at i0;clear c C r0 k0
      go_wp2_with fail
      refine i0.mono ?_;rintro e w6 ⟨rfl,X,d6⟩;have l:=ae X.aw;clear i0 X
      go_wp2
      go_roundw
      case rel=>exact ⟨i+1,by omega,by go_num,l.out.to (by ac_rfl),B.trans d6⟩
      case measure=>simp [intOf];omega
     .rw [if_neg hv] at C
      have l:=ae c;have G0:=ae C;clear c C r0 k0
      go_wp2
      go_roundw
      case rel=>exact ⟨i+1,by omega,by go_num,by rw [G0.out];exact l.out,B⟩
      case measure=>simp [intOf];omega
    .obtain rfl:i=n:=by omega
     have l:=ae c;clear c g0 r0 k0
     go_wp2
     go_ret2
     refine ⟨j,rfl,ag.y5 (r:=r) (t:=t) ?_,B⟩;have z:(Jr.JY k s).cells d r t=yC k s i d r t:=by unfold Jr.JY Jr.cells yC;rw [S.out]
     have A:(Jr.JY k s).T=s5 k s.at_ i:=by rw [S.out];rfl
     rw [z,A];exact (ag.kD l.out).to (by unfold Jr.JY;ac_rfl)
end Go.Proofs.Nn
