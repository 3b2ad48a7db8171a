/- Steps. -/
import Derived.Test.YtdickhgiahcnaaaGreatDoorNP9
import Derived.Laws.EntriesVeiled
import Derived.Laws.Tables
import Derived.Laws.Rows
set_option linter.all false
set_option maxRecDepth 99999
set_option maxHeartbeats 0
open Go.SL
open Go.Value renaming int->Z,slice->O,pointer->I,tuple->Z'
open Go.IntKind renaming i64->W,u64->Q
open Go.Obj renaming cells->Y
open Go.Ending renaming returned->N
open Go renaming World->R,Value->L
open Go.Proofs.Tryz renaming prog->X
open Option renaming some->U,none->V
open Bool renaming true->H,false->M
open Go.SL renaming Om0->K
open Go.Proofs.Tryz
open List renaming getD->A3,length_drop->A2,length_append->B3,getElem?_eq_getElem->B2,range->D9,range_succ->D7,map_append->E5,mem_or_eq_of_mem_set->G3
open Nat renaming zero_le->E2
namespace Go.SL
open RowKit
structure Tg where
 ep:Int
 st:Int
 sq:Int
 fl:Int
 ix:Int
 ct:Int
 id:Int
def Tg.cells (t:Tg):Array L:=#[Z .u32 t.ep,Z Q t.st,Z Q t.sq,Z Q t.fl,Z W t.ix,Z W t.ct,Z W t.id]
structure Tg.Fit (t:Tg):Prop where
 VS:0<=t.ep
 VT:t.ep<4294967296
 T3:0<=t.st
 bH:t.st<18446744073709551616
 Ua:0<=t.sq
 V6:t.sq<18446744073709551616
 XA:0<=t.fl
 XB:t.fl<18446744073709551616
def Ri:Int:=1465012808
def Tg.ok (t:Tg):Bool:=decide (1<=t.ep) && decide (1<=t.st) && decide (t.st<=t.sq) && decide (t.sq<=281474976710655) && decide (t.fl<t.sq) &&
 decide (1<=t.ct) && decide (t.ct<=72) && decide (0<=t.ix) && decide (t.ix<t.ct) && decide (0<=t.id) && decide (t.id<3840)
def GX (n:Int):Int:=n%18446744073709551616
def Tg.field (t:Tg):Nat->Int
 | 0=>Ri
 | 1=>t.ep
 | 2=>t.sq
 | 3=>t.fl
 | 4=>t.st
 | 5=>GX t.ix
 | 6=>GX t.ct
 | 7=>GX t.id
 | _=>0
def eA:Nat->Nat
 | 0=>4
 | 1=>4
 | 2=>6
 | 3=>6
 | 4=>6
 | 5=>1
 | 6=>1
 | 7=>2
 | _=>2
structure Fb where
 b0:Nat
 b2:Nat
 b3:Nat
 b4:Nat
 b5:Nat
 b6:Nat
 b7:Nat
 b8:Nat
abbrev fz (f:Nat) (a:Array L):L:=.func (.func f) #[] a
def kO (b:Fb):Nat->Nat × Array L
 | 0=>(269,#[az b.b0])
 | 1=>(250,#[])
 | 2=>(271,#[az b.b2])
 | 3=>(271,#[az b.b3])
 | 4=>(271,#[az b.b4])
 | 5=>(273,#[az b.b5])
 | 6=>(273,#[az b.b6])
 | 7=>(273,#[az b.b7])
 | _=>(269,#[az b.b8])
def kP (b:Fb):Nat->Nat × Array L
 | 0=>(270,#[])
 | 1=>(251,#[])
 | 2=>(272,#[az b.b2])
 | 3=>(272,#[az b.b3])
 | 4=>(272,#[az b.b4])
 | 5=>(274,#[az b.b5])
 | 6=>(274,#[az b.b6])
 | 7=>(274,#[az b.b7])
 | _=>(270,#[])
def Er (b:Fb) (k:Nat):Array L:=#[Z W (eA k),fz (kO b k).1 (kO b k).2,fz (kP b k).1 (kP b k).2]
def oK (b:Fb):Array L:=#[Z W 4,fz (kO b 0).1 (kO b 0).2,fz (kP b 0).1 (kP b 0).2,Z W 4,fz (kO b 1).1 (kO b 1).2,fz (kP b 1).1 (kP b 1).2,
 Z W 6,fz (kO b 2).1 (kO b 2).2,fz (kP b 2).1 (kP b 2).2,Z W 6,fz (kO b 3).1 (kO b 3).2,fz (kP b 3).1 (kP b 3).2,Z W 6,fz (kO b 4).1 (kO b 4).2,fz (kP b 4).1 (kP b 4).2,
 Z W 1,fz (kO b 5).1 (kO b 5).2,fz (kP b 5).1 (kP b 5).2,Z W 1,fz (kO b 6).1 (kO b 6).2,fz (kP b 6).1 (kP b 6).2,Z W 2,fz (kO b 7).1 (kO b 7).2,fz (kP b 7).1 (kP b 7).2,
 Z W 2,fz (kO b 8).1 (kO b 8).2,fz (kP b 8).1 (kP b 8).2]
def rB (b:Fb):L:=.agg (oK b)
def dm (b:Fb):ai:=
 pt b.b0 (Y #[Z Q 1465012808] 166 (0,0))*(pt b.b2 (Y #[fz 253 #[]] 315 (0,0))*(pt b.b3 (Y #[fz 254 #[]] 315 (0,0))*(pt b.b4 (Y #[fz 255 #[]] 315 (0,0)) *
  (pt b.b5 (Y #[fz 257 #[]] 318 (0,0))*(pt b.b6 (Y #[fz 258 #[]] 318 (0,0))*(pt b.b7 (Y #[fz 259 #[]] 318 (0,0))*pt b.b8 (Y #[Z Q 0] 166 (0,0))))))))
end Go.SL
namespace Go.Proofs.Nn
open RowKit SL
def SJ (c n:Int) (w:R) (e:Ending) (a:R):Prop:=
 ∃ b,e = N (.agg #[Z W c,fz 269 #[az b],fz 270 #[]])/\ag a (pt b (Y #[Z Q n] 166 (0,0))*whole w)/\aj w a
def yy (a n:Int) (w:R):Calls X 249 #[Z W a,Z Q n] w (SJ a n w):=by
 have b:=(ag.whole w).alloc (Y #[Z Q n] 166 (0,0));have c:=(aj.refl w).alloc (Y #[Z Q n] 166 (0,0))
 go_in
 go_wp2
 exact bodyPost_ret (v:=.agg #[Z W a,fz 269 #[az w.heap.size],fz 270 #[]]) (by simp [results,Tryz.results249,go_sem]) rfl ⟨_,rfl,SL.ag.right (SL.ag.alloc b _),c.alloc _⟩
def UT (f:Nat) (w:R) (e:Ending) (a:R):Prop:=
 ∃ b,e = N (.agg #[Z W 6,fz 271 #[az b],fz 272 #[az b]])/\ag a (pt b (Y #[fz f #[]] 315 (0,0))*whole w)/\aj w a
def wP (f:Nat) (w:R):Calls X 252 #[fz f #[]] w (UT f w):=by
 have a:=(ag.whole w).alloc (Y #[fz f #[]] 315 (0,0));have b:=(aj.refl w).alloc (Y #[fz f #[]] 315 (0,0))
 go_in
 go_wp2
 exact bodyPost_ret (v:=.agg #[Z W 6,fz 271 #[az w.heap.size],fz 272 #[az w.heap.size]]) (by simp [results,Tryz.results252,go_sem]) rfl ⟨_,rfl,SL.ag.right (SL.ag.alloc a _),b.alloc _⟩
def Te (c:Int) (f:Nat) (w:R) (e:Ending) (a:R):Prop:=
 ∃ b,e = N (.agg #[Z W c,fz 273 #[az b],fz 274 #[az b]])/\ag a (pt b (Y #[fz f #[]] 318 (0,0))*whole w)/\aj w a
def ss (a:Int) (f:Nat) (w:R):Calls X 256 #[Z W a,fz f #[]] w (Te a f w):=by
 have b:=(ag.whole w).alloc (Y #[fz f #[]] 318 (0,0));have c:=(aj.refl w).alloc (Y #[fz f #[]] 318 (0,0))
 go_in
 go_wp2
 exact bodyPost_ret (v:=.agg #[Z W a,fz 273 #[az w.heap.size],fz 274 #[az w.heap.size]]) (by simp [results,Tryz.results256,go_sem]) rfl ⟨_,rfl,SL.ag.right (SL.ag.alloc b _),c.alloc _⟩
def Qd (w:R) (e:Ending) (a:R):Prop:=∃ b,e = N (rB b)/\ag a (dm b*whole w)/\aj w a
def zy:(prog.info? 293).map (·.size)=U 27:=Kr0
def tx (b:Fb):(prog.info? 293).map (·.size)=U (oK b).size:=zy
def A9 (b:Fb):(oK b).all (·.oneCell')=H:=by
 simp [oK,Value.oneCell',fz]
def te:Array L:=#[Z W 0,.nilFunc,.nilFunc,Z W 0,.nilFunc,.nilFunc,Z W 0,.nilFunc,.nilFunc,Z W 0,.nilFunc,.nilFunc,Z W 0,.nilFunc,.nilFunc,Z W 0,.nilFunc,.nilFunc,Z W 0,.nilFunc,.nilFunc,Z W 0,.nilFunc,.nilFunc,Z W 0,.nilFunc,.nilFunc]
def vo (w:R):Calls X 231 #[] w (Qd w):=by
 have a:=(ag.whole w).alloc (Y te 293 (0,0));have b:=(aj.refl w).alloc (Y te 293 (0,0))
 go_in
 go_wp2_with fail
 change Calls _ _ _ (w.alloc (Y te 293 (0,0))) _;generalize w.alloc (Y te 293 (0,0))=w0 at a b ⊢;generalize w.heap.size=z at a ⊢;apply (yy 4 1465012808 _).mono;rintro e w1 ⟨b0,rfl,h1,A⟩;have o:=h1.under a;have f:=b.trans A;clear h1 A a b
 go_wp2_with fail
 apply (wP 253 _).mono;rintro e w2 ⟨b2,rfl,h2,B⟩;have p:=h2.under o;have g:=f.trans B;clear h2 B o f
 go_wp2_with fail
 apply (wP 254 _).mono;rintro e w3 ⟨b3,rfl,h3,C⟩;have q:=h3.under p;have h:=g.trans C;clear h3 C p g
 go_wp2_with fail
 apply (wP 255 _).mono;rintro e w4 ⟨b4,rfl,h4,D⟩;have r:=h4.under q;have i:=h.trans D;clear h4 D q h
 go_wp2_with fail
 apply (ss 1 257 _).mono;rintro e w5 ⟨b5,rfl,h5,E⟩;have u:=h5.under r;have j:=i.trans E;clear h5 E r i
 go_wp2_with fail
 apply (ss 1 258 _).mono;rintro e w6 ⟨b6,rfl,h6,F⟩;have v:=h6.under u;have l:=j.trans F;clear h6 F u j
 go_wp2_with fail
 apply (ss 2 259 _).mono;rintro e w7 ⟨b7,rfl,h7,G⟩;have x:=h7.under v;have m:=l.trans G;clear h7 G v l
 go_wp2_with fail
 apply (yy 2 0 _).mono;rintro e w8 ⟨b8,rfl,h8,S⟩;have y:=h8.under x;have D8:=m.trans S;clear h8 S x m;obtain ⟨d,c0⟩:∃ d:Fb,d=⟨b0,b2,b3,b4,b5,b6,b7,b8⟩:=⟨_,rfl⟩
 have hz:w8.heap[z]?=U (Y te 293 (0,0)):=y.lo.heap;have c:=y.lo.setRow (cs':=oK d);have d0:=ae c0;clear c0
 go_wp2_with (refine wpList_store_row rfl 293 (.tmp 0) (.tmp 10) rfl z (oK ⟨b0,b2,b3,b4,b5,b6,b7,b8⟩) rfl rfl 293 te hz (tx _) rfl (A9 _) ?_)
 rw [d0.o] at c;refine bodyPost_ret (v:=rB ⟨b0,b2,b3,b4,b5,b6,b7,b8⟩) (results_cell_row rfl _ _ z 293 _ (0,0) _ rfl c.heap underlying293 rfl (tx _)) rfl ⟨⟨b0,b2,b3,b4,b5,b6,b7,b8⟩,rfl,?_,D8.setRow _ _⟩;exact c.right.to (by unfold dm;ac_rfl)
def WY (b:Nat) (w:R):Calls X 253 #[az b] w fun e a=>e = N (I (U ⟨b,2,V⟩))/\w=a:=by
 go_in
 go_wp2
 go_ret
 exact ⟨rfl,rfl⟩
def WX (b:Nat) (w:R):Calls X 254 #[az b] w fun e a=>e = N (I (U ⟨b,3,V⟩))/\w=a:=by
 go_in
 go_wp2
 go_ret
 exact ⟨rfl,rfl⟩
def WR (b:Nat) (w:R):Calls X 255 #[az b] w fun e a=>e = N (I (U ⟨b,1,V⟩))/\w=a:=by
 go_in
 go_wp2
 go_ret
 exact ⟨rfl,rfl⟩
def W7 (b:Nat) (w:R):Calls X 257 #[az b] w fun e a=>e = N (I (U ⟨b,4,V⟩))/\w=a:=by
 go_in
 go_wp2
 go_ret
 exact ⟨rfl,rfl⟩
def WJ (b:Nat) (w:R):Calls X 258 #[az b] w fun e a=>e = N (I (U ⟨b,5,V⟩))/\w=a:=by
 go_in
 go_wp2
 go_ret
 exact ⟨rfl,rfl⟩
def at8 (b:Nat) (w:R):Calls X 259 #[az b] w fun e a=>e = N (I (U ⟨b,6,V⟩))/\w=a:=by
 go_in
 go_wp2
 go_ret
 exact ⟨rfl,rfl⟩
def Rb:∀ a w,(callFunc 269 a).run X w = .ok (.enter 269 a) w:=enters func269 Kr0 rfl
def Rx:∀ a w,(callFunc 270 a).run X w = .ok (.enter 270 a) w:=enters func270 Kr0 rfl
def Oh:∀ a w,(callFunc 271 a).run X w = .ok (.enter 271 a) w:=enters func271 Kr0 rfl
def Kt:∀ a w,(callFunc 272 a).run X w = .ok (.enter 272 a) w:=enters func272 Kr0 rfl
def Oc:∀ a w,(callFunc 273 a).run X w = .ok (.enter 273 a) w:=enters func273 Kr0 rfl
def Ks:∀ a w,(callFunc 274 a).run X w = .ok (.enter 274 a) w:=enters func274 Kr0 rfl
def U0:∀ a w,(callFunc 250 a).run X w = .ok (.enter 250 a) w:=enters func250 Kr0 rfl
def US:∀ a w,(callFunc 251 a).run X w = .ok (.enter 251 a) w:=enters func251 Kr0 rfl
def QT:∀ a w,(callFunc 253 a).run X w = .ok (.enter 253 a) w:=enters func253 Kr0 rfl
def Rv:∀ a w,(callFunc 254 a).run X w = .ok (.enter 254 a) w:=enters func254 Kr0 rfl
def Rn:∀ a w,(callFunc 255 a).run X w = .ok (.enter 255 a) w:=enters func255 Kr0 rfl
def Ra:∀ a w,(callFunc 257 a).run X w = .ok (.enter 257 a) w:=enters func257 Kr0 rfl
def Rh:∀ a w,(callFunc 258 a).run X w = .ok (.enter 258 a) w:=enters func258 Kr0 rfl
def Rc:∀ a w,(callFunc 259 a).run X w = .ok (.enter 259 a) w:=enters func259 Kr0 rfl
def Uy (b:Nat) (n:Int) (t:Tg) (w:R) (F:ai) (h:ag w (pt b (Y #[Z Q n] 166 (0,0))*F)) :
  Calls X 269 #[.agg t.cells,az b] w (kX (Z Q n) w):=by
 have a:w.cell? ⟨b,0,V⟩=U (Z Q n):=h.cell 0;have c:=h.lt;clear h;simp only [Tg.cells]
 go_in
 go_wp2
 go_ret
 exact ⟨rfl,SL.ag.right (SL.ag.alloc (ag.whole w) _),(aj.refl w).alloc _⟩
def V3 (t:Tg) (w:R) (a:t.Fit):Calls X 250 #[.agg t.cells] w (kX (Z Q t.ep) w):=by
 obtain ⟨b,c,_,_,_,_,_,_⟩:=a;simp only [Tg.cells]
 go_in
 go_wp2
 go_ret
 exact ⟨rfl,SL.ag.right (SL.ag.alloc (ag.whole w) _),(aj.refl w).alloc _⟩
def Sm (b f o:Nat) (n:Int) (t:Tg) (w:R) (F:ai) (h:ag w (pt b (Y #[fz f #[]] 315 (0,0))*F)) (m:∀ c w,(callFunc f c).run X w = .ok (.enter f c) w)
  (g:∀ (b:Nat) (w:R),Calls X f #[az b] w fun e j=>e = N (I (U ⟨b,o,V⟩))/\w=j) (d:t.cells[o]?=U (Z Q n)) :
  Calls X 271 #[.agg t.cells,az b] w (kX (Z Q n) w):=by
 have l:w.cell? ⟨b,0,V⟩=U (fz f #[]):=h.cell 0;have p:=h.lt;have a:=(ag.whole w).alloc (Y t.cells 245 (0,0));have i:=(a.cell o).trans d;clear h d;simp only [Tg.cells] at a i ⊢
 go_in
 go_wp2_with fail
 apply (g _ _).mono;rintro e q ⟨rfl,rfl⟩
 go_wp2
 go_ret
 exact ⟨rfl,SL.ag.right a,(aj.refl w).alloc _⟩
def TK (b f o:Nat) (n:Int) (t:Tg) (w:R) (F:ai) (h:ag w (pt b (Y #[fz f #[]] 318 (0,0))*F)) (m:∀ c w,(callFunc f c).run X w = .ok (.enter f c) w)
  (g:∀ (b:Nat) (w:R),Calls X f #[az b] w fun e j=>e = N (I (U ⟨b,o,V⟩))/\w=j) (d:t.cells[o]?=U (Z W n)) :
  Calls X 273 #[.agg t.cells,az b] w (kX (Z Q (GX n)) w):=by
 have l:w.cell? ⟨b,0,V⟩=U (fz f #[]):=h.cell 0;have p:=h.lt;have a:=(ag.whole w).alloc (Y t.cells 245 (0,0));have i:=(a.cell o).trans d;clear h d;simp only [Tg.cells] at a i ⊢
 go_in
 go_wp2_with fail
 apply (g _ _).mono;rintro e q ⟨rfl,rfl⟩
 go_wp2
 go_ret
 exact ⟨rfl,SL.ag.right a,(aj.refl w).alloc _⟩
def fS {w:R} {b:Fb} {F:ai} (h:ag w (dm b*F)):ag w (pt b.b0 (Y #[Z Q 1465012808] 166 (0,0))*(pt b.b2 (Y #[fz 253 #[]] 315 (0,0))*(pt b.b3 (Y #[fz 254 #[]] 315 (0,0))*(pt b.b4 (Y #[fz 255 #[]] 315 (0,0)) *
  (pt b.b5 (Y #[fz 257 #[]] 318 (0,0))*(pt b.b6 (Y #[fz 258 #[]] 318 (0,0))*(pt b.b7 (Y #[fz 259 #[]] 318 (0,0))*(pt b.b8 (Y #[Z Q 0] 166 (0,0))*F)))))))):=h.to (by unfold dm;ac_rfl)
def VN (b:Fb) (t:Tg) (k:Nat) (d:k<9) (e:t.Fit) :
  ∃ f c,kO b k=(f,c)/\(∀ a w,(callFunc f a).run X w = .ok (.enter f a) w) /\
   ∀ w F,ag w (dm b*F)->Calls X f (#[.agg t.cells]++c) w (kX (Z Q (t.field k)) w):=by
 match k,d with
 | 0,_=>exact ⟨_,_,rfl,Rb,fun w F h=>Uy b.b0 _ t w _ (fS h)⟩
 | 1,_=>exact ⟨_,_,rfl,U0,fun w F h=>V3 t w e⟩
 | 2,_=>exact ⟨_,_,rfl,Oh,fun w F h=>Sm b.b2 _ 2 _ t w _ (fS h).ah QT WY rfl⟩
 | 3,_=>exact ⟨_,_,rfl,Oh,fun w F h=>Sm b.b3 _ 3 _ t w _ (fS h).au Rv WX rfl⟩
 | 4,_=>exact ⟨_,_,rfl,Oh,fun w F h=>Sm b.b4 _ 1 _ t w _ (fS h).aA Rn WR rfl⟩
 | 5,_=>exact ⟨_,_,rfl,Oc,fun w F h=>TK b.b5 _ 4 _ t w _ (fS h).aJ Ra W7 rfl⟩
 | 6,_=>exact ⟨_,_,rfl,Oc,fun w F h=>TK b.b6 _ 5 _ t w _ (fS h).eu Rh WJ rfl⟩
 | 7,_=>exact ⟨_,_,rfl,Oc,fun w F h=>TK b.b7 _ 6 _ t w _ (fS h).fh Rc at8 rfl⟩
 | 8,_=>exact ⟨_,_,rfl,Rb,fun w F h=>Uy b.b8 _ t w _ (fS h).mX⟩
def jZ (t:Tg) (w:R):Calls X 230 #[.agg t.cells] w (kX (.bool t.ok) w):=by
 simp only [Tg.cells]
 by_cases a:1<=t.ep
 .skip
  by_cases b:1<=t.st
  .skip
   by_cases d:t.st<=t.sq
   .skip
    by_cases e:t.sq<=281474976710655
    .skip
     by_cases h4:t.fl<t.sq
     .skip
      by_cases h5:1<=t.ct
      .skip
       by_cases f:t.ct<=72
       .skip
        by_cases g:0<=t.ix
        .skip
         by_cases h:t.ix<t.ct
         .skip
          by_cases i:0<=t.id
          .skip
           by_cases c:t.id<3840
           .skip
            rw [show t.ok=H by simp [Tg.ok,a,b,d,e,h4,h5,f,g,h,i,c]]
            go_in
            go_wp2
            go_ret
            exact ⟨rfl,SL.ag.right (SL.ag.alloc (ag.whole w) _),(aj.refl w).alloc _⟩
           .rw [show t.ok=M by simp [Tg.ok,c]]
            have hd:decide (t.id<3840)=M:=by simpa using c
            go_in
            go_wp2
            go_ret
            exact ⟨rfl,SL.ag.right (SL.ag.alloc (ag.whole w) _),(aj.refl w).alloc _⟩
          .rw [show t.ok=M by simp [Tg.ok,i]]
           have hd:decide (0<=t.id)=M:=by simpa using i
           go_in
           go_wp2
           go_ret
           exact ⟨rfl,SL.ag.right (SL.ag.alloc (ag.whole w) _),(aj.refl w).alloc _⟩
         .rw [show t.ok=M by simp [Tg.ok,h]]
          have hd:decide (t.ix<t.ct)=M:=by simpa using h
          go_in
          go_wp2
          go_ret
          exact ⟨rfl,SL.ag.right (SL.ag.alloc (ag.whole w) _),(aj.refl w).alloc _⟩
        .rw [show t.ok=M by simp [Tg.ok,g]]
         have hd:decide (0<=t.ix)=M:=by simpa using g
         go_in
         go_wp2
         go_ret
         exact ⟨rfl,SL.ag.right (SL.ag.alloc (ag.whole w) _),(aj.refl w).alloc _⟩
       .rw [show t.ok=M by simp [Tg.ok,f]]
        have hd:decide (t.ct<=72)=M:=by simpa using f
        go_in
        go_wp2
        go_ret
        exact ⟨rfl,SL.ag.right (SL.ag.alloc (ag.whole w) _),(aj.refl w).alloc _⟩
      .rw [show t.ok=M by simp [Tg.ok,h5]]
       have hd:decide (1<=t.ct)=M:=by simpa using h5
       go_in
       go_wp2
       go_ret
       exact ⟨rfl,SL.ag.right (SL.ag.alloc (ag.whole w) _),(aj.refl w).alloc _⟩
     .rw [show t.ok=M by simp [Tg.ok,h4]]
      have hd:decide (t.fl<t.sq)=M:=by simpa using h4
      go_in
      go_wp2
      go_ret
      exact ⟨rfl,SL.ag.right (SL.ag.alloc (ag.whole w) _),(aj.refl w).alloc _⟩
    .rw [show t.ok=M by simp [Tg.ok,e]]
     have hd:decide (t.sq<=281474976710655)=M:=by simpa using e
     go_in
     go_wp2
     go_ret
     exact ⟨rfl,SL.ag.right (SL.ag.alloc (ag.whole w) _),(aj.refl w).alloc _⟩
   .rw [show t.ok=M by simp [Tg.ok,d]]
    have hd:decide (t.st<=t.sq)=M:=by simpa using d
    go_in
    go_wp2
    go_ret
    exact ⟨rfl,SL.ag.right (SL.ag.alloc (ag.whole w) _),(aj.refl w).alloc _⟩
  .rw [show t.ok=M by simp [Tg.ok,b]]
   have hd:decide (1<=t.st)=M:=by simpa using b
   go_in
   go_wp2
   go_ret
   exact ⟨rfl,SL.ag.right (SL.ag.alloc (ag.whole w) _),(aj.refl w).alloc _⟩
 .rw [show t.ok=M by simp [Tg.ok,a]]
  have hd:decide (1<=t.ep)=M:=by simpa using a
  go_in
  go_wp2
  go_ret
  exact ⟨rfl,SL.ag.right (SL.ag.alloc (ag.whole w) _),(aj.refl w).alloc _⟩
end Go.Proofs.Nn
namespace Go.SL
open RowKit
def rk (t:Tg) (k:Nat):List UInt8:=(D9 k).flatMap fun i=>dD (t.field i) (eA i)
def l8 (t:Tg) (k:Nat):rk t (k+1)=rk t k++dD (t.field k) (eA k):=by simp [rk,D7]
def enc (t:Tg):List UInt8:=rk t 9
def oh (k:Nat):eA k<=6:=by
 unfold eA
 split <;> omega
def CS (t:Tg) (k:Nat):(rk t k).length<=6*k:=by
 induction k with
 | zero=>simp [rk]
 | succ k a=>rw [l8,B3,bp];have:=oh k;omega
def dK (t:Tg):(enc t).length=32:=by
 simp [enc,rk,D7,bp,eA]
end Go.SL
namespace Go.Proofs.Nn
open RowKit SL
def FL (b:Fb) (k:Nat) (a:k<9) (w:R):(Instr.index 293 (rB b) (Z W (k:Int))).run X w = .ok (.agg (Er b k)) w:=by
 obtain rfl|rfl|rfl|rfl|rfl|rfl|rfl|rfl|rfl:k=0\/k=1\/k=2\/k=3\/k=4\/k=5\/k=6\/k=7\/k=8:=K
 all_goals kernel_rfl
def nS {w:R} {v:L} {l:List UInt8} {x:UInt8} {F:ai} (h:ag w (bs 5 v l*F)) (z:l.length<=1000000) :
  ∃ b d,(Builtin.append_ #[23,23] 23 #[v,O (U ⟨w.heap.size,0,V⟩) 1 1]).run X (w.alloc (Y #[u8 x] 5 (0,0))) = .ok b d/\ag d (bs 5 b (l++[x])*F)/\aj w d/\∃ a c,b = O a (l.length+1) c:=by
 obtain ⟨A,o,y,q,m⟩:=info_parts gO;have f:=h.alloc (Y #[u8 x] 5 (0,0))
 have i:pC (w.alloc (Y #[u8 x] 5 (0,0))) 1 (O (U ⟨w.heap.size,0,V⟩) 1 1) 1 [u8 x]:=
  ⟨rfl,.inr ⟨_,_,rfl,fun j u e=>by
   rw [Addr.add_lit,Nat.zero_add];exact (f.cell j).trans (by simpa using e)⟩⟩
 obtain ⟨b,d,p,g,r⟩:=ag.append (P:=X) (ty:=23) underlying23 o y q m rfl f.right i (by intro u e;rw [List.mem_singleton.1 e];rfl) (by unfold maxLen;omega) K;refine ⟨b,d,p,g.to (by rw [bs,B3,E5];rfl),((aj.refl w).alloc _).trans r,aC g⟩
def Uq (b:List UInt8) (n:Int) (s:Nat) (a:ai) (w0:R) (gk:Nat) (u6 u9 u29:L) (wr:R):Prop:=
 ∃ j:Nat,j<=s/\s-j<=gk/\u29 = Z W (j:Int)/\u9 = Z Q (n/(256:Int) ^ j)/\ag wr (bs 5 u6 (b++dD n j)*a)/\aj w0 wr
def Sx (t:Tg) (c:Fb) (b:Nat) (a:ai) (w0:R) (gk:Nat) (u6 u20:L) (wr:R):Prop:=
 ∃ k:Nat,k<=9/\9-k<=gk/\u20 = Z W (k:Int)/\ag wr (bs 5 u6 (rk t k)*(dm c*(pt b (Y t.cells 245 (0,0))*a)))/\aj w0 wr
def Pu (l:List UInt8) (w:R) (e:Ending) (a:R):Prop:=∃ v,e = N (Z' #[v,Z W 0])/\ag a (bs 5 v l*whole w)/\aj w a
def BG (t:Tg) (a:t.Fit) (k:Nat):0<=t.field k/\t.field k<18446744073709551616:=by
 obtain ⟨b,c,d,e,h4,h5,f,g⟩:=a;unfold Tg.field Ri GX
 split <;> omega
def mI (t:Tg) (ht:t.Fit) (N0:t.ok=H) (bv:L) (l:List UInt8) (hl:l.length=480) (w:R) (G:Rd w bv l) :
  Calls X 176 #[.agg t.cells,bv] w (Pu (enc t++l) w):=by
 obtain ⟨ba,bc,rfl⟩:=G.shape;rw [hl] at G ⊢
 have l1:∀ w,(Instr.makeSlice 23 (Z W 0) (Z W 512)).run X w = .ok (O (U ⟨w.heap.size,0,V⟩) 0 512) (w.alloc (Y (ed (zs 512)) 5 (0,0))):=fun w=>by
  obtain ⟨W0,D,hz,hs,hb⟩:=info_parts gO;have:=run_make (P:=X) w 23 5 W0 _ underlying23 D hz W W 0 512 K K (by rw [hb];omega) K;rw [this,hs];exact congrArg (fun c=>Result.ok _ (w.alloc (Y c _ (0,0)))) (jH 512)
 have S:=jZ t;rw [N0] at S;have r:=(ag.whole w).alloc (Y t.cells 245 (0,0));have hs:=(aj.refl w).alloc (Y t.cells 245 (0,0));have Hl:=ae hl;have Hr:=ae G
 go_in
 simp only [Tg.cells] at r S ⊢
 go_wp2_with fail
 apply (S _).mono;rintro f0 w2 ⟨rfl,h2,d2⟩;have z:=h2.cM r;have D2:=aj.trans hs d2;generalize w.heap.size=h at z ⊢;have F:=z.lt
 go_wp2_with fail
 have A:=z.alloc (Y (ed (zs 512)) 5 (0,0));have D3:=D2.alloc (Y (ed (zs 512)) 5 (0,0));generalize r1:w2.alloc (Y (ed (zs 512)) 5 (0,0))=w3 at A D3 ⊢;generalize w2.heap.size=gb at A ⊢;apply (vo w3).mono;rintro f0 w4 ⟨b,rfl,h4,d4⟩;have H4:=h4.under A;have D4:=D3.trans d4
 have g:ag w4 (bs 5 (O (U ⟨gb,0,V⟩) 0 512) (rk t 0)*(dm b*(pt h (Y t.cells 245 (0,0))*whole w))):=by
  have:=ag.nM (sz:=1) (n:=0) (cap:=512) H4.ah K (by unfold maxLen;omega) (by simp [fj,bg]);exact this
 have E:=FL b;have j0:=VN b t;generalize K0:rB b=fv at E;clear K0 H4
 go_wp2_with fail
 go_loopg [6,20] 9 (fun gk u6 u20 wr=>Sx t b h (whole w) w gk u6 u20 wr)
 case atStart=>exact ⟨0,K,K,rfl,g,D4⟩
 case round=>
  clear g D4;obtain ⟨D0,rfl⟩:∃ n,n=gk:=⟨gk,rfl⟩
  obtain ⟨k,hk,f1,rfl,a,p⟩:=hrel;have j1:=CS t k;have c0:=aC a;obtain ⟨va,vc,rfl⟩:=c0
  by_cases F:k<9
  .have k1:(k:Int)<9:=K
   have L0:=E k F;obtain ⟨f,v,hf,c1,h0⟩:=j0 k F ht;obtain ⟨m,i,g0⟩:∃ m i,kP b k=(m,i):=⟨_,_,rfl⟩
   simp only [Er,hf,g0] at L0;have q1:(eA k:Int)<=6:=by have:=oh k;omega
   have r:=a.alloc (Y #[Z W (eA k),fz f v,fz m i] 292 (0,0));have V0:=p.alloc (Y #[Z W (eA k),fz f v,fz m i] 292 (0,0));have d:∀ o,wr.cell? ⟨h,o,V⟩=t.cells[o]?:=fun o=>a.au.cell o;have m0:=d 0;have o0:=d 1;have q0:=d 2;have r0:=d 3;have s0:=d 4;have u0:=d 5;have x0:=d 6;simp only [Tg.cells] at m0 o0 q0 r0 s0 u0 x0;have b1:=a.au.lt;have H0:=h0 _ _ (r.au.ah.ah);clear E j0 h0 d hf g0 a p
   go_wp2_with fail
   apply H0.mono;rintro f0 w5 ⟨rfl,h5,d5⟩;have g:=h5.cM r;have D5:=V0.trans d5;generalize wr.heap.size=b8 at g ⊢;have c8:=g.cell 0;obtain ⟨Z0,a1⟩:=BG t ht k;have e0:Hid (rk t (k+1)=rk t k++dD (t.field k) (eA k)):=l8 t k;generalize d1:t.field k=n at *;generalize o1:eA k=e at *;generalize m1:rk t k=y at *;have H6:ag w5 (bs 5 (O va y.length vc) (y++dD n 0)*(pt b8 (Y #[Z W (e:Int),fz f v,fz m i] 292 (0,0))*(dm b*(pt h (Y t.cells 245 (0,0))*whole w)))):=g.ah.to (by simp only [dD,List.range_zero,List.map_nil,List.append_nil])
   go_wp2_with fail
   go_loopg [6,9,29] e (fun gk u6 u9 u29 wr=>Uq y n e (pt b8 (Y #[Z W (e:Int),fz f v,fz m i] 292 (0,0))*(dm b*(pt h (Y t.cells 245 (0,0))*whole w))) w gk u6 u9 u29 wr)
   case atStart=>exact ⟨0,K,K,rfl,Si0,H6,D5⟩
   case round=>
    obtain ⟨j,hj,e1,rfl,rfl,a,p⟩:=hrel;have i1:(y++dD n j).length<=60:=by rw [B3,bp];omega
    by_cases g1:j<e
    .have h1:(j:Int)<(e:Int):=K
     have hp:0<(256:Int) ^ j:=Int.pow_pos De0
     have q2:n/(256:Int) ^ (j+1)=n/(256:Int) ^ j/256:=by
      rw [Int.pow_succ,Int.ediv_ediv,if_neg (fun hh=>absurd hh.1 K),Int.sub_zero]
     have k0:=Ch n j;obtain ⟨v',w6,u,q,C,a6,c6,rfl⟩:=nS (x:=UInt8.ofInt (n/(256:Int) ^ j)) a K;have d0:=Ai (n/(256:Int) ^ j);rw [IntKind.wrap_u8] at d0;rw [List.append_assoc,<- k0] at q;generalize hq:n/(256:Int) ^ j=s1 at *;rw [<- d0] at u;have B:=ae u;have l0:=ae q2;clear u k0 d0 a hq q2 hp
     go_wp2_with (at_builtin;refine wpList_append_run B.o _ _ rfl rfl rfl rfl rfl ?_)
     go_roundg (gk-1)
     case measure=>omega
     case rel=>
      refine ⟨j+1,K,K,by go_num,by rw [l0.o],?_,p.trans C⟩;rw [B3] at q;exact q
    .obtain rfl:j=e:=K
     have c0:=aC a;obtain ⟨a6,c6,rfl⟩:=c0;rw [<- e0.o] at a;have H9:=a.iD
     go_wp2
     go_roundg (D0-1)
     case measure=>omega
     case rel=>
      refine ⟨k+1,K,K,by go_num,?_,p⟩
      first|exact H9|(rw [<- e0.o];exact H9)
  .obtain rfl:k=9:=K
   have R0:=pC.carry Hr.o fun Y0 X0 hu=>(a.right.right.right.mu.to (eM _ _)).bV hu;obtain ⟨i0,D,hz,T0,F0⟩:=info_parts gO
   have S0:pC wr 1 (O ba 480 bc) 480 (l.map Go.SL.u8):=by
    have:=R0;unfold Rd at this;rwa [Hl.o] at this
   obtain ⟨v',w6,u,q,C⟩:=ag.append (P:=X) (ty:=23) underlying23 D hz T0 F0 rfl a S0 (by
    intro X0 hu;obtain ⟨x,_,rfl⟩:=List.mem_map.1 hu;rfl) (by unfold maxLen;omega) K
   have G0:ag w6 (bs 5 v' (enc t++l)*(dm b*(pt h (Y t.cells 245 (0,0))*whole w))):=q.to (by
    rw [bs,B3,E5,Hl.o];rfl)
   have B:=ae u
   go_wp2_with (at_builtin;refine wpList_append_run B.o _ _ rfl rfl rfl rfl rfl ?_)
   go_ret2
   exact ⟨v',rfl,G0.iD.iD,p.trans C⟩
end Go.Proofs.Nn
namespace Go.SL
open RowKit
def Tg.zero:Tg:=⟨0,0,0,0,0,0,0⟩
def Tg.set (t:Tg) (n:Int):Nat->Tg
 | 1=>{ t with ep:=n%4294967296 }
 | 2=>{ t with sq:=n }
 | 3=>{ t with fl:=n }
 | 4=>{ t with st:=n }
 | 5=>{ t with ix:=wrap64 n }
 | 6=>{ t with ct:=wrap64 n }
 | 7=>{ t with id:=wrap64 n }
 | _=>t
def mg (k:Nat):Nat:=((D9 k).map eA).sum
def sF (k:Nat):mg (k+1)=mg k+eA k:=by simp [mg,D7]
def iR (l:List UInt8):Nat->Tg
 | 0=>Tg.zero
 | k+1=>(iR l k).set (iM (l.drop (mg k)) (eA k)) k
end Go.SL
namespace Go.Proofs.Nn
open RowKit SL
def wL (b:Nat) (t:Tg) (F:ai) (w:R) (e:Ending) (a:R):Prop:=e = N (Z' #[])/\ag a (pt b (Y t.cells 245 (0,0))*F)/\aj w a
def Vu (b:Nat) (n:Int) (t:Tg) (w:R) (F:ai) (h:ag w (pt b (Y t.cells 245 (0,0))*F)) :
  Calls X 270 #[az b,Z Q n] w (wL b t F w):=by
 go_in
 go_wp2
 go_end0
 exact ⟨rfl,h,aj.refl w⟩
def V4 (b:Nat) (n:Int) (t:Tg) (w:R) (F:ai) (h:ag w (pt b (Y t.cells 245 (0,0))*F)) :
  Calls X 251 #[az b,Z Q n] w (wL b (t.set n 1) F w):=by
 have d:=h.cell 0;have e:=h.frozen 0;have c:=h.setCell 0 (Z .u32 (n%4294967296));have a:=ae c
 go_in
 go_wp2
 go_end0
 exact ⟨rfl,a.o,(aj.refl w).setCell _ _⟩
def Ij (b c f o:Nat) (n v:Int) (t g:Tg) (w:R) (F:ai) (h:ag w (pt c (Y #[fz f #[]] 315 (0,0))*(pt b (Y t.cells 245 (0,0))*F))) (r:∀ a w,(callFunc f a).run X w = .ok (.enter f a) w)
  (i:∀ (b:Nat) (w:R),Calls X f #[az b] w fun e m=>e = N (I (U ⟨b,o,V⟩))/\w=m) (j:t.cells[o]?=U (Z Q v)) (l:t.cells.setIfInBounds o (Z Q n)=g.cells) :
  Calls X 272 #[az b,Z Q n,az c] w (wL b g (pt c (Y #[fz f #[]] 315 (0,0))*F) w):=by
 have p:=h.cell 0;have q:=(h.ah.cell o).trans j;have u:=h.ah.frozen o;have d:=h.ah.setCell o (Z Q n);rw [l] at d
 go_in
 go_wp2_with fail
 apply (i _ _).mono;rintro e x ⟨rfl,rfl⟩
 go_wp2
 go_end0
 exact ⟨rfl,d,(aj.refl w).setCell _ _⟩
def Ts (b c f o:Nat) (n v:Int) (t g:Tg) (w:R) (F:ai) (h:ag w (pt c (Y #[fz f #[]] 318 (0,0))*(pt b (Y t.cells 245 (0,0))*F))) (r:∀ a w,(callFunc f a).run X w = .ok (.enter f a) w)
  (i:∀ (b:Nat) (w:R),Calls X f #[az b] w fun e m=>e = N (I (U ⟨b,o,V⟩))/\w=m) (j:t.cells[o]?=U (Z W v)) (l:t.cells.setIfInBounds o (Z W (wrap64 n))=g.cells) :
  Calls X 274 #[az b,Z Q n,az c] w (wL b g (pt c (Y #[fz f #[]] 318 (0,0))*F) w):=by
 have p:=h.cell 0;have q:=(h.ah.cell o).trans j;have u:=h.ah.frozen o;have d:=h.ah.setCell o (Z W (wrap64 n));rw [l] at d
 go_in
 go_wp2_with fail
 apply (i _ _).mono;rintro e x ⟨rfl,rfl⟩
 go_wp2
 go_end0
 exact ⟨rfl,d,(aj.refl w).setCell _ _⟩
def Up (a:Fb) (b:Nat) (t:Tg) (n:Int) (k:Nat) (v:k<9) :
  ∃ f l,kP a k=(f,l)/\(∀ j w,(callFunc f j).run X w = .ok (.enter f j) w) /\
   ∀ w F,ag w (dm a*(pt b (Y t.cells 245 (0,0))*F))->Calls X f (#[az b,Z Q n]++l) w (wL b (t.set n k) (dm a*F) w):=by
 have d:∀ {g:Tg} {i F:ai} {w:R} {e:Ending} {m:R} {c:Nat} {o:Obj},wL b g (pt c o*i) w e m->(pt b (Y g.cells 245 (0,0))*(pt c o*i)=pt b (Y g.cells 245 (0,0))*(dm a*F))->wL b g (dm a*F) w e m:=
  fun ⟨p,r,u⟩ e=>⟨p,r.to e,u⟩
 match k,v with
 | 0,_=>exact ⟨_,_,rfl,Rx,fun w F h=>Vu b n t w _ h.ah⟩
 | 1,_=>exact ⟨_,_,rfl,US,fun w F h=>V4 b n t w _ h.ah⟩
 | 2,_=>exact ⟨_,_,rfl,Kt,fun w F h=>(Ij b a.b2 _ 2 n _ t (t.set n 2) w _ ((fS h).ah.lo.ah) QT WY rfl rfl).mono fun _ _ q=>d q (by unfold dm;ac_rfl)⟩
 | 3,_=>exact ⟨_,_,rfl,Kt,fun w F h=>(Ij b a.b3 _ 3 n _ t (t.set n 3) w _ ((fS h).au.lo.ah) Rv WX rfl rfl).mono fun _ _ q=>d q (by unfold dm;ac_rfl)⟩
 | 4,_=>exact ⟨_,_,rfl,Kt,fun w F h=>(Ij b a.b4 _ 1 n _ t (t.set n 4) w _ ((fS h).aA.lo.ah) Rn WR rfl rfl).mono fun _ _ q=>d q (by unfold dm;ac_rfl)⟩
 | 5,_=>exact ⟨_,_,rfl,Ks,fun w F h=>(Ts b a.b5 _ 4 n _ t (t.set n 5) w _ ((fS h).aJ.lo.ah) Ra W7 rfl rfl).mono fun _ _ q=>d q (by unfold dm;ac_rfl)⟩
 | 6,_=>exact ⟨_,_,rfl,Ks,fun w F h=>(Ts b a.b6 _ 5 n _ t (t.set n 6) w _ ((fS h).eu.lo.ah) Rh WJ rfl rfl).mono fun _ _ q=>d q (by unfold dm;ac_rfl)⟩
 | 7,_=>exact ⟨_,_,rfl,Ks,fun w F h=>(Ts b a.b7 _ 6 n _ t (t.set n 7) w _ ((fS h).fh.lo.ah) Rc at8 rfl rfl).mono fun _ _ q=>d q (by unfold dm;ac_rfl)⟩
 | 8,_=>exact ⟨_,_,rfl,Rx,fun w F h=>Vu b n t w _ h.ah⟩
def Cb (l:List UInt8):∀ (n i:Nat) (a:List UInt8),l.length-i=n->ByteArray.toList.loop ⟨l.toArray⟩ i a=a.reverse++l.drop i:=by
 intro n
 induction n with
 | zero=>
  intro i a h;rw [ByteArray.toList.loop];have:¬ i<ByteArray.size ⟨l.toArray⟩:=by show ¬ i<l.toArray.size;simp;omega
  rw [if_neg this,List.drop_of_length_le K];simp
 | succ n c=>
  intro i a h;rw [ByteArray.toList.loop];have b:i<l.length:=K
  have:i<ByteArray.size ⟨l.toArray⟩:=by show i<l.toArray.size;simpa using b
  rw [if_pos this,c (i+1) _ K,List.drop_eq_getElem_cons b];simp [ByteArray.get!,b]
def vT (l:List UInt8):(str l).toList=l:=by
 show ByteArray.toList.loop ⟨l.toArray⟩ 0 []=l
 rw [Cb l _ 0 [] rfl];rfl
def qC (w:R) (v:L) (l:List UInt8) (h:Rd w v l):(convert 23 9 v).run X w = .ok (.string (str l)) w:=by
 have vU:∀ (l:List UInt8) (s:ByteArray),(l.map fun x=>(x.toNat:Int)).foldl (fun r n=>r.push (UInt8.ofNat n.toNat)) s=⟨s.data++l.toArray⟩:=by
  intro l
  induction l with
  | nil=>intro s;simp
  | cons a l g=>intro s;simp only [List.map_cons,List.foldl_cons,g];simp [ByteArray.push]
 obtain ⟨_,f⟩:=h;rcases f with ⟨rfl,d⟩|⟨a,c,rfl,e⟩
 .have:l=[]:=List.eq_nil_of_length_eq_zero d
  subst this;rw [run_convert_bytes_string w _ _ 5 V 0 0 underlying23 underlying5 underlying9]
  rfl
 .rw [run_convert_bytes_string w _ _ 5 (U a) _ c underlying23 underlying5 underlying9]
  have b:=run_loadCells_list (P:=X) (w:=w) a (l.map u8) e;rw [List.length_map] at b
  have:=run_bytesToString (P:=X) w a l.length c (l.map fun x=>(x.toNat:Int)) (by
   rw [b];simp [u8,Function.comp_def])
  rw [this,vU];simp [str]
def sm (t:Tg) (i:t.ok=M) (b:L) (l:List UInt8) (w:R) (m:Rd w b l) :
  Calls X 176 #[.agg t.cells,b] w (kX (Z' #[O V 0 0,Z W 1]) w):=by
 have a:=jZ t;rw [i] at a;have c:=(ag.whole w).alloc (Y t.cells 245 (0,0));have j:=(aj.refl w).alloc (Y t.cells 245 (0,0))
 go_in
 simp only [Tg.cells] at c a ⊢
 go_wp2_with fail
 apply (a _).mono;rintro e o ⟨rfl,h,g⟩;have f:=(h.cM c).right;have d:=aj.trans j g
 go_wp2
 go_ret2
 exact ⟨rfl,f,d⟩
def G2 (w:R) (d e:L) (a b:List UInt8) (f:Rd w d a) (g:Rd w e b) :
  Calls X 248 #[d,e] w (vM (decide (a=b)) w):=by
 have i:=qC w d a f;have j:=qC w e b g
 by_cases c:a=b
 .subst c
  rw [show decide (a=a)=H by simp]
  go_in
  go_wp2
  go_ret
  exact ⟨rfl,rfl⟩
 .rw [show decide (a=b)=M by simpa using c]
  have h:((str a).toList == (str b).toList)=M:=by
   rw [vT,vT];simpa using c
  go_in
  go_wp2
  go_ret
  exact ⟨rfl,rfl⟩
end Go.Proofs.Nn
namespace Go.SL
open RowKit
def cV (l:List UInt8):Option (Tg × List UInt8):=
 if (iR l 9).ok=H/\enc (iR l 9)++l.drop 32=l then U (iR l 9,l.drop 32) else V
def Gn (k:Nat) (h:k<=9):mg k<=32:=by
 obtain rfl|rfl|rfl|rfl|rfl|rfl|rfl|rfl|rfl|rfl:k=0\/k=1\/k=2\/k=3\/k=4\/k=5\/k=6\/k=7\/k=8\/k=9:=K
 all_goals decide
def PB (t:Tg) (n:Int) (k:Nat) (h:t.Fit) (g:0<=n) (i:n<18446744073709551616):(t.set n k).Fit:=by
 obtain ⟨a,b,c,d,h4,h5,e,f⟩:=h;unfold Tg.set
 split
 .exact ⟨Int.emod_nonneg _ De0,Int.emod_lt_of_pos _ De0,c,d,h4,h5,e,f⟩
 .exact ⟨a,b,c,d,g,i,e,f⟩
 .exact ⟨a,b,c,d,h4,h5,g,i⟩
 .exact ⟨a,b,g,i,h4,h5,e,f⟩
 all_goals exact ⟨a,b,c,d,h4,h5,e,f⟩
def MH (l:List UInt8) (k:Nat):(iR l k).Fit:=by
 induction k with
 | zero=>exact (show Tg.zero.Fit from ⟨De0,De0,De0,De0,De0,De0,De0,De0⟩)
 | succ k h=>
  obtain ⟨a,b,c,d,h4,h5,e,f⟩:=h;obtain ⟨i,j⟩:=il (l.drop (mg k)) (eA k);have g:=xS (oh k);rw [iR];have m:iM (l.drop (mg k)) (eA k)<18446744073709551616:=K
  clear j g;generalize iM (l.drop (mg k)) (eA k)=n at *;exact PB (iR l k) n k ⟨a,b,c,d,h4,h5,e,f⟩ i m
end Go.SL
namespace Go.Proofs.Nn
open RowKit SL
variable {w:R}
def vF {g o c:Nat} {l:List UInt8} (h:∀ i,i<l.length->w.cell? ⟨g,o+i,V⟩=U (u8 (l.getD i 0))):Rd w (O (U ⟨g,o,V⟩) l.length c) l:=by
 refine ⟨Si0,.inr ⟨_,_,rfl,fun j u a=>?_⟩⟩;rw [Addr.add_lit];rw [List.getElem?_map] at a
 by_cases b:j<l.length
 .rw [B2 b] at a
  rw [h j b,<- a,A3,B2 b];rfl
 .rw [List.getElem?_eq_none (Nat.le_of_not_lt b)] at a;cases a
def Jk:(prog.info? 245).map (·.size)=U 7:=Kr0
def C6 (t:Tg):(prog.info? 245).map (·.size)=U t.cells.size:=Jk
def FH (t:Tg):t.cells.all (·.oneCell')=H:=by simp [Tg.cells,Value.oneCell']
def nJ {b:Array L} {c:Nat} {t:Tg} {v u:L} {F:ai} (g:b[2]?=U (az c)) (i:b[3]?=U v) (h4:b[4]?=U u) (h:ag w (pt c (Y t.cells 245 (0,0))*F)) :
  (results Tryz.f229 b).run X w = .ok (Z' #[.agg t.cells,v,u]) w:=by
 have a:∀ o,w.cell? ⟨c,o,V⟩=t.cells[o]?:=fun o=>h.cell o;have z0:=a 0;have d:=a 1;have e:=a 2;have z3:=a 3;have z4:=a 4;have z5:=a 5;have f:=a 6;clear a h;simp only [Tg.cells] at z0 d e z3 z4 z5 f ⊢;simp [results,Tryz.results229,go_sem,g,i,h4,z0,d,e,z3,z4,z5,f]
def Vt (l:List UInt8) (b:Nat) (s:Nat) (a:ai) (w0:R) (gk:Nat) (u9 u24:L) (wr:R):Prop:=
 ∃ j:Nat,j<=s/\s-j<=gk/\u24 = Z W (j:Int)/\u9 = Z Q (iM (l.drop b) j)/\ag wr a/\aj w0 wr
def RO (l:List UInt8) (g b:Nat) (c:Fb) (b5:Nat) (a:ai) (w0:R) (gk:Nat) (u6 u19:L) (wr:R):Prop:=
 ∃ k:Nat,k<=9/\9-k<=gk/\u19 = Z W (k:Int)/\u6 = O (U ⟨g,mg k,V⟩) (512-mg k) (b-mg k) /\
  ag wr (dm c*(pt b5 (Y (iR l k).cells 245 (0,0))*a))/\aj w0 wr
def PK (o:Option (Tg × List UInt8)) (w:R) (e:Ending) (a:R):Prop:=
 match o with
 | some (t,l)=>∃ v,e = N (Z' #[.agg t.cells,v,Z W 0])/\ag a (bs 5 v l*whole w)/\aj w a
 | none=>e = N (Z' #[.agg Tg.zero.cells,O V 0 0,Z W 4])/\ag a (whole w)/\aj w a
def qx (l:List UInt8) (hl:l.length=512) (g e:Nat) (j2:512<=e) (u1:e<=maxLen) (w:R) (hb:∀ o,o<512->w.cell? ⟨g,o,V⟩=U (u8 (l.getD o 0))) :
  Calls X 229 #[O (U ⟨g,0,V⟩) 512 e] w (PK (cV l) w):=by
 have x:=((ag.whole w).alloc (Y Tg.zero.cells 245 (0,0))).alloc (Y Tg.zero.cells 245 (0,0));have hs:=((aj.refl w).alloc (Y Tg.zero.cells 245 (0,0))).alloc (Y Tg.zero.cells 245 (0,0));rw [World.size_alloc] at x;have Hb:=ae hb;clear hb u1
 go_in
 go_wp2_with fail
 apply (vo _).mono;rintro o0 w4 ⟨S,rfl,h4,d4⟩;have H4:=h4.under x;have D4:=aj.trans hs d4;clear h4 d4 x hs;generalize w.heap.size+1=b5 at H4 ⊢;generalize w.heap.size=a at H4 ⊢;have D0:=FL S;have R0:=fun t n k hk=>Up S b5 t n k hk;generalize v1:rB S=fv at D0;clear v1
 go_wp2_with fail
 go_loopg [6,19] 9 (fun gk u6 u19 wr=>RO l g e S b5 (pt a (Y Tg.zero.cells 245 (0,0))*whole w) w gk u6 u19 wr)
 case atStart=>exact ⟨0,K,K,rfl,rfl,H4,D4⟩
 case round=>
  clear H4 D4;obtain ⟨t1,rfl⟩:∃ n,n=gk:=⟨gk,rfl⟩
  obtain ⟨k,hk,n2,rfl,rfl,d,y⟩:=hrel;have z1:=Gn k hk
  by_cases K0:k<9
  .have q2:(k:Int)<9:=K
   have w1:=D0 k K0;have A1:=Gn (k+1) K;rw [sF] at A1;obtain ⟨f2,m0,X0,l2,c1⟩:=R0 (iR l k) (iM (l.drop (mg k)) (eA k)) k K0;obtain ⟨l0,c0,hf⟩:∃ l0 c0,kO S k=(l0,c0):=⟨_,_,rfl⟩
   simp only [Er,hf,X0] at w1;have r2:(eA k:Int)<=6:=by have:=oh k;omega
   have s2:eA k<=6:=oh k;have x:=d.alloc (Y #[Z W (eA k),fz l0 c0,fz f2 m0] 292 (0,0));have N0:=y.alloc (Y #[Z W (eA k),fz l0 c0,fz f2 m0] 292 (0,0));have F:Hid (iR l (k+1)=(iR l k).set (iM (l.drop (mg k)) (eA k)) k):=rfl;have j1:Hid (mg (k+1)=mg k+eA k):=sF k;have o1:=ae c1;clear D0 R0 hf X0 d y c1;generalize B1:eA k=E at *;generalize r:mg k=h at *;clear B1 r
   go_wp2_with fail
   generalize wr.alloc (Y #[Z W (E:Int),fz l0 c0,fz f2 m0] 292 (0,0))=w5 at x N0 ⊢;generalize wr.heap.size=b8 at x ⊢;have c8:w5.cell? ⟨b8,0,V⟩=U (Z W (E:Int)):=x.cell 0
   go_loopg [9,24] E (fun gk u9 u24 wr=>Vt l h E (pt b8 (Y #[Z W (E:Int),fz l0 c0,fz f2 m0] 292 (0,0))*(dm S*(pt b5 (Y (iR l k).cells 245 (0,0))*(pt a (Y Tg.zero.cells 245 (0,0))*whole w)))) w gk u9 u24 wr)
   case atStart=>exact ⟨0,K,K,rfl,rfl,x,N0⟩
   case round=>
    clear x N0 c8;obtain ⟨j,hj,m2,rfl,rfl,d,y⟩:=hrel
    by_cases x1:j<E
    .have p2:(j:Int)<(E:Int):=K
     have k2:wr.cell? ⟨g,h+j,V⟩=U (Z .u8 ((l.getD (h+j) 0).toNat:Int)):=(d.right.right.right.right.mu.to (eM _ _)).bV (Hb.o (h+j) K);have o2:(j:Int)<((512-h:Nat):Int):=K
     obtain ⟨r0,r1⟩:=il (l.drop h) j
     go_wp2_with fail
     go_roundg (gk-1)
     case measure=>omega
     case rel=>exact ⟨j+1,K,K,by go_num,by rw [Pp l h j K],d,y⟩
    .obtain rfl:j=E:=K
     have c8:wr.cell? ⟨b8,0,V⟩=U (Z W (j:Int)):=d.cell 0;have s1:wr.cell? ⟨b8,2,V⟩=U (fz f2 m0):=d.cell 2;have q:=o1.o wr _ d.au.au;clear x1
     go_wp2_with fail
     apply q.mono;rintro o0 m ⟨rfl,u,G⟩;have f:=u;have H1:m.cell? ⟨b8,0,V⟩=U (Z W (j:Int)):=f.au.cell 0;have a2:(j:Int)<=((512-h:Nat):Int):=K
     have c2:j<=512-h:=K
     have d2:j<=e-h:=K
     have e2:512-h<=e-h:=K
     have g2:¬ e-h=j:=K
     have i2:¬ e-h-j=0:=K
     have F0:=y.trans G;clear q u G c8 s1 d y
     go_wp2
     go_roundg (t1-1)
     case measure=>omega
     case rel=>
      refine ⟨k+1,K,K,by go_num,by rw [j1.o,Nat.sub_sub,Nat.sub_sub],?_,F0⟩;rw [F.o];exact f.lS.ah
  .obtain rfl:k=9:=K
   have y1:mg 9=32:=De0
   have Ht:=ae (MH l 9);rw [y1];have z:∀ o,wr.cell? ⟨b5,o,V⟩=(iR l 9).cells[o]?:=fun o=>d.ah.cell o;have d0:=z 0;have e0:=z 1;have f0:=z 2;have g0:=z 3;have h0:=z 4;have j0:=z 5;have k0:=z 6;simp only [Tg.cells] at d0 e0 f0 g0 h0 j0 k0
   have Y0:Rd wr (O (U ⟨g,32,V⟩) 480 (e-32)) (l.drop 32):=by
    have H0:(l.drop 32).length=480:=by rw [A2,hl]
    have:=vF (w:=wr) (g:=g) (o:=32) (c:=e-32) (l:=l.drop 32) fun o q0=>by
     have hc:=(d.right.right.right.mu.to (eM _ _)).bV (Hb.o (32+o) K);rw [hc];simp [A3]
    rwa [H0] at this
   have u0:∀ b,ag b (whole w)->Rd b (O (U ⟨g,0,V⟩) 512 e) l:=fun b q0=>by
    have:=vF (w:=b) (g:=g) (o:=0) (c:=e) (l:=l) fun o hh=>by
     have hc:=(q0.mu.to (eM _ _)).bV (Hb.o o K);rw [Nat.zero_add];exact hc
    rwa [hl] at this
   have i1:=ae u0;have T0:=ae Y0;have Hl:=ae hl;have hz:∀ o,wr.cell? ⟨a,o,V⟩=Tg.zero.cells[o]?:=fun o=>d.au.cell o;have e1:Hid ((iR l 9).ok=M->cV l=V):=fun r=>by unfold cV;rw [if_neg];rintro ⟨h1,_⟩;rw [r] at h1;cases h1
   have f1:Hid ((iR l 9).ok=H->enc (iR l 9)++l.drop 32=l->cV l=U (iR l 9,l.drop 32)):=fun h1 h2=>by unfold cV;rw [if_pos ⟨h1,h2⟩]
   have g1:Hid (¬ enc (iR l 9)++l.drop 32=l->cV l=V):=fun h2=>by unfold cV;rw [if_neg];rintro ⟨_,h3⟩;exact h2 h3
   clear z u0 Y0 D0 R0 z1 K0 hl;generalize iR l 9=t at *
   cases r:t.ok with
   | false=>
    have C:cV l=V:=e1.o r;have F:=ae C;have q:=sm t r _ _ wr T0.o;clear C r;simp only [Tg.cells] at q
    go_wp2_with fail
    apply q.mono;rintro o0 m ⟨rfl,u,G⟩;have f:=u.cM d;clear q d d0 e0 f0 g0 h0 j0 k0 hz u;have S0:m.heap[a]?=U (Y Tg.zero.cells 245 (0,0)):=f.au.heap;have H8:=f.au.setRow (cs':=Tg.zero.cells);have L0:=(y.trans G).setRow a Tg.zero.cells
    go_wp2_with (refine wpList_store_row rfl 245 (.tmp 2) (.tmp 61) rfl a Tg.zero.cells rfl rfl 245 Tg.zero.cells S0 (C6 _) rfl (FH _) ?_)
    refine bodyPost_ret (nJ rfl rfl rfl H8) rfl ?_;rw [F.o];exact ⟨rfl,H8.right.right.right,L0⟩
   | true=>
    have q:=mI t Ht.o r _ _ (by rw [A2,Hl.o]) wr T0.o;have k1:=ae r;clear r;simp only [Tg.cells] at q
    go_wp2_with fail
    apply q.mono;rintro o0 m ⟨v,rfl,u,G⟩;have f:=u.under d;have F0:=y.trans G;have V0:Rd m v (enc t++l.drop 32):=u.pA;have u0:=i1.o m f.right.right.right.right;have s0:=G2 m v _ _ _ V0 u0;clear q d d0 e0 f0 g0 h0 j0 k0 hz u G y V0 u0
    by_cases he:enc t++l.drop 32=l
    .rw [show decide (enc t++l.drop 32=l)=H by simpa using he] at s0
     have C:cV l=U (t,l.drop 32):=f1.o k1.o he;have F:=ae C;have B:∀ o,m.cell? ⟨b5,o,V⟩=t.cells[o]?:=fun o=>f.au.cell o;have d0:=B 0;have e0:=B 1;have f0:=B 2;have g0:=B 3;have h0:=B 4;have j0:=B 5;have k0:=B 6;simp only [Tg.cells] at d0 e0 f0 g0 h0 j0 k0
     have l1:Hid (Rd m (O (U ⟨g,32,V⟩) 480 (e-32)) (l.drop 32)):=by
      have H0:(l.drop 32).length=480:=by rw [A2,Hl.o]
      have:=vF (w:=m) (g:=g) (o:=32) (c:=e-32) (l:=l.drop 32) fun o q0=>by
       have hc:=(f.right.right.right.right.mu.to (eM _ _)).bV (Hb.o (32+o) K);rw [hc];simp [A3]
      rwa [H0] at this
     clear B he C
     go_wp2_with (go_at_call 248;(with_reducible apply s0.mono);rintro o0 c ⟨rfl,rfl⟩)
     obtain ⟨i0,hi,hz,b1,W0⟩:=info_parts gO;obtain ⟨i,x0⟩:=Mn0 (pt b5 (Y t.cells 245 (0,0))*(dm S*whole w))
     have K7:ag m.drew (sl 5 1 (O V 0 0) 0 []*(pt a (Y Tg.zero.cells 245 (0,0))*i)):=(ag.eU (F:=pt a (Y Tg.zero.cells 245 (0,0))*i) (f.right.to (by rw [x0];ac_rfl)) _ _)
     have Z0:pC m.drew 1 (O (U ⟨g,32,V⟩) 480 (e-32)) 480 ((l.drop 32).map Go.SL.u8):=by
      have:=l1.o;unfold Rd at this;rwa [A2,Hl.o] at this
     obtain ⟨v',c,a1,h8,d8⟩:=ag.append (P:=X) (ty:=23) underlying23 hi hz b1 W0 rfl K7 Z0 (se _) (by unfold maxLen;omega) K
     have p:ag c (bs 5 v' (l.drop 32)*(pt a (Y Tg.zero.cells 245 (0,0))*i)):=h8.to (by
      rw [bs,A2,Hl.o];rfl)
     obtain ⟨D1,E1,rfl⟩:=aC p;have D:∀ o,c.cell? ⟨a,o,V⟩=Tg.zero.cells[o]?:=fun o=>p.ah.cell o;have t2:c.cell? ⟨a,0,V⟩=U (Z .u32 0):=D 0;have u2:c.cell? ⟨a,1,V⟩=U (Z Q 0):=D 1;have v2:c.cell? ⟨a,2,V⟩=U (Z Q 0):=D 2;have w2:c.cell? ⟨a,3,V⟩=U (Z Q 0):=D 3;have x2:c.cell? ⟨a,4,V⟩=U (Z W 0):=D 4;have y2:c.cell? ⟨a,5,V⟩=U (Z W 0):=D 5;have z2:c.cell? ⟨a,6,V⟩=U (Z W 0):=D 6;have K1:c.frozen? ⟨a,0,V⟩=M:=p.ah.frozen 0;have L1:c.frozen? ⟨a,1,V⟩=M:=p.ah.frozen 1;have M1:c.frozen? ⟨a,2,V⟩=M:=p.ah.frozen 2;have N1:c.frozen? ⟨a,3,V⟩=M:=p.ah.frozen 3;have O1:c.frozen? ⟨a,4,V⟩=M:=p.ah.frozen 4;have R1:c.frozen? ⟨a,5,V⟩=M:=p.ah.frozen 5;have S1:c.frozen? ⟨a,6,V⟩=M:=p.ah.frozen 6;have K9:=((((((p.ah.setCell 0 (Z .u32 t.ep)).setCell 1 (Z Q t.st)).setCell 2 (Z Q t.sq)).setCell 3 (Z Q t.fl)).setCell 4 (Z W t.ix)).setCell 5 (Z W t.ct)).setCell 6 (Z W t.id);have S9:=K9.right.right;have S8:=p.right.right;have S7:=K7.right.right;have A:∀ o b,ag b i->b.cell? ⟨b5,o,V⟩=t.cells[o]?:=fun o b q0=>(x0▸q0).cell o;have T1:∀ b,ag b i->b.cell? ⟨b5,0,V⟩=U (Z .u32 t.ep):=A 0;have U1:∀ b,ag b i->b.cell? ⟨b5,1,V⟩=U (Z Q t.st):=A 1;have V1:∀ b,ag b i->b.cell? ⟨b5,2,V⟩=U (Z Q t.sq):=A 2;have W1:∀ b,ag b i->b.cell? ⟨b5,3,V⟩=U (Z Q t.fl):=A 3;have X1:∀ b,ag b i->b.cell? ⟨b5,4,V⟩=U (Z W t.ix):=A 4;have Y1:∀ b,ag b i->b.cell? ⟨b5,5,V⟩=U (Z W t.ct):=A 5;have Z1:∀ b,ag b i->b.cell? ⟨b5,6,V⟩=U (Z W t.id):=A 6;have m1:=ae a1;have d1:=ae x0;clear a1 A h8 D x0 hi hz b1 W0 Z0 K7 f s0 d0 e0 f0 g0 h0 j0 k0;have q1:=S9.drew
     go_region_held3 (fun b=>ag b i) (first|(with_reducible exact S7)|(with_reducible exact S8)|(with_reducible exact S9)|(with_reducible exact q1)) (first
      | (refine mZ m1.o rfl _ _ rfl rfl Rf0 Rf0 ?_))
     go_wp2
     have G0:ag ((((((((c.setCell ⟨a,0,V⟩ (Z .u32 t.ep)).setCell ⟨a,1,V⟩ (Z Q t.st)).setCell ⟨a,2,V⟩ (Z Q t.sq)).setCell ⟨a,3,V⟩ (Z Q t.fl)).setCell ⟨a,4,V⟩ (Z W t.ix)).setCell ⟨a,5,V⟩ (Z W t.ct)).setCell ⟨a,6,V⟩ (Z W t.id))) (pt a (Y t.cells 245 (0,0))*(bs 5 (O D1 (l.length-32) E1) (l.drop 32)*i)):=by
      rw [A2] at K9;exact K9
     refine bodyPost_ret (nJ rfl rfl rfl G0) rfl ?_;rw [F.o];refine ⟨_,rfl,?_,(((((((F0.drew.trans d8).setCell _ _).setCell _ _).setCell _ _).setCell _ _).setCell _ _).setCell _ _).setCell _ _⟩;rw [d1.o] at G0;exact G0.right.iD.iD
    .rw [show decide (enc t++l.drop 32=l)=M by simpa using he] at s0
     have C:cV l=V:=g1.o he;have F:=ae C;have S0:m.heap[a]?=U (Y Tg.zero.cells 245 (0,0)):=f.aA.heap;have H8:=f.aA.setRow (cs':=Tg.zero.cells);have L0:=F0.setRow a Tg.zero.cells;clear he C f
     go_wp2_with (first
      | (go_at_call 248;(with_reducible apply s0.mono);rintro o0 c ⟨rfl,rfl⟩)
      | (refine wpList_store_row rfl 245 (.tmp 2) (.tmp 61) rfl a Tg.zero.cells rfl rfl 245 Tg.zero.cells S0 (C6 _) rfl (FH _) ?_))
     refine bodyPost_ret (nJ rfl rfl rfl H8) rfl ?_;rw [F.o];exact ⟨rfl,H8.right.right.right.right,L0⟩
end Go.Proofs.Nn
namespace Go.SL
open RowKit
variable {w:R} {F:ai}
structure Jr where
 P:Nat
 T:Tb
 n:Int
 ep:Int
 st:Int
 sq:Int
 hd:Int
 us:Int
 fr:Int
 br:Bool
def cF (P:Nat):List Int:=(D9 P).map fun i:Nat=>(i:Int)+1
def aV (P:Nat):(cF P).length=P:=by simp [cF]
def yi {P k:Nat} (h:k<P):(cF P).getD k 0=(k:Int)+1:=by simp [cF,A3,h]
def Jr.cells (J:Jr) (d r t:Nat):Array L:=
 #[az d,az r,az t,Z W J.n,Z .u32 J.ep,Z Q J.st,Z Q J.sq,Z W J.hd,Z W J.us,Z W J.fr,.bool J.br]
def jQ (j d r t:Nat) (J:Jr):ai:=pt j (Y (J.cells d r t) 184 (0,0))*(bZ r (cF J.P)*bQ t J.T)
def qq (j d:Nat) (J:Jr):ai:=ex fun x:Nat × Nat=>pt j (Y (J.cells d x.1 x.2) 184 (0,0))*(bZ x.1 (cF J.P)*bQ x.2 J.T)
structure Jr.Ok (J:Jr):Prop where
 p0:0<J.P
 p1:J.P<=20000
 T:J.T.Ok
 ps:(J.T.ps.length:Int)=J.n
 os:J.T.os.length=J.P
 EM:0<=J.us
 TE:J.us<=J.P
 Kd:0<=J.hd
 AD:J.hd<J.P
 Wn:0<=J.fr
 Xf:J.fr<=48
def ag.ti {j d:Nat} {J:Jr} (h:ag w (qq j d J*F)):∃ r t,ag w (pt j (Y (J.cells d r t) 184 (0,0))*(bZ r (cF J.P)*(bQ t J.T*F))):=by
 obtain ⟨x,h⟩:=ag.aw.1 h;exact ⟨x.1,x.2,h.to Ac0⟩
def ag.Ak {j d r t:Nat} {J:Jr} (h:ag w (pt j (Y (J.cells d r t) 184 (0,0))*(bZ r (cF J.P)*(bQ t J.T*F)))):ag w (qq j d J*F):=
 ag.aw.2 ⟨(r,t),h.to Ac0⟩
def ag.Fy {j d r t:Nat} {J:Jr} (h:ag w (jQ j d r t J*F)):ag w (qq j d J*F):=ag.aw.2 ⟨(r,t),h⟩
def ag.Gl {j d:Nat} {J:Jr} (h:ag w (qq j d J*F)):∃ r t,ag w (jQ j d r t J*F):=by
 obtain ⟨x,h⟩:=ag.aw.1 h;exact ⟨x.1,x.2,h⟩
def ag.O8 {j d r t:Nat} {J:Jr} (h:ag w (pt j (Y (J.cells d r t) 184 (0,0))*(bZ r (cF J.P)*(bQ t J.T*F)))):ag w (jQ j d r t J*F):=h.to (by unfold jQ;ac_rfl)
def ag.FM {j d r t:Nat} {J:Jr} (h:ag w (jQ j d r t J*F)):ag w (pt j (Y (J.cells d r t) 184 (0,0))*(bZ r (cF J.P)*(bQ t J.T*F))):=h.to (by unfold jQ;ac_rfl)
def Jr.load (J:Jr) (D:aB) (id place:Int):(Int × List UInt8) × Jr × aB:=
 let a:=D.read (place%(J.P:Int)+1)
 if a.1.1=0 then
  match cV a.1.2 with
  | some (t,b)=>if t.id=id then ((0,b),J,a.2) else ((2,[]),{ J with br:=H },a.2)
  | none=>((2,[]),{ J with br:=H },a.2)
 else ((2,[]),{ J with br:=H },a.2)
def Jr.read (J:Jr) (D:aB) (id:Int):(Int × List UInt8) × Jr × aB:=
 if id<0\/J.n<=id then ((1,[]),J,D)
 else if J.br then ((2,[]),J,D)
 else match told J.T.ps id with
  | none=>((0,zs 480),J,D)
  | some p=>J.load D id p
def Jr.flush (J:Jr) (D:aB):Int × Jr × aB:=
 if J.br then (2,J,D) else if D.flush.1=0 then (0,J,D.flush.2) else (2,{ J with br:=H },D.flush.2)
end Go.SL
namespace Go.Proofs.Nn
open RowKit SL
def VX (j d r t:Nat) (J:Jr) (v:L) (F:ai) (w:R) (e:Ending) (a:R):Prop:=e = N v/\ag a (jQ j d r t J*F)/\aj w a
def oz (w:R) (j d r t:Nat) (J:Jr) (F:ai) (h:ag w (jQ j d r t J*F)) :
  Calls X 171 #[az j] w (VX j d r t { J with br:=H } (Z W 2) F w):=by
 have a:ag w (pt j (Y (J.cells d r t) 184 (0,0))*(bZ r (cF J.P)*(bQ t J.T*F))):=h.to (by unfold jQ;ac_rfl);have e:w.cell? ⟨j,10,V⟩=U (.bool J.br):=a.cell 10;have f:=a.frozen 10;have b:=a.setCell 10 (.bool H);have c:=ae b;clear h a b
 go_in
 go_wp2
 go_ret
 exact ⟨rfl,ag.O8 (J:={ J with br:=H }) c.o,(aj.refl w).setCell _ _⟩
def Xq (j d:Nat) (J:Jr) (v:L) (F:ai) (w:R) (e:Ending) (a:R):Prop:=e = N v/\ag a (qq j d J*F)/\aj w a
def A6 (w:R) (j d:Nat) (J:Jr) (F:ai) (h:ag w (qq j d J*F)) :
  Calls X 171 #[az j] w (Xq j d { J with br:=H } (Z W 2) F w):=by
 obtain ⟨r,t,e⟩:=h.Gl;exact (oz w j d r t J F e).mono fun _ _ ⟨a,b,c⟩=>⟨a,b.Fy,c⟩
def LL (w:R) (j d:Nat) (J:Jr) (F:ai) (h:ag w (qq j d J*F)) (m:J.Ok) :
  Calls X 130 #[az j] w (kX (Z W ((J.P:Int)-J.us-J.fr)) w):=by
 obtain ⟨r,t,b⟩:=h.ti;have g:w.cell? ⟨j,1,V⟩=U (az r):=b.cell 1;have i:w.cell? ⟨j,8,V⟩=U (Z W J.us):=b.cell 8;have l:w.cell? ⟨j,9,V⟩=U (Z W J.fr):=b.cell 9;have c:=b.ah
 have f:∀ a,ag a (bZ r (cF J.P)*(pt j (Y (J.cells d r t) 184 (0,0))*(bQ t J.T*F)))->Calls X 175 #[az r] a (nr J.P a):=fun a h=>by
  have:=tM a r (cF J.P) _ h
  rwa [aV] at this
 obtain ⟨p0,p1,_,_,_,u0,u1,_,_,p,q⟩:=m;have x:=f w c;have o:=f w.drew c;have u:(J.P:Int)<=20000:=K
 have v:0<=(J.P:Int):=K
 have y:J.us<=20000:=K
 clear h b c f
 go_in
 have z:IntKind.i64.wrap ((J.P:Int)-J.us)=(J.P:Int)-J.us:=by rw [IntKind.wrap_i64];omega
 have A:IntKind.i64.wrap ((J.P:Int)-J.us-J.fr)=(J.P:Int)-J.us-J.fr:=by rw [IntKind.wrap_i64];omega
 go_wp2_with fail
 go_region_held3 (fun a=>a.cell? ⟨j,1,V⟩=U (az r)/\a.cell? ⟨j,8,V⟩=U (Z W J.us)/\a.cell? ⟨j,9,V⟩=U (Z W J.fr)) (first|exact ⟨g,i,l⟩) (first
  | (go_at_call 175;(with_reducible apply o.mono);rintro e B ⟨rfl,rfl⟩))
 go_wp2
 go_ret
 exact ⟨rfl,(ag.whole w).drew,(aj.refl w).drew⟩
def TL (S:Hp) (j d:Nat) (a:Int × Jr × aB) (F:ai) (w:R) (e:Ending) (b:R):Prop:=
 e = N (Z W a.1)/\ag b (qq j d a.2.1*(aR S d a.2.2*F))/\aj w b
def wT (w:R) (S:Hp) (j d:Nat) (J:Jr) (D:aB) (F:ai) (h:ag w (qq j d J*(aR S d D*F))) (y:D.Ok) :
  Calls X 127 #[az j] w (TL S j d (J.flush D) F w):=by
 obtain ⟨r,t,l⟩:=h.ti;have c:w.cell? ⟨j,10,V⟩=U (.bool J.br):=l.cell 10;have m:w.cell? ⟨j,0,V⟩=U (az d):=l.cell 0;have a:=ov w S d D _ h.ah y;clear l;unfold Jr.flush
 cases g:J.br with
 | true=>
  rw [g] at c;clear a
  go_in
  go_wp2
  go_ret
  exact ⟨rfl,h,aj.refl w⟩
 | false=>
  rw [g] at c
  by_cases b:D.flush.1=0
  .rw [if_neg Si0,if_pos b]
   rw [b] at a;clear h b g
   go_in
   go_wp2_with fail
   apply a.mono;rintro e p ⟨rfl,f,i⟩;clear a m c
   go_wp2
   go_ret
   exact ⟨rfl,f.ah,i⟩
  .rw [if_neg Si0,if_neg b]
   have u:(D.flush.1 == 0)=M:=by simpa using b
   generalize D.flush.1=v at a u;clear h b g
   go_in
   go_wp2_with fail
   apply a.mono;rintro e p ⟨rfl,f,i⟩;have o:=A6 p j d J _ f.ah;clear a m c f
   go_wp2_with fail
   apply o.mono;rintro e z ⟨rfl,x,q⟩;clear o
   go_wp2
   go_ret
   exact ⟨rfl,x,i.trans q⟩
def RD (S:Hp) (j d r t:Nat) (a:(Int × List UInt8) × Jr × aB) (F:ai) (w:R) (e:Ending) (c:R):Prop:=
 ∃ b,e = N (Z' #[b,Z W a.1.1])/\ag c (pS 5 a.1 b*(jQ j d r t a.2.1*(aR S d a.2.2*(al S*F))))/\aj w c
def Q9 (S:Hp) (j d:Nat) (a:(Int × List UInt8) × Jr × aB) (F:ai) (w:R) (e:Ending) (c:R):Prop:=
 ∃ b,e = N (Z' #[b,Z W a.1.1])/\ag c (pS 5 a.1 b*(qq j d a.2.1*(aR S d a.2.2*(al S*F))))/\aj w c
def Uo {w:R} {v:L} {l:List UInt8} {F:ai} (h:ag w (bs 5 v l*F)) (p:0<l.length) (q:l.length<=1000000) :
  ∃ g c,v = O (U ⟨g,0,V⟩) l.length c/\l.length<=c/\∀ o,o<l.length->w.cell? ⟨g,o,V⟩=U (u8 (l.getD o 0)):=by
 rcases h.dq with ⟨_,m,_⟩|⟨g,b,j,rfl,d,h4,h5,f,i⟩
 .omega
 .refine ⟨g,b,rfl,d,fun o a=>?_⟩
  rw [i.cell];have e:=congrArg (·[o]?) f;simp only [List.getElem?_take,Nat.mul_one,a,if_true,List.getElem?_map,Array.getElem?_toList] at e;rw [e,B2 a,A3,B2 a];rfl
def yJ (D:aB) (a:Int) (h:(D.cD a).1=0):(D.cD a).2.length=512:=by
 unfold aB.cD at h ⊢
 split
 .exact cu _ _
 .rename_i c
  rw [c] at h;simp only at h
  split
  .rename_i b;rw [if_pos b] at h;cases h
  .exact cu _ _
def rR (D:aB) (a:Int) (h:(D.read a).1.1=0):(D.read a).1.2.length=512:=by
 unfold aB.read at h ⊢
 split
 .rename_i b
  rw [if_pos b] at h
  split
  .rename_i c;rw [if_pos c] at h;exact yJ _ _ h
  .rename_i c;rw [if_neg c] at h;cases h
 .rename_i b;rw [if_neg b] at h;cases h
def yF (w:R) (S:Hp) (j d r t:Nat) (J:Jr) (D:aB) (id place:Int) (F:ai) (m0:ag w (jQ j d r t J*(aR S d D*(al S*F)))) (hJ:J.Ok) (hD:D.Ok) :
  Calls X 173 #[az j,Z W id,Z W place] w (RD S j d r t (J.load D id place) F w):=by
 have hx:ag w (pt j (Y (J.cells d r t) 184 (0,0))*(bZ r (cF J.P)*(bQ t J.T*(aR S d D*(al S*F))))):=m0.to (by unfold jQ;ac_rfl);have c0:w.cell? ⟨j,0,V⟩=U (az d):=hx.cell 0;have c1:w.cell? ⟨j,1,V⟩=U (az r):=hx.cell 1;have r0:=hJ.p0;have H0:=hJ.p1;have i0:=Gg w.drew r (cF J.P) place _ hx.ah.drew (by rw [aV];exact r0) (by rw [aV];omega);obtain ⟨k,hk,q0⟩:=oZ place r0;rw [aV,hk,Int.toNat_natCast,yi q0,<- hk] at i0;obtain ⟨e0,o⟩:=Mn0 (J.load D id place)
 rw [<- o];have j0:=rR D (place%(J.P:Int)+1);obtain ⟨a,hR⟩:=Mn0 (D.read (place%(J.P:Int)+1))
 rw [<- hR] at j0
 have s0:∀ u,ag u (pt j (Y (J.cells d r t) 184 (0,0))*(bZ r (cF J.P)*(bQ t J.T*(aR S d D*(al S*F)))))->Calls X 228 #[az d,Z W (place%(J.P:Int)+1)] u (nL S d a.2 a.1 (pt j (Y (J.cells d r t) 184 (0,0))*(bZ r (cF J.P)*(bQ t J.T*F))) u):=fun u h'=>by
  rw [hR];exact om u S d D _ _ (h'.u00) hD
 unfold Jr.load at o;rw [<- hR] at o;have y:Hid (a.1.1≠0->e0=((2,[]),{ J with br:=H },a.2)):=fun q=>by rw [o];simp only [if_neg q]
 have z:Hid (a.1.1=0->cV a.1.2=V->e0=((2,[]),{ J with br:=H },a.2)):=fun q q2=>by rw [o];simp only [if_pos q,q2]
 have A:Hid (a.1.1=0->∀ t b,cV a.1.2=U (t,b)->t.id≠id->e0=((2,[]),{ J with br:=H },a.2)):=fun q t b q2 q3=>by rw [o];simp only [if_pos q,q2,if_neg q3]
 have B:Hid (a.1.1=0->∀ t b,cV a.1.2=U (t,b)->t.id=id->e0=((0,b),J,a.2)):=fun q t b q2 q3=>by rw [o];simp only [if_pos q,q2,if_pos q3]
 clear o;have f0:=ae s0;have k0:=ae j0;generalize place%(J.P:Int)+1=L0 at *;clear hk q0 s0 hR j0;obtain ⟨⟨rc,rl⟩,D'⟩:=a;simp only at k0 f0 y z A B
 go_in
 go_wp2_with fail
 go_region_held3 (fun u=>u.cell? ⟨j,0,V⟩=U (az d)/\u.cell? ⟨j,1,V⟩=U (az r)) (first|(with_reducible exact ⟨a0,a1⟩)|(with_reducible exact ⟨b0,b1⟩)|exact ⟨c0,c1⟩) (first
  | (go_at_call 177;(with_reducible apply i0.mono);rintro e w1 ⟨rfl,h1,d1⟩;have H1:=h1.cM (ag.drew hx);have a0:w1.cell? ⟨j,0,V⟩=U (az d):=H1.cell 0;have a1:w1.cell? ⟨j,1,V⟩=U (az r):=H1.cell 1;have u0:=f0.o w1 H1)
  | (go_at_call 228;(with_reducible apply u0.mono);rintro e w2 ⟨dv,rfl,h2,d2⟩;have b0:w2.cell? ⟨j,0,V⟩=U (az d):=h2.aA.cell 0;have b1:w2.cell? ⟨j,1,V⟩=U (az r):=h2.aA.cell 1))
 have D2:=((aj.refl w).drew.trans d1).trans d2;have h3:ag w2 (pS 5 (rc,rl) dv*(jQ j d r t J*(aR S d D'*(al S*F)))):=h2.to (by unfold jQ;ac_rfl);clear m0 hx c0 c1 i0 h1 d1 H1 a0 a1 u0 d2 b0 b1 h2 f0
 by_cases d0:rc=0
 .subst d0
  have h4:=h3.uY;have hl:=k0.o rfl;obtain ⟨x0,l0,rfl,g0,h0⟩:=Uo h4 K K;rw [hl] at g0 h0
  have o0:l0<=maxLen:=by
   rcases h4.dq with ⟨hv,_⟩|⟨g',F0,G0,hv,h5,x,_⟩
   .cases hv
   .cases hv;exact x
  have p:=qx rl hl x0 l0 g0 o0 w2 h0;have Hl:=ae hl;rw [hl];clear h3 h0 hl g0 o0
  match hd:cV rl with
  | none=>
   rw [hd] at p;have f:=z.o rfl hd;clear hd y z A B
   go_wp2_with fail
   apply p.mono;rintro e w3 ⟨rfl,h5,E⟩;have l:=(h5.cM h4).right;have m:=l.alloc (Y Tg.zero.cells 245 (0,0));have i:=(D2.trans E).alloc (Y Tg.zero.cells 245 (0,0));have g:=oz _ j d r t J _ m.right;have c:=ae f;clear p h4 h5 l m f;simp only [Tg.cells,Tg.zero] at g i ⊢
   go_wp2_with fail
   apply g.mono;rintro e w4 ⟨rfl,x,G⟩;clear g
   go_wp2
   go_ret2
   refine ⟨O V 0 0,by rw [c.o];rfl,?_,i.trans G⟩;rw [c.o];exact ag.jC x (show (2:Int)≠0 by decide)
  | some (h,b)=>
   rw [hd] at p
   by_cases C:h.id=id
   .have f:=B.o rfl h b hd C
    have c:=ae f;have D0:(h.id != id)=M:=by simp [C]
    clear hd y z A B f C
    go_wp2_with fail
    apply p.mono;rintro e w3 ⟨v,rfl,h5,E⟩;have l:=(h5.under h4).iD;have m:=l.alloc (Y h.cells 245 (0,0));have i:=(D2.trans E).alloc (Y h.cells 245 (0,0));clear p h4 h5 l;simp only [Tg.cells] at m i ⊢
    go_wp2
    go_ret2
    refine ⟨v,by rw [c.o];rfl,?_,i⟩;rw [c.o];exact ag.tN m.right
   .have f:=A.o rfl h b hd C
    have c:=ae f;have D0:(h.id != id)=H:=by simpa using C
    clear hd y z A B f C
    go_wp2_with fail
    apply p.mono;rintro e w3 ⟨v,rfl,h5,E⟩;have l:=(h5.under h4).right.right;have m:=l.alloc (Y h.cells 245 (0,0));have i:=(D2.trans E).alloc (Y h.cells 245 (0,0));have g:=oz _ j d r t J _ m.right;clear p h4 h5 l m;simp only [Tg.cells] at g i ⊢
    go_wp2_with fail
    apply g.mono;rintro e w4 ⟨rfl,x,G⟩;clear g
    go_wp2
    go_ret2
    refine ⟨O V 0 0,by rw [c.o];rfl,?_,i.trans G⟩;rw [c.o];exact ag.jC x (show (2:Int)≠0 by decide)
 .have K0:(rc == 0)=M:=by simpa using d0
  have f:=y.o d0;have c:=ae f;obtain ⟨rfl,h4⟩:=h3.Cv d0;have g:=oz _ j d r t J _ h4;clear h3 h4 f y z A B d0
  go_wp2_with fail
  apply g.mono;rintro e w4 ⟨rfl,x,G⟩;clear g
  go_wp2
  go_ret2
  refine ⟨O V 0 0,by rw [c.o];rfl,?_,D2.trans G⟩;rw [c.o];exact ag.jC x (show (2:Int)≠0 by decide)
def uG (w:R) (S:Hp) (j d:Nat) (J:Jr) (D:aB) (id place:Int) (F:ai) (h:ag w (qq j d J*(aR S d D*(al S*F)))) (g:J.Ok) (f:D.Ok) :
  Calls X 173 #[az j,Z W id,Z W place] w (Q9 S j d (J.load D id place) F w):=by
 obtain ⟨r,t,i⟩:=h.Gl;exact (yF w S j d r t J D id place F i g f).mono fun _ _ ⟨e,a,b,c⟩=>⟨e,a,ag.ah (b.ah.Fy),c⟩
def GH (w:R) (S:Hp) (j d:Nat) (J:Jr) (D:aB) (id:Int) (F:ai) (h:ag w (qq j d J*(aR S d D*(al S*F)))) (z:J.Ok) (y:D.Ok) :
  Calls X 316 #[az j,Z W id] w (Q9 S j d (J.read D id) F w):=by
 obtain ⟨c0,t,c⟩:=h.ti;have C:w.cell? ⟨j,2,V⟩=U (az t):=c.cell 2;have E:w.cell? ⟨j,3,V⟩=U (Z W J.n):=c.cell 3;have i:w.cell? ⟨j,10,V⟩=U (.bool J.br):=c.cell 10;have a:=Lo w t J.T id _ c.au;have b:=fun p=>uG w S j d J D id p F h z y;unfold Jr.read;clear c
 by_cases r:id<0
 .rw [if_pos (.inl r)]
  clear a b
  go_in
  go_wp2
  go_ret2
  exact ⟨_,rfl,ag.jC h (show (1:Int)≠0 by decide),aj.refl w⟩
 .by_cases u:J.n<=id
  .rw [if_pos (.inr u)]
   clear a b
   go_in
   go_wp2
   go_ret2
   exact ⟨_,rfl,ag.jC h (show (1:Int)≠0 by decide),aj.refl w⟩
  .rw [if_neg (by rintro (q|q) <;> contradiction)]
   cases l:J.br with
   | true=>
    rw [l] at i;rw [if_pos rfl];clear a b
    go_in
    go_wp2
    go_ret2
    exact ⟨_,rfl,ag.jC h (show (2:Int)≠0 by decide),aj.refl w⟩
   | false=>
    rw [l] at i;rw [if_neg Si0]
    cases f:told J.T.ps id with
    | none=>
     rw [f] at a;simp only
     have G:∀ w,(Instr.makeSlice 23 (Z W 480) (Z W 480)).run X w =
      .ok (O (U ⟨w.heap.size,0,V⟩) 480 480) (w.alloc (Y (ed (zs 480)) 5 (0,0))):=fq 480 K
     have x:=h.alloc (Y (ed (zs 480)) 5 (0,0));clear b f
     go_in
     go_wp2_with fail
     apply a.mono;rintro e A ⟨rfl,rfl⟩;unfold qA;clear a
     go_wp2
     go_ret2
     exact ⟨_,rfl,ag.tN (qK (bg 480) x),(aj.refl w).alloc _⟩
    | some p=>
     rw [f] at a;simp only;have g:=b p;clear b f h;generalize J.load D id p=B at g ⊢
     go_in
     go_wp2_with fail
     apply a.mono;rintro e A ⟨rfl,rfl⟩;unfold qA;clear a
     go_wp2_with fail
     apply g.mono;rintro e w2 ⟨o,rfl,v,m⟩;clear g
     go_wp2
     go_ret2
     exact ⟨o,rfl,v,m⟩
end Go.Proofs.Nn
namespace Go.SL
open RowKit
structure Js where
 ep:Int
 st:Int
 sq:Int
 hd:Int
 us:Int
 at_:List Int
def Js.v (s:Js) (a:L):L:=.agg #[Z .u32 s.ep,Z Q s.st,Z Q s.sq,Z W s.hd,Z W s.us,a]
def sH (P hd v:Int):Int:=if hd-v<=0 then hd-v+P else hd-v
def Js.CY (P:Int) (s:Js) (k:Nat):Prop:=
 s.at_.getD k 0=-1\/(0<=s.at_.getD k 0/\s.at_.getD k 0<P/\s.at_.getD k 0 ∉ s.at_.take k/\sH P s.hd (s.at_.getD k 0)<=s.us)
instance (P:Int) (s:Js) (k:Nat):Decidable (s.CY P k):=by unfold Js.CY;infer_instance
structure Js.uP (P:Int) (s:Js):Prop where
 ep:1<=s.ep
 sq:s.sq<=281474976710655
 T3:1<=s.st
 bH:s.st<=s.sq+1
 Kd:0<=s.hd
 AD:s.hd<P
 EM:0<=s.us
 TE:s.us<=P
 n0:1<=s.at_.length
 n1:s.at_.length<=3840
 ok:∀ k,k<s.at_.length->s.CY P k
def fO (l:List Int):Nat->KV
 | 0=>[]
 | k+1=>if l.getD k 0=-1 then fO l k else fO l k++[(l.getD k 0,Z W (k:Int))]
def Ft (l:List Int) (k:Nat) (c:k<=l.length) (v:Int) (hv:v ≠ -1):v ∈ (fO l k).map Prod.fst↔v ∈ l.take k:=by
 induction k with
 | zero=>simp [fO]
 | succ k a=>
  have a:=a K
  have b:l.take (k+1)=l.take k++[l.getD k 0]:=by
   rw [List.take_add_one,A3,B2 K];rfl
  rw [b,fO]
  split
  .rename_i h;rw [a,h];simp [hv]
  .rw [E5,List.mem_append,List.mem_append,a];simp
def CX {l:List Int} {k:Nat} (a:k<=l.length) {v:Int} (hv:v ≠ -1):(aM (fO l k) v).isSome=decide (v ∈ l.take k):=by
 rw [Bool.eq_iff_iff,decide_eq_true_iff,<- Ft l k a v hv]
 cases h:aM (fO l k) v with
 | none=>simpa using gr.1 h
 | some x=>
  have b:v ∈ (fO l k).map Prod.fst:=Classical.byContradiction fun q=>by rw [gr.2 q] at h;cases h
  simp only [Option.isSome_some,b]
end Go.SL
namespace Go.Proofs.Nn
open RowKit SL
def Sv (B:Bool) (w:R) (e:Ending) (a:R):Prop:=e = N (.bool B)/\ag a (whole w)/\aj w a
def NT (P:Int) (s:Js) (n a m:Nat) (o:Obj) (w:R) (u:L) (wr:R):Prop:=
 ∃ k:Nat,k<=n/\u = Z W (k:Int)/\(∀ i,i<k->s.CY P i)/\ag wr (mp m (fO s.at_ k)*(pt a o*whole w))/\aj w wr
def Fh (P:Int) (s:Js) (f0:L) (w:R) (hP:P<=9223372036854775807) (N0:-9223372036854775808<=P) (hq:0<=s.sq) (hl:s.at_.length<=9223372036854775807) (d:pP w f0 s.at_) (B:Bool) (hB:B=H↔s.uP P) :
  Calls X 221 #[Z W P,s.v f0] w (Sv B w):=by
 have HB:=ae hB
 have no:Hid (¬ s.uP P->B=M):=fun h=>by
  cases hb:B
  .rfl
  .exact absurd (hB.1 hb) h
 clear hB;obtain ⟨n,m⟩:=Mn0 s.at_.length
 obtain ⟨u,A,x0⟩:∃ u A,f0 = O u n A:=by
  rcases d with ⟨_,_,rfl,h⟩|⟨g,o,c,rfl,_⟩
  .rw [m,h];exact ⟨_,_,rfl⟩
  .rw [m];exact ⟨_,_,rfl⟩
 subst x0;rw [<- m] at hl;have j:=ae m;clear m;unfold Js.v;have a:=(ag.whole w).alloc (Y #[Z .u32 s.ep,Z Q s.st,Z Q s.sq,Z W s.hd,Z W s.us,O u n A] 168 (0,0));have b:=(aj.refl w).alloc (Y #[Z .u32 s.ep,Z Q s.st,Z Q s.sq,Z W s.hd,Z W s.us,O u n A] 168 (0,0))
 by_cases h1:s.ep<1
 .have e:=no.o fun h=>by have:=h.ep;omega
  subst e
  go_in
  go_wp2
  go_ret
  exact ⟨rfl,a.right,b⟩
 by_cases h2:281474976710655<s.sq
 .have e:=no.o fun h=>by have:=h.sq;omega
  subst e
  go_in
  go_wp2
  go_ret
  exact ⟨rfl,a.right,b⟩
 by_cases h3:s.st<1
 .have e:=no.o fun h=>by have:=h.T3;omega
  subst e
  go_in
  go_wp2
  go_ret
  exact ⟨rfl,a.right,b⟩
 have b1:IntKind.u64.wrap (s.sq+1)=s.sq+1:=by rw [IntKind.wrap_u64];omega
 by_cases h4:s.sq+1<s.st
 .have e:=no.o fun h=>by have:=h.bH;omega
  subst e
  go_in
  go_wp2
  go_ret
  exact ⟨rfl,a.right,b⟩
 by_cases h5:s.hd<0
 .have e:=no.o fun h=>by have:=h.Kd;omega
  subst e
  go_in
  go_wp2
  go_ret
  exact ⟨rfl,a.right,b⟩
 by_cases F:P<=s.hd
 .have e:=no.o fun h=>by have:=h.AD;omega
  subst e
  go_in
  go_wp2
  go_ret
  exact ⟨rfl,a.right,b⟩
 by_cases h7:s.us<0
 .have e:=no.o fun h=>by have:=h.EM;omega
  subst e
  go_in
  go_wp2
  go_ret
  exact ⟨rfl,a.right,b⟩
 by_cases h8:P<s.us
 .have e:=no.o fun h=>by have:=h.TE;omega
  subst e
  go_in
  go_wp2
  go_ret
  exact ⟨rfl,a.right,b⟩
 by_cases h9:n<1
 .have e:=no.o fun h=>by have:=h.n0;have:=j.o;omega
  subst e;obtain rfl:n=0:=K
  go_in
  go_wp2
  go_ret
  exact ⟨rfl,a.right,b⟩
 have L0:¬ (n:Int)<1:=K
 by_cases K0:3840<(n:Int)
 .have e:=no.o fun h=>by have:=h.n1;have:=j.o;omega
  subst e
  go_in
  go_wp2
  go_ret
  exact ⟨rfl,a.right,b⟩
 have H0:=@iU X _ _ _ underlying178;have G:=((a.alloc (.map #[] 0)).ui isMap_empty)
 have l0:=b.alloc (.map #[] 0);rw [World.size_alloc] at G;have R0:1<=P:=K
 go_in
 go_wp2
 generalize ((w.alloc (Y #[Z .u32 s.ep,Z Q s.st,Z Q s.sq,Z W s.hd,Z W s.us,O u n A] 168 (0,0))).alloc (.map #[] 0))=w2 at G l0 ⊢;generalize S0:w.heap.size=l at G ⊢;clear a b H0
 go_loopw [58] (fun m0 wr=>NT P s n l (l+1) (Y #[Z .u32 s.ep,Z Q s.st,Z Q s.sq,Z W s.hd,Z W s.us,O u n A] 168 (0,0)) w m0 wr) (fun m0 _=>n-(intOf m0).toNat)
 case atStart=>exact ⟨0,E2 _,rfl,fun i hi=>absurd hi (Nat.not_lt_zero i),G,l0⟩
 case round=>
  clear G l0;obtain ⟨k,hk,rfl,d0,p,D⟩:=hrel
  by_cases G0:k<n
  .have T0:(k:Int)<(n:Int):=K
   obtain ⟨g,o,rfl,D0⟩:∃ g o,u=U ⟨g,o,V⟩/\wr.cell? ⟨g,o+k,V⟩=U (Z W (s.at_.getD k 0)):=by
    have m:=j.o;rcases d with ⟨_,_,h,h0⟩|⟨g,o,c,h,_,_,hc⟩
    .rw [h0] at m;simp at m;omega
    .injection h with e1 e2 e3
     exact ⟨g,o,e1,(p.t00 ((mp (l+1) (fO s.at_ k)*pt l _)*whole w)).bV (hc k K)⟩
   have g0:=p.ah;have b3:wr.cell? ⟨l,3,V⟩=U (Z W s.hd):=g0.cell 3;have b4:wr.cell? ⟨l,4,V⟩=U (Z W s.us):=g0.cell 4;have j0:=fun v hv=>CX (l:=s.at_) (k:=k) (by have:=j.o;omega) (v:=v) hv;have y:fO s.at_ (k+1)=if s.at_.getD k 0=-1 then fO s.at_ k else fO s.at_ k++[(s.at_.getD k 0,Z W (k:Int))]:=rfl
   have S:s.CY P k↔(s.at_.getD k 0=-1\/(0<=s.at_.getD k 0/\s.at_.getD k 0<P/\s.at_.getD k 0 ∉ s.at_.take k/\sH P s.hd (s.at_.getD k 0)<=s.us)):=Iff.rfl;have i0:¬ s.CY P k->¬ s.uP P:=fun q h=>q (h.ok k (by have:=j.o;omega))
   have c0:s.CY P k->∀ i,i<k+1->s.CY P i:=fun q i hi=>by
    rcases Nat.lt_or_eq_of_le (Nat.lt_succ_iff.1 hi) with h|h
    .exact d0 i h
    .rw [h];exact q
   generalize s.at_.getD k 0=v at D0 y S;have C:=ag.lookup (P:=X) underlying178 underlying3 (z:=Z W 0) Kr0 p v H;clear d d0 g0
   by_cases hv:v=-1
   .have s0:=c0 (S.2 (.inl hv))
    rw [if_pos hv] at y;subst hv;have u0:=ae s0;have e0:=ae y;clear s0 y C j0 S i0 c0
    go_wp2
    go_roundw
    case rel=>exact ⟨k+1,K,by go_num,u0.o,by rw [e0.o];exact p,D⟩
    case measure=>simp [intOf];omega
   .have Y0:(v == -1)=M:=by simpa using hv
    rw [if_neg hv] at y;have f:=j0 v hv;have e0:=ae y;have r:=ae S;have E:=ae i0;have o0:=ae c0;clear y S i0 c0 j0;have ho:=p.right.right
    by_cases W0:v<0
    .have e:=no.o (E.o fun q=>by rcases r.o.1 q with q|q <;> omega)
     subst e;clear C f
     go_wp2
     go_ret
     exact ⟨rfl,ho,D⟩
    .by_cases X0:P<=v
     .have e:=no.o (E.o fun q=>by rcases r.o.1 q with q|q <;> omega)
      subst e;clear C f
      go_wp2
      go_ret
      exact ⟨rfl,ho,D⟩
     .by_cases z:v ∈ s.at_.take k
      .have e:=no.o (E.o fun q=>by
        rcases r.o.1 q with q|q
        .exact hv q
        .exact q.2.2.1 z)
       subst e;rw [f,decide_eq_true z,if_pos rfl] at C;generalize (aM (fO s.at_ k) v).getD (Z W 0)=vv at C;clear f z
       go_wp2
       go_ret
       exact ⟨rfl,ho,D⟩
      .have k0:aM (fO s.at_ k) v=V:=by
        rw [decide_eq_false z] at f
        cases h:aM (fO s.at_ k) v with
        | none=>rfl
        | some x=>rw [h] at f;cases f
       rw [f,decide_eq_false z,if_pos rfl,k0,Option.getD_none] at C;obtain ⟨w6,V0,F,d6,ce⟩:=ag.mapUpdate (P:=X) underlying178 underlying3 p v (Z W (k:Int));have e6:SL.fC (fO s.at_ k) v (Z W (k:Int))=fO s.at_ k++[(v,Z W (k:Int))]:=by unfold SL.fC;rw [k0];rfl
       rw [e6,<- e0.o] at F;have c3:w6.cell? ⟨l,3,V⟩=U (Z W s.hd):=(ce.1 _).trans b3;have c4:w6.cell? ⟨l,4,V⟩=U (Z W s.us):=(ce.1 _).trans b4;have Z0:IntKind.i64.wrap (s.hd-v)=s.hd-v:=by rw [IntKind.wrap_i64];omega
       have D6:=D.trans d6;have h7:=F.right.right;have H6:=ae F;have q0:=ae z;clear f k0 ce e6 F z ho
       by_cases r0:s.hd-v<=0
       .have a1:IntKind.i64.wrap (s.hd-v+P)=s.hd-v+P:=by rw [IntKind.wrap_i64];omega
        have d:sH P s.hd v=s.hd-v+P:=by unfold sH;rw [if_pos r0]
        by_cases F0:s.us<s.hd-v+P
        .have e:=no.o (E.o fun q=>by rcases r.o.1 q with q|q <;> omega)
         subst e;clear d
         go_wp2
         go_ret
         exact ⟨rfl,h7,D6⟩
        .have Hx:=ae (o0.o (r.o.2 (.inr ⟨K,K,q0.o,K⟩)))
         clear d
         go_wp2
         go_roundw
         case rel=>exact ⟨k+1,K,by go_num,Hx.o,H6.o,D6⟩
         case measure=>simp [intOf];omega
       .have d:sH P s.hd v=s.hd-v:=by unfold sH;rw [if_neg r0]
        by_cases F0:s.us<s.hd-v
        .have e:=no.o (E.o fun q=>by rcases r.o.1 q with q|q <;> omega)
         subst e;clear d
         go_wp2
         go_ret
         exact ⟨rfl,h7,D6⟩
        .have Hx:=ae (o0.o (r.o.2 (.inr ⟨K,K,q0.o,K⟩)))
         clear d
         go_wp2
         go_roundw
         case rel=>exact ⟨k+1,K,by go_num,Hx.o,H6.o,D6⟩
         case measure=>simp [intOf];omega
  .obtain rfl:k=n:=K
   have e:=HB.o.2 ⟨K,K,K,K,K,K,K,K,by have:=j.o;omega,by have:=j.o;omega,by rw [<- j.o];exact d0⟩;subst e;have h3:=p.right.right;clear d0 p d G0
   go_wp2
   go_ret
   exact ⟨rfl,h3,D⟩
end Go.Proofs.Nn
namespace Go.SL
open RowKit
def pP.under {w a:R} {b:ai} {v:L} {l:List Int} (h:pP w v l) (j:ag a (b*whole w)):pP a v l:=by
 rcases h with h|⟨g,o,c,d,e,f,h4⟩
 .exact .inl h
 .exact .inr ⟨g,o,c,d,e,f,fun k i=>j.bV (h4 k i)⟩
def Tb.Qs {T:Tb} (h:T.Ok) (id:Int):(T.drop id).2.Ok:=by
 unfold Tb.drop
 split
 .refine ⟨by simpa using h.n,by simpa using h.m,fun v hv=>?_⟩
  simp only [List.length_set];rcases G3 hv with hv|hv
  .exact h.ps v hv
  .exact .inl hv
 .exact h
def Tb.NV {T:Tb} (h:T.Ok) (id p:Int):(T.put id p).2.Ok:=by
 have hd:=Tb.Qs h id;have b:(T.drop id).2.os.length=T.os.length:=by unfold Tb.drop;split <;> simp
 unfold Tb.put
 split
 .rename_i a
  refine ⟨by simpa using hd.n,by simpa using hd.m,fun v hv=>?_⟩;simp only [List.length_set];rcases G3 hv with hv|hv
  .exact hd.ps v hv
  .right;rw [b,hv];exact ⟨a.2.2.1,a.2.2.2.1⟩
 .exact h
def Tb.oF (T:Tb) (id p:Int):(T.put id p).2.ps.length=T.ps.length/\(T.put id p).2.os.length=T.os.length:=by
 have a:(T.drop id).2.ps.length=T.ps.length:=by unfold Tb.drop;split <;> simp
 have b:(T.drop id).2.os.length=T.os.length:=by unfold Tb.drop;split <;> simp
 unfold Tb.put
 split
 .simp [a,b]
 .exact ⟨rfl,rfl⟩
def tP (P:Nat) (l:List Int):Nat->Tb
 | 0=>Tb.fresh l.length P
 | k+1=>if 0<=l.getD k 0 then ((tP P l k).put (k:Int) (l.getD k 0)).2 else tP P l k
def F8 (P:Nat) (l:List Int) (k:Nat):(tP P l k).ps.length=l.length/\(tP P l k).os.length=P:=by
 induction k with
 | zero=>simp [tP,Tb.fresh]
 | succ k a=>
  rw [tP]
  split
  .rw [(Tb.oF _ _ _).1,(Tb.oF _ _ _).2];exact a
  .exact a
def N8 (P:Nat) (l:List Int) (b:P<=1048576) (c:l.length<=1048576) (k:Nat):(tP P l k).Ok:=by
 induction k with
 | zero=>exact ⟨by simpa [tP,Tb.fresh] using c,by simpa [tP,Tb.fresh] using b,fun v hv=>.inl (List.eq_of_mem_replicate hv)⟩
 | succ k a=>
  rw [tP]
  split
  .exact Tb.NV a _ _
  .exact a
def ns (P k:Nat):List Int:=(D9 k).map (fun i:Nat=>(i:Int)+1)++List.replicate (P-k) 0
def rZ {P k:Nat} (h:k<=P):(ns P k).length=P:=by simp [ns];omega
def Dv {P k:Nat} (h:k<P):(ns P k).set ((k:Int)%((ns P k).length:Int)).toNat ((k:Int)+1)=ns P (k+1):=by
 rw [rZ K,Int.emod_eq_of_lt K K,Int.toNat_natCast];unfold ns;have e:P-k=(P-(k+1))+1:=K
 rw [e,List.replicate_succ,List.set_append_right _ _ Si0,D7];simp
def I4 (P:Nat):ns P P=cF P:=by simp [ns,cF]
def Jr.NF (P:Nat) (s:Js):Jr:=⟨P,tP P s.at_ s.at_.length,s.at_.length,s.ep,s.st,s.sq,s.hd,s.us,0,M⟩
def Jr.Sr {P:Nat} {s:Js} (h:s.uP P) (b:1<=P) (c:P<=20000):(Jr.NF P s).Ok:=by
 have a:=F8 P s.at_ s.at_.length;have:=h.n1;exact ⟨b,c,N8 _ _ K K _,by rw [Jr.NF];simp only;rw [a.1],a.2,h.EM,h.TE,h.Kd,h.AD,Int.le_refl _,by show (0:Int)<=48;decide⟩
end Go.SL
namespace Go.Proofs.Nn
open RowKit SL
def U4 (d:Nat) (J:Jr) (w:R) (e:Ending) (a:R):Prop:=∃ j,e = N (Z' #[az j,Z W 0])/\ag a (qq j d J*whole w)/\aj w a
def zO (P:Nat) (s:Js) (n d r t:Nat):Array L:=#[az d,az r,az t,Z W (n:Int),Z .u32 s.ep,Z Q s.st,Z Q s.sq,Z W s.hd,Z W s.us,Z W 0,.bool M]
def PC (P:Nat) (s:Js) (n d j r t a:Nat) (o:Obj) (w:R) (u:L) (wr:R):Prop:=
 ∃ k:Nat,k<=P/\u = Z W (k:Int)/\ag wr (pt j (Y (zO P s n d r t) 184 (0,0))*(bZ r (ns P k)*(bQ t (tP P s.at_ 0)*(pt a o*whole w))))/\aj w wr
def PU (P:Nat) (s:Js) (n d j r t a:Nat) (o:Obj) (w:R) (u:L) (wr:R):Prop:=
 ∃ k:Nat,k<=n/\u = Z W (k:Int)/\ag wr (pt j (Y (zO P s n d r t) 184 (0,0))*(bZ r (cF P)*(bQ t (tP P s.at_ k)*(pt a o*whole w))))/\aj w wr
def KX (w:R) (u0:Hp) (d:Nat) (D:aB) (G0:ai) (hd:ag w (aR u0 d D*G0)) (P:Nat) (s:Js) (m0:L) (ha:pP w m0 s.at_) (K0:1<=P) (hP:P<=20000) (d1:P+1<=D.sec.length) (X0:D.sec.length<=20000) (hq:0<=s.sq) (hr:s.uP P) :
  Calls X 170 #[az d,Z W (P:Int),s.v m0] w (U4 d (Jr.NF P s) w):=by
 have T0:=hr.n1;have S0:=hr.n0;have Hr:=ae hr;obtain ⟨n,p⟩:=Mn0 s.at_.length
 have L0:∃ b f,m0 = O b n f:=by
  rcases ha with ⟨_,_,rfl,g0⟩|⟨g,o,c,rfl,_⟩
  .rw [p,g0];exact ⟨_,_,rfl⟩
  .rw [p];exact ⟨_,_,rfl⟩
 obtain ⟨b,f,rfl⟩:=L0;rw [<- p] at T0 S0;have Hn:=ae p;have h:=(ag.whole w).alloc (Y #[Z .u32 s.ep,Z Q s.st,Z Q s.sq,Z W s.hd,Z W s.us,O b n f] 168 (0,0));have o0:=(aj.refl w).alloc (Y #[Z .u32 s.ep,Z Q s.st,Z Q s.sq,Z W s.hd,Z W s.us,O b n f] 168 (0,0));have q0:=nZ _ u0 d D _ (h.under hd).right;have a1:(1:Int)<=(P:Int):=K
 have Z0:(P:Int)<=20000:=K
 have e1:(P:Int)<=(D.sec.length:Int)-1:=K
 have Y0:(D.sec.length:Int)<=20000:=K
 have W0:IntKind.i64.wrap ((D.sec.length:Int)-1)=(D.sec.length:Int)-1:=by rw [IntKind.wrap_i64];omega
 have k0:=Fh (P:Int) s (O b n f) _ K K hq (by rw [<- p];omega) (ha.under h) H ⟨fun _=>hr,fun _=>rfl⟩;have Ha:=ae ha;clear p hr hd ha hq;unfold Js.v at k0 ⊢;obtain ⟨a,x0⟩:=Mn0 w.heap.size
 go_in
 go_wp2_with fail
 rw [<- x0] at h ⊢;generalize w.alloc (Y #[Z .u32 s.ep,Z Q s.st,Z Q s.sq,Z W s.hd,Z W s.us,O b n f] 168 (0,0))=G at h o0 q0 k0 ⊢;have c0:G.cell? ⟨a,0,V⟩=U (Z .u32 s.ep):=h.cell 0;have c1:G.cell? ⟨a,1,V⟩=U (Z Q s.st):=h.cell 1;have c2:G.cell? ⟨a,2,V⟩=U (Z Q s.sq):=h.cell 2;have c3:G.cell? ⟨a,3,V⟩=U (Z W s.hd):=h.cell 3;have c4:G.cell? ⟨a,4,V⟩=U (Z W s.us):=h.cell 4;have c5:G.cell? ⟨a,5,V⟩=U (O b n f):=h.cell 5;clear x0
 go_wp2_with fail
 apply q0.mono;rintro d0 h1 ⟨rfl,rfl⟩;clear q0
 go_wp2_with fail
 apply k0.mono;rintro d0 E ⟨rfl,h2,d2⟩;have q:=h2.cM h;have D2:=o0.trans d2;have b0:E.cell? ⟨a,0,V⟩=U (Z .u32 s.ep):=q.cell 0;have b1:E.cell? ⟨a,1,V⟩=U (Z Q s.st):=q.cell 1;have b2:E.cell? ⟨a,2,V⟩=U (Z Q s.sq):=q.cell 2;have b3:E.cell? ⟨a,3,V⟩=U (Z W s.hd):=q.cell 3;have b4:E.cell? ⟨a,4,V⟩=U (Z W s.us):=q.cell 4;have b5:E.cell? ⟨a,5,V⟩=U (O b n f):=q.cell 5;clear k0 h2 d2 h o0 c0 c1 c2 c3 c4 c5 W0;have D0:=Cr P 0 E.drew K0 K;have F0:=fun w=>EA n P w K K;have R2:=ae (ag.drew q);clear q
 go_wp2_with fail
 go_region_held3 (fun F=>F.cell? ⟨a,0,V⟩=U (Z .u32 s.ep)/\F.cell? ⟨a,1,V⟩=U (Z Q s.st)/\F.cell? ⟨a,2,V⟩=U (Z Q s.sq)/\F.cell? ⟨a,3,V⟩=U (Z W s.hd)/\F.cell? ⟨a,4,V⟩=U (Z W s.us)/\F.cell? ⟨a,5,V⟩=U (O b n f)) (first|(with_reducible exact ⟨f0,f1,f2,f3,f4,f5⟩)|(with_reducible exact ⟨bW _ _ _ _ f0,bW _ _ _ _ f1,bW _ _ _ _ f2,bW _ _ _ _ f3,bW _ _ _ _ f4,bW _ _ _ _ f5⟩)|(with_reducible exact ⟨e0,z,A,e3,e4,e5⟩)|exact ⟨b0,b1,b2,b3,b4,b5⟩) (first
  | (go_at_call 222;(with_reducible apply D0.mono);rintro d0 S ⟨r,rfl,h3,d3⟩;have x:=h3.under R2.o;have e0:S.cell? ⟨a,0,V⟩=U (Z .u32 s.ep):=x.ah.cell 0;have z:S.cell? ⟨a,1,V⟩=U (Z Q s.st):=x.ah.cell 1;have A:S.cell? ⟨a,2,V⟩=U (Z Q s.sq):=x.ah.cell 2;have e3:S.cell? ⟨a,3,V⟩=U (Z W s.hd):=x.ah.cell 3;have e4:S.cell? ⟨a,4,V⟩=U (Z W s.us):=x.ah.cell 4;have e5:S.cell? ⟨a,5,V⟩=U (O b n f):=x.ah.cell 5)
  | (go_at_call 223;(with_reducible apply (F0 _).mono);rintro d0 m ⟨t,rfl,h4,d4⟩;have y:=h4.under x;have f0:m.cell? ⟨a,0,V⟩=U (Z .u32 s.ep):=y.au.cell 0;have f1:m.cell? ⟨a,1,V⟩=U (Z Q s.st):=y.au.cell 1;have f2:m.cell? ⟨a,2,V⟩=U (Z Q s.sq):=y.au.cell 2;have f3:m.cell? ⟨a,3,V⟩=U (Z W s.hd):=y.au.cell 3;have f4:m.cell? ⟨a,4,V⟩=U (Z W s.us):=y.au.cell 4;have f5:m.cell? ⟨a,5,V⟩=U (O b n f):=y.au.cell 5))
 have H5:=y.alloc (Y (zO P s n d r t) 184 (0,0));have D5:=((D2.drew.trans d3).trans d4).alloc (Y (zO P s n d r t) 184 (0,0));clear h3 h4 D0 F0 d3 d4 D2 R2 x y e0 z A e3 e4 e5 f0 f1 f2 f3 f4 f5 b0 b1 b2 b3 b4 b5
 have H6:ag (m.alloc (Y (zO P s n d r t) 184 (0,0))) (pt m.heap.size (Y (zO P s n d r t) 184 (0,0))*(bZ r (ns P 0)*(bQ t (tP P s.at_ 0)*(pt a (Y #[Z .u32 s.ep,Z Q s.st,Z Q s.sq,Z W s.hd,Z W s.us,O b n f] 168 (0,0))*whole w)))):=by
  have z:tP P s.at_ 0=Tb.fresh n P:=by rw [Hn.o];rfl
  have A:ns P 0=List.replicate P 0:=rfl;rw [z,A];exact H5.u00
 clear H5;unfold zO at D5 H6;generalize V0:(m.alloc (Y #[az d,az r,az t,Z W (n:Int),Z .u32 s.ep,Z Q s.st,Z Q s.sq,Z W s.hd,Z W s.us,Z W 0,.bool M] 184 (0,0)))=w5 at D5 H6 ⊢;generalize m.heap.size=j at H6 ⊢;clear V0
 go_wp2
 go_loopw [55] (fun u wr=>PC P s n d j r t a (Y #[Z .u32 s.ep,Z Q s.st,Z Q s.sq,Z W s.hd,Z W s.us,O b n f] 168 (0,0)) w u wr) (fun u _=>P-(intOf u).toNat)
 case atStart=>exact ⟨0,E2 _,rfl,H6,D5⟩
 case round=>
  clear H6 D5;obtain ⟨k,hk,rfl,e,B⟩:=hrel
  by_cases i0:k<P
  .have R0:(k:Int)<(P:Int):=K
   have j1:wr.cell? ⟨j,1,V⟩=U (az r):=e.cell 1;have r0:=uu wr r (ns P k) (k:Int) ((k:Int)+1) _ e.ah (by rw [rZ hk];omega) (by rw [rZ hk];omega);rw [Dv i0] at r0;have g1:IntKind.i64.wrap ((k:Int)+1)=(k:Int)+1:=by rw [IntKind.wrap_i64];omega
   clear e
   go_wp2_with fail
   apply r0.mono;rintro d0 w6 ⟨rfl,h6,d6⟩;have l:=ae h6.ah;clear r0 h6
   go_wp2
   go_roundw
   case rel=>exact ⟨k+1,K,by go_num,l.o,B.trans d6⟩
   case measure=>simp [intOf];omega
  .obtain rfl:k=P:=K
   rw [I4] at e;have h5:wr.cell? ⟨a,5,V⟩=U (O b n f):=e.aA.cell 5;have l:=ae e;clear e i0
   go_wp2
   go_loopw [70] (fun u wr=>PU k s n d j r t a (Y #[Z .u32 s.ep,Z Q s.st,Z Q s.sq,Z W s.hd,Z W s.us,O b n f] 168 (0,0)) w u wr) (fun u _=>n-(intOf u).toNat)
   case atStart=>exact ⟨0,E2 _,rfl,l.o,B⟩
   case round=>
    clear l B h5;obtain ⟨i,hi,rfl,e,B⟩:=hrel;have j2:wr.cell? ⟨j,2,V⟩=U (az t):=e.cell 2;have s0:=F8 k s.at_ i;have l0:=N8 k s.at_ K (by have:=Hn.o;omega) i
    by_cases i0:i<n
    .have R0:(i:Int)<(n:Int):=K
     obtain ⟨g,o,rfl,N0⟩:∃ g o,b=U ⟨g,o,V⟩/\wr.cell? ⟨g,o+i,V⟩=U (Z W (s.at_.getD i 0)):=by
      have p:=Hn.o;rcases Ha.o with ⟨_,_,g0,h0⟩|⟨g,o,c,g0,_,_,hc⟩
      .rw [h0] at p;simp at p;omega
      .injection g0 with z A e3
       exact ⟨g,o,z,(e.t00 ((pt j _*(bZ r (cF k)*(bQ t (tP k s.at_ i)*pt a _)))*whole w)).bV (hc i K)⟩
     have C:tP k s.at_ (i+1)=if 0<=s.at_.getD i 0 then ((tP k s.at_ i).put (i:Int) (s.at_.getD i 0)).2 else tP k s.at_ i:=rfl
     generalize s.at_.getD i 0=v at N0 C
     by_cases hv:0<=v
     .rw [if_pos hv] at C
      have j0:=fp wr t (tP k s.at_ i) (i:Int) v _ e.au l0;rw [<- C] at j0;generalize ((tP k s.at_ i).put (i:Int) v).1=pb at j0;clear e C s0 l0
      go_wp2_with fail
      apply j0.mono;rintro d0 w6 ⟨rfl,h6,d6⟩;have l:=ae h6.au;clear j0 h6
      go_wp2
      go_roundw
      case rel=>exact ⟨i+1,K,by go_num,l.o.u00,B.trans d6⟩
      case measure=>simp [intOf];omega
     .rw [if_neg hv] at C
      have l:=ae e;have H0:=ae C;clear e C s0 l0
      go_wp2
      go_roundw
      case rel=>exact ⟨i+1,K,by go_num,by rw [H0.o];exact l.o,B⟩
      case measure=>simp [intOf];omega
    .obtain rfl:i=n:=K
     have l:=ae e;clear e i0 s0 l0
     go_wp2
     go_ret2
     refine ⟨j,rfl,ag.Ak (r:=r) (t:=t) ?_,B⟩;have z:(Jr.NF k s).cells d r t=zO k s i d r t:=by unfold Jr.NF Jr.cells zO;rw [Hn.o]
     have A:(Jr.NF k s).T=tP k s.at_ i:=by rw [Hn.o];rfl
     rw [z,A];exact (ag.kQ l.o).to (by unfold Jr.NF;ac_rfl)
end Go.Proofs.Nn
