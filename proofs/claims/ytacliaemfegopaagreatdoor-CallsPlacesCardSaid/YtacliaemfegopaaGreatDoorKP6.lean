/- Steps. -/
import Derived.Test.YtacliaemfegopaaGreatDoorKP5
import Derived.Deep.DeepCutAuto
import Derived.BigQuiet
import Derived.Deep.QuietTactic
import Derived.Deep.CutBlock
import Derived.Deep.CutRange
set_option linter.all false
set_option maxRecDepth 99999
set_option maxHeartbeats 0
open Go.SL
open Go.Value renaming int->Y,slice->Z'
open Go.IntKind renaming i64->X'
open Go.Obj renaming cells->U
open Go.Ending renaming returned->R
open Go renaming World->S,Value->T
open Go.Proofs.Tryz renaming prog->W
open Option renaming some->O
open Bool renaming true->Y'
open Go.Proofs.Tryz
open Go.Value renaming int->D0,oneCell'->T0
open List renaming length_map->F0,getElem?_map->G0,drop_zero->K0,length_append->N0,getElem?_eq_getElem->S0,getElem_mem->U0,take_length->V0,getElem?_eq_none->X0,take_of_length_le->Y0,setIfInBounds_toArray->Z0,set_cons_zero->A1,set_cons_succ->E1,getElem?_cons_succ->K1,getElem?_append_left->L1
open Nat renaming zero_le->H0,le_refl->L0,zero_add->R0
open Go.World renaming size_alloc->W0
open Array renaming ext_getElem?->M1,getElem?_eq_none->N1,getElem?_eq_getElem->O1
namespace Go.SL
open Go.RowKit
variable {w:S} {k:Nat}
structure Nd where
 kd:Int
 lk:Int
 sz:Int
 dr:List Int
 rw:Int
def Nd.l (n:Nd):List Int:=n.kd :: n.lk :: n.sz :: (n.dr++[n.rw])
def Nd.v (n:Nd):Value:=.agg (ints n.l)
def cS (p:Int):Bool:=decide (0<=p) && decide (p<3840)
def cK (sz:Int):Int:=(min (max sz 0) 122880+479)/480
def Nd.ok (n:Nd):Bool:=(decide (n.kd=1) || decide (n.kd=2)) && decide (0<=n.lk) && decide (n.lk<=65535) && decide (0<=n.sz) && decide (n.sz<=122880) && n.dr.all cS && cS n.rw &&
 (decide (16<cK n.sz) || decide (n.rw=0)) && (List.range 16).all fun i=>decide ((i:Int)<cK n.sz) || decide (n.dr.getD i 0=0)
theorem nM.Cc {v:T} {l:List Int} (h:nM w v l):∃ a c,v = Z' a l.length c:=by
 rcases h with ⟨x,c,rfl,rfl⟩|⟨g,o,c,rfl,_⟩
 .exact ⟨_,_,rfl⟩
 .exact ⟨_,_,rfl⟩
theorem nM.RH {v:T} {l:List Int} (h:nM w v l) (a:k<l.length):∃ g o c,v = Z' (O ⟨g,o,none⟩) l.length c/\w.cell? ⟨g,o+k,none⟩=O (Y X' (l.getD k 0)):=by
 rcases h with ⟨x,c,rfl,rfl⟩|⟨g,o,c,rfl,_,_,b⟩
 .simp at a
 .exact ⟨_,_,_,rfl,b k a⟩
theorem nM.row {xs:List Int} {c:TypeId} {F:ai} (h:ag w (pt k (U (ints xs) c (0,0))*F)) (o n:Nat) (e:o+n<=xs.length) (d:n<=maxLen):nM w (Z' (O ⟨k,o,none⟩) n n) ((xs.drop o).take n):=by
 have b:((xs.drop o).take n).length=n:=by rw [List.length_take,List.length_drop];omega
 refine .inr ⟨k,o,n,by rw [b],by omega,d,fun f a=>?_⟩;rw [b] at a;rw [h.cell,bD (by omega)];simp [List.getD,List.getElem?_take,List.getElem?_drop,a]
theorem ue {P:Program} {t e:TypeId} {n:Nat} {l:List Int} (h:P.underlying t=O (.array n e)) (c:P.underlying e=O (.int X')) (b:(P.info? e).map (·.size)=O 1) (j:l.length=n) (k:Nat) (f:k<n) (w:S) :
  (Instr.index t (.agg (ints l)) (Y X' (k:Int))).run P w = .ok (Y X' (l.getD k 0)) w:=by
 have d:=bD (l:=l) (i:=k) (by omega)
 cases a:P.info? e with
 | none=>simp [a] at b
 | some i=>
  have g:i.size=1:=by simpa [a] using b
  simp [Instr.index,asIntOf,run_underlying h,isAgg,run_underlying c,sizeOf,typeInfo,a,g,part,d,show k<n from f,go_sem]
theorem Nd.cells {n:Nd} (h:n.dr.length=16):n.l.length=20:=by simp [Nd.l,h]
theorem Nd.DR {n:Nd} (h:n.dr.length=16):(ints n.l)[19]?=O (Y X' n.rw):=by
 rw [dw];simp [Nd.l,h]
theorem Nd.kD {n:Nd} (h:n.dr.length=16):(n.l.drop 3).take 16=n.dr:=by
 simp only [Nd.l,List.drop_succ_cons,K0];rw [<- h,List.take_left]
end Go.SL
namespace Go.Proofs.Fs
open Go.RowKit Go.SL Go.Proofs.Ba
theorem Cd (w:S) (n:Int):Calls W 191 #[Y X' n] w (mm (cK n) w):=by
 have e:∀ m:Int,0<=m->(m+479).tdiv 480=(m+479)/480:=fun m h=>Int.tdiv_eq_ediv_of_nonneg (by omega);unfold cK
 by_cases a:n<0
 .rw [show min (max n 0) 122880=0 by omega]
  go_enter func191,ntmps191
  go_wp2
  go_ret
  exact ⟨rfl,rfl⟩
 .by_cases b:n<=122880
  .rw [show min (max n 0) 122880=n by omega]
   go_enter func191,ntmps191
   go_wp2
   go_ret
   exact ⟨by show Ending.returned (Y X' ((n+480-1)/480))=_;rw [show n+480-1=n+479 by omega],rfl⟩
  .rw [show min (max n 0) 122880=122880 by omega]
   go_enter func191,ntmps191
   go_wp2
   go_ret
   exact ⟨rfl,rfl⟩
def OS (l:List Int) (u:T):Prop:=∃ k:Nat,k<=l.length/\u = Y X' (k:Int)/\(l.take k).all cS=Y'
theorem ub {l:List Int} {k:Nat} (h:k<l.length):l.take (k+1)=l.take k++[l.getD k 0]:=by simp_all
theorem gX (w:S) (v:T) (l:List Int) (h:nM w v l) (C:l.length<=1000) :
  Calls W 203 #[v] w fun e t=>e = R (.bool (l.all cS))/\w=t:=by
 have j:=ae h;obtain ⟨a,c,rfl⟩:=h.Cc
 go_enter func203,ntmps203
 go_wp2_with fail
 go_loop [7] (fun u=>OS l u) (fun u=>l.length-(intOf u).toNat)
 case atStart=>exact ⟨0,H0 _,rfl,rfl⟩
 case round=>
  obtain ⟨k,B,rfl,b⟩:=hrel
  by_cases d:k<l.length
  .have D:(k:Int)<(l.length:Int):=by omega
   obtain ⟨g,o,x,s,A⟩:=j.out.RH d;cases s
   have r:=ub d;have q:l.getD k 0 ∈ l:=by rw [List.getD,S0 d];exact U0 d
   have n:=ae r;have f:=ae b;have m:=ae q;generalize l.getD k 0=p at *;have i:Hid (cS p=false->l.all cS=false):=ae fun h=>List.all_eq_false.2 ⟨p,m.out,by simp [h]⟩
   by_cases y:p<0
   .have e:=ae (i.out (by simp [cS];omega))
    go_wp2_with fail
    go_ret
    exact ⟨by rw [e.out];rfl,rfl⟩
   .by_cases z:3840<=p
    .have e:=ae (i.out (by simp [cS];omega))
     go_wp2_with fail
     go_ret
     exact ⟨by rw [e.out];rfl,rfl⟩
    .have e:Hid ((l.take (k+1)).all cS=Y'):=ae (by rw [n.out,List.all_append,f.out];simp [cS];omega)
     go_wp2_with fail
     go_round
     case rel=>exact ⟨k+1,by omega,by go_num,e.out⟩
     case measure=>simp [intOf];omega
  .obtain rfl:k=l.length:=by omega
   rw [V0] at b;have f:=ae b;clear b
   go_wp2_with fail
   go_ret
   exact ⟨by rw [f.out];rfl,rfl⟩
theorem LZ:(prog.info? 71).map (·.size)=O 16:=by kernel_rfl
def FJ (dr:List Int) (sz:Int) (u:T):Prop:=∃ k:Nat,k<=16/\u = Y X' (k:Int)/\∀ j:Nat,j<k->(decide ((j:Int)<cK sz) || decide (dr.getD j 0=0))=Y'
theorem ji (w:World) (n:Nd) (h16:n.dr.length=16) :
  Calls prog 199 #[n.v] w (kx (.bool n.ok) w):=by
 have hA:=(ag.whole w).alloc (.cells (ints n.l) 73 (0,0));have dA:=(aj.refl w).alloc (.cells (ints n.l) 73 (0,0));have hB:=hA.alloc (.cells #[.int .i64 n.rw] 3 (0,0));have dB:=dA.alloc (.cells #[.int .i64 n.rw] 3 (0,0));have c0:(w.alloc (.cells (ints n.l) 73 (0,0))).cell? ⟨w.heap.size,0,none⟩=some (.int .i64 n.kd):=(hA.cell 0).trans (by rw [dw];rfl);have c1:(w.alloc (.cells (ints n.l) 73 (0,0))).cell? ⟨w.heap.size,1,none⟩=some (.int .i64 n.lk):=(hA.cell 1).trans (by rw [dw];rfl);have c2:(w.alloc (.cells (ints n.l) 73 (0,0))).cell? ⟨w.heap.size,2,none⟩=some (.int .i64 n.sz):=(hA.cell 2).trans (by rw [dw];rfl);have c19:=(hA.cell 19).trans (Nd.DR h16);have hp1:=gX _ _ _ (nM.row hA 3 16 (by rw [Nd.cells h16];decide) (by decide)) (by rw [Nd.kD h16,h16];decide);rw [Nd.kD h16] at hp1
 have hp2:=gX _ (.slice (some ⟨(w.alloc (.cells (ints n.l) 73 (0,0))).heap.size,0,none⟩) 1 1) [n.rw] (.inr ⟨_,0,1,rfl,L0 1,by decide,fun k hk=>by
  have:k=0:=by simpa using hk
  subst this;exact hB.cell 0⟩) (by simp)
 have e2:[n.rw].all cS=cS n.rw:=by simp
 rw [e2] at hp2;rw [W0] at hB hp2
 have hrow:((w.alloc (.cells (ints n.l) 73 (0,0))).alloc (.cells #[.int .i64 n.rw] 3 (0,0))).rangeAt w.heap.size 3 (n.dr.map (D0 .i64)):=fun j v hv=>by
  rw [hB.ah.cell,dw];rw [G0] at hv
  have:n.l[3+j]?=n.dr[j]?\/16<=j:=by
   by_cases h:j<16
   .left
    rw [show 3+j=j+3 by omega];simp only [Nd.l,K1];rw [L1 (by omega)]
   .exact .inr (by omega)
  rcases this with h|h
  .rw [h];exact hv
  .rw [X0 (by omega)] at hv;cases hv
 have hix:=fun (k:Nat) (hk:k<16) (w:World)=>ue (P:=prog) (t:=71) (e:=3) underlying71 underlying3 (by kernel_rfl) h16 k hk w;obtain ⟨kd,lk,sz,dr,rw'⟩:=n;dsimp only at *;have hv:Nd.v ⟨kd,lk,sz,dr,rw'⟩ = .agg (ints (Nd.l ⟨kd,lk,sz,dr,rw'⟩)):=rfl;rw [hv];obtain ⟨B,hB0⟩:∃ B,Nd.ok ⟨kd,lk,sz,dr,rw'⟩=B:=⟨_,rfl⟩
 rw [hB0];generalize ints (Nd.l ⟨kd,lk,sz,dr,rw'⟩)=X at *;have Hrow:=ae hrow;have Hix:=ae hix;have HB0:=ae hB0;have Hp1:=ae hp1;have Hp2:=ae hp2;have HBs:=ae hB;have hbl:=fun w=>Cd w sz;have Hbl:=ae hbl
 by_cases hk:kd=1\/kd=2
 .rcases hk with rfl|rfl
  all_goals
   by_cases h1:lk<0
   .have e:B=false:=by rw [<- HB0.out];simp [Nd.ok,show ¬ 0<=lk by omega]
    subst e
    go_enter func199,ntmps199
    go_wp2
    go_ret
    exact ⟨rfl,hA.right,dA⟩
   by_cases h2:65535<lk
   .have e:B=false:=by rw [<- HB0.out];simp [Nd.ok,show ¬ lk<=65535 by omega]
    subst e
    go_enter func199,ntmps199
    go_wp2
    go_ret
    exact ⟨rfl,hA.right,dA⟩
   by_cases h3:sz<0
   .have e:B=false:=by rw [<- HB0.out];simp [Nd.ok,show ¬ 0<=sz by omega]
    subst e
    go_enter func199,ntmps199
    go_wp2
    go_ret
    exact ⟨rfl,hA.right,dA⟩
   by_cases h4:122880<sz
   .have e:B=false:=by rw [<- HB0.out];simp [Nd.ok,show ¬ sz<=122880 by omega]
    subst e
    go_enter func199,ntmps199
    go_wp2
    go_ret
    exact ⟨rfl,hA.right,dA⟩
   go_enter func199,ntmps199
   go_wp2_with fail
   cases hb1:dr.all cS with
   | false=>
    have e:B=false:=by rw [<- HB0.out];simp only [Nd.ok,hb1];simp
    subst e;have hp1:=Hp1.out;rw [hb1] at hp1
    (with_reducible refine hp1.mono ?_)
    rintro e w3 ⟨rfl,rfl⟩;clear hp1
    go_wp2
    go_ret
    exact ⟨rfl,hA.right,dA⟩
   | true=>
    have hp1:=Hp1.out;rw [hb1] at hp1
    (with_reducible refine hp1.mono ?_)
    rintro e w3 ⟨rfl,rfl⟩;clear hp1
    go_wp2_with fail
    cases hb2:cS rw' with
    | false=>
     have e:B=false:=by rw [<- HB0.out];simp only [Nd.ok,hb2];simp
     subst e;have hp2:=Hp2.out;rw [hb2] at hp2
     (with_reducible refine hp2.mono ?_)
     rintro e w3 ⟨rfl,rfl⟩;clear hp2
     go_wp2
     go_ret
     exact ⟨rfl,HBs.out.right.right,dB⟩
    | true=>
     have hp2:=Hp2.out;rw [hb2] at hp2
     (with_reducible refine hp2.mono ?_)
     rintro e w3 ⟨rfl,rfl⟩;clear hp2;have d2:((w.alloc (.cells X 73 (0,0))).alloc (.cells #[.int .i64 rw'] 3 (0,0))).cell? ⟨w.heap.size,2,none⟩=some (.int .i64 sz):=((ag.whole _).alloc _).bT c2;have d19:((w.alloc (.cells X 73 (0,0))).alloc (.cells #[.int .i64 rw'] 3 (0,0))).cell? ⟨w.heap.size,19,none⟩=some (.int .i64 rw'):=((ag.whole _).alloc _).bT c19;generalize (w.alloc (.cells X 73 (0,0))).alloc (.cells #[.int .i64 rw'] 3 (0,0))=w4 at *;clear c0 c1 c2 c19 hA dA
     go_wp2_with fail
     have hbl:=Hbl.out w4;have hb0:0<=cK sz:=by unfold cK;omega
     obtain ⟨nb,hnb⟩:∃ nb,cK sz=nb:=⟨_,rfl⟩
     rw [hnb] at hbl hb0;have Hnb:=ae hnb;clear hnb
     (with_reducible refine hbl.mono ?_)
     rintro e w3 ⟨rfl,rfl⟩;clear hbl Hp1 Hp2
     by_cases h5:nb<=16/\rw'≠0
     .obtain ⟨h5,h6⟩:=h5
      have hne:(rw' == 0)=false:=by simpa using h6
      have e:B=false:=by rw [<- HB0.out];simp only [Nd.ok,Hnb.out];simp [show ¬ 16<nb by omega,h6]
      subst e
      go_wp2
      go_ret
      exact ⟨rfl,HBs.out.right.right,dB⟩
     .have hrest:B=(List.range 16).all fun i=>decide ((i:Int)<nb) || decide (dr.getD i 0=0):=by
       rw [<- HB0.out];simp only [Nd.ok,Hnb.out,hb1,hb2,decide_eq_true (show 0<=lk by omega),decide_eq_true (show lk<=65535 by omega),decide_eq_true (show 0<=sz by omega),decide_eq_true (show sz<=122880 by omega)];have:(decide (16<nb) || decide (rw'=0))=true:=by grind
       rw [this];simp
      have Hrest:=ae hrest;clear hrest;have hway:(nb<=16/\rw'=0)\/(16<nb):=by omega
      clear h5;rcases hway with ⟨h6,rfl⟩|h6
      all_goals
       first|(have hd9:decide (nb<=16)=false:=decide_eq_false (by omega))|skip
       obtain ⟨V,hV⟩:∃ V,V=(dr.map (D0 .i64)).toArray:=⟨_,rfl⟩
       have hix:∀ k:Nat,k<16->∀ w,(Instr.index 71 (.agg V) (.int .i64 (k:Int))).run prog w = .ok (.int .i64 (dr.getD k 0)) w:=fun k hk w=>by rw [hV];exact Hix.out k hk w
       have Hix2:=ae hix;have HV:=ae hV;have hinfo:(prog.info? 71).map (·.size)=some (dr.map (D0 .i64)).length:=by rw [F0,h16];exact LZ
       have Hinfo:=ae hinfo;clear hix Hix hV hinfo
       go_wp2_with (refine wpList_load_mid (by exact rfl) 71 (.tmp 48) (by exact rfl) w.heap.size 3 (by exact rfl) (dr.map (D0 .i64)) _ (by with_reducible exact Hrow.out) underlying71 rfl (by with_reducible exact Hinfo.out) ?_)
       rw [<- HV.out]
       go_loop [50] (fun u=>FJ dr sz u) (fun u=>16-(intOf u).toNat)
       case atStart=>exact ⟨0,H0 _,rfl,fun j hj=>absurd hj (Nat.not_lt_zero _)⟩
       case round=>
        obtain ⟨k,hk,rfl,hall⟩:=hrel;have Hall:=ae hall;clear hall
        by_cases hlt:k<16
        .have hlt':(k:Int)<16:=by omega
         have hik:=Hix2.out k hlt
         have Hno:Hid ((decide ((k:Int)<nb) || decide (dr.getD k 0=0))=false->B=false):=ae fun h=>by
          rw [Hrest.out];exact List.all_eq_false.2 ⟨k,List.mem_range.2 hlt,by rw [h];simp⟩
         have Hyes:Hid ((decide ((k:Int)<nb) || decide (dr.getD k 0=0))=true->∀ j:Nat,j<k+1->(decide ((j:Int)<cK sz) || decide (dr.getD j 0=0))=true):=ae fun h j hj=>by
          rcases Nat.lt_or_eq_of_le (Nat.le_of_lt_succ hj) with h9|h9
          .exact Hall.out j h9
          .rw [h9,Hnb.out];exact h
         generalize dr.getD k 0=p at *
         by_cases h6:nb<=(k:Int)
         .by_cases h7:p=0
          .subst h7
           have e:=ae (Hyes.out (by simp))
           go_wp2_with fail
           go_round
           case rel=>exact ⟨k+1,by omega,by go_num,e.out⟩
           case measure=>simp [intOf];omega
          .have hne:(p == 0)=false:=by simpa using h7
           have e:B=false:=Hno.out (by simp [h7];omega);subst e
           go_wp2_with fail
           all_goals
            go_ret
            exact ⟨rfl,HBs.out.right.right,dB⟩
         .have hd:decide (nb<=(k:Int))=false:=decide_eq_false h6
          have e:=ae (Hyes.out (by simp;omega))
          go_wp2_with fail
          go_round
          case rel=>exact ⟨k+1,by omega,by go_num,e.out⟩
          case measure=>simp [intOf];omega
        .obtain rfl:k=16:=by omega
         have e:B=true:=by
          rw [Hrest.out];refine List.all_eq_true.2 fun j hj=>?_;have:=Hall.out j (List.mem_range.1 hj)
          rwa [Hnb.out] at this
         subst e
         go_wp2_with fail
         go_ret
         exact ⟨rfl,HBs.out.right.right,dB⟩
 .have hk1:(kd == 1)=false:=by simp;omega
  have hk2:(kd == 2)=false:=by simp;omega
  have hk3:(kd != 1)=true:=by simp;omega
  have hk4:(kd != 2)=true:=by simp;omega
  have e:B=false:=by rw [<- HB0.out];simp [Nd.ok,show ¬ kd=1 by omega,show ¬ kd=2 by omega]
  subst e
  go_enter func199,ntmps199
  go_wp2
  go_ret
  exact ⟨rfl,hA.right,dA⟩
end Go.Proofs.Fs
namespace Go.SL
open Go.RowKit
def ja (xs:List Int):List UInt8:=xs.flatMap fun p=>dg p 2
theorem iv (xs:List Int):(ja xs).length=2*xs.length:=by
 induction xs with
 | nil=>rfl
 | cons x xs a=>rw [ja,List.flatMap_cons,N0,aU];show 2+(ja xs).length=_;rw [a,List.length_cons];omega
theorem GQ (a:List Int) (p:Int):ja (a++[p])=ja a++dg p 2:=by simp [ja]
def Nu (n:Nd):List UInt8:=((((dg n.kd 1++dg n.lk 2)++dg n.sz 4)++ja n.dr)++ja [n.rw])
def ie (n:Nd):List UInt8:=bM 480 (Nu n)
theorem oR (n:Nd):(ie n).length=480:=bS _ _
theorem iI {p:Int} (h:cS p=Y'):0<=p/\p<3840:=by simpa [cS] using h
theorem Nd.pY {n:Nd} (h:n.ok=Y'):(n.kd=1\/n.kd=2)/\0<=n.lk/\n.lk<=65535/\0<=n.sz/\n.sz<=122880/\n.dr.all cS=Y'/\cS n.rw=Y'/\(16<cK n.sz\/n.rw=0)/\∀ i:Nat,i<16->(i:Int)<cK n.sz\/n.dr.getD i 0=0:=by
 unfold Nd.ok at h;simp only [Bool.and_eq_true,Bool.or_eq_true,decide_eq_true_eq] at h;obtain ⟨⟨⟨⟨⟨⟨⟨⟨a,b⟩,c⟩,d⟩,e⟩,f⟩,g⟩,j⟩,k⟩:=h;refine ⟨a,b,c,d,e,f,g,j,fun i l=>?_⟩;have:=List.all_eq_true.1 k i (List.mem_range.2 l);simpa using this
end Go.SL
namespace Go.Proofs.Fs
open Go.RowKit Go.SL Go.Proofs.Ba
def DH (v:T) (l:List UInt8) (a:List Int) (w:S) (u0 u9:T) (wr:S):Prop:=
 ∃ k:Nat,k<=a.length/\u9 = Y X' (k:Int)/\Rd wr u0 (l++ja (a.take k))/\ag wr (whole w)/\(0<k->ag wr (bs 5 u0 (l++ja (a.take k))*whole w))/\aj w wr
theorem tG (w:S) (v A:T) (l:List UInt8) (xs:List Int) (X:Rd w v l) (u:nM w A xs) (e:1<=xs.length) (hl:l.length+2*xs.length<=1000) (P:xs.all cS=Y') :
  Calls W 204 #[v,A] w (yj (l++ja xs) w):=by
 have B:=ae u;obtain ⟨xa,xc,rfl⟩:=u.Cc;have C:=ae P
 go_enter func204,ntmps204
 go_wp2_with fail
 go_loopw [0,9] (fun u0 u9 wr=>DH v l xs w u0 u9 wr) (fun _ c0 _=>xs.length-(intOf c0).toNat)
 case atStart=>exact ⟨0,H0 _,rfl,by simpa [ja] using X,ag.whole w,fun h=>absurd h (by omega),aj.refl w⟩
 case round=>
  obtain ⟨k,hk,rfl,b,j,q,s⟩:=hrel
  by_cases f:k<xs.length
  .have f0:(k:Int)<(xs.length:Int):=by omega
   have x:nM wr (Z' xa xs.length xc) xs:=by
    rcases B.out with ⟨d0,c,e,a⟩|⟨g,o,c,e,a,K,L⟩
    .exact .inl ⟨d0,c,e,a⟩
    .exact .inr ⟨g,o,c,e,a,K,fun b0 V=>(j.to (cV _).symm).bT (L b0 V)⟩
   obtain ⟨g,o,c',Z,hc⟩:=x.RH f;cases Z
   have t:=ub f;have n:xs.getD k 0 ∈ xs:=by rw [List.getD,S0 f];exact U0 f
   obtain ⟨p0,p1⟩:=iI (List.all_eq_true.1 C.out _ n);obtain ⟨y,z,rfl⟩:=b.shape;have N:(l++ja (xs.take k)).length<=998:=by rw [N0,iv,List.length_take];omega
   have p:l++ja (xs.take (k+1))=(l++ja (xs.take k))++dg (xs.getD k 0) 2:=by rw [t,GQ,List.append_assoc]
   generalize l++ja (xs.take k)=i at *;have r:Calls W 164 #[Z' y i.length z,Y X' 2,Y .u64 (xs.getD k 0)] wr (yj (i++dg (xs.getD k 0) 2) wr):=eO wr _ i 2 (xs.getD k 0) b (by omega) (by omega) p0 (by omega);rw [<- p] at r;have E:=ae j;clear t n b q j x p N;generalize xs.getD k 0=g0 at *;generalize M:l++ja (xs.take (k+1))=F at *;have m:=ae M
   go_wp2_with fail
   (refine r.mono ?_)
   rintro e0 w2 ⟨v2,rfl,a,J⟩;have d:=a.under E.out;obtain ⟨G,I,rfl⟩:=aC d;have Q:DH v l xs w (Z' G F.length I) (Y X' ((k:Int)+1)) w2:=⟨k+1,by omega,by go_num,by rw [m.out];exact d.nH,d.right,fun _=>by rw [m.out];exact d,s.trans J⟩
   have D:=ae Q
   go_wp2_with fail
   go_roundw
   case rel=>exact D.out
   case measure=>simp [intOf];omega
  .obtain rfl:k=xs.length:=by omega
   have H:=q (by omega);rw [V0] at H b;obtain ⟨y,z,rfl⟩:=b.shape
   go_wp2_with fail
   go_ret
   exact ⟨_,rfl,H,s⟩
theorem bf:(prog.info? 73).map (·.size)=O 20:=by kernel_rfl
def NN (l:List UInt8) (w:S) (e:Ending) (a:S):Prop:=∃ v,e = R (.tuple #[v,Y X' 0])/\ag a (bs 5 v l*whole w)/\aj w a
theorem qe (w:World) (n:Nd) (h16:n.dr.length=16) (hok:n.ok=false) :
  Calls prog 146 #[n.v] w (kx (.tuple #[.slice none 0 0,.int .i64 1]) w):=by
 have hA:=(ag.whole w).alloc (.cells (ints n.l) 73 (0,0));have dA:=(aj.refl w).alloc (.cells (ints n.l) 73 (0,0));have hri:=ji (w.alloc (.cells (ints n.l) 73 (0,0))) n h16
 have hrow:(w.alloc (.cells (ints n.l) 73 (0,0))).rangeAt w.heap.size 0 (n.l.map (D0 .i64)):=fun j v hv=>by
  rw [R0,hA.cell,dw,<- G0];exact hv
 have hinfo:(prog.info? 73).map (·.size)=some (n.l.map (D0 .i64)).length:=by rw [F0,Nd.cells h16];exact bf
 rw [hok] at hri;have Hrow:=ae hrow;have Hinfo:=ae hinfo;have hv:n.v = .agg (n.l.map (D0 .i64)).toArray:=rfl;rw [hv] at hri ⊢;have hi:ints n.l=(n.l.map (D0 .i64)).toArray:=rfl;rw [hi] at hA dA hri Hrow;generalize n.l.map (D0 .i64)=X at *
 go_enter func146,ntmps146
 go_wp2_with (refine wpList_load_mid (by exact rfl) 73 (.tmp 1) (by exact rfl) w.heap.size 0 (by exact rfl) X _ (by with_reducible exact Hrow.out) underlying73 rfl (by with_reducible exact Hinfo.out) ?_)
 (refine hri.mono ?_)
 rintro e w2 ⟨rfl,h2,d2⟩;have H2:=(h2.dU hA).right
 go_wp2
 go_ret2
 exact ⟨rfl,H2,dA.trans d2⟩
theorem lq (w:World) (n:Nd) (h16:n.dr.length=16) (hok:n.ok=true) :
  Calls prog 146 #[n.v] w (NN (ie n) w):=by
 have hA:=(ag.whole w).alloc (.cells (ints n.l) 73 (0,0));have dA:=(aj.refl w).alloc (.cells (ints n.l) 73 (0,0));have hri:=ji (w.alloc (.cells (ints n.l) 73 (0,0))) n h16
 have hrow:(w.alloc (.cells (ints n.l) 73 (0,0))).rangeAt w.heap.size 0 (n.l.map (D0 .i64)):=fun j v hv=>by
  rw [R0,hA.cell,dw,<- G0];exact hv
 have hinfo:(prog.info? 73).map (·.size)=some (n.l.map (D0 .i64)).length:=by rw [F0,Nd.cells h16];exact bf
 rw [hok] at hri;have Hrow:=ae hrow;have Hinfo:=ae hinfo;obtain ⟨f1,f2,f3,f4,f5,f6,f7,-,-⟩:=Nd.pY hok;have hk0:0<=n.kd:=by omega
 have hk1:n.kd<=2:=by omega
 have hv:n.v = .agg (n.l.map (D0 .i64)).toArray:=rfl;rw [hv] at hri ⊢;have hi:ints n.l=(n.l.map (D0 .i64)).toArray:=rfl;rw [hi] at hA dA hri Hrow
 have G:Hid (∀ (w':World) (P:ai),ag w' (pt w.heap.size (.cells (n.l.map (D0 .i64)).toArray 73 (0,0))*P)->w'.cell? ⟨w.heap.size,0,none⟩=some (.int .i64 n.kd)/\w'.cell? ⟨w.heap.size,1,none⟩=some (.int .i64 n.lk) /\
   w'.cell? ⟨w.heap.size,2,none⟩=some (.int .i64 n.sz)/\w'.cell? ⟨w.heap.size,19,none⟩=some (.int .i64 n.rw)/\nM w' (.slice (some ⟨w.heap.size,3,none⟩) 16 16) n.dr):=ae fun w' P h=>by
  have h16':=nM.row (xs:=n.l) h 3 16 (by rw [Nd.cells h16];decide) (by decide);rw [Nd.kD h16] at h16';exact ⟨h.cell 0,h.cell 1,h.cell 2,(h.cell 19).trans (Nd.DR h16),h16'⟩
 generalize n.l.map (D0 .i64)=X at *
 go_enter func146,ntmps146
 go_wp2_with (refine wpList_load_mid (by exact rfl) 73 (.tmp 1) (by exact rfl) w.heap.size 0 (by exact rfl) X _ (by with_reducible exact Hrow.out) underlying73 rfl (by with_reducible exact Hinfo.out) ?_)
 (refine hri.mono ?_)
 rintro e w2 ⟨rfl,h2,d2⟩;have H2:=h2.dU hA;have D2:=dA.trans d2;have He:=ae (show ie n=bM 480 ((((dg n.kd 1++dg n.lk 2)++dg n.sz 4)++ja n.dr)++ja [n.rw]) from rfl);have c0:=(G.out _ _ H2).1;have hp:Calls prog 164 #[.slice none 0 0,.int .i64 1,.int .u64 n.kd] w2 (yj ([]++dg n.kd 1) w2):=eO w2 _ [] 1 n.kd (H2.eC 5 1).nH (by decide) (by decide) hk0 (by omega);rw [List.nil_append] at hp
 go_wp2_with fail
 (refine hp.mono ?_)
 rintro e w3 ⟨v3,rfl,h3,d3⟩;have H3:=h3.under H2;have D3:=D2.trans d3;have c1:=(G.out _ _ H3.ah).2.1;have l3:Hid ((dg n.kd 1).length=1):=ae (aU _ _);generalize dg n.kd 1=L3 at *;have hp4:Calls prog 164 #[v3,.int .i64 2,.int .u64 n.lk] w3 (yj (L3++dg n.lk 2) w3):=eO w3 v3 L3 2 n.lk H3.nH (by have:=l3.out;omega) (by decide) f2 (by omega)
 go_wp2_with fail
 (refine hp4.mono ?_)
 rintro e w4 ⟨v4,rfl,h4,d4⟩;have H4:=h4.under H3.right;have D4:=D3.trans d4;have c2:=(G.out _ _ H4.ah).2.2.1;have l4:Hid ((L3++dg n.lk 2).length=3):=ae (by rw [N0,aU,l3.out]);generalize L3++dg n.lk 2=L4 at *;have hp5:Calls prog 164 #[v4,.int .i64 4,.int .u64 n.sz] w4 (yj (L4++dg n.sz 4) w4):=eO w4 v4 L4 4 n.sz H4.nH (by have:=l4.out;omega) (by decide) f4 (by omega)
 go_wp2_with fail
 (refine hp5.mono ?_)
 rintro e w5 ⟨v5,rfl,h5,d5⟩;have H5:=h5.under H4.right;have D5:=D4.trans d5;have l5:Hid ((L4++dg n.sz 4).length=7):=ae (by rw [N0,aU,l4.out]);generalize L4++dg n.sz 4=L5 at *;have hp6:=tG w5 v5 _ L5 n.dr H5.nH (G.out _ _ H5.ah).2.2.2.2 (by omega) (by have:=l5.out;omega) f6
 go_wp2_with fail
 (refine hp6.mono ?_)
 rintro e w6 ⟨v6,rfl,h6,d6⟩;have H6:=h6.under H5.right;have D6:=D5.trans d6;have c19:=(G.out _ _ H6.ah).2.2.2.1;have l6:Hid ((L5++ja n.dr).length=39):=ae (by rw [N0,iv,l5.out,h16]);generalize L5++ja n.dr=L6 at *;obtain ⟨a6,n6,rfl⟩:=aC H6;have H7:=H6.alloc (.cells #[.int .i64 n.rw] 3 (0,0));have D7:=D6.alloc (.cells #[.int .i64 n.rw] 3 (0,0))
 have hp7:=tG (w6.alloc (.cells #[.int .i64 n.rw] 3 (0,0))) (.slice a6 L6.length n6) (.slice (some ⟨w6.heap.size,0,none⟩) 1 1) L6 [n.rw] H7.ah.nH (.inr ⟨_,0,1,rfl,L0 1,by decide,fun k hk=>by
  have:k=0:=by simpa using hk
  subst this;exact H7.cell 0⟩) (by simp) (by have:=l6.out;simp;omega) (by simpa using f7)
 go_wp2_with fail
 (refine hp7.mono ?_)
 rintro e w8 ⟨v8,rfl,h8,d8⟩;have H8:=h8.under H7.right.right.right;have D8:=D7.trans d8;generalize L6++ja [n.rw]=L8 at *;have hp9:Calls prog 165 #[v8,.int .i64 480] w8 (yj (bM 480 L8) w8):=nD w8 v8 L8 H8.nH 480 (by decide)
 go_wp2_with fail
 (refine hp9.mono ?_)
 rintro e w9 ⟨v9,rfl,h9,d9⟩;have H9:=h9.under H8.right;have D9:=D8.trans d9
 go_wp2
 go_ret2
 exact ⟨_,rfl,by rw [He.out];exact H9,D9⟩
theorem kF:(prog.info? 135).map (·.size)=O 240:=by kernel_rfl
theorem xJ (w:S) (l:List Int) (g:l.length=240) (f:l.all cS=false) :
  Calls W 147 #[.agg (ints l)] w (kx (.tuple #[Z' none 0 0,Y X' 1]) w):=by
 have a:=(ag.whole w).alloc (U (ints l) 135 (0,0));have d:=(aj.refl w).alloc (U (ints l) 135 (0,0));have c:=nM.row a 0 240 (by omega) (by decide);rw [K0,Y0 (by omega)] at c;have b:=gX _ _ l c (by omega);rw [f] at b
 go_enter func147,ntmps147
 go_wp2_with fail
 (refine b.mono ?_)
 rintro e h ⟨rfl,rfl⟩
 go_wp2
 go_ret2
 exact ⟨rfl,a.right,d⟩
theorem uY (w:S) (l:List Int) (k:l.length=240) (c:l.all cS=Y') :
  Calls W 147 #[.agg (ints l)] w (NN (ja l) w):=by
 have a:=(ag.whole w).alloc (U (ints l) 135 (0,0));have i:=(aj.refl w).alloc (U (ints l) 135 (0,0));have b:=nM.row a 0 240 (by omega) (by decide);rw [K0,Y0 (by omega)] at b;have d:=gX _ _ l b (by omega);rw [c] at d;have f:=tG (w.alloc (U (ints l) 135 (0,0))) (Z' none 0 0) _ [] l (a.eC 5 1).nH b (by omega) (by simp;omega) c;rw [List.nil_append] at f
 go_enter func147,ntmps147
 go_wp2_with fail
 (refine d.mono ?_)
 rintro e m ⟨rfl,rfl⟩
 go_wp2_with fail
 (refine f.mono ?_)
 rintro e n ⟨v3,rfl,j,h⟩;have g:=j.under a.right
 go_wp2
 go_ret2
 exact ⟨_,rfl,g,i.trans h⟩
end Go.Proofs.Fs
namespace Go.SL
open Go.RowKit
def bC (l:List UInt8) (o m:Nat):List Int:=(List.range m).map fun i=>ib (l.drop (o+2*i)) 2
theorem yL (l:List UInt8) (o m:Nat):bC l o (m+1)=bC l o m++[ib (l.drop (o+2*m)) 2]:=by simp [bC,List.range_succ]
theorem bh (l:List UInt8) (o m:Nat):(bC l o m).length=m:=by simp [bC]
def gM (l:List UInt8):Nd:=⟨ib l 1,ib (l.drop 1) 2,ib (l.drop 3) 4,bC l 7 16,ib (l.drop 39) 2⟩
theorem uf:∀ (a:List T) (b:Array T) (o:Nat) (v:T),fu b o (a++[v])=(fu b o a).setIfInBounds (o+a.length) v
 | [],b,o,v=>rfl
 | x :: a,b,o,v=>by
  show fu (b.setIfInBounds o x) (o+1) (a++[v])=(fu (b.setIfInBounds o x) (o+1) a).setIfInBounds (o+(a.length+1)) v
  rw [uf a _ (o+1) v,show o+1+a.length=o+(a.length+1) by omega]
end Go.SL
namespace Go.Proofs.Fs
open Go.RowKit Go.SL Go.Proofs.Ba
variable {C tmps:Array T} {w:S} {z:Nat} {v:T} {F:ai}
def s4 (r g c:Nat) (e:Array T) (L:List UInt8) (o b:Nat) (d:Array T) (a:TypeId) (f k:Nat) (F:ai):ai:=
 bR r g c e L (o+2*k)*(pt b (U (fu d f ((bC L o k).map (D0 X'))) a (0,0))*F)
def Ij (r g c:Nat) (e:Array T) (L:List UInt8) (o b:Nat) (d:Array T) (a:TypeId) (f m:Nat) (F:ai) (w:S) (u7:T) (wr:S):Prop:=
 ∃ k:Nat,k<=m/\u7 = Y X' (k:Int)/\ag wr (s4 r g c e L o b d a f k F)/\aj w wr
theorem qy (w:S) (r g f:Nat) (j:Array T) (L:List UInt8) (o b:Nat) (d:Array T) (l:TypeId) (a m c:Nat) (F:ai) (h:ag w (bR r g f j L o*(pt b (U d l (0,0))*F))) (hm:a+m<=d.size) (hn:o+2*m<=L.length) (I:L.length<=1000000) (X:m<=c) (H:c<=maxLen)
  (G:∀ i,i<m->(d[a+i]?).isSome=Y') :
  Calls W 196 #[ay r,Z' (O ⟨b,a,none⟩) m c] w fun e n=>e = R (.tuple #[])/\ag n (s4 r g f j L o b d l a m F)/\aj w n:=by
 have Z:(c:Int)<=9223372036854775807:=by unfold maxLen at H;omega
 have z:=h
 go_enter func196,ntmps196
 go_wp2_with fail
 go_loopw [7] (fun u wr=>Ij r g f j L o b d l a m F w u wr) (fun u _=>m-(intOf u).toNat)
 case atStart=>exact ⟨0,H0 _,rfl,z,aj.refl w⟩
 case round=>
  obtain ⟨k,hk,rfl,t,y⟩:=hrel
  by_cases J:k<m
  .have b0:(k:Int)<(m:Int):=by omega
   have s:Calls W 195 #[ay r,Y X' 2] wr (xg r g f j L (o+2*k) 2 wr (pt b (U (fu d a ((bC L o k).map (D0 X'))) l (0,0))*F)):=ir wr r g f j L (o+2*k) 2 _ t (by omega) (by omega) (by decide) I;obtain ⟨v0,P⟩:=gI (L.drop (o+2*k)) 2;have v2:=P
   have M:fu d a ((bC L o (k+1)).map (D0 X'))=(fu d a ((bC L o k).map (D0 X'))).setIfInBounds (a+k) (Y X' (ib (L.drop (o+2*k)) 2)):=by
    rw [yL,List.map_append,List.map_cons,List.map_nil,uf,F0,bh]
   have K:∃ x,(fu d a ((bC L o k).map (D0 X')))[a+k]?=O x:=by
    rw [ij _ _ _ _ (by rw [F0,bh];omega),if_neg (by rw [F0,bh];omega)];exact Option.isSome_iff_exists.1 (G k J)
   have q:∀ n,ag n (bR r g f j L (o+2*k+2)*(pt b (U (fu d a ((bC L o (k+1)).map (D0 X'))) l (0,0))*F))->ag n (s4 r g f j L o b d l a (k+1) F):=fun n h=>h;rw [M] at q;unfold xg at s;have C:=ae q;generalize ib (L.drop (o+2*k)) 2=v at *;obtain ⟨x,N⟩:=K;have D:=ae N
   go_wp2_with fail
   (refine s.mono ?_)
   rintro e w2 ⟨rfl,p,E⟩;have Q:=(p.ah.cell _).trans D.out;have V:=p.ah.frozen (a+k);have A:=p.ah.setCell (a+k) (Y X' v);have B:=ae (C.out _ (A.to (by ac_rfl)))
   go_wp2_with fail
   go_roundw
   case rel=>exact ⟨k+1,by omega,by go_num,B.out,(y.trans E).setCell _ _⟩
   case measure=>simp [intOf];omega
  .obtain rfl:k=m:=by omega
   go_wp2_with fail
   go_end0
   exact ⟨rfl,t,y⟩
theorem N9 (w:S) (c:Int):Calls W 201 #[Y .u8 c] w fun e a=>e = R (.bool (c != 0))/\w=a:=by
 go_enter func201,ntmps201
 go_wp2
 go_ret
 exact ⟨rfl,rfl⟩
def MU (l:List UInt8) (k:Nat):Prop:=(l.take k).all (· == 0)=Y'
def OP (l:List UInt8) (u:T):Prop:=∃ k:Nat,k<=l.length/\u = Y X' (k:Int)/\MU l k
def Ry (l:List UInt8) (w:S) (e:Ending) (a:S):Prop:=∃ n:Int,e = R (Y X' n)/\(0<=n↔l.all (· == 0)=false)/\w=a
theorem zT (w:S) (v:T) (l:List UInt8) (i:Rd w v l) (E:l.length<=1000000) :
  Calls W 240 #[v,.func (.func 201) #[] #[]] w (Ry l w):=by
 have t:=ae i;obtain ⟨H,I,rfl⟩:=i.shape;have F:(l.length:Int)<=1000000:=by omega
 clear i
 go_enter func240,ntmps240
 go_wp2_with fail
 go_loop [8] (fun u=>OP l u) (fun u=>l.length-(intOf u).toNat)
 case atStart=>exact ⟨0,H0 _,rfl,rfl⟩
 case round=>
  obtain ⟨k,D,rfl,a⟩:=hrel
  by_cases f:k<l.length
  .have G:(k:Int)<(l.length:Int):=by omega
   obtain ⟨g,o,rfl,m⟩:=t.out.at (by omega);have A:=m k l[k] (S0 f);have b:=N9 w (l[k].toNat:Int)
   have q:(l[k].toNat:Int)=0↔l[k]=0:=by
    constructor
    .intro h;exact UInt8.toNat_inj.1 (by have:(0:UInt8).toNat=0:=rfl;omega)
    .intro h;rw [h];rfl
   have p:MU l (k+1)↔l[k]=0:=by
    unfold MU at a ⊢;rw [List.take_add_one,S0 f,List.all_append,a];simp
   have n:l[k]≠0->l.all (· == 0)=false:=fun h=>List.all_eq_false.2 ⟨l[k],U0 f,by simpa using h⟩;have s:=ae n;have x:=ae p;have j:=ae q;unfold u8 at A;generalize (l[k].toNat:Int)=c at *;clear m a n p q
   by_cases d:c=0
   .subst d
    have y:=ae (x.out.2 (j.out.1 rfl))
    go_wp2_with fail
    (with_reducible refine b.mono ?_)
    rintro e C ⟨rfl,rfl⟩;clear b
    go_wp2_with fail
    go_round
    case rel=>exact ⟨k+1,by omega,by go_num,y.out⟩
    case measure=>simp [intOf];omega
   .have z:(c != 0)=Y':=by simpa using d
    have B:=ae (s.out (fun h=>d (j.out.2 h)));rw [z] at b
    go_wp2_with fail
    (with_reducible refine b.mono ?_)
    rintro e C ⟨rfl,rfl⟩;clear b
    go_wp2_with fail
    go_ret
    exact ⟨(k:Int),rfl,⟨fun _=>B.out,fun _=>by omega⟩,rfl⟩
  .obtain rfl:k=l.length:=by omega
   unfold MU at a;rw [V0] at a;have r:=ae a;clear a
   go_wp2_with fail
   go_ret
   exact ⟨-1,rfl,⟨fun h=>absurd h (by decide),fun h=>by rw [r.out] at h;cases h⟩,rfl⟩
def R5 (l:List UInt8) (w:S) (e:Ending) (a:S):Prop:=e = R (.bool (!(l.all (· == 0))))/\w=a
theorem uL (w:S) (v:T) (l:List UInt8) (a:Rd w v l) (i:l.length<=1000000) :
  Calls W 200 #[v,.func (.func 201) #[] #[]] w (R5 l w):=by
 have c:=zT w v l a i;obtain ⟨k,m,rfl⟩:=a.shape;clear a
 go_enter func200,ntmps200
 go_wp2_with fail
 (with_reducible refine c.mono ?_)
 rintro e o ⟨n,rfl,d,rfl⟩;have b:=ae d;clear c d
 by_cases h:0<=n
 .have e:=ae (b.out.1 h)
  go_wp2
  go_ret
  exact ⟨by rw [e.out];rfl,rfl⟩
 .have e:l.all (· == 0)=Y':=by
   cases g:l.all (· == 0) with
   | true=>rfl
   | false=>exact absurd (b.out.2 g) h
  have f:=ae e;have j:decide (0<=n)=false:=decide_eq_false h;clear e
  go_wp2
  go_ret
  exact ⟨by rw [f.out];rfl,rfl⟩
theorem Bf (a b c:Int) (dr:List Int) (r:Int) (d:dr.length=16):(fu #[Y X' a,Y X' b,Y X' c,Y X' 0,Y X' 0,Y X' 0,Y X' 0,Y X' 0,Y X' 0,Y X' 0,Y X' 0,Y X' 0,Y X' 0,Y X' 0,Y X' 0,Y X' 0,Y X' 0,Y X' 0,Y X' 0,Y X' 0] 3 (dr.map (D0 X'))).setIfInBounds 19 (Y X' r)=ints (Nd.l ⟨a,b,c,dr,r⟩):=by
 have g:(fu #[Y X' a,Y X' b,Y X' c,Y X' 0,Y X' 0,Y X' 0,Y X' 0,Y X' 0,Y X' 0,Y X' 0,Y X' 0,Y X' 0,Y X' 0,Y X' 0,Y X' 0,Y X' 0,Y X' 0,Y X' 0,Y X' 0,Y X' 0] 3 (dr.map (D0 X'))).size=20:=by rw [sM];rfl
 apply M1;intro k;rw [Array.getElem?_setIfInBounds,dw]
 by_cases e:19=k
 .subst e
  rw [if_pos rfl,if_pos (by rw [g];decide)];simp [Nd.l,d]
 .rw [if_neg e,ij _ _ _ _ (by rw [F0,d];show 3+16<=20;decide),F0,d]
  by_cases f:3<=k/\k<3+16
  .rw [if_pos f,G0]
   congr 1;obtain ⟨j,rfl⟩:∃ j,k=j+3:=⟨k-3,by omega⟩
   simp only [Nd.l,K1,Nat.add_sub_cancel];rw [L1 (by omega)]
  .rw [if_neg f]
   rcases (by omega:k=0\/k=1\/k=2\/20<=k) with rfl|rfl|rfl|h
   .rfl
   .rfl
   .rfl
   .rw [N1 (by show 20<=k;exact h),X0 (by simp [Nd.l,d];omega)];rfl
theorem CU:(#[Y X' 0,Y X' 0,Y X' 0,Y X' 0,Y X' 0,Y X' 0,Y X' 0,Y X' 0,Y X' 0,Y X' 0,Y X' 0,Y X' 0,Y X' 0,Y X' 0,Y X' 0,Y X' 0,Y X' 0,Y X' 0,Y X' 0,Y X' 0]:Array T).all (·.oneCell')=Y':=by simp [T0]
theorem j0 (a:tmps[2]?=O (ay z)) (b:tmps[3]?=O v) (h:ag w (pt z (U C 73 (0,0))*F)) (d:C.size=20:=by rfl) :
  (results Tryz.f141 tmps).run W w = .ok (.tuple #[.agg C,v]) w:=by
 have c:=run_loadVar_row (P:=W) w z 73 73 C (0,0) _ h.heap underlying73 rfl (by rw [d];exact bf);have e:tmps.getD 2 undef = .pointer (O ⟨z,0,none⟩):=by simp [a]
 simp [results,Tryz.results141,a,b,asAddr,c]
def GR:Nd:=⟨0,0,0,List.replicate 16 0,0⟩
theorem oe (w:World) (v:Value) (L:List UInt8) (hr:Rd w v L) (hL:L.length=480) (Q:Ending->World->Prop)
  (hY:(gM L).ok=true->(L.drop 41).all (· == 0)=true->∀ w',ag w' (whole w)->aj w w'->Q (.returned (.tuple #[(gM L).v,.int .i64 0])) w')
  (hN:(gM L).ok=false\/(L.drop 41).all (· == 0)=false->∀ w',ag w' (whole w)->aj w w'->Q (.returned (.tuple #[GR.v,.int .i64 4])) w') :
  Calls prog 141 #[v] w Q:=by
 obtain ⟨va,vc,rfl⟩:=hr.shape;rw [hL] at hr ⊢;have Hr:=ae hr;have HY:=ae hY;have HN:=ae hN;have HL:=ae hL;clear hr hY hN hL
 go_enter func141,ntmps141
 go_wp2_with fail
 have H1:=(((ag.whole w).alloc (.cells #[.int .i64 0,.int .i64 0,.int .i64 0,.int .i64 0,.int .i64 0,.int .i64 0,.int .i64 0,.int .i64 0,.int .i64 0,.int .i64 0,.int .i64 0,.int .i64 0,.int .i64 0,.int .i64 0,.int .i64 0,.int .i64 0,.int .i64 0,.int .i64 0,.int .i64 0,.int .i64 0] 73 (0,0))).alloc (.cells #[.int .i64 0,.int .i64 0,.int .i64 0,.int .i64 0,.int .i64 0,.int .i64 0,.int .i64 0,.int .i64 0,.int .i64 0,.int .i64 0,.int .i64 0,.int .i64 0,.int .i64 0,.int .i64 0,.int .i64 0,.int .i64 0,.int .i64 0,.int .i64 0,.int .i64 0,.int .i64 0] 73 (0,0))).alloc (.cells #[.int .i64 0] 260 (0,0));have D1:=(((aj.refl w).alloc (.cells #[.int .i64 0,.int .i64 0,.int .i64 0,.int .i64 0,.int .i64 0,.int .i64 0,.int .i64 0,.int .i64 0,.int .i64 0,.int .i64 0,.int .i64 0,.int .i64 0,.int .i64 0,.int .i64 0,.int .i64 0,.int .i64 0,.int .i64 0,.int .i64 0,.int .i64 0,.int .i64 0] 73 (0,0))).alloc (.cells #[.int .i64 0,.int .i64 0,.int .i64 0,.int .i64 0,.int .i64 0,.int .i64 0,.int .i64 0,.int .i64 0,.int .i64 0,.int .i64 0,.int .i64 0,.int .i64 0,.int .i64 0,.int .i64 0,.int .i64 0,.int .i64 0,.int .i64 0,.int .i64 0,.int .i64 0,.int .i64 0] 73 (0,0))).alloc (.cells #[.int .i64 0] 260 (0,0));simp only [W0] at H1;generalize ((w.alloc (.cells #[.int .i64 0,.int .i64 0,.int .i64 0,.int .i64 0,.int .i64 0,.int .i64 0,.int .i64 0,.int .i64 0,.int .i64 0,.int .i64 0,.int .i64 0,.int .i64 0,.int .i64 0,.int .i64 0,.int .i64 0,.int .i64 0,.int .i64 0,.int .i64 0,.int .i64 0,.int .i64 0] 73 (0,0))).alloc (.cells #[.int .i64 0,.int .i64 0,.int .i64 0,.int .i64 0,.int .i64 0,.int .i64 0,.int .i64 0,.int .i64 0,.int .i64 0,.int .i64 0,.int .i64 0,.int .i64 0,.int .i64 0,.int .i64 0,.int .i64 0,.int .i64 0,.int .i64 0,.int .i64 0,.int .i64 0,.int .i64 0] 73 (0,0))).alloc (.cells #[.int .i64 0] 260 (0,0))=w1 at H1 D1 ⊢;generalize w.heap.size+1+1=rb at H1 ⊢;generalize w.heap.size+1=nb at H1 ⊢;generalize w.heap.size=zb at H1 ⊢;obtain ⟨kd,hkd⟩:∃ x,x=ib L 1:=⟨_,rfl⟩
 obtain ⟨lk,hlk⟩:∃ x,x=ib (L.drop 1) 2:=⟨_,rfl⟩
 obtain ⟨sz,hsz⟩:∃ x,x=ib (L.drop 3) 4:=⟨_,rfl⟩
 obtain ⟨rw',hrw⟩:∃ x,x=ib (L.drop 39) 2:=⟨_,rfl⟩
 have a0:0<=kd/\kd<256:=by rw [hkd];exact gI L 1
 have b0:0<=lk/\lk<65536:=by rw [hlk];exact gI (L.drop 1) 2
 have q0:0<=sz/\sz<4294967296:=by rw [hsz];exact gI (L.drop 3) 4
 obtain ⟨a0,a2⟩:=a0;obtain ⟨b0,b2⟩:=b0;obtain ⟨q0,q2⟩:=q0;have Hkd:=ae hkd;have Hlk:=ae hlk;have Hsz:=ae hsz;have Hrw:=ae hrw;clear hkd hlk hsz hrw;have hrd:=mn w1 (.slice va 480 vc) L (Hr.out.aZ (H1.to (by ac_rfl:_=(pt rb (.cells #[.int .i64 0] 260 (0,0))*(pt nb (.cells #[.int .i64 0,.int .i64 0,.int .i64 0,.int .i64 0,.int .i64 0,.int .i64 0,.int .i64 0,.int .i64 0,.int .i64 0,.int .i64 0,.int .i64 0,.int .i64 0,.int .i64 0,.int .i64 0,.int .i64 0,.int .i64 0,.int .i64 0,.int .i64 0,.int .i64 0,.int .i64 0] 73 (0,0))*pt zb (.cells #[.int .i64 0,.int .i64 0,.int .i64 0,.int .i64 0,.int .i64 0,.int .i64 0,.int .i64 0,.int .i64 0,.int .i64 0,.int .i64 0,.int .i64 0,.int .i64 0,.int .i64 0,.int .i64 0,.int .i64 0,.int .i64 0,.int .i64 0,.int .i64 0,.int .i64 0,.int .i64 0] 73 (0,0))))*whole w))) (by rw [HL.out];decide) (by rw [HL.out];decide)
 (with_reducible refine hrd.mono ?_)
 rintro e w2 ⟨r,g,cap,cur,rfl,h2,d2⟩;obtain ⟨Z,hZ⟩:∃ Z,Z=pt rb (.cells #[.int .i64 0] 260 (0,0))*(pt zb (.cells #[.int .i64 0,.int .i64 0,.int .i64 0,.int .i64 0,.int .i64 0,.int .i64 0,.int .i64 0,.int .i64 0,.int .i64 0,.int .i64 0,.int .i64 0,.int .i64 0,.int .i64 0,.int .i64 0,.int .i64 0,.int .i64 0,.int .i64 0,.int .i64 0,.int .i64 0,.int .i64 0] 73 (0,0))*whole w):=⟨_,rfl⟩
 have H2:ag w2 (bR r g cap cur L 0*(pt nb (.cells #[.int .i64 0,.int .i64 0,.int .i64 0,.int .i64 0,.int .i64 0,.int .i64 0,.int .i64 0,.int .i64 0,.int .i64 0,.int .i64 0,.int .i64 0,.int .i64 0,.int .i64 0,.int .i64 0,.int .i64 0,.int .i64 0,.int .i64 0,.int .i64 0,.int .i64 0,.int .i64 0] 73 (0,0))*Z)):=(h2.under H1).to (by rw [hZ];ac_rfl);have D2:=D1.trans d2;have HZ:=ae hZ;clear hrd h2 d2 H1 D1 hZ;have hn1:Calls prog 195 #[ay r,.int .i64 1] w2 (xg r g cap cur L 0 1 w2 _):=ir w2 r g cap cur L 0 1 _ H2 (by rw [HL.out];decide) (by rw [HL.out];decide) (by decide) (by rw [HL.out];decide);unfold xg at hn1;rw [K0,<- Hkd.out] at hn1
 go_wp2_with fail
 (with_reducible refine hn1.mono ?_)
 rintro e w3 ⟨rfl,h3,d3⟩;have n0:w3.cell? ⟨nb,0,none⟩=some (.int .i64 0):=h3.ah.cell 0;have f0:w3.frozen? ⟨nb,0,none⟩=false:=h3.ah.frozen 0;have H3:=h3.ah.setCell 0 (.int .i64 kd);have D3:=(D2.trans d3).setCell ⟨nb,0,none⟩ (.int .i64 kd);simp only [Z0,A1,E1] at H3;have hn2:Calls prog 195 #[ay r,.int .i64 2] (w3.setCell ⟨nb,0,none⟩ (.int .i64 kd)) (xg r g cap cur L 1 2 _ _):=ir _ r g cap cur L 1 2 _ H3.ah (by rw [HL.out];decide) (by rw [HL.out];decide) (by decide) (by rw [HL.out];decide);unfold xg at hn2;rw [<- Hlk.out] at hn2;clear hn1 h3 d3 D2 H2
 go_wp2_with fail
 generalize w3.setCell ⟨nb,0,none⟩ (.int .i64 kd)=w4 at *
 (with_reducible refine hn2.mono ?_)
 rintro e w5 ⟨rfl,h5,d5⟩;have n1:w5.cell? ⟨nb,1,none⟩=some (.int .i64 0):=h5.ah.cell 1;have f1:w5.frozen? ⟨nb,1,none⟩=false:=h5.ah.frozen 1;have H5:=h5.ah.setCell 1 (.int .i64 lk);have D5:=(D3.trans d5).setCell ⟨nb,1,none⟩ (.int .i64 lk);simp only [Z0,A1,E1] at H5;have hn3:Calls prog 195 #[ay r,.int .i64 4] (w5.setCell ⟨nb,1,none⟩ (.int .i64 lk)) (xg r g cap cur L 3 4 _ _):=ir _ r g cap cur L 3 4 _ H5.ah (by rw [HL.out];decide) (by rw [HL.out];decide) (by decide) (by rw [HL.out];decide);unfold xg at hn3;rw [<- Hsz.out] at hn3;clear hn2 h5 d5 D3 H3 n0 f0
 go_wp2_with fail
 generalize w5.setCell ⟨nb,1,none⟩ (.int .i64 lk)=w6 at *
 (with_reducible refine hn3.mono ?_)
 rintro e w7 ⟨rfl,h7,d7⟩;have n2:w7.cell? ⟨nb,2,none⟩=some (.int .i64 0):=h7.ah.cell 2;have f2:w7.frozen? ⟨nb,2,none⟩=false:=h7.ah.frozen 2;have H7:=h7.ah.setCell 2 (.int .i64 sz);have D7:=(D5.trans d7).setCell ⟨nb,2,none⟩ (.int .i64 sz);simp only [Z0,A1,E1] at H7
 have hz:∀ k,k<20->(#[.int .i64 kd,.int .i64 lk,.int .i64 sz,.int .i64 0,.int .i64 0,.int .i64 0,.int .i64 0,.int .i64 0,.int .i64 0,.int .i64 0,.int .i64 0,.int .i64 0,.int .i64 0,.int .i64 0,.int .i64 0,.int .i64 0,.int .i64 0,.int .i64 0,.int .i64 0,.int .i64 0]:Array Value)[k]?.isSome=true:=fun k hk=>by
  rw [O1 (by show k<20;exact hk)];rfl
 have htk:=qy _ r g cap cur L 7 nb _ 73 3 16 16 Z H7.ah (by show 3+16<=20;decide) (by rw [HL.out];decide) (by rw [HL.out];decide) (L0 _) (by decide) (fun k hk=>hz _ (by omega));clear hn3 h7 d7 D5 H5 n1 f1 hz
 go_wp2_with fail
 generalize w7.setCell ⟨nb,2,none⟩ (.int .i64 sz)=w8 at *
 (with_reducible refine htk.mono ?_)
 rintro e w9 ⟨rfl,h9,d9⟩;obtain ⟨C,hC⟩:∃ C,C=fu #[.int .i64 kd,.int .i64 lk,.int .i64 sz,.int .i64 0,.int .i64 0,.int .i64 0,.int .i64 0,.int .i64 0,.int .i64 0,.int .i64 0,.int .i64 0,.int .i64 0,.int .i64 0,.int .i64 0,.int .i64 0,.int .i64 0,.int .i64 0,.int .i64 0,.int .i64 0,.int .i64 0] 3 ((bC L 7 16).map (D0 .i64)):=⟨_,rfl⟩
 have hbuilt:=Bf kd lk sz (bC L 7 16) rw' (bh _ _ _);rw [<- hC] at hbuilt
 have hc19:∃ y,C[19]?=some y:=by
  rw [hC,ij _ _ _ _ (by rw [F0,bh];show 3+16<=20;decide),if_neg (by rw [F0,bh];decide)];exact ⟨_,rfl⟩
 unfold s4 at h9;rw [<- hC,HZ.out] at h9;have H9:ag w9 (bR r g cap cur L 39*(pt rb (.cells #[.int .i64 0] 260 (0,0))*(pt nb (.cells C 73 (0,0))*(pt zb (.cells #[.int .i64 0,.int .i64 0,.int .i64 0,.int .i64 0,.int .i64 0,.int .i64 0,.int .i64 0,.int .i64 0,.int .i64 0,.int .i64 0,.int .i64 0,.int .i64 0,.int .i64 0,.int .i64 0,.int .i64 0,.int .i64 0,.int .i64 0,.int .i64 0,.int .i64 0,.int .i64 0] 73 (0,0))*whole w)))):=h9.to (by ac_rfl);have D9:=D7.trans d9;have htk2:=qy w9 r g cap cur L 39 rb _ 260 0 1 1 _ H9 (by decide) (by rw [HL.out];decide) (by rw [HL.out];decide) (L0 _) (by decide) (fun k hk=>by obtain rfl:k=0:=(by omega);rfl);have Hbuilt:=ae hbuilt;clear htk h9 d9 D7 H7 n2 f2 hC hbuilt
 go_wp2_with fail
 (with_reducible refine htk2.mono ?_)
 rintro e w10 ⟨rfl,h10,d10⟩;have hrow:fu #[.int .i64 0] 0 ((bC L 39 1).map (D0 .i64))=#[.int .i64 rw']:=by rw [Hrw.out];rfl
 unfold s4 at h10;rw [hrow] at h10;have D10:=D9.trans d10;have r0:w10.cell? ⟨rb,0,none⟩=some (.int .i64 rw'):=h10.ah.cell 0;obtain ⟨y,hy⟩:=hc19;have n19:w10.cell? ⟨nb,19,none⟩=some y:=(h10.aq.cell 19).trans hy;have f19:w10.frozen? ⟨nb,19,none⟩=false:=h10.aq.frozen 19;have H11:=h10.aq.setCell 19 (.int .i64 rw');rw [Hbuilt.out] at H11;have hnd:(⟨kd,lk,sz,bC L 7 16,rw'⟩:Nd)=gM L:=by rw [Hkd.out,Hlk.out,Hsz.out,Hrw.out];rfl
 rw [hnd] at H11;have D11:=D10.setCell ⟨nb,19,none⟩ (.int .i64 rw');have hle:((L.length-41:Nat):Int)=439:=by rw [HL.out];rfl
 have hlf:=AO _ r g cap cur L 41 _ H11.ah;have hby:=Bj _ r g cap cur L 41 _ H11.ah (by rw [HL.out];decide) (by rw [HL.out];decide);rw [hle] at hlf hby;have Hy:=ae hy;clear htk2 h10 d10 H9 D9 D10 hrow hy hnd
 go_wp2_with fail
 generalize w10.setCell ⟨nb,19,none⟩ (.int .i64 rw')=w11 at *
 (with_reducible refine hlf.mono ?_)
 rintro e w12 ⟨rfl,rfl⟩;clear hlf r0 n19 f19 hle
 go_wp2_with fail
 (with_reducible refine hby.mono ?_)
 rintro e w13 ⟨bv,rfl,h13,d13⟩;have h16:(gM L).dr.length=16:=bh _ _ _;have hri:=ji w13 (gM L) h16;have H13:ag w13 (pt nb (.cells (ints (gM L).l) 73 (0,0))*(bs 5 bv (L.drop 41)*(pt zb (.cells #[.int .i64 0,.int .i64 0,.int .i64 0,.int .i64 0,.int .i64 0,.int .i64 0,.int .i64 0,.int .i64 0,.int .i64 0,.int .i64 0,.int .i64 0,.int .i64 0,.int .i64 0,.int .i64 0,.int .i64 0,.int .i64 0,.int .i64 0,.int .i64 0,.int .i64 0,.int .i64 0] 73 (0,0))*whole w))):=(h13.to (by ac_rfl:_=pt rb (.cells #[.int .i64 rw'] 260 (0,0))*(pt nb (.cells (ints (gM L).l) 73 (0,0))*(bs 5 bv (L.drop 41)*(pt zb (.cells #[.int .i64 0,.int .i64 0,.int .i64 0,.int .i64 0,.int .i64 0,.int .i64 0,.int .i64 0,.int .i64 0,.int .i64 0,.int .i64 0,.int .i64 0,.int .i64 0,.int .i64 0,.int .i64 0,.int .i64 0,.int .i64 0,.int .i64 0,.int .i64 0,.int .i64 0,.int .i64 0] 73 (0,0))*whole w))))).right;have D13:=D11.trans d13
 have hrow:w13.rangeAt nb 0 ((gM L).l.map (D0 .i64)):=fun j v hv=>by
  rw [R0,H13.cell,dw,<- G0];exact hv
 have hinfo:(prog.info? 73).map (·.size)=some ((gM L).l.map (D0 .i64)).length:=by rw [F0,Nd.cells h16];exact bf
 have hone:((gM L).l.map (D0 .i64)).toArray.all (·.oneCell')=true:=by simp [T0]
 have hv:(gM L).v = .agg ((gM L).l.map (D0 .i64)).toArray:=rfl;have hi:ints (gM L).l=((gM L).l.map (D0 .i64)).toArray:=rfl;rw [hv] at hri;rw [hi] at H13;have HYv:=ae (fun h1 h2 w' h3 h4=>hv▸HY.out h1 h2 w' h3 h4);have Hrow:=ae hrow;have Hinfo:=ae hinfo;have Hone:=ae hone;have hsz:GR.v = .agg #[.int .i64 0,.int .i64 0,.int .i64 0,.int .i64 0,.int .i64 0,.int .i64 0,.int .i64 0,.int .i64 0,.int .i64 0,.int .i64 0,.int .i64 0,.int .i64 0,.int .i64 0,.int .i64 0,.int .i64 0,.int .i64 0,.int .i64 0,.int .i64 0,.int .i64 0,.int .i64 0]:=rfl;obtain ⟨ba,bc,rfl⟩:=aC H13.ah;have hlen:(L.drop 41).length=439:=by rw [List.length_drop,HL.out]
 rw [hlen] at H13 ⊢;have hcn:=fun w' (h:Rd w' (.slice ba 439 bc) (L.drop 41))=>uL w' _ _ h (by rw [hlen];decide);have Hcn:=ae hcn;clear hby h13 d13 D11 H11 hrow hinfo hone hv hi hcn hlen hsz
 go_wp2_with (refine wpList_load_mid (by exact rfl) 73 (.tmp 4) (by exact rfl) nb 0 (by exact rfl) ((gM L).l.map (D0 .i64)) _ (by with_reducible exact Hrow.out) underlying73 rfl (by with_reducible exact Hinfo.out) ?_)
 have hfin:∀ w',ag w' (pt zb (.cells #[.int .i64 0,.int .i64 0,.int .i64 0,.int .i64 0,.int .i64 0,.int .i64 0,.int .i64 0,.int .i64 0,.int .i64 0,.int .i64 0,.int .i64 0,.int .i64 0,.int .i64 0,.int .i64 0,.int .i64 0,.int .i64 0,.int .i64 0,.int .i64 0,.int .i64 0,.int .i64 0] 73 (0,0))*whole w)->ag (w'.setRow zb #[.int .i64 0,.int .i64 0,.int .i64 0,.int .i64 0,.int .i64 0,.int .i64 0,.int .i64 0,.int .i64 0,.int .i64 0,.int .i64 0,.int .i64 0,.int .i64 0,.int .i64 0,.int .i64 0,.int .i64 0,.int .i64 0,.int .i64 0,.int .i64 0,.int .i64 0,.int .i64 0]) (pt zb (.cells #[.int .i64 0,.int .i64 0,.int .i64 0,.int .i64 0,.int .i64 0,.int .i64 0,.int .i64 0,.int .i64 0,.int .i64 0,.int .i64 0,.int .i64 0,.int .i64 0,.int .i64 0,.int .i64 0,.int .i64 0,.int .i64 0,.int .i64 0,.int .i64 0,.int .i64 0,.int .i64 0] 73 (0,0))*whole w):=fun w' h=>h.setRow
 cases hok:(gM L).ok with
 | false=>
  have HNf:=ae (HN.out (.inl hok));rw [hok] at hri
  (with_reducible refine hri.mono ?_)
  rintro e w14 ⟨rfl,h14,d14⟩;have H14:=(h14.dU H13).right.right;have D14:=D13.trans d14;have Hz:=ae H14.heap;have HF:=ae (hfin _ H14);clear hri h14 H14 hfin hok HYv
  go_wp2_with (refine wpList_store_row (by exact rfl) 73 (.tmp 2) (.tmp 47) (by exact rfl) zb #[.int .i64 0,.int .i64 0,.int .i64 0,.int .i64 0,.int .i64 0,.int .i64 0,.int .i64 0,.int .i64 0,.int .i64 0,.int .i64 0,.int .i64 0,.int .i64 0,.int .i64 0,.int .i64 0,.int .i64 0,.int .i64 0,.int .i64 0,.int .i64 0,.int .i64 0,.int .i64 0] (by exact rfl) (by exact rfl) 73 #[.int .i64 0,.int .i64 0,.int .i64 0,.int .i64 0,.int .i64 0,.int .i64 0,.int .i64 0,.int .i64 0,.int .i64 0,.int .i64 0,.int .i64 0,.int .i64 0,.int .i64 0,.int .i64 0,.int .i64 0,.int .i64 0,.int .i64 0,.int .i64 0,.int .i64 0,.int .i64 0] (by with_reducible exact Hz.out) bf rfl CU ?_)
  exact bodyPost_ret (j0 rfl rfl HF.out) rfl (HNf.out _ HF.out.right (D14.setRow _ _))
 | true=>
  rw [hok] at hri
  (with_reducible refine hri.mono ?_)
  rintro e w14 ⟨rfl,h14,d14⟩;have H14:=h14.dU H13;have D14:=D13.trans d14;have hc:=Hcn.out w14 H14.ah.nH;unfold R5 at hc
  cases hz:(L.drop 41).all (· == 0) with
  | false=>
   have HNf:=ae (HN.out (.inr hz));rw [hz] at hc;have H15:=H14.right.right;have Hz:=ae H15.heap;have HF:=ae (hfin _ H15);clear hri h14 H15 hfin hok HYv hz
   go_wp2_with (first|(refine wpList_store_row (by exact rfl) 73 (.tmp 2) (.tmp 47) (by exact rfl) zb #[.int .i64 0,.int .i64 0,.int .i64 0,.int .i64 0,.int .i64 0,.int .i64 0,.int .i64 0,.int .i64 0,.int .i64 0,.int .i64 0,.int .i64 0,.int .i64 0,.int .i64 0,.int .i64 0,.int .i64 0,.int .i64 0,.int .i64 0,.int .i64 0,.int .i64 0,.int .i64 0] (by exact rfl) (by exact rfl) 73 #[.int .i64 0,.int .i64 0,.int .i64 0,.int .i64 0,.int .i64 0,.int .i64 0,.int .i64 0,.int .i64 0,.int .i64 0,.int .i64 0,.int .i64 0,.int .i64 0,.int .i64 0,.int .i64 0,.int .i64 0,.int .i64 0,.int .i64 0,.int .i64 0,.int .i64 0,.int .i64 0] (by with_reducible exact Hz.out) bf rfl CU ?_)|(go_at_call 200;(with_reducible refine hc.mono ?_);rintro e w15 ⟨rfl,rfl⟩))
   exact bodyPost_ret (j0 rfl rfl HF.out) rfl (HNf.out _ HF.out.right (D14.setRow _ _))
  | true=>
   have HYf:=ae (HYv.out hok hz);rw [hz] at hc;have H15:=H14;have H16:ag w14 (pt zb (.cells #[.int .i64 0,.int .i64 0,.int .i64 0,.int .i64 0,.int .i64 0,.int .i64 0,.int .i64 0,.int .i64 0,.int .i64 0,.int .i64 0,.int .i64 0,.int .i64 0,.int .i64 0,.int .i64 0,.int .i64 0,.int .i64 0,.int .i64 0,.int .i64 0,.int .i64 0,.int .i64 0] 73 (0,0))*(pt nb (.cells ((gM L).l.map (D0 .i64)).toArray 73 (0,0))*whole w)):=(H14.to (by ac_rfl:_=bs 5 (.slice ba 439 bc) (L.drop 41)*(pt zb (.cells #[.int .i64 0,.int .i64 0,.int .i64 0,.int .i64 0,.int .i64 0,.int .i64 0,.int .i64 0,.int .i64 0,.int .i64 0,.int .i64 0,.int .i64 0,.int .i64 0,.int .i64 0,.int .i64 0,.int .i64 0,.int .i64 0,.int .i64 0,.int .i64 0,.int .i64 0,.int .i64 0] 73 (0,0))*(pt nb (.cells ((gM L).l.map (D0 .i64)).toArray 73 (0,0))*whole w)))).right
   have hrow2:w14.rangeAt nb 0 ((gM L).l.map (D0 .i64)):=fun j v hv=>by
    rw [R0,H14.cell,List.getElem?_toArray];exact hv
   have Hrow2:=ae hrow2;have Hz:=ae H16.heap;have H17:=H16.setRow (cs':=((gM L).l.map (D0 .i64)).toArray);have HF:=ae H17;have hsz2:((gM L).l.map (D0 .i64)).toArray.size=20:=by simp [Nd.cells h16]
   have Hsz2:=ae hsz2;have hst:(prog.info? 73).map (·.size)=some ((gM L).l.map (D0 .i64)).toArray.size:=by rw [hsz2];exact bf
   have Hst:=ae hst;clear hri h14 H14 H15 H16 H17 hfin hok hz hrow2 hst hsz2;generalize (gM L).l.map (D0 .i64)=X at *
   go_wp2_with (first
    | (refine wpList_load_mid (by exact rfl) 73 (.tmp 4) (by exact rfl) nb 0 (by exact rfl) X _ (by with_reducible exact Hrow2.out) underlying73 rfl (by with_reducible exact Hinfo.out) ?_)
    | (refine wpList_store_row (by exact rfl) 73 (.tmp 2) (.tmp 48) (by exact rfl) zb X.toArray (by exact rfl) (by exact rfl) 73 #[.int .i64 0,.int .i64 0,.int .i64 0,.int .i64 0,.int .i64 0,.int .i64 0,.int .i64 0,.int .i64 0,.int .i64 0,.int .i64 0,.int .i64 0,.int .i64 0,.int .i64 0,.int .i64 0,.int .i64 0,.int .i64 0,.int .i64 0,.int .i64 0,.int .i64 0,.int .i64 0] (by with_reducible exact Hz.out) Hst.out (by rw [Hsz2.out];rfl) Hone.out ?_)
    | (go_at_call 200;(with_reducible refine hc.mono ?_);rintro e w15 ⟨rfl,rfl⟩))
   exact bodyPost_ret (j0 rfl rfl HF.out Hsz2.out) rfl (HYf.out _ HF.out.right.right (D14.setRow _ _))
def jU:List Int:=List.replicate 240 0
theorem MQ:Tryz.zeroCells135=ints jU:=by kernel_rfl
theorem Jq:(prog.built 135 []).isSome=Y':=by kernel_rfl
theorem FF:(prog.built 135 []).getD #[]=ints jU:=by kernel_rfl
theorem FC:(prog.info? 135).map (·.size)=O (ints jU).size:=by rw [dz];exact kF
theorem NW:(ints jU).all (·.oneCell')=Y':=by simp [ints,T0]
theorem oA (a:tmps[2]?=O (ay z)) (b:tmps[3]?=O v) (h:ag w (pt z (U C 135 (0,0))*F)) (d:C.size=240) :
  (results Tryz.f145 tmps).run W w = .ok (.tuple #[.agg C,v]) w:=by
 have c:=run_loadVar_row (P:=W) w z 135 135 C (0,0) _ h.heap underlying135 rfl (by rw [d];exact kF);have e:tmps.getD 2 undef = .pointer (O ⟨z,0,none⟩):=by simp [a]
 simp [results,Tryz.results145,a,b,asAddr,c]
theorem vf (w:S) (v:T) (L:List UInt8) (u:Rd w v L) (E:L.length=480) (Q:Ending->S->Prop)
  (hY:(bC L 0 240).all cS=Y'->∀ b,ag b (whole w)->aj w b->Q (R (.tuple #[.agg (ints (bC L 0 240)),Y X' 0])) b)
  (hN:(bC L 0 240).all cS=false->∀ b,ag b (whole w)->aj w b->Q (R (.tuple #[.agg (ints jU),Y X' 4])) b) :
  Calls W 145 #[v] w Q:=by
 obtain ⟨va,vc,rfl⟩:=u.shape;rw [E] at u ⊢;have Hr:=ae u;have HY:=ae hY;have HN:=ae hN;have q:=ae E;clear u hY hN E
 go_enter func145,ntmps145
 go_wp2_with fail
 have c:=((ag.whole w).alloc (U Tryz.zeroCells135 135 (0,0))).alloc (U Tryz.zeroCells135 135 (0,0));have o:=((aj.refl w).alloc (U Tryz.zeroCells135 135 (0,0))).alloc (U Tryz.zeroCells135 135 (0,0));simp only [W0] at c;generalize (w.alloc (U Tryz.zeroCells135 135 (0,0))).alloc (U Tryz.zeroCells135 135 (0,0))=w1 at c o ⊢;rw [MQ] at c;generalize w.heap.size+1=d at c ⊢;generalize w.heap.size=i at c ⊢;obtain ⟨a,s⟩:∃ m0,m0=ints jU:=⟨_,rfl⟩
 have f0:a.size=240:=by rw [s,dz];rfl
 rw [<- s] at c;have p0:=ae s;have I:=mn w1.drew (Z' va 480 vc) L (Hr.out.aZ (c.to (by ac_rfl:_=(pt d (U a 135 (0,0))*pt i (U a 135 (0,0)))*whole w)):Rd w1 _ _) (by rw [q.out];decide) (by rw [q.out];decide);have Hd:=ae (ag.drew c)
 have e0:∀ b r g f h,ag b (bR r g f h L 0*(pt d (U a 135 (0,0))*(pt i (U a 135 (0,0))*whole w)))->Calls W 196 #[ay r,Z' (O ⟨d,0,none⟩) 240 240] b fun e M=>e = R (.tuple #[])/\ag M (s4 r g f h L 0 d a 135 0 240 (pt i (U a 135 (0,0))*whole w))/\aj b M:=fun b r g f h n0=>
  qy b r g f h L 0 d a 135 0 240 240 _ n0 (by omega) (by rw [q.out];decide) (by rw [q.out];decide) (L0 _) (by decide) (fun q0 F=>by rw [O1 (by omega)];rfl)
 have A:=ae e0
 have c0:fu a 0 ((bC L 0 240).map (D0 X'))=ints (bC L 0 240):=by
  apply M1;intro o0;rw [ij _ _ _ _ (by rw [F0,bh];omega),F0,bh,dw,<- G0]
  by_cases hk:o0<240
  .rw [if_pos ⟨H0 _,by omega⟩,Nat.sub_zero]
  .rw [if_neg (by omega),N1 (by omega),X0 (by rw [F0,bh];omega)]
 have V:=ae c0;clear s e0 c0
 go_region_held3 (fun _=>True) (trivial) (first
  | (go_at_call 194;(with_reducible refine I.mono ?_);rintro e M ⟨r,g,f,h,rfl,D,B⟩;have x:=D.under Hd.out)
  | (go_at_call 196;(with_reducible refine (A.out _ r g f h x).mono ?_);rintro e w3 ⟨rfl,n,C⟩))
 all_goals
  unfold s4 at n;rw [V.out] at n;have p:=n.ah;have N:=ae (((o.drew).trans B).trans C);have t:=nM.row p 0 240 (by rw [bh];decide) (by decide);rw [K0,Y0 (by rw [bh];decide)] at t;have m:=gX _ _ _ t (by rw [bh];decide);have j:ag w3 (pt i (U a 135 (0,0))*(pt d (U (ints (bC L 0 240)) 135 (0,0))*whole w)):=(p.to (by ac_rfl:_=bR r g f h L (0+2*240)*(pt i (U a 135 (0,0))*(pt d (U (ints (bC L 0 240)) 135 (0,0))*whole w)))).right
  have J:w3.rangeAt d 0 ((bC L 0 240).map (D0 X')):=fun r0 v hv=>by
   rw [R0,j.ah.cell,dw,<- G0];exact hv
  have Z:=ae j.heap;have y:=ae (j.setRow (cs':=ints jU));have z:=ae (j.setRow (cs':=ints (bC L 0 240)));have l0:=ae J;have k:(bC L 0 240).length=240:=bh _ _ _;have Hl:=ae k
  cases l:(bC L 0 240).all cS with
  | false=>
   have g0:=ae (HN.out l);rw [l] at m;clear I c Hd A D B x n C p t j J k l o
   go_wp2_with fail
   (with_reducible refine m.mono ?_)
   rintro e w4 ⟨rfl,rfl⟩;clear m
   go_wp2_with (first
    | (refine wpList_build (by exact rfl) 135 #[] (by exact rfl) (by exact Jq) ?_)
    | (refine wpList_store_row (by exact rfl) 135 (.tmp 2) (.tmp 16) (by exact rfl) i (ints jU) (by exact rfl) (by exact congrArg Value.agg FF) 135 a (by with_reducible exact Z.out) FC f0 (by exact NW) ?_))
   exact bodyPost_ret (oA rfl rfl y.out (by rw [dz];rfl)) rfl (g0.out _ y.out.right.right (N.out.setRow _ _))
  | true=>
   have P:=ae (HY.out l);rw [l] at m;have d0:(prog.info? 135).map (·.size)=O ((bC L 0 240).map (D0 X')).length:=by rw [F0,k];exact kF
   have G:(prog.info? 135).map (·.size)=O (ints (bC L 0 240)).size:=by rw [dz,k];exact kF
   have H:(ints (bC L 0 240)).all (·.oneCell')=Y':=by simp [ints,T0]
   have F:ints (bC L 0 240)=((bC L 0 240).map (D0 X')).toArray:=rfl;have K:(ints (bC L 0 240)).size=240:=by rw [dz,k]
   rw [F] at G H K z P;have h0:=ae d0;have i0:=ae G;have k0:=ae H;have X:=ae K;clear I c Hd A D B x n C p t j J k l o d0 G H F y K V;generalize (bC L 0 240).map (D0 X')=b0 at *
   go_wp2_with fail
   (with_reducible refine m.mono ?_)
   rintro e w4 ⟨rfl,rfl⟩;clear m
   go_wp2_with (first
    | (refine wpList_load_mid (by exact rfl) 135 (.tmp 4) (by exact rfl) d 0 (by exact rfl) b0 _ (by with_reducible exact l0.out) underlying135 rfl (by with_reducible exact h0.out) ?_)
    | (refine wpList_store_row (by exact rfl) 135 (.tmp 2) (.tmp 17) (by exact rfl) i b0.toArray (by exact rfl) (by exact rfl) 135 a (by with_reducible exact Z.out) i0.out (by rw [X.out];exact f0) k0.out ?_))
   exact bodyPost_ret (oA rfl rfl z.out X.out) rfl (P.out _ z.out.right.right (N.out.setRow _ _))
end Go.Proofs.Fs
