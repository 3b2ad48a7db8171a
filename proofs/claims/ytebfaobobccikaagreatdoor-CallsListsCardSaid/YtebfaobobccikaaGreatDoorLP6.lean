/- Steps. -/
import Derived.Test.YtebfaobobccikaaGreatDoorLP5
import Derived.Deep.DeepCutAuto
import Derived.BigQuiet
import Derived.Deep.QuietTactic
import Derived.Deep.CutBlock
import Derived.Deep.CutRange
set_option linter.all false
set_option maxRecDepth 99999
set_option maxHeartbeats 0
open Go.SL
open Go.Value renaming int->Z,slice->Q,tuple->Z'
open Go.IntKind renaming i64->U
open Go.Obj renaming cells->Y
open Go.Ending renaming returned->O
open Go renaming World->W,Value->T
open Go.Proofs.Tryz renaming prog->X
open Option renaming some->V,none->S
open Bool renaming true->N,false->R
open Go.Proofs.Tryz
open Go.Value renaming int->O1,oneCell'->Z1
open List renaming length_map->R1,getElem?_map->S1,drop_zero->U1,length_append->W1,getElem?_eq_getElem->Y1,getElem_mem->A2,take_length->B2,getElem?_eq_none->J2,take_of_length_le->K2,setIfInBounds_toArray->L2,set_cons_zero->M2,set_cons_succ->N2,getElem?_cons_succ->O2,getElem?_append_left->P2
open Nat renaming zero_le->T1,le_refl->V1,zero_add->X1
open Go.World renaming size_alloc->E2
open Array renaming ext_getElem?->R2,getElem?_eq_none->S2,getElem?_eq_getElem->T2
namespace Go.SL
open RowKit
variable {w:W} {k:Nat}
structure Nd where
 kd:Int
 lk:Int
 sz:Int
 dr:List Int
 rw:Int
def Nd.l (n:Nd):List Int:=n.kd :: n.lk :: n.sz :: (n.dr++[n.rw])
def Nd.v (n:Nd):T:=.agg (ints n.l)
def cZ (p:Int):Bool:=decide (0<=p) && decide (p<3840)
def aW (sz:Int):Int:=(min (max sz 0) 122880+479)/480
def Nd.ok (n:Nd):Bool:=(decide (n.kd=1) || decide (n.kd=2)) && decide (0<=n.lk) && decide (n.lk<=65535) && decide (0<=n.sz) && decide (n.sz<=122880) && n.dr.all cZ && cZ n.rw &&
 (decide (16<aW n.sz) || decide (n.rw=0)) && (List.range 16).all fun i=>decide ((i:Int)<aW n.sz) || decide (n.dr.getD i 0=0)
theorem oM.DU {v:T} {l:List Int} (h:oM w v l):∃ a c,v = Q a l.length c:=by
 rcases h with ⟨x,c,rfl,rfl⟩|⟨g,o,c,rfl,_⟩
 .exact ⟨_,_,rfl⟩
 .exact ⟨_,_,rfl⟩
theorem oM.UT {v:T} {l:List Int} (h:oM w v l) (a:k<l.length):∃ g o c,v = Q (V ⟨g,o,S⟩) l.length c/\w.cell? ⟨g,o+k,S⟩=V (Z U (l.getD k 0)):=by
 rcases h with ⟨x,c,rfl,rfl⟩|⟨g,o,c,rfl,_,_,b⟩
 .simp at a
 .exact ⟨_,_,_,rfl,b k a⟩
theorem oM.row {xs:List Int} {c:TypeId} {F:ai} (h:ag w (pt k (Y (ints xs) c (0,0))*F)) (o n:Nat) (e:o+n<=xs.length) (d:n<=maxLen):oM w (Q (V ⟨k,o,S⟩) n n) ((xs.drop o).take n):=by
 have b:((xs.drop o).take n).length=n:=by rw [List.length_take,List.length_drop];omega
 refine .inr ⟨k,o,n,by rw [b],by omega,d,fun f a=>?_⟩;rw [b] at a;rw [h.cell,bG (by omega)];simp [List.getD,List.getElem?_take,List.getElem?_drop,a]
theorem vt {P:Program} {t e:TypeId} {n:Nat} {l:List Int} (h:P.underlying t=V (.array n e)) (c:P.underlying e=V (.int U)) (b:(P.info? e).map (·.size)=V 1) (j:l.length=n) (k:Nat) (f:k<n) (w:W) :
  (Instr.index t (.agg (ints l)) (Z U (k:Int))).run P w = .ok (Z U (l.getD k 0)) w:=by
 have d:=bG (l:=l) (i:=k) (by omega)
 cases a:P.info? e with
 | none=>simp [a] at b
 | some i=>
  have g:i.size=1:=by simpa [a] using b
  simp [Instr.index,asIntOf,run_underlying h,isAgg,run_underlying c,sizeOf,typeInfo,a,g,part,d,show k<n from f,go_sem]
theorem Nd.cells {n:Nd} (h:n.dr.length=16):n.l.length=20:=by simp [Nd.l,h]
theorem Nd.G2 {n:Nd} (h:n.dr.length=16):(ints n.l)[19]?=V (Z U n.rw):=by
 rw [dH];simp [Nd.l,h]
theorem Nd.lF {n:Nd} (h:n.dr.length=16):(n.l.drop 3).take 16=n.dr:=by
 simp only [Nd.l,List.drop_succ_cons,U1];rw [<- h,List.take_left]
end Go.SL
namespace Go.Proofs.Fs
open RowKit SL Proofs.Ba
theorem uD (w:W) (n:Int):Calls X 110 #[Z U n] w (mE (aW n) w):=by
 have e:∀ m:Int,0<=m->(m+479).tdiv 480=(m+479)/480:=fun m h=>Int.tdiv_eq_ediv_of_nonneg (by omega);unfold aW
 by_cases a:n<0
 .rw [show min (max n 0) 122880=0 by omega]
  go_enter func110,ntmps110
  go_wp2
  go_ret
  exact ⟨rfl,rfl⟩
 .by_cases b:n<=122880
  .rw [show min (max n 0) 122880=n by omega]
   go_enter func110,ntmps110
   go_wp2
   go_ret
   exact ⟨by show Ending.returned (Z U ((n+480-1)/480))=_;rw [show n+480-1=n+479 by omega],rfl⟩
  .rw [show min (max n 0) 122880=122880 by omega]
   go_enter func110,ntmps110
   go_wp2
   go_ret
   exact ⟨rfl,rfl⟩
def R6 (l:List Int) (u:T):Prop:=∃ k:Nat,k<=l.length/\u = Z U (k:Int)/\(l.take k).all cZ=N
theorem vg {l:List Int} {k:Nat} (h:k<l.length):l.take (k+1)=l.take k++[l.getD k 0]:=by simp_all
theorem iA (w:W) (v:T) (l:List Int) (h:oM w v l) (C:l.length<=1000) :
  Calls X 205 #[v] w fun e t=>e = O (.bool (l.all cZ))/\w=t:=by
 have j:=ae h;obtain ⟨a,c,rfl⟩:=h.DU
 go_enter func205,ntmps205
 go_wp2_with fail
 go_loop [7] (fun u=>R6 l u) (fun u=>l.length-(intOf u).toNat)
 case atStart=>exact ⟨0,T1 _,rfl,rfl⟩
 case round=>
  obtain ⟨k,B,rfl,b⟩:=hrel
  by_cases d:k<l.length
  .have D:(k:Int)<(l.length:Int):=by omega
   obtain ⟨g,o,x,s,A⟩:=j.out.UT d;cases s
   have r:=vg d;have q:l.getD k 0 ∈ l:=by rw [List.getD,Y1 d];exact A2 d
   have n:=ae r;have f:=ae b;have m:=ae q;generalize l.getD k 0=p at *;have i:Hid (cZ p=R->l.all cZ=R):=ae fun h=>List.all_eq_false.2 ⟨p,m.out,by simp [h]⟩
   by_cases y:p<0
   .have e:=ae (i.out (by simp [cZ];omega))
    go_wp2_with fail
    go_ret
    exact ⟨by rw [e.out];rfl,rfl⟩
   .by_cases z:3840<=p
    .have e:=ae (i.out (by simp [cZ];omega))
     go_wp2_with fail
     go_ret
     exact ⟨by rw [e.out];rfl,rfl⟩
    .have e:Hid ((l.take (k+1)).all cZ=N):=ae (by rw [n.out,List.all_append,f.out];simp [cZ];omega)
     go_wp2_with fail
     go_round
     case rel=>exact ⟨k+1,by omega,by go_num,e.out⟩
     case measure=>simp [intOf];omega
  .obtain rfl:k=l.length:=by omega
   rw [B2] at b;have f:=ae b;clear b
   go_wp2_with fail
   go_ret
   exact ⟨by rw [f.out];rfl,rfl⟩
theorem N7:(prog.info? 63).map (·.size)=V 16:=by kernel_rfl
def IU (dr:List Int) (sz:Int) (u:T):Prop:=∃ k:Nat,k<=16/\u = Z U (k:Int)/\∀ j:Nat,j<k->(decide ((j:Int)<aW sz) || decide (dr.getD j 0=0))=N
theorem jR (w:W) (n:Nd) (m:n.dr.length=16) :
  Calls X 201 #[n.v] w (lG (.bool n.ok) w):=by
 have a:=(ag.whole w).alloc (Y (ints n.l) 65 (0,0));have i:=(aj.refl w).alloc (Y (ints n.l) 65 (0,0));have y:=a.alloc (Y #[Z U n.rw] 3 (0,0));have x:=i.alloc (Y #[Z U n.rw] 3 (0,0));have c0:(w.alloc (Y (ints n.l) 65 (0,0))).cell? ⟨w.heap.size,0,S⟩=V (Z U n.kd):=(a.cell 0).trans (by rw [dH];rfl);have c1:(w.alloc (Y (ints n.l) 65 (0,0))).cell? ⟨w.heap.size,1,S⟩=V (Z U n.lk):=(a.cell 1).trans (by rw [dH];rfl);have c2:(w.alloc (Y (ints n.l) 65 (0,0))).cell? ⟨w.heap.size,2,S⟩=V (Z U n.sz):=(a.cell 2).trans (by rw [dH];rfl);have f0:=(a.cell 19).trans (Nd.G2 m);have f:=iA _ _ _ (oM.row a 3 16 (by rw [Nd.cells m];decide) (by decide)) (by rw [Nd.lF m,m];decide);rw [Nd.lF m] at f
 have d:=iA _ (Q (V ⟨(w.alloc (Y (ints n.l) 65 (0,0))).heap.size,0,S⟩) 1 1) [n.rw] (.inr ⟨_,0,1,rfl,V1 1,by decide,fun k l=>by
  have:k=0:=by simpa using l
  subst this;exact y.cell 0⟩) (by simp)
 have e2:[n.rw].all cZ=cZ n.rw:=by simp
 rw [e2] at d;rw [E2] at y d
 have x0:((w.alloc (Y (ints n.l) 65 (0,0))).alloc (Y #[Z U n.rw] 3 (0,0))).rangeAt w.heap.size 3 (n.dr.map (O1 U)):=fun j v p=>by
  rw [y.ah.cell,dH];rw [S1] at p
  have:n.l[3+j]?=n.dr[j]?\/16<=j:=by
   by_cases h:j<16
   .left
    rw [show 3+j=j+3 by omega];simp only [Nd.l,O2];rw [P2 (by omega)]
   .exact .inr (by omega)
  rcases this with h|h
  .rw [h];exact p
  .rw [J2 (by omega)] at p;cases p
 have C:=fun (k:Nat) (l:k<16) (w:W)=>vt (P:=X) (t:=63) (e:=3) underlying63 underlying3 (by kernel_rfl) m k l w;obtain ⟨kd,lk,sz,dr,c⟩:=n;dsimp only at *;have p:Nd.v ⟨kd,lk,sz,dr,c⟩ = .agg (ints (Nd.l ⟨kd,lk,sz,dr,c⟩)):=rfl;rw [p];obtain ⟨B,g0⟩:∃ B,Nd.ok ⟨kd,lk,sz,dr,c⟩=B:=⟨_,rfl⟩
 rw [g0];generalize ints (Nd.l ⟨kd,lk,sz,dr,c⟩)=H at *;have r0:=ae x0;have b0:=ae C;have g:=ae g0;have E:=ae f;have F:=ae d;have s:=ae y;have q:=fun w=>uD w sz;have n0:=ae q
 by_cases l:kd=1\/kd=2
 .rcases l with rfl|rfl
  all_goals
   by_cases h1:lk<0
   .have e:B=R:=by rw [<- g.out];simp [Nd.ok,show ¬ 0<=lk by omega]
    subst e
    go_enter func201,ntmps201
    go_wp2
    go_ret
    exact ⟨rfl,a.right,i⟩
   by_cases h2:65535<lk
   .have e:B=R:=by rw [<- g.out];simp [Nd.ok,show ¬ lk<=65535 by omega]
    subst e
    go_enter func201,ntmps201
    go_wp2
    go_ret
    exact ⟨rfl,a.right,i⟩
   by_cases h3:sz<0
   .have e:B=R:=by rw [<- g.out];simp [Nd.ok,show ¬ 0<=sz by omega]
    subst e
    go_enter func201,ntmps201
    go_wp2
    go_ret
    exact ⟨rfl,a.right,i⟩
   by_cases h4:122880<sz
   .have e:B=R:=by rw [<- g.out];simp [Nd.ok,show ¬ sz<=122880 by omega]
    subst e
    go_enter func201,ntmps201
    go_wp2
    go_ret
    exact ⟨rfl,a.right,i⟩
   go_enter func201,ntmps201
   go_wp2_with fail
   cases z:dr.all cZ with
   | false=>
    have e:B=R:=by rw [<- g.out];simp only [Nd.ok,z];simp
    subst e;have f:=E.out;rw [z] at f
    (with_reducible refine f.mono ?_)
    rintro e D ⟨rfl,rfl⟩;clear f
    go_wp2
    go_ret
    exact ⟨rfl,a.right,i⟩
   | true=>
    have f:=E.out;rw [z] at f
    (with_reducible refine f.mono ?_)
    rintro e D ⟨rfl,rfl⟩;clear f
    go_wp2_with fail
    cases A:cZ c with
    | false=>
     have e:B=R:=by rw [<- g.out];simp only [Nd.ok,A];simp
     subst e;have d:=F.out;rw [A] at d
     (with_reducible refine d.mono ?_)
     rintro e D ⟨rfl,rfl⟩;clear d
     go_wp2
     go_ret
     exact ⟨rfl,s.out.right.right,x⟩
    | true=>
     have d:=F.out;rw [A] at d
     (with_reducible refine d.mono ?_)
     rintro e D ⟨rfl,rfl⟩;clear d;have d2:((w.alloc (Y H 65 (0,0))).alloc (Y #[Z U c] 3 (0,0))).cell? ⟨w.heap.size,2,S⟩=V (Z U sz):=((ag.whole _).alloc _).cF c2;have F0:((w.alloc (Y H 65 (0,0))).alloc (Y #[Z U c] 3 (0,0))).cell? ⟨w.heap.size,19,S⟩=V (Z U c):=((ag.whole _).alloc _).cF f0;generalize (w.alloc (Y H 65 (0,0))).alloc (Y #[Z U c] 3 (0,0))=w4 at *;clear c0 c1 c2 f0 a i
     go_wp2_with fail
     have q:=n0.out w4;have s0:0<=aW sz:=by unfold aW;omega
     obtain ⟨b,M⟩:∃ b,aW sz=b:=⟨_,rfl⟩
     rw [M] at q s0;have t:=ae M;clear M
     (with_reducible refine q.mono ?_)
     rintro e D ⟨rfl,rfl⟩;clear q E F
     by_cases I:b<=16/\c≠0
     .obtain ⟨I,o⟩:=I
      have u0:(c == 0)=R:=by simpa using o
      have e:B=R:=by rw [<- g.out];simp only [Nd.ok,t.out];simp [show ¬ 16<b by omega,o]
      subst e
      go_wp2
      go_ret
      exact ⟨rfl,s.out.right.right,x⟩
     .have k0:B=(List.range 16).all fun l0=>decide ((l0:Int)<b) || decide (dr.getD l0 0=0):=by
       rw [<- g.out];simp only [Nd.ok,t.out,z,A,decide_eq_true (show 0<=lk by omega),decide_eq_true (show lk<=65535 by omega),decide_eq_true (show 0<=sz by omega),decide_eq_true (show sz<=122880 by omega)];have:(decide (16<b) || decide (c=0))=N:=by grind
       rw [this];simp
      have d0:=ae k0;clear k0;have D0:(b<=16/\c=0)\/(16<b):=by omega
      clear I;rcases D0 with ⟨o,rfl⟩|o
      all_goals
       first|(have G0:decide (b<=16)=R:=decide_eq_false (by omega))|skip
       obtain ⟨G,L⟩:∃ G,G=(dr.map (O1 U)).toArray:=⟨_,rfl⟩
       have C:∀ k:Nat,k<16->∀ w,(Instr.index 63 (.agg G) (Z U (k:Int))).run X w = .ok (Z U (dr.getD k 0)) w:=fun k l w=>by rw [L];exact b0.out k l w
       have p0:=ae C;have HV:=ae L;have i0:(prog.info? 63).map (·.size)=V (dr.map (O1 U)).length:=by rw [R1,m];exact N7
       have o0:=ae i0;clear C b0 L i0
       go_wp2_with (refine wpList_load_mid (by exact rfl) 63 (.tmp 48) (by exact rfl) w.heap.size 3 (by exact rfl) (dr.map (O1 U)) _ (by with_reducible exact r0.out) underlying63 rfl (by with_reducible exact o0.out) ?_)
       rw [<- HV.out]
       go_loop [50] (fun u=>IU dr sz u) (fun u=>16-(intOf u).toNat)
       case atStart=>exact ⟨0,T1 _,rfl,fun j r=>absurd r (Nat.not_lt_zero _)⟩
       case round=>
        obtain ⟨k,l,rfl,h0⟩:=hrel;have P:=ae h0;clear h0
        by_cases j0:k<16
        .have S0:(k:Int)<16:=by omega
         have H0:=p0.out k j0
         have q0:Hid ((decide ((k:Int)<b) || decide (dr.getD k 0=0))=R->B=R):=ae fun h=>by
          rw [d0.out];exact List.all_eq_false.2 ⟨k,List.mem_range.2 j0,by rw [h];simp⟩
         have e0:Hid ((decide ((k:Int)<b) || decide (dr.getD k 0=0))=N->∀ j:Nat,j<k+1->(decide ((j:Int)<aW sz) || decide (dr.getD j 0=0))=N):=ae fun h j r=>by
          rcases Nat.lt_or_eq_of_le (Nat.le_of_lt_succ r) with K|K
          .exact P.out j K
          .rw [K,t.out];exact h
         generalize dr.getD k 0=m0 at *
         by_cases o:b<=(k:Int)
         .by_cases J:m0=0
          .subst J
           have e:=ae (e0.out (by simp))
           go_wp2_with fail
           go_round
           case rel=>exact ⟨k+1,by omega,by go_num,e.out⟩
           case measure=>simp [intOf];omega
          .have u0:(m0 == 0)=R:=by simpa using J
           have e:B=R:=q0.out (by simp [J];omega);subst e
           go_wp2_with fail
           all_goals
            go_ret
            exact ⟨rfl,s.out.right.right,x⟩
         .have hd:decide (b<=(k:Int))=R:=decide_eq_false o
          have e:=ae (e0.out (by simp;omega))
          go_wp2_with fail
          go_round
          case rel=>exact ⟨k+1,by omega,by go_num,e.out⟩
          case measure=>simp [intOf];omega
        .obtain rfl:k=16:=by omega
         have e:B=N:=by
          rw [d0.out];refine List.all_eq_true.2 fun j r=>?_;have:=P.out j (List.mem_range.1 r)
          rwa [t.out] at this
         subst e
         go_wp2_with fail
         go_ret
         exact ⟨rfl,s.out.right.right,x⟩
 .have K0:(kd == 1)=R:=by simp;omega
  have L0:(kd == 2)=R:=by simp;omega
  have N0:(kd != 1)=N:=by simp;omega
  have R0:(kd != 2)=N:=by simp;omega
  have e:B=R:=by rw [<- g.out];simp [Nd.ok,show ¬ kd=1 by omega,show ¬ kd=2 by omega]
  subst e
  go_enter func201,ntmps201
  go_wp2
  go_ret
  exact ⟨rfl,a.right,i⟩
end Go.Proofs.Fs
namespace Go.SL
open RowKit
def jM (xs:List Int):List UInt8:=xs.flatMap fun p=>dx p 2
theorem ja (xs:List Int):(jM xs).length=2*xs.length:=by
 induction xs with
 | nil=>rfl
 | cons x xs a=>rw [jM,List.flatMap_cons,W1,bp];show 2+(jM xs).length=_;rw [a,List.length_cons];omega
theorem KP (a:List Int) (p:Int):jM (a++[p])=jM a++dx p 2:=by simp [jM]
def PA (n:Nd):List UInt8:=((((dx n.kd 1++dx n.lk 2)++dx n.sz 4)++jM n.dr)++jM [n.rw])
def iK (n:Nd):List UInt8:=bW 480 (PA n)
theorem qW (n:Nd):(iK n).length=480:=cm _ _
theorem ji {p:Int} (h:cZ p=N):0<=p/\p<3840:=by simpa [cZ] using h
theorem Nd.qY {n:Nd} (h:n.ok=N):(n.kd=1\/n.kd=2)/\0<=n.lk/\n.lk<=65535/\0<=n.sz/\n.sz<=122880/\n.dr.all cZ=N/\cZ n.rw=N/\(16<aW n.sz\/n.rw=0)/\∀ i:Nat,i<16->(i:Int)<aW n.sz\/n.dr.getD i 0=0:=by
 unfold Nd.ok at h;simp only [Bool.and_eq_true,Bool.or_eq_true,decide_eq_true_eq] at h;obtain ⟨⟨⟨⟨⟨⟨⟨⟨a,b⟩,c⟩,d⟩,e⟩,f⟩,g⟩,j⟩,k⟩:=h;refine ⟨a,b,c,d,e,f,g,j,fun i l=>?_⟩;have:=List.all_eq_true.1 k i (List.mem_range.2 l);simpa using this
end Go.SL
namespace Go.Proofs.Fs
open RowKit SL Proofs.Ba
def FN (v:T) (l:List UInt8) (a:List Int) (w:W) (u0 u9:T) (wr:W):Prop:=
 ∃ k:Nat,k<=a.length/\u9 = Z U (k:Int)/\Rd wr u0 (l++jM (a.take k))/\ag wr (whole w)/\(0<k->ag wr (bs 5 u0 (l++jM (a.take k))*whole w))/\aj w wr
theorem uj (w:W) (v A:T) (l:List UInt8) (xs:List Int) (hr:Rd w v l) (u:oM w A xs) (e:1<=xs.length) (hl:l.length+2*xs.length<=1000) (b0:xs.all cZ=N) :
  Calls X 206 #[v,A] w (zx (l++jM xs) w):=by
 have B:=ae u;obtain ⟨xa,xc,rfl⟩:=u.DU;have C:=ae b0
 go_enter func206,ntmps206
 go_wp2_with fail
 go_loopw [0,9] (fun u0 u9 wr=>FN v l xs w u0 u9 wr) (fun _ e0 _=>xs.length-(intOf e0).toNat)
 case atStart=>exact ⟨0,T1 _,rfl,by simpa [jM] using hr,ag.whole w,fun h=>absurd h (by omega),aj.refl w⟩
 case round=>
  obtain ⟨k,hk,rfl,b,j,q,s⟩:=hrel
  by_cases f:k<xs.length
  .have h0:(k:Int)<(xs.length:Int):=by omega
   have x:oM wr (Q xa xs.length xc) xs:=by
    rcases B.out with ⟨f0,c,e,a⟩|⟨g,o,c,e,a,K,L⟩
    .exact .inl ⟨f0,c,e,a⟩
    .exact .inr ⟨g,o,c,e,a,K,fun d0 hj=>(j.to (di _).symm).cF (L d0 hj)⟩
   obtain ⟨g,o,c',hv,hc⟩:=x.UT f;cases hv
   have t:=vg f;have n:xs.getD k 0 ∈ xs:=by rw [List.getD,Y1 f];exact A2 f
   obtain ⟨p0,p1⟩:=ji (List.all_eq_true.1 C.out _ n);obtain ⟨y,z,rfl⟩:=b.shape;have P:(l++jM (xs.take k)).length<=998:=by rw [W1,ja,List.length_take];omega
   have p:l++jM (xs.take (k+1))=(l++jM (xs.take k))++dx (xs.getD k 0) 2:=by rw [t,KP,List.append_assoc]
   generalize l++jM (xs.take k)=i at *;have r:Calls X 169 #[Q y i.length z,Z U 2,Z .u64 (xs.getD k 0)] wr (zx (i++dx (xs.getD k 0) 2) wr):=eZ wr _ i 2 (xs.getD k 0) b (by omega) (by omega) p0 (by omega);rw [<- p] at r;have E:=ae j;clear t n b q j x p P;generalize xs.getD k 0=i0 at *;generalize M:l++jM (xs.take (k+1))=F at *;have m:=ae M
   go_wp2_with fail
   (refine r.mono ?_)
   rintro g0 w2 ⟨v2,rfl,a,J⟩;have d:=a.under E.out;obtain ⟨G,I,rfl⟩:=aE d;have c0:FN v l xs w (Q G F.length I) (Z U ((k:Int)+1)) w2:=⟨k+1,by omega,by go_num,by rw [m.out];exact d.oD,d.right,fun _=>by rw [m.out];exact d,s.trans J⟩
   have D:=ae c0
   go_wp2_with fail
   go_roundw
   case rel=>exact D.out
   case measure=>simp [intOf];omega
  .obtain rfl:k=xs.length:=by omega
   have H:=q (by omega);rw [B2] at H b;obtain ⟨y,z,rfl⟩:=b.shape
   go_wp2_with fail
   go_ret
   exact ⟨_,rfl,H,s⟩
theorem bE:(prog.info? 65).map (·.size)=V 20:=by kernel_rfl
def Qg (l:List UInt8) (w:W) (e:Ending) (a:W):Prop:=∃ v,e = O (Z' #[v,Z U 0])/\ag a (bs 5 v l*whole w)/\aj w a
theorem rV (w:W) (n:Nd) (g:n.dr.length=16) (q:n.ok=R) :
  Calls X 152 #[n.v] w (lG (Z' #[Q S 0 0,Z U 1]) w):=by
 have b:=(ag.whole w).alloc (Y (ints n.l) 65 (0,0));have f:=(aj.refl w).alloc (Y (ints n.l) 65 (0,0));have a:=jR (w.alloc (Y (ints n.l) 65 (0,0))) n g
 have r:(w.alloc (Y (ints n.l) 65 (0,0))).rangeAt w.heap.size 0 (n.l.map (O1 U)):=fun j v c=>by
  rw [X1,b.cell,dH,<- S1];exact c
 have p:(prog.info? 65).map (·.size)=V (n.l.map (O1 U)).length:=by rw [R1,Nd.cells g];exact bE
 rw [q] at a;have d:=ae r;have i:=ae p;have c:n.v = .agg (n.l.map (O1 U)).toArray:=rfl;rw [c] at a ⊢;have o:ints n.l=(n.l.map (O1 U)).toArray:=rfl;rw [o] at b f a d;generalize n.l.map (O1 U)=k at *
 go_enter func152,ntmps152
 go_wp2_with (refine wpList_load_mid (by exact rfl) 65 (.tmp 1) (by exact rfl) w.heap.size 0 (by exact rfl) k _ (by with_reducible exact d.out) underlying65 rfl (by with_reducible exact i.out) ?_)
 (refine a.mono ?_)
 rintro e s ⟨rfl,m,l⟩;have h:=(m.du b).right
 go_wp2
 go_ret2
 exact ⟨rfl,h,f.trans l⟩
theorem lX (w:W) (n:Nd) (b:n.dr.length=16) (D:n.ok=N) :
  Calls X 152 #[n.v] w (Qg (iK n) w):=by
 have q:=(ag.whole w).alloc (Y (ints n.l) 65 (0,0));have B:=(aj.refl w).alloc (Y (ints n.l) 65 (0,0));have f:=jR (w.alloc (Y (ints n.l) 65 (0,0))) n b
 have l0:(w.alloc (Y (ints n.l) 65 (0,0))).rangeAt w.heap.size 0 (n.l.map (O1 U)):=fun p0 v r=>by
  rw [X1,q.cell,dH,<- S1];exact r
 have e0:(prog.info? 65).map (·.size)=V (n.l.map (O1 U)).length:=by rw [R1,Nd.cells b];exact bE
 rw [D] at f;have z:=ae l0;have b0:=ae e0;obtain ⟨f1,f2,f3,f4,f5,f6,f7,-,-⟩:=Nd.qY D;have f0:0<=n.kd:=by omega
 have o0:n.kd<=2:=by omega
 have r:n.v = .agg (n.l.map (O1 U)).toArray:=rfl;rw [r] at f ⊢;have hi:ints n.l=(n.l.map (O1 U)).toArray:=rfl;rw [hi] at q B f z
 have G:Hid (∀ (a:W) (P:ai),ag a (pt w.heap.size (Y (n.l.map (O1 U)).toArray 65 (0,0))*P)->a.cell? ⟨w.heap.size,0,S⟩=V (Z U n.kd)/\a.cell? ⟨w.heap.size,1,S⟩=V (Z U n.lk) /\
   a.cell? ⟨w.heap.size,2,S⟩=V (Z U n.sz)/\a.cell? ⟨w.heap.size,19,S⟩=V (Z U n.rw)/\oM a (Q (V ⟨w.heap.size,3,S⟩) 16 16) n.dr):=ae fun a P h=>by
  have C:=oM.row (xs:=n.l) h 3 16 (by rw [Nd.cells b];decide) (by decide);rw [Nd.lF b] at C;exact ⟨h.cell 0,h.cell 1,h.cell 2,(h.cell 19).trans (Nd.G2 b),C⟩
 generalize n.l.map (O1 U)=d0 at *
 go_enter func152,ntmps152
 go_wp2_with (refine wpList_load_mid (by exact rfl) 65 (.tmp 1) (by exact rfl) w.heap.size 0 (by exact rfl) d0 _ (by with_reducible exact z.out) underlying65 rfl (by with_reducible exact b0.out) ?_)
 (refine f.mono ?_)
 rintro e s ⟨rfl,h2,d2⟩;have g:=h2.du q;have L:=B.trans d2;have He:=ae (show iK n=bW 480 ((((dx n.kd 1++dx n.lk 2)++dx n.sz 4)++jM n.dr)++jM [n.rw]) from rfl);have c0:=(G.out _ _ g).1;have E:Calls X 169 #[Q S 0 0,Z U 1,Z .u64 n.kd] s (zx ([]++dx n.kd 1) s):=eZ s _ [] 1 n.kd (g.eQ 5 1).oD (by decide) (by decide) f0 (by omega);rw [List.nil_append] at E
 go_wp2_with fail
 (refine E.mono ?_)
 rintro e t ⟨v3,rfl,h3,d3⟩;have i:=h3.under g;have M:=L.trans d3;have c1:=(G.out _ _ i.ah).2.1;have F:Hid ((dx n.kd 1).length=1):=ae (bp _ _);generalize dx n.kd 1=c at *;have g0:Calls X 169 #[v3,Z U 2,Z .u64 n.lk] t (zx (c++dx n.lk 2) t):=eZ t v3 c 2 n.lk i.oD (by have:=F.out;omega) (by decide) f2 (by omega)
 go_wp2_with fail
 (refine g0.mono ?_)
 rintro e u ⟨v4,rfl,h4,d4⟩;have j:=h4.under i.right;have D4:=M.trans d4;have c2:=(G.out _ _ j.ah).2.2.1;have H:Hid ((c++dx n.lk 2).length=3):=ae (by rw [W1,bp,F.out]);generalize c++dx n.lk 2=d at *;have h0:Calls X 169 #[v4,Z U 4,Z .u64 n.sz] u (zx (d++dx n.sz 4) u):=eZ u v4 d 4 n.sz j.oD (by have:=H.out;omega) (by decide) f4 (by omega)
 go_wp2_with fail
 (refine h0.mono ?_)
 rintro e w5 ⟨v5,rfl,h5,d5⟩;have k:=h5.under j.right;have D5:=D4.trans d5;have I:Hid ((d++dx n.sz 4).length=7):=ae (by rw [W1,bp,H.out]);generalize d++dx n.sz 4=o at *;have i0:=uj w5 v5 _ o n.dr k.oD (G.out _ _ k.ah).2.2.2.2 (by omega) (by have:=I.out;omega) f6
 go_wp2_with fail
 (refine i0.mono ?_)
 rintro e K ⟨v6,rfl,h6,d6⟩;have l:=h6.under k.right;have D6:=D5.trans d6;have n0:=(G.out _ _ l.ah).2.2.2.1;have l6:Hid ((o++jM n.dr).length=39):=ae (by rw [W1,ja,I.out,b]);generalize o++jM n.dr=p at *;obtain ⟨a6,n6,rfl⟩:=aE l;have m:=l.alloc (Y #[Z U n.rw] 3 (0,0));have D7:=D6.alloc (Y #[Z U n.rw] 3 (0,0))
 have j0:=uj (K.alloc (Y #[Z U n.rw] 3 (0,0))) (Q a6 p.length n6) (Q (V ⟨K.heap.size,0,S⟩) 1 1) p [n.rw] m.ah.oD (.inr ⟨_,0,1,rfl,V1 1,by decide,fun m0 hk=>by
  have:m0=0:=by simpa using hk
  subst this;exact m.cell 0⟩) (by simp) (by have:=l6.out;simp;omega) (by simpa using f7)
 go_wp2_with fail
 (refine j0.mono ?_)
 rintro e x ⟨J,rfl,h8,d8⟩;have y:=h8.under m.right.right.right;have D8:=D7.trans d8;generalize p++jM [n.rw]=A at *;have k0:Calls X 170 #[J,Z U 480] x (zx (bW 480 A) x):=om x J A y.oD 480 (by decide)
 go_wp2_with fail
 (refine k0.mono ?_)
 rintro e w9 ⟨v9,rfl,h9,d9⟩;have H9:=h9.under y.right;have D9:=D8.trans d9
 go_wp2
 go_ret2
 exact ⟨_,rfl,by rw [He.out];exact H9,D9⟩
theorem kp:(prog.info? 134).map (·.size)=V 240:=by kernel_rfl
theorem zK (w:W) (l:List Int) (g:l.length=240) (f:l.all cZ=R) :
  Calls X 153 #[.agg (ints l)] w (lG (Z' #[Q S 0 0,Z U 1]) w):=by
 have a:=(ag.whole w).alloc (Y (ints l) 134 (0,0));have d:=(aj.refl w).alloc (Y (ints l) 134 (0,0));have c:=oM.row a 0 240 (by omega) (by decide);rw [U1,K2 (by omega)] at c;have b:=iA _ _ l c (by omega);rw [f] at b
 go_enter func153,ntmps153
 go_wp2_with fail
 (refine b.mono ?_)
 rintro e h ⟨rfl,rfl⟩
 go_wp2
 go_ret2
 exact ⟨rfl,a.right,d⟩
theorem wS (w:W) (l:List Int) (k:l.length=240) (c:l.all cZ=N) :
  Calls X 153 #[.agg (ints l)] w (Qg (jM l) w):=by
 have a:=(ag.whole w).alloc (Y (ints l) 134 (0,0));have i:=(aj.refl w).alloc (Y (ints l) 134 (0,0));have b:=oM.row a 0 240 (by omega) (by decide);rw [U1,K2 (by omega)] at b;have d:=iA _ _ l b (by omega);rw [c] at d;have f:=uj (w.alloc (Y (ints l) 134 (0,0))) (Q S 0 0) _ [] l (a.eQ 5 1).oD b (by omega) (by simp;omega) c;rw [List.nil_append] at f
 go_enter func153,ntmps153
 go_wp2_with fail
 (refine d.mono ?_)
 rintro e m ⟨rfl,rfl⟩
 go_wp2_with fail
 (refine f.mono ?_)
 rintro e n ⟨v3,rfl,j,h⟩;have g:=j.under a.right
 go_wp2
 go_ret2
 exact ⟨_,rfl,g,i.trans h⟩
end Go.Proofs.Fs
namespace Go.SL
open RowKit
def bQ (l:List UInt8) (o m:Nat):List Int:=(List.range m).map fun i=>iM (l.drop (o+2*i)) 2
theorem Bd (l:List UInt8) (o m:Nat):bQ l o (m+1)=bQ l o m++[iM (l.drop (o+2*m)) 2]:=by simp [bQ,List.range_succ]
theorem bH (l:List UInt8) (o m:Nat):(bQ l o m).length=m:=by simp [bQ]
def iv (l:List UInt8):Nd:=⟨iM l 1,iM (l.drop 1) 2,iM (l.drop 3) 4,bQ l 7 16,iM (l.drop 39) 2⟩
theorem uK:∀ (a:List T) (b:Array T) (o:Nat) (v:T),fM b o (a++[v])=(fM b o a).setIfInBounds (o+a.length) v
 | [],b,o,v=>rfl
 | x :: a,b,o,v=>by
  show fM (b.setIfInBounds o x) (o+1) (a++[v])=(fM (b.setIfInBounds o x) (o+1) a).setIfInBounds (o+(a.length+1)) v
  rw [uK a _ (o+1) v,show o+1+a.length=o+(a.length+1) by omega]
end Go.SL
namespace Go.Proofs.Fs
open RowKit SL Proofs.Ba
variable {C tmps:Array T} {w:W} {z:Nat} {v:T} {F:ai}
def uI (r g c:Nat) (e:Array T) (L:List UInt8) (o b:Nat) (d:Array T) (a:TypeId) (f k:Nat) (F:ai):ai:=
 cu r g c e L (o+2*k)*(pt b (Y (fM d f ((bQ L o k).map (O1 U))) a (0,0))*F)
def KB (r g c:Nat) (e:Array T) (L:List UInt8) (o b:Nat) (d:Array T) (a:TypeId) (f m:Nat) (F:ai) (w:W) (u7:T) (wr:W):Prop:=
 ∃ k:Nat,k<=m/\u7 = Z U (k:Int)/\ag wr (uI r g c e L o b d a f k F)/\aj w wr
theorem rS (w:W) (r g f:Nat) (j:Array T) (L:List UInt8) (o b:Nat) (d:Array T) (l:TypeId) (a m c:Nat) (F:ai) (h:ag w (cu r g f j L o*(pt b (Y d l (0,0))*F))) (hm:a+m<=d.size) (hn:o+2*m<=L.length) (I:L.length<=1000000) (hc:m<=c) (H:c<=maxLen)
  (G:∀ i,i<m->(d[a+i]?).isSome=N) :
  Calls X 198 #[az r,Q (V ⟨b,a,S⟩) m c] w fun e n=>e = O (Z' #[])/\ag n (uI r g f j L o b d l a m F)/\aj w n:=by
 have b0:(c:Int)<=9223372036854775807:=by unfold maxLen at H;omega
 have z:=h
 go_enter func198,ntmps198
 go_wp2_with fail
 go_loopw [7] (fun u wr=>KB r g f j L o b d l a m F w u wr) (fun u _=>m-(intOf u).toNat)
 case atStart=>exact ⟨0,T1 _,rfl,z,aj.refl w⟩
 case round=>
  obtain ⟨k,hk,rfl,t,y⟩:=hrel
  by_cases J:k<m
  .have c0:(k:Int)<(m:Int):=by omega
   have s:Calls X 197 #[az r,Z U 2] wr (zN r g f j L (o+2*k) 2 wr (pt b (Y (fM d a ((bQ L o k).map (O1 U))) l (0,0))*F)):=iR wr r g f j L (o+2*k) 2 _ t (by omega) (by omega) (by decide) I;obtain ⟨v0,v1⟩:=gZ (L.drop (o+2*k)) 2;have v2:=v1
   have M:fM d a ((bQ L o (k+1)).map (O1 U))=(fM d a ((bQ L o k).map (O1 U))).setIfInBounds (a+k) (Z U (iM (L.drop (o+2*k)) 2)):=by
    rw [Bd,List.map_append,List.map_cons,List.map_nil,uK,R1,bH]
   have K:∃ x,(fM d a ((bQ L o k).map (O1 U)))[a+k]?=V x:=by
    rw [iV _ _ _ _ (by rw [R1,bH];omega),if_neg (by rw [R1,bH];omega)];exact Option.isSome_iff_exists.1 (G k J)
   have q:∀ n,ag n (cu r g f j L (o+2*k+2)*(pt b (Y (fM d a ((bQ L o (k+1)).map (O1 U))) l (0,0))*F))->ag n (uI r g f j L o b d l a (k+1) F):=fun n h=>h;rw [M] at q;unfold zN at s;have C:=ae q;generalize iM (L.drop (o+2*k)) 2=v at *;obtain ⟨x,P⟩:=K;have D:=ae P
   go_wp2_with fail
   (refine s.mono ?_)
   rintro e w2 ⟨rfl,p,E⟩;have cx:=(p.ah.cell _).trans D.out;have fx:=p.ah.frozen (a+k);have A:=p.ah.setCell (a+k) (Z U v);have B:=ae (C.out _ (A.to (by ac_rfl)))
   go_wp2_with fail
   go_roundw
   case rel=>exact ⟨k+1,by omega,by go_num,B.out,(y.trans E).setCell _ _⟩
   case measure=>simp [intOf];omega
  .obtain rfl:k=m:=by omega
   go_wp2_with fail
   go_end0
   exact ⟨rfl,t,y⟩
theorem RH (w:W) (c:Int):Calls X 203 #[Z .u8 c] w fun e a=>e = O (.bool (c != 0))/\w=a:=by
 go_enter func203,ntmps203
 go_wp2
 go_ret
 exact ⟨rfl,rfl⟩
def On (l:List UInt8) (k:Nat):Prop:=(l.take k).all (· == 0)=N
def Q3 (l:List UInt8) (u:T):Prop:=∃ k:Nat,k<=l.length/\u = Z U (k:Int)/\On l k
def UM (l:List UInt8) (w:W) (e:Ending) (a:W):Prop:=∃ n:Int,e = O (Z U n)/\(0<=n↔l.all (· == 0)=R)/\w=a
theorem Bv (w:W) (v:T) (l:List UInt8) (i:Rd w v l) (E:l.length<=1000000) :
  Calls X 242 #[v,.func (.func 203) #[] #[]] w (UM l w):=by
 have t:=ae i;obtain ⟨H,I,rfl⟩:=i.shape;have F:(l.length:Int)<=1000000:=by omega
 clear i
 go_enter func242,ntmps242
 go_wp2_with fail
 go_loop [8] (fun u=>Q3 l u) (fun u=>l.length-(intOf u).toNat)
 case atStart=>exact ⟨0,T1 _,rfl,rfl⟩
 case round=>
  obtain ⟨k,D,rfl,a⟩:=hrel
  by_cases f:k<l.length
  .have G:(k:Int)<(l.length:Int):=by omega
   obtain ⟨g,o,rfl,m⟩:=t.out.at (by omega);have A:=m k l[k] (Y1 f);have b:=RH w (l[k].toNat:Int)
   have q:(l[k].toNat:Int)=0↔l[k]=0:=by
    constructor
    .intro h;exact UInt8.toNat_inj.1 (by have:(0:UInt8).toNat=0:=rfl;omega)
    .intro h;rw [h];rfl
   have p:On l (k+1)↔l[k]=0:=by
    unfold On at a ⊢;rw [List.take_add_one,Y1 f,List.all_append,a];simp
   have n:l[k]≠0->l.all (· == 0)=R:=fun h=>List.all_eq_false.2 ⟨l[k],A2 f,by simpa using h⟩;have s:=ae n;have x:=ae p;have j:=ae q;unfold u8 at A;generalize (l[k].toNat:Int)=c at *;clear m a n p q
   by_cases d:c=0
   .subst d
    have y:=ae (x.out.2 (j.out.1 rfl))
    go_wp2_with fail
    (with_reducible refine b.mono ?_)
    rintro e C ⟨rfl,rfl⟩;clear b
    go_wp2_with fail
    go_round
    case rel=>exact ⟨k+1,by omega,by go_num,y.out⟩
    case measure=>simp [intOf];omega
   .have z:(c != 0)=N:=by simpa using d
    have B:=ae (s.out (fun h=>d (j.out.2 h)));rw [z] at b
    go_wp2_with fail
    (with_reducible refine b.mono ?_)
    rintro e C ⟨rfl,rfl⟩;clear b
    go_wp2_with fail
    go_ret
    exact ⟨(k:Int),rfl,⟨fun _=>B.out,fun _=>by omega⟩,rfl⟩
  .obtain rfl:k=l.length:=by omega
   unfold On at a;rw [B2] at a;have r:=ae a;clear a
   go_wp2_with fail
   go_ret
   exact ⟨-1,rfl,⟨fun h=>absurd h (by decide),fun h=>by rw [r.out] at h;cases h⟩,rfl⟩
def Va (l:List UInt8) (w:W) (e:Ending) (a:W):Prop:=e = O (.bool (!(l.all (· == 0))))/\w=a
theorem vd (w:W) (v:T) (l:List UInt8) (a:Rd w v l) (i:l.length<=1000000) :
  Calls X 202 #[v,.func (.func 203) #[] #[]] w (Va l w):=by
 have c:=Bv w v l a i;obtain ⟨k,m,rfl⟩:=a.shape;clear a
 go_enter func202,ntmps202
 go_wp2_with fail
 (with_reducible refine c.mono ?_)
 rintro e o ⟨n,rfl,d,rfl⟩;have b:=ae d;clear c d
 by_cases h:0<=n
 .have e:=ae (b.out.1 h)
  go_wp2
  go_ret
  exact ⟨by rw [e.out];rfl,rfl⟩
 .have e:l.all (· == 0)=N:=by
   cases g:l.all (· == 0) with
   | true=>rfl
   | false=>exact absurd (b.out.2 g) h
  have f:=ae e;have j:decide (0<=n)=R:=decide_eq_false h;clear e
  go_wp2
  go_ret
  exact ⟨by rw [f.out];rfl,rfl⟩
theorem CK (a b c:Int) (dr:List Int) (r:Int) (d:dr.length=16):(fM #[Z U a,Z U b,Z U c,Z U 0,Z U 0,Z U 0,Z U 0,Z U 0,Z U 0,Z U 0,Z U 0,Z U 0,Z U 0,Z U 0,Z U 0,Z U 0,Z U 0,Z U 0,Z U 0,Z U 0] 3 (dr.map (O1 U))).setIfInBounds 19 (Z U r)=ints (Nd.l ⟨a,b,c,dr,r⟩):=by
 have g:(fM #[Z U a,Z U b,Z U c,Z U 0,Z U 0,Z U 0,Z U 0,Z U 0,Z U 0,Z U 0,Z U 0,Z U 0,Z U 0,Z U 0,Z U 0,Z U 0,Z U 0,Z U 0,Z U 0,Z U 0] 3 (dr.map (O1 U))).size=20:=by rw [uC];rfl
 apply R2;intro k;rw [Array.getElem?_setIfInBounds,dH]
 by_cases e:19=k
 .subst e
  rw [if_pos rfl,if_pos (by rw [g];decide)];simp [Nd.l,d]
 .rw [if_neg e,iV _ _ _ _ (by rw [R1,d];show 3+16<=20;decide),R1,d]
  by_cases f:3<=k/\k<3+16
  .rw [if_pos f,S1]
   congr 1;obtain ⟨j,rfl⟩:∃ j,k=j+3:=⟨k-3,by omega⟩
   simp only [Nd.l,O2,Nat.add_sub_cancel];rw [P2 (by omega)]
  .rw [if_neg f]
   rcases (by omega:k=0\/k=1\/k=2\/20<=k) with rfl|rfl|rfl|h
   .rfl
   .rfl
   .rfl
   .rw [S2 (by show 20<=k;exact h),J2 (by simp [Nd.l,d];omega)];rfl
theorem FG:(#[Z U 0,Z U 0,Z U 0,Z U 0,Z U 0,Z U 0,Z U 0,Z U 0,Z U 0,Z U 0,Z U 0,Z U 0,Z U 0,Z U 0,Z U 0,Z U 0,Z U 0,Z U 0,Z U 0,Z U 0]:Array T).all (·.oneCell')=N:=by simp [Z1]
theorem kL (a:tmps[2]?=V (az z)) (b:tmps[3]?=V v) (h:ag w (pt z (Y C 65 (0,0))*F)) (d:C.size=20:=by rfl) :
  (results Tryz.f147 tmps).run X w = .ok (Z' #[.agg C,v]) w:=by
 have c:=run_loadVar_row (P:=X) w z 65 65 C (0,0) _ h.heap underlying65 rfl (by rw [d];exact bE);have e:tmps.getD 2 undef = .pointer (V ⟨z,0,S⟩):=by simp [a]
 simp [results,Tryz.results147,a,b,asAddr,c]
def Kr:Nd:=⟨0,0,0,List.replicate 16 0,0⟩
theorem pP (w:W) (v:T) (L:List UInt8) (hr:Rd w v L) (hL:L.length=480) (l0:Ending->W->Prop)
  (hY:(iv L).ok=N->(L.drop 41).all (· == 0)=N->∀ c,ag c (whole w)->aj w c->l0 (O (Z' #[(iv L).v,Z U 0])) c)
  (hN:(iv L).ok=R\/(L.drop 41).all (· == 0)=R->∀ c,ag c (whole w)->aj w c->l0 (O (Z' #[Kr.v,Z U 4])) c) :
  Calls X 147 #[v] w l0:=by
 obtain ⟨va,vc,rfl⟩:=hr.shape;rw [hL] at hr ⊢;have Hr:=ae hr;have HY:=ae hY;have HN:=ae hN;have b:=ae hL;clear hr hY hN hL
 go_enter func147,ntmps147
 go_wp2_with fail
 have l:=(((ag.whole w).alloc (Y #[Z U 0,Z U 0,Z U 0,Z U 0,Z U 0,Z U 0,Z U 0,Z U 0,Z U 0,Z U 0,Z U 0,Z U 0,Z U 0,Z U 0,Z U 0,Z U 0,Z U 0,Z U 0,Z U 0,Z U 0] 65 (0,0))).alloc (Y #[Z U 0,Z U 0,Z U 0,Z U 0,Z U 0,Z U 0,Z U 0,Z U 0,Z U 0,Z U 0,Z U 0,Z U 0,Z U 0,Z U 0,Z U 0,Z U 0,Z U 0,Z U 0,Z U 0,Z U 0] 65 (0,0))).alloc (Y #[Z U 0] 259 (0,0));have D1:=(((aj.refl w).alloc (Y #[Z U 0,Z U 0,Z U 0,Z U 0,Z U 0,Z U 0,Z U 0,Z U 0,Z U 0,Z U 0,Z U 0,Z U 0,Z U 0,Z U 0,Z U 0,Z U 0,Z U 0,Z U 0,Z U 0,Z U 0] 65 (0,0))).alloc (Y #[Z U 0,Z U 0,Z U 0,Z U 0,Z U 0,Z U 0,Z U 0,Z U 0,Z U 0,Z U 0,Z U 0,Z U 0,Z U 0,Z U 0,Z U 0,Z U 0,Z U 0,Z U 0,Z U 0,Z U 0] 65 (0,0))).alloc (Y #[Z U 0] 259 (0,0));simp only [E2] at l;generalize ((w.alloc (Y #[Z U 0,Z U 0,Z U 0,Z U 0,Z U 0,Z U 0,Z U 0,Z U 0,Z U 0,Z U 0,Z U 0,Z U 0,Z U 0,Z U 0,Z U 0,Z U 0,Z U 0,Z U 0,Z U 0,Z U 0] 65 (0,0))).alloc (Y #[Z U 0,Z U 0,Z U 0,Z U 0,Z U 0,Z U 0,Z U 0,Z U 0,Z U 0,Z U 0,Z U 0,Z U 0,Z U 0,Z U 0,Z U 0,Z U 0,Z U 0,Z U 0,Z U 0,Z U 0] 65 (0,0))).alloc (Y #[Z U 0] 259 (0,0))=w1 at l D1 ⊢;generalize w.heap.size+1+1=z at l ⊢;generalize w.heap.size+1=a at l ⊢;generalize w.heap.size=d at l ⊢;obtain ⟨kd,x0⟩:∃ x,x=iM L 1:=⟨_,rfl⟩
 obtain ⟨lk,G0⟩:∃ x,x=iM (L.drop 1) 2:=⟨_,rfl⟩
 obtain ⟨sz,H⟩:∃ x,x=iM (L.drop 3) 4:=⟨_,rfl⟩
 obtain ⟨o,p1⟩:∃ x,x=iM (L.drop 39) 2:=⟨_,rfl⟩
 have a0:0<=kd/\kd<256:=by rw [x0];exact gZ L 1
 have b0:0<=lk/\lk<65536:=by rw [G0];exact gZ (L.drop 1) 2
 have q0:0<=sz/\sz<4294967296:=by rw [H];exact gZ (L.drop 3) 4
 obtain ⟨a0,a2⟩:=a0;obtain ⟨b0,b2⟩:=b0;obtain ⟨q0,q2⟩:=q0;have W0:=ae x0;have X0:=ae G0;have Z0:=ae H;have Y0:=ae p1;clear x0 G0 H p1;have m1:=nu w1 (Q va 480 vc) L (Hr.out.bB (l.to (by ac_rfl:_=(pt z (Y #[Z U 0] 259 (0,0))*(pt a (Y #[Z U 0,Z U 0,Z U 0,Z U 0,Z U 0,Z U 0,Z U 0,Z U 0,Z U 0,Z U 0,Z U 0,Z U 0,Z U 0,Z U 0,Z U 0,Z U 0,Z U 0,Z U 0,Z U 0,Z U 0] 65 (0,0))*pt d (Y #[Z U 0,Z U 0,Z U 0,Z U 0,Z U 0,Z U 0,Z U 0,Z U 0,Z U 0,Z U 0,Z U 0,Z U 0,Z U 0,Z U 0,Z U 0,Z U 0,Z U 0,Z U 0,Z U 0,Z U 0] 65 (0,0))))*whole w))) (by rw [b.out];decide) (by rw [b.out];decide)
 (with_reducible refine m1.mono ?_)
 rintro e w2 ⟨r,g,f,h,rfl,K,d2⟩;obtain ⟨J,hZ⟩:∃ J,J=pt z (Y #[Z U 0] 259 (0,0))*(pt d (Y #[Z U 0,Z U 0,Z U 0,Z U 0,Z U 0,Z U 0,Z U 0,Z U 0,Z U 0,Z U 0,Z U 0,Z U 0,Z U 0,Z U 0,Z U 0,Z U 0,Z U 0,Z U 0,Z U 0,Z U 0] 65 (0,0))*whole w):=⟨_,rfl⟩
 have H2:ag w2 (cu r g f h L 0*(pt a (Y #[Z U 0,Z U 0,Z U 0,Z U 0,Z U 0,Z U 0,Z U 0,Z U 0,Z U 0,Z U 0,Z U 0,Z U 0,Z U 0,Z U 0,Z U 0,Z U 0,Z U 0,Z U 0,Z U 0,Z U 0] 65 (0,0))*J)):=(K.under l).to (by rw [hZ];ac_rfl);have D2:=D1.trans d2;have HZ:=ae hZ;clear m1 K d2 l D1 hZ;have c0:Calls X 197 #[az r,Z U 1] w2 (zN r g f h L 0 1 w2 _):=iR w2 r g f h L 0 1 _ H2 (by rw [b.out];decide) (by rw [b.out];decide) (by decide) (by rw [b.out];decide);unfold zN at c0;rw [U1,<- W0.out] at c0
 go_wp2_with fail
 (with_reducible refine c0.mono ?_)
 rintro e w3 ⟨rfl,y,d3⟩;have n0:w3.cell? ⟨a,0,S⟩=V (Z U 0):=y.ah.cell 0;have f0:w3.frozen? ⟨a,0,S⟩=R:=y.ah.frozen 0;have H3:=y.ah.setCell 0 (Z U kd);have D3:=(D2.trans d3).setCell ⟨a,0,S⟩ (Z U kd);simp only [L2,M2,N2] at H3;have d0:Calls X 197 #[az r,Z U 2] (w3.setCell ⟨a,0,S⟩ (Z U kd)) (zN r g f h L 1 2 _ _):=iR _ r g f h L 1 2 _ H3.ah (by rw [b.out];decide) (by rw [b.out];decide) (by decide) (by rw [b.out];decide);unfold zN at d0;rw [<- X0.out] at d0;clear c0 y d3 D2 H2
 go_wp2_with fail
 generalize w3.setCell ⟨a,0,S⟩ (Z U kd)=w4 at *
 (with_reducible refine d0.mono ?_)
 rintro e w5 ⟨rfl,M,d5⟩;have n1:w5.cell? ⟨a,1,S⟩=V (Z U 0):=M.ah.cell 1;have f1:w5.frozen? ⟨a,1,S⟩=R:=M.ah.frozen 1;have H5:=M.ah.setCell 1 (Z U lk);have D5:=(D3.trans d5).setCell ⟨a,1,S⟩ (Z U lk);simp only [L2,M2,N2] at H5;have e0:Calls X 197 #[az r,Z U 4] (w5.setCell ⟨a,1,S⟩ (Z U lk)) (zN r g f h L 3 4 _ _):=iR _ r g f h L 3 4 _ H5.ah (by rw [b.out];decide) (by rw [b.out];decide) (by decide) (by rw [b.out];decide);unfold zN at e0;rw [<- Z0.out] at e0;clear d0 M d5 D3 H3 n0 f0
 go_wp2_with fail
 generalize w5.setCell ⟨a,1,S⟩ (Z U lk)=w6 at *
 (with_reducible refine e0.mono ?_)
 rintro e w7 ⟨rfl,P,d7⟩;have n2:w7.cell? ⟨a,2,S⟩=V (Z U 0):=P.ah.cell 2;have f2:w7.frozen? ⟨a,2,S⟩=R:=P.ah.frozen 2;have H7:=P.ah.setCell 2 (Z U sz);have D7:=(D5.trans d7).setCell ⟨a,2,S⟩ (Z U sz);simp only [L2,M2,N2] at H7
 have j:∀ k,k<20->(#[Z U kd,Z U lk,Z U sz,Z U 0,Z U 0,Z U 0,Z U 0,Z U 0,Z U 0,Z U 0,Z U 0,Z U 0,Z U 0,Z U 0,Z U 0,Z U 0,Z U 0,Z U 0,Z U 0,Z U 0]:Array T)[k]?.isSome=N:=fun k hk=>by
  rw [T2 (by show k<20;exact hk)];rfl
 have r1:=rS _ r g f h L 7 a _ 65 3 16 16 J H7.ah (by show 3+16<=20;decide) (by rw [b.out];decide) (by rw [b.out];decide) (V1 _) (by decide) (fun k hk=>j _ (by omega));clear e0 P d7 D5 H5 n1 f1 j
 go_wp2_with fail
 generalize w7.setCell ⟨a,2,S⟩ (Z U sz)=w8 at *
 (with_reducible refine r1.mono ?_)
 rintro e w9 ⟨rfl,h9,d9⟩;obtain ⟨C,hC⟩:∃ C,C=fM #[Z U kd,Z U lk,Z U sz,Z U 0,Z U 0,Z U 0,Z U 0,Z U 0,Z U 0,Z U 0,Z U 0,Z U 0,Z U 0,Z U 0,Z U 0,Z U 0,Z U 0,Z U 0,Z U 0,Z U 0] 3 ((bQ L 7 16).map (O1 U)):=⟨_,rfl⟩
 have s0:=CK kd lk sz (bQ L 7 16) o (bH _ _ _);rw [<- hC] at s0
 have E1:∃ L0,C[19]?=V L0:=by
  rw [hC,iV _ _ _ _ (by rw [R1,bH];show 3+16<=20;decide),if_neg (by rw [R1,bH];decide)];exact ⟨_,rfl⟩
 unfold uI at h9;rw [<- hC,HZ.out] at h9;have H9:ag w9 (cu r g f h L 39*(pt z (Y #[Z U 0] 259 (0,0))*(pt a (Y C 65 (0,0))*(pt d (Y #[Z U 0,Z U 0,Z U 0,Z U 0,Z U 0,Z U 0,Z U 0,Z U 0,Z U 0,Z U 0,Z U 0,Z U 0,Z U 0,Z U 0,Z U 0,Z U 0,Z U 0,Z U 0,Z U 0,Z U 0] 65 (0,0))*whole w)))):=h9.to (by ac_rfl);have D9:=D7.trans d9;have s1:=rS w9 r g f h L 39 z _ 259 0 1 1 _ H9 (by decide) (by rw [b.out];decide) (by rw [b.out];decide) (V1 _) (by decide) (fun k hk=>by obtain rfl:k=0:=(by omega);rfl);have u1:=ae s0;clear r1 h9 d9 D7 H7 n2 f2 hC s0
 go_wp2_with fail
 (with_reducible refine s1.mono ?_)
 rintro e g0 ⟨rfl,p,c1⟩;have G:fM #[Z U 0] 0 ((bQ L 39 1).map (O1 U))=#[Z U o]:=by rw [Y0.out];rfl
 unfold uI at p;rw [G] at p;have N0:=D9.trans c1;have r0:g0.cell? ⟨z,0,S⟩=V (Z U o):=p.ah.cell 0;obtain ⟨L0,hy⟩:=E1;have K1:g0.cell? ⟨a,19,S⟩=V L0:=(p.aw.cell 19).trans hy;have B1:g0.frozen? ⟨a,19,S⟩=R:=p.aw.frozen 19;have A:=p.aw.setCell 19 (Z U o);rw [u1.out] at A;have k1:(⟨kd,lk,sz,bQ L 7 16,o⟩:Nd)=iv L:=by rw [W0.out,X0.out,Z0.out,Y0.out];rfl
 rw [k1] at A;have R0:=N0.setCell ⟨a,19,S⟩ (Z U o);have j1:((L.length-41:Nat):Int)=439:=by rw [b.out];rfl
 have F0:=BM _ r g f h L 41 _ A.ah;have u0:=Em _ r g f h L 41 _ A.ah (by rw [b.out];decide) (by rw [b.out];decide);rw [j1] at F0 u0;have Hy:=ae hy;clear s1 p c1 H9 D9 N0 G hy k1
 go_wp2_with fail
 generalize g0.setCell ⟨a,19,S⟩ (Z U o)=M1 at *
 (with_reducible refine F0.mono ?_)
 rintro e N1 ⟨rfl,rfl⟩;clear F0 r0 K1 B1 j1
 go_wp2_with fail
 (with_reducible refine u0.mono ?_)
 rintro e K0 ⟨bv,rfl,e1,d1⟩;have p0:(iv L).dr.length=16:=bH _ _ _;have n:=jR K0 (iv L) p0;have t:ag K0 (pt a (Y (ints (iv L).l) 65 (0,0))*(bs 5 bv (L.drop 41)*(pt d (Y #[Z U 0,Z U 0,Z U 0,Z U 0,Z U 0,Z U 0,Z U 0,Z U 0,Z U 0,Z U 0,Z U 0,Z U 0,Z U 0,Z U 0,Z U 0,Z U 0,Z U 0,Z U 0,Z U 0,Z U 0] 65 (0,0))*whole w))):=(e1.to (by ac_rfl:_=pt z (Y #[Z U o] 259 (0,0))*(pt a (Y (ints (iv L).l) 65 (0,0))*(bs 5 bv (L.drop 41)*(pt d (Y #[Z U 0,Z U 0,Z U 0,Z U 0,Z U 0,Z U 0,Z U 0,Z U 0,Z U 0,Z U 0,Z U 0,Z U 0,Z U 0,Z U 0,Z U 0,Z U 0,Z U 0,Z U 0,Z U 0,Z U 0] 65 (0,0))*whole w))))).right;have S0:=R0.trans d1
 have G:K0.rangeAt a 0 ((iv L).l.map (O1 U)):=fun H1 v s=>by
  rw [X1,t.cell,dH,<- S1];exact s
 have i1:(prog.info? 65).map (·.size)=V ((iv L).l.map (O1 U)).length:=by rw [R1,Nd.cells p0];exact bE
 have l1:((iv L).l.map (O1 U)).toArray.all (·.oneCell')=N:=by simp [Z1]
 have s:(iv L).v = .agg ((iv L).l.map (O1 U)).toArray:=rfl;have hi:ints (iv L).l=((iv L).l.map (O1 U)).toArray:=rfl;rw [s] at n;rw [hi] at t;have k0:=ae (fun h1 K c y h4=>s▸HY.out h1 K c y h4);have y1:=ae G;have V0:=ae i1;have x1:=ae l1;have H:Kr.v = .agg #[Z U 0,Z U 0,Z U 0,Z U 0,Z U 0,Z U 0,Z U 0,Z U 0,Z U 0,Z U 0,Z U 0,Z U 0,Z U 0,Z U 0,Z U 0,Z U 0,Z U 0,Z U 0,Z U 0,Z U 0]:=rfl;obtain ⟨ba,bc,rfl⟩:=aE t.ah;have D0:(L.drop 41).length=439:=by rw [List.length_drop,b.out]
 rw [D0] at t ⊢;have g1:=fun c (o0:Rd c (Q ba 439 bc) (L.drop 41))=>vd c _ _ o0 (by rw [D0];decide);have v1:=ae g1;clear u0 e1 d1 R0 A G i1 l1 s hi g1 D0 H
 go_wp2_with (refine wpList_load_mid (by exact rfl) 65 (.tmp 4) (by exact rfl) a 0 (by exact rfl) ((iv L).l.map (O1 U)) _ (by with_reducible exact y1.out) underlying65 rfl (by with_reducible exact V0.out) ?_)
 have F:∀ c,ag c (pt d (Y #[Z U 0,Z U 0,Z U 0,Z U 0,Z U 0,Z U 0,Z U 0,Z U 0,Z U 0,Z U 0,Z U 0,Z U 0,Z U 0,Z U 0,Z U 0,Z U 0,Z U 0,Z U 0,Z U 0,Z U 0] 65 (0,0))*whole w)->ag (c.setRow d #[Z U 0,Z U 0,Z U 0,Z U 0,Z U 0,Z U 0,Z U 0,Z U 0,Z U 0,Z U 0,Z U 0,Z U 0,Z U 0,Z U 0,Z U 0,Z U 0,Z U 0,Z U 0,Z U 0,Z U 0]) (pt d (Y #[Z U 0,Z U 0,Z U 0,Z U 0,Z U 0,Z U 0,Z U 0,Z U 0,Z U 0,Z U 0,Z U 0,Z U 0,Z U 0,Z U 0,Z U 0,Z U 0,Z U 0,Z U 0,Z U 0,Z U 0] 65 (0,0))*whole w):=fun c o0=>o0.setRow
 cases q:(iv L).ok with
 | false=>
  have j0:=ae (HN.out (.inl q));rw [q] at n
  (with_reducible refine n.mono ?_)
  rintro e h0 ⟨rfl,u,m0⟩;have i:=(u.du t).right.right;have I:=S0.trans m0;have D:=ae i.heap;have m:=ae (F _ i);clear n u i F q k0
  go_wp2_with (refine wpList_store_row (by exact rfl) 65 (.tmp 2) (.tmp 47) (by exact rfl) d #[Z U 0,Z U 0,Z U 0,Z U 0,Z U 0,Z U 0,Z U 0,Z U 0,Z U 0,Z U 0,Z U 0,Z U 0,Z U 0,Z U 0,Z U 0,Z U 0,Z U 0,Z U 0,Z U 0,Z U 0] (by exact rfl) (by exact rfl) 65 #[Z U 0,Z U 0,Z U 0,Z U 0,Z U 0,Z U 0,Z U 0,Z U 0,Z U 0,Z U 0,Z U 0,Z U 0,Z U 0,Z U 0,Z U 0,Z U 0,Z U 0,Z U 0,Z U 0,Z U 0] (by with_reducible exact D.out) bE rfl FG ?_)
  exact bodyPost_ret (kL rfl rfl m.out) rfl (j0.out _ m.out.right (I.setRow _ _))
 | true=>
  rw [q] at n
  (with_reducible refine n.mono ?_)
  rintro e h0 ⟨rfl,u,m0⟩;have i:=u.du t;have I:=S0.trans m0;have E:=v1.out h0 i.ah.oD;unfold Va at E
  cases j:(L.drop 41).all (· == 0) with
  | false=>
   have j0:=ae (HN.out (.inr j));rw [j] at E;have B:=i.right.right;have D:=ae B.heap;have m:=ae (F _ B);clear n u B F q k0 j
   go_wp2_with (first|(refine wpList_store_row (by exact rfl) 65 (.tmp 2) (.tmp 47) (by exact rfl) d #[Z U 0,Z U 0,Z U 0,Z U 0,Z U 0,Z U 0,Z U 0,Z U 0,Z U 0,Z U 0,Z U 0,Z U 0,Z U 0,Z U 0,Z U 0,Z U 0,Z U 0,Z U 0,Z U 0,Z U 0] (by exact rfl) (by exact rfl) 65 #[Z U 0,Z U 0,Z U 0,Z U 0,Z U 0,Z U 0,Z U 0,Z U 0,Z U 0,Z U 0,Z U 0,Z U 0,Z U 0,Z U 0,Z U 0,Z U 0,Z U 0,Z U 0,Z U 0,Z U 0] (by with_reducible exact D.out) bE rfl FG ?_)|(go_at_call 202;(with_reducible refine E.mono ?_);rintro e L1 ⟨rfl,rfl⟩))
   exact bodyPost_ret (kL rfl rfl m.out) rfl (j0.out _ m.out.right (I.setRow _ _))
  | true=>
   have t1:=ae (k0.out q j);rw [j] at E;have B:=i;have i0:ag h0 (pt d (Y #[Z U 0,Z U 0,Z U 0,Z U 0,Z U 0,Z U 0,Z U 0,Z U 0,Z U 0,Z U 0,Z U 0,Z U 0,Z U 0,Z U 0,Z U 0,Z U 0,Z U 0,Z U 0,Z U 0,Z U 0] 65 (0,0))*(pt a (Y ((iv L).l.map (O1 U)).toArray 65 (0,0))*whole w)):=(i.to (by ac_rfl:_=bs 5 (Q ba 439 bc) (L.drop 41)*(pt d (Y #[Z U 0,Z U 0,Z U 0,Z U 0,Z U 0,Z U 0,Z U 0,Z U 0,Z U 0,Z U 0,Z U 0,Z U 0,Z U 0,Z U 0,Z U 0,Z U 0,Z U 0,Z U 0,Z U 0,Z U 0] 65 (0,0))*(pt a (Y ((iv L).l.map (O1 U)).toArray 65 (0,0))*whole w)))).right
   have o1:h0.rangeAt a 0 ((iv L).l.map (O1 U)):=fun H1 v s=>by
    rw [X1,i.cell,List.getElem?_toArray];exact s
   have z1:=ae o1;have D:=ae i0.heap;have T0:=i0.setRow (cs':=((iv L).l.map (O1 U)).toArray);have m:=ae T0;have H0:((iv L).l.map (O1 U)).toArray.size=20:=by simp [Nd.cells p0]
   have a1:=ae H0;have q1:(prog.info? 65).map (·.size)=V ((iv L).l.map (O1 U)).toArray.size:=by rw [H0];exact bE
   have A1:=ae q1;clear n u i B i0 T0 F q j o1 q1 H0;generalize (iv L).l.map (O1 U)=b1 at *
   go_wp2_with (first
    | (refine wpList_load_mid (by exact rfl) 65 (.tmp 4) (by exact rfl) a 0 (by exact rfl) b1 _ (by with_reducible exact z1.out) underlying65 rfl (by with_reducible exact V0.out) ?_)
    | (refine wpList_store_row (by exact rfl) 65 (.tmp 2) (.tmp 48) (by exact rfl) d b1.toArray (by exact rfl) (by exact rfl) 65 #[Z U 0,Z U 0,Z U 0,Z U 0,Z U 0,Z U 0,Z U 0,Z U 0,Z U 0,Z U 0,Z U 0,Z U 0,Z U 0,Z U 0,Z U 0,Z U 0,Z U 0,Z U 0,Z U 0,Z U 0] (by with_reducible exact D.out) A1.out (by rw [a1.out];rfl) x1.out ?_)
    | (go_at_call 202;(with_reducible refine E.mono ?_);rintro e L1 ⟨rfl,rfl⟩))
   exact bodyPost_ret (kL rfl rfl m.out a1.out) rfl (t1.out _ m.out.right.right (I.setRow _ _))
def eN:List Int:=List.replicate 240 0
theorem O6:Tryz.zeroCells134=ints eN:=by kernel_rfl
theorem Be:(prog.built 134 []).isSome=N:=by kernel_rfl
theorem xi:(prog.built 134 []).getD #[]=ints eN:=by kernel_rfl
theorem IZ:(prog.info? 134).map (·.size)=V (ints eN).size:=by rw [dO];exact kp
theorem Rf:(ints eN).all (·.oneCell')=N:=by simp [ints,Z1]
theorem qa (a:tmps[2]?=V (az z)) (b:tmps[3]?=V v) (h:ag w (pt z (Y C 134 (0,0))*F)) (d:C.size=240) :
  (results Tryz.f151 tmps).run X w = .ok (Z' #[.agg C,v]) w:=by
 have c:=run_loadVar_row (P:=X) w z 134 134 C (0,0) _ h.heap underlying134 rfl (by rw [d];exact kp);have e:tmps.getD 2 undef = .pointer (V ⟨z,0,S⟩):=by simp [a]
 simp [results,Tryz.results151,a,b,asAddr,c]
theorem wL (w:W) (v:T) (L:List UInt8) (u:Rd w v L) (F:L.length=480) (B:Ending->W->Prop)
  (hY:(bQ L 0 240).all cZ=N->∀ b,ag b (whole w)->aj w b->B (O (Z' #[.agg (ints (bQ L 0 240)),Z U 0])) b)
  (hN:(bQ L 0 240).all cZ=R->∀ b,ag b (whole w)->aj w b->B (O (Z' #[.agg (ints eN),Z U 4])) b) :
  Calls X 151 #[v] w B:=by
 obtain ⟨va,vc,rfl⟩:=u.shape;rw [F] at u ⊢;have Hr:=ae u;have HY:=ae hY;have HN:=ae hN;have q:=ae F;clear u hY hN F
 go_enter func151,ntmps151
 go_wp2_with fail
 have c:=((ag.whole w).alloc (Y Tryz.zeroCells134 134 (0,0))).alloc (Y Tryz.zeroCells134 134 (0,0));have o:=((aj.refl w).alloc (Y Tryz.zeroCells134 134 (0,0))).alloc (Y Tryz.zeroCells134 134 (0,0));simp only [E2] at c;generalize (w.alloc (Y Tryz.zeroCells134 134 (0,0))).alloc (Y Tryz.zeroCells134 134 (0,0))=w1 at c o ⊢;rw [O6] at c;generalize w.heap.size+1=d at c ⊢;generalize w.heap.size=i at c ⊢;obtain ⟨a,s⟩:∃ o0,o0=ints eN:=⟨_,rfl⟩
 have i0:a.size=240:=by rw [s,dO];rfl
 rw [<- s] at c;have r0:=ae s;have J:=nu w1.drew (Q va 480 vc) L (Hr.out.bB (c.to (by ac_rfl:_=(pt d (Y a 134 (0,0))*pt i (Y a 134 (0,0)))*whole w)):Rd w1 _ _) (by rw [q.out];decide) (by rw [q.out];decide);have Hd:=ae (ag.drew c)
 have h0:∀ b r g f h,ag b (cu r g f h L 0*(pt d (Y a 134 (0,0))*(pt i (Y a 134 (0,0))*whole w)))->Calls X 198 #[az r,Q (V ⟨d,0,S⟩) 240 240] b fun e P=>e = O (Z' #[])/\ag P (uI r g f h L 0 d a 134 0 240 (pt i (Y a 134 (0,0))*whole w))/\aj b P:=fun b r g f h p0=>
  rS b r g f h L 0 d a 134 0 240 240 _ p0 (by omega) (by rw [q.out];decide) (by rw [q.out];decide) (V1 _) (by decide) (fun s0 G=>by rw [T2 (by omega)];rfl)
 have A:=ae h0
 have f0:fM a 0 ((bQ L 0 240).map (O1 U))=ints (bQ L 0 240):=by
  apply R2;intro q0;rw [iV _ _ _ _ (by rw [R1,bH];omega),R1,bH,dH,<- S1]
  by_cases hk:q0<240
  .rw [if_pos ⟨T1 _,by omega⟩,Nat.sub_zero]
  .rw [if_neg (by omega),S2 (by omega),J2 (by rw [R1,bH];omega)]
 have c0:=ae f0;clear s h0 f0
 go_region_held3 (fun _=>True) (trivial) (first
  | (go_at_call 196;(with_reducible refine J.mono ?_);rintro e P ⟨r,g,f,h,rfl,E,C⟩;have x:=E.under Hd.out)
  | (go_at_call 198;(with_reducible refine (A.out _ r g f h x).mono ?_);rintro e w3 ⟨rfl,n,D⟩))
 all_goals
  unfold uI at n;rw [c0.out] at n;have p:=n.ah;have D3:=ae (((o.drew).trans C).trans D);have t:=oM.row p 0 240 (by rw [bH];decide) (by decide);rw [U1,K2 (by rw [bH];decide)] at t;have m:=iA _ _ _ t (by rw [bH];decide);have j:ag w3 (pt i (Y a 134 (0,0))*(pt d (Y (ints (bQ L 0 240)) 134 (0,0))*whole w)):=(p.to (by ac_rfl:_=cu r g f h L (0+2*240)*(pt i (Y a 134 (0,0))*(pt d (Y (ints (bQ L 0 240)) 134 (0,0))*whole w)))).right
  have K:w3.rangeAt d 0 ((bQ L 0 240).map (O1 U)):=fun u0 v hv=>by
   rw [X1,j.ah.cell,dH,<- S1];exact hv
  have Hz:=ae j.heap;have y:=ae (j.setRow (cs':=ints eN));have z:=ae (j.setRow (cs':=ints (bQ L 0 240)));have n0:=ae K;have k:(bQ L 0 240).length=240:=bH _ _ _;have Hl:=ae k
  cases l:(bQ L 0 240).all cZ with
  | false=>
   have j0:=ae (HN.out l);rw [l] at m;clear J c Hd A E C x n D p t j K k l o
   go_wp2_with fail
   (with_reducible refine m.mono ?_)
   rintro e w4 ⟨rfl,rfl⟩;clear m
   go_wp2_with (first
    | (refine wpList_build (by exact rfl) 134 #[] (by exact rfl) (by exact Be) ?_)
    | (refine wpList_store_row (by exact rfl) 134 (.tmp 2) (.tmp 16) (by exact rfl) i (ints eN) (by exact rfl) (by exact congrArg Value.agg xi) 134 a (by with_reducible exact Hz.out) IZ i0 (by exact Rf) ?_))
   exact bodyPost_ret (qa rfl rfl y.out (by rw [dO];rfl)) rfl (j0.out _ y.out.right.right (D3.out.setRow _ _))
  | true=>
   have b0:=ae (HY.out l);rw [l] at m;have g0:(prog.info? 134).map (·.size)=V ((bQ L 0 240).map (O1 U)).length:=by rw [R1,k];exact kp
   have H:(prog.info? 134).map (·.size)=V (ints (bQ L 0 240)).size:=by rw [dO,k];exact kp
   have I:(ints (bQ L 0 240)).all (·.oneCell')=N:=by simp [ints,Z1]
   have G:ints (bQ L 0 240)=((bQ L 0 240).map (O1 U)).toArray:=rfl;have M:(ints (bQ L 0 240)).size=240:=by rw [dO,k]
   rw [G] at H I M z b0;have k0:=ae g0;have l0:=ae H;have m0:=ae I;have d0:=ae M;clear J c Hd A E C x n D p t j K k l o g0 H I G y M c0;generalize (bQ L 0 240).map (O1 U)=e0 at *
   go_wp2_with fail
   (with_reducible refine m.mono ?_)
   rintro e w4 ⟨rfl,rfl⟩;clear m
   go_wp2_with (first
    | (refine wpList_load_mid (by exact rfl) 134 (.tmp 4) (by exact rfl) d 0 (by exact rfl) e0 _ (by with_reducible exact n0.out) underlying134 rfl (by with_reducible exact k0.out) ?_)
    | (refine wpList_store_row (by exact rfl) 134 (.tmp 2) (.tmp 17) (by exact rfl) i e0.toArray (by exact rfl) (by exact rfl) 134 a (by with_reducible exact Hz.out) l0.out (by rw [d0.out];exact i0) m0.out ?_))
   exact bodyPost_ret (qa rfl rfl z.out d0.out) rfl (b0.out _ z.out.right.right (D3.out.setRow _ _))
end Go.Proofs.Fs
