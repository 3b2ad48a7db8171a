/- Steps. -/
import Derived.Test.YtdickhgiahcnaaaGreatDoorNP5
import Derived.Deep.DeepCutAuto
import Derived.BigQuiet
import Derived.Deep.QuietTactic
import Derived.Deep.CutBlock
import Derived.Deep.CutRange
set_option linter.all false
set_option maxRecDepth 99999
set_option maxHeartbeats 0
open Go.SL
open Go.Value renaming int->Z,slice->Q,tuple->Y'
open Go.IntKind renaming i64->Y
open Go.Obj renaming cells->X
open Go.Ending renaming returned->O
open Go renaming World->V,Value->T
open Go.Proofs.Tryz renaming prog->W
open Option renaming some->U,none->S
open Bool renaming true->N,false->R
open Go.SL renaming Om0->Z'
open Go.Proofs.Tryz
open Go.Value renaming int->A3,oneCell'->H6
open List renaming length_map->A2,getElem?_map->B3,drop_zero->D4,length_append->E2,getElem?_eq_getElem->H8,getElem_mem->H4,take_length->J7,getElem?_eq_none->J3,take_of_length_le->J2,setIfInBounds_toArray->K9,set_cons_zero->K8,set_cons_succ->K7,getElem?_cons_succ->K6,getElem?_append_left->K5
open Nat renaming zero_le->B2,le_refl->E5,zero_add->G3
open Go.World renaming size_alloc->J4
open Array renaming ext_getElem?->K4,getElem?_eq_none->K3,getElem?_eq_getElem->K2
namespace Go.SL
open RowKit
variable {w:V} {k:Nat}
structure Nd where
 kd:Int
 lk:Int
 sz:Int
 dr:List Int
 rw:Int
def Nd.l (n:Nd):List Int:=n.kd :: n.lk :: n.sz :: (n.dr++[n.rw])
def Nd.v (n:Nd):T:=.agg (ints n.l)
def dh (p:Int):Bool:=decide (0<=p) && decide (p<3840)
def aX (sz:Int):Int:=(min (max sz 0) 122880+479)/480
def Nd.ok (n:Nd):Bool:=(decide (n.kd=1) || decide (n.kd=2)) && decide (0<=n.lk) && decide (n.lk<=65535) && decide (0<=n.sz) && decide (n.sz<=122880) && n.dr.all dh && dh n.rw &&
 (decide (16<aX n.sz) || decide (n.rw=0)) && (List.range 16).all fun i=>decide ((i:Int)<aX n.sz) || decide (n.dr.getD i 0=0)
def pP.De {v:T} {l:List Int} (h:pP w v l):∃ a c,v = Q a l.length c:=by
 rcases h with ⟨x,c,rfl,rfl⟩|⟨g,o,c,rfl,_⟩
 .exact ⟨_,_,rfl⟩
 .exact ⟨_,_,rfl⟩
def pP.WE {v:T} {l:List Int} (h:pP w v l) (a:k<l.length):∃ g o c,v = Q (U ⟨g,o,S⟩) l.length c/\w.cell? ⟨g,o+k,S⟩=U (Z Y (l.getD k 0)):=by
 rcases h with ⟨x,c,rfl,rfl⟩|⟨g,o,c,rfl,_,_,b⟩
 .simp at a
 .exact ⟨_,_,_,rfl,b k a⟩
def pP.row {xs:List Int} {c:TypeId} {F:ai} (h:ag w (pt k (X (ints xs) c (0,0))*F)) (o n:Nat) (e:o+n<=xs.length) (d:n<=maxLen):pP w (Q (U ⟨k,o,S⟩) n n) ((xs.drop o).take n):=by
 have b:((xs.drop o).take n).length=n:=by rw [List.length_take,List.length_drop];omega
 refine .inr ⟨k,o,n,by rw [b],Z',d,fun f a=>?_⟩;rw [b] at a;rw [h.cell,bK Z'];simp [List.getD,List.getElem?_take,List.getElem?_drop,a]
def vK {P:Program} {t e:TypeId} {n:Nat} {l:List Int} (h:P.underlying t=U (.array n e)) (c:P.underlying e=U (.int Y)) (b:(P.info? e).map (·.size)=U 1) (j:l.length=n) (k:Nat) (f:k<n) (w:V) :
  (Instr.index t (.agg (ints l)) (Z Y (k:Int))).run P w = .ok (Z Y (l.getD k 0)) w:=by
 have d:=bK (l:=l) (i:=k) Z'
 cases a:P.info? e with
 | none=>simp [a] at b
 | some i=>
  have g:i.size=1:=by simpa [a] using b
  simp [Instr.index,asIntOf,run_underlying h,isAgg,run_underlying c,sizeOf,typeInfo,a,g,part,d,show k<n from f,go_sem]
def Nd.cells {n:Nd} (h:n.dr.length=16):n.l.length=20:=by simp [Nd.l,h]
def Nd.Ir {n:Nd} (h:n.dr.length=16):(ints n.l)[19]?=U (Z Y n.rw):=by
 rw [dP];simp [Nd.l,h]
def Nd.lS {n:Nd} (h:n.dr.length=16):(n.l.drop 3).take 16=n.dr:=by
 simp only [Nd.l,List.drop_succ_cons,D4];rw [<- h,List.take_left]
end Go.SL
namespace Go.Proofs.Fs
open RowKit SL Proofs.Ba
def wW (w:V) (n:Int):Calls W 123 #[Z Y n] w (nr (aX n) w):=by
 have e:∀ m:Int,0<=m->(m+479).tdiv 480=(m+479)/480:=fun m h=>Int.tdiv_eq_ediv_of_nonneg Z';unfold aX
 by_cases a:n<0
 .rw [show min (max n 0) 122880=0 by omega]
  go_in
  go_wp2
  go_ret
  exact ⟨rfl,rfl⟩
 .by_cases b:n<=122880
  .rw [show min (max n 0) 122880=n by omega]
   go_in
   go_wp2
   go_ret
   exact ⟨by show Ending.returned (Z Y ((n+480-1)/480))=_;rw [show n+480-1=n+479 by omega],rfl⟩
  .rw [show min (max n 0) 122880=122880 by omega]
   go_in
   go_wp2
   go_ret
   exact ⟨rfl,rfl⟩
def Sb (l:List Int) (u:T):Prop:=∃ k:Nat,k<=l.length/\u = Z Y (k:Int)/\(l.take k).all dh=N
def wu {l:List Int} {k:Nat} (h:k<l.length):l.take (k+1)=l.take k++[l.getD k 0]:=Sa0
def iA (w:V) (v:T) (l:List Int) (h:pP w v l) (B:l.length<=1000) :
  Calls W 209 #[v] w fun e s=>e = O (.bool (l.all dh))/\w=s:=by
 have j:=ae h;obtain ⟨a,c,rfl⟩:=h.De
 go_in
 go_wp2_with fail
 go_loop [7] (fun u=>Sb l u) (fun u=>l.length-(intOf u).toNat)
 case atStart=>exact ⟨0,B2 _,rfl,rfl⟩
 case round=>
  obtain ⟨k,A,rfl,b⟩:=hrel
  by_cases d:k<l.length
  .have C:(k:Int)<(l.length:Int):=Z'
   obtain ⟨g,o,t,hv,z⟩:=j.o.WE d;cases hv
   have r:=wu d;have q:l.getD k 0 ∈ l:=by rw [List.getD,H8 d];exact H4 d
   have n:=ae r;have f:=ae b;have m:=ae q;generalize l.getD k 0=p at *;have i:Hid (dh p=R->l.all dh=R):=ae fun h=>List.all_eq_false.2 ⟨p,m.o,by simp [h]⟩
   by_cases x:p<0
   .have e:=ae (i.o (by simp [dh];omega))
    go_wp2_with fail
    go_ret
    exact ⟨by rw [e.o];rfl,rfl⟩
   .by_cases y:3840<=p
    .have e:=ae (i.o (by simp [dh];omega))
     go_wp2_with fail
     go_ret
     exact ⟨by rw [e.o];rfl,rfl⟩
    .have e:Hid ((l.take (k+1)).all dh=N):=ae (by rw [n.o,List.all_append,f.o];simp [dh];omega)
     go_wp2_with fail
     go_round
     case rel=>exact ⟨k+1,Z',by go_num,e.o⟩
     case measure=>simp [intOf];omega
  .obtain rfl:k=l.length:=Z'
   rw [J7] at b;have f:=ae b;clear b
   go_wp2_with fail
   go_ret
   exact ⟨by rw [f.o];rfl,rfl⟩
def Pw:(prog.info? 64).map (·.size)=U 16:=Kr0
def Jj (dr:List Int) (sz:Int) (u:T):Prop:=∃ k:Nat,k<=16/\u = Z Y (k:Int)/\∀ j:Nat,j<k->(decide ((j:Int)<aX sz) || decide (dr.getD j 0=0))=N
def jZ (w:V) (n:Nd) (m:n.dr.length=16) :
  Calls W 206 #[n.v] w (kX (.bool n.ok) w):=by
 have a:=(ag.whole w).alloc (X (ints n.l) 66 (0,0));have i:=(aj.refl w).alloc (X (ints n.l) 66 (0,0));have x:=a.alloc (X #[Z Y n.rw] 3 (0,0));have t:=i.alloc (X #[Z Y n.rw] 3 (0,0));have c0:(w.alloc (X (ints n.l) 66 (0,0))).cell? ⟨w.heap.size,0,S⟩=U (Z Y n.kd):=(a.cell 0).trans (by rw [dP];rfl);have c1:(w.alloc (X (ints n.l) 66 (0,0))).cell? ⟨w.heap.size,1,S⟩=U (Z Y n.lk):=(a.cell 1).trans (by rw [dP];rfl);have c2:(w.alloc (X (ints n.l) 66 (0,0))).cell? ⟨w.heap.size,2,S⟩=U (Z Y n.sz):=(a.cell 2).trans (by rw [dP];rfl);have b0:=(a.cell 19).trans (Nd.Ir m);have f:=iA _ _ _ (pP.row a 3 16 (by rw [Nd.cells m];decide) De0) (by rw [Nd.lS m,m];decide);rw [Nd.lS m] at f
 have c:=iA _ (Q (U ⟨(w.alloc (X (ints n.l) 66 (0,0))).heap.size,0,S⟩) 1 1) [n.rw] (.inr ⟨_,0,1,rfl,E5 1,De0,fun k l=>by
  have:k=0:=by simpa using l
  subst this;exact x.cell 0⟩) Si0
 have e2:[n.rw].all dh=dh n.rw:=Si0
 rw [e2] at c;rw [J4] at x c
 have s0:((w.alloc (X (ints n.l) 66 (0,0))).alloc (X #[Z Y n.rw] 3 (0,0))).rangeAt w.heap.size 3 (n.dr.map (A3 Y)):=fun j v hv=>by
  rw [x.ah.cell,dP];rw [B3] at hv
  have:n.l[3+j]?=n.dr[j]?\/16<=j:=by
   by_cases h:j<16
   .left
    rw [show 3+j=j+3 by omega];simp only [Nd.l,K6];rw [K5 Z']
   .exact .inr Z'
  rcases this with h|h
  .rw [h];exact hv
  .rw [J3 Z'] at hv;cases hv
 have A:=fun (k:Nat) (l:k<16) (w:V)=>vK (P:=W) (t:=64) (e:=3) underlying64 underlying3 Kr0 m k l w;obtain ⟨kd,lk,sz,dr,b⟩:=n;dsimp only at *;have hv:Nd.v ⟨kd,lk,sz,dr,b⟩ = .agg (ints (Nd.l ⟨kd,lk,sz,dr,b⟩)):=rfl;rw [hv];obtain ⟨B,d0⟩:=Nm (Nd.ok ⟨kd,lk,sz,dr,b⟩)
 rw [d0];generalize ints (Nd.l ⟨kd,lk,sz,dr,b⟩)=F at *;have o0:=ae s0;have L:=ae A;have g:=ae d0;have D:=ae f;have E:=ae c;have r:=ae x;have p:=fun w=>wW w sz;have k0:=ae p
 by_cases l:kd=1\/kd=2
 .rcases l with rfl|rfl
  all_goals
   by_cases h1:lk<0
   .have e:B=R:=by rw [<- g.o];simp [Nd.ok,show ¬ 0<=lk by omega]
    subst e
    go_in
    go_wp2
    go_ret
    exact ⟨rfl,a.right,i⟩
   by_cases h2:65535<lk
   .have e:B=R:=by rw [<- g.o];simp [Nd.ok,show ¬ lk<=65535 by omega]
    subst e
    go_in
    go_wp2
    go_ret
    exact ⟨rfl,a.right,i⟩
   by_cases h3:sz<0
   .have e:B=R:=by rw [<- g.o];simp [Nd.ok,show ¬ 0<=sz by omega]
    subst e
    go_in
    go_wp2
    go_ret
    exact ⟨rfl,a.right,i⟩
   by_cases h4:122880<sz
   .have e:B=R:=by rw [<- g.o];simp [Nd.ok,show ¬ sz<=122880 by omega]
    subst e
    go_in
    go_wp2
    go_ret
    exact ⟨rfl,a.right,i⟩
   go_in
   go_wp2_with fail
   cases y:dr.all dh with
   | false=>
    have e:B=R:=by rw [<- g.o];simp only [Nd.ok,y];simp
    subst e;have f:=D.o;rw [y] at f
    (with_reducible apply f.mono)
    rintro e C ⟨rfl,rfl⟩;clear f
    go_wp2
    go_ret
    exact ⟨rfl,a.right,i⟩
   | true=>
    have f:=D.o;rw [y] at f
    (with_reducible apply f.mono)
    rintro e C ⟨rfl,rfl⟩;clear f
    go_wp2_with fail
    cases z:dh b with
    | false=>
     have e:B=R:=by rw [<- g.o];simp only [Nd.ok,z];simp
     subst e;have c:=E.o;rw [z] at c
     (with_reducible apply c.mono)
     rintro e C ⟨rfl,rfl⟩;clear c
     go_wp2
     go_ret
     exact ⟨rfl,r.o.right.right,t⟩
    | true=>
     have c:=E.o;rw [z] at c
     (with_reducible apply c.mono)
     rintro e C ⟨rfl,rfl⟩;clear c;have d2:((w.alloc (X F 66 (0,0))).alloc (X #[Z Y b] 3 (0,0))).cell? ⟨w.heap.size,2,S⟩=U (Z Y sz):=((ag.whole _).alloc _).bV c2;have x0:((w.alloc (X F 66 (0,0))).alloc (X #[Z Y b] 3 (0,0))).cell? ⟨w.heap.size,19,S⟩=U (Z Y b):=((ag.whole _).alloc _).bV b0;generalize (w.alloc (X F 66 (0,0))).alloc (X #[Z Y b] 3 (0,0))=w4 at *;clear c0 c1 c2 b0 a i
     go_wp2_with fail
     have p:=k0.o w4;have q0:0<=aX sz:=by unfold aX;omega
     obtain ⟨d,J⟩:=Nm (aX sz)
     rw [J] at p q0;have s:=ae J;clear J
     (with_reducible apply p.mono)
     rintro e C ⟨rfl,rfl⟩;clear p D E
     by_cases h5:d<=16/\b≠0
     .obtain ⟨h5,o⟩:=h5
      have r0:(b == 0)=R:=by simpa using o
      have e:B=R:=by rw [<- g.o];simp only [Nd.ok,s.o];simp [show ¬ 16<d by omega,o]
      subst e
      go_wp2
      go_ret
      exact ⟨rfl,r.o.right.right,t⟩
     .have h0:B=(List.range 16).all fun i0=>decide ((i0:Int)<d) || decide (dr.getD i0 0=0):=by
       rw [<- g.o];simp only [Nd.ok,s.o,y,z,decide_eq_true (show 0<=lk by omega),decide_eq_true (show lk<=65535 by omega),decide_eq_true (show 0<=sz by omega),decide_eq_true (show sz<=122880 by omega)];have:(decide (16<d) || decide (b=0))=N:=Gr0
       rw [this];simp
      have M:=ae h0;clear h0;have u0:(d<=16/\b=0)\/(16<d):=Z'
      clear h5;rcases u0 with ⟨o,rfl⟩|o
      all_goals
       first|(have D0:decide (d<=16)=R:=decide_eq_false Z')|skip
       obtain ⟨p0,I⟩:=Mn0 ((dr.map (A3 Y)).toArray)
       have A:∀ k:Nat,k<16->∀ w,(Instr.index 64 (.agg p0) (Z Y (k:Int))).run W w = .ok (Z Y (dr.getD k 0)) w:=fun k l w=>by rw [I];exact L.o k l w
       have m0:=ae A;have HV:=ae I;have f0:(prog.info? 64).map (·.size)=U (dr.map (A3 Y)).length:=by rw [A2,m];exact Pw
       have l0:=ae f0;clear A L I f0
       go_wp2_with (refine wpList_load_mid (by exact rfl) 64 (.tmp 48) (by exact rfl) w.heap.size 3 (by exact rfl) (dr.map (A3 Y)) _ (by with_reducible exact o0.o) underlying64 rfl (by with_reducible exact l0.o) ?_)
       rw [<- HV.o]
       go_loop [50] (fun u=>Jj dr sz u) (fun u=>16-(intOf u).toNat)
       case atStart=>exact ⟨0,B2 _,rfl,fun j q=>absurd q (Nat.not_lt_zero _)⟩
       case round=>
        obtain ⟨k,l,rfl,e0⟩:=hrel;have K:=ae e0;clear e0
        by_cases g0:k<16
        .have N0:(k:Int)<16:=Z'
         have F0:=m0.o k g0
         have n0:Hid ((decide ((k:Int)<d) || decide (dr.getD k 0=0))=R->B=R):=ae fun h=>by
          rw [M.o];exact List.all_eq_false.2 ⟨k,List.mem_range.2 g0,by rw [h];simp⟩
         have P:Hid ((decide ((k:Int)<d) || decide (dr.getD k 0=0))=N->∀ j:Nat,j<k+1->(decide ((j:Int)<aX sz) || decide (dr.getD j 0=0))=N):=ae fun h j q=>by
          rcases Nat.lt_or_eq_of_le (Nat.le_of_lt_succ q) with H|H
          .exact K.o j H
          .rw [H,s.o];exact h
         generalize dr.getD k 0=j0 at *
         by_cases o:d<=(k:Int)
         .by_cases G:j0=0
          .subst G
           have e:=ae (P.o Si0)
           go_wp2_with fail
           go_round
           case rel=>exact ⟨k+1,Z',by go_num,e.o⟩
           case measure=>simp [intOf];omega
          .have r0:(j0 == 0)=R:=by simpa using G
           have e:B=R:=n0.o (by simp [G];omega);subst e
           go_wp2_with fail
           all_goals
            go_ret
            exact ⟨rfl,r.o.right.right,t⟩
         .have hd:decide (d<=(k:Int))=R:=decide_eq_false o
          have e:=ae (P.o (by simp;omega))
          go_wp2_with fail
          go_round
          case rel=>exact ⟨k+1,Z',by go_num,e.o⟩
          case measure=>simp [intOf];omega
        .obtain rfl:k=16:=Z'
         have e:B=N:=by
          rw [M.o];refine List.all_eq_true.2 fun j q=>?_;have:=K.o j (List.mem_range.1 q)
          rwa [s.o] at this
         subst e
         go_wp2_with fail
         go_ret
         exact ⟨rfl,r.o.right.right,t⟩
 .have G0:(kd == 1)=R:=by simp;omega
  have H0:(kd == 2)=R:=by simp;omega
  have K0:(kd != 1)=N:=by simp;omega
  have L0:(kd != 2)=N:=by simp;omega
  have e:B=R:=by rw [<- g.o];simp [Nd.ok,show ¬ kd=1 by omega,show ¬ kd=2 by omega]
  subst e
  go_in
  go_wp2
  go_ret
  exact ⟨rfl,a.right,i⟩
end Go.Proofs.Fs
namespace Go.SL
open RowKit
def jR (xs:List Int):List UInt8:=xs.flatMap fun p=>dD p 2
def ja (xs:List Int):(jR xs).length=2*xs.length:=by
 induction xs with
 | nil=>rfl
 | cons x xs a=>rw [jR,List.flatMap_cons,E2,bp];show 2+(jR xs).length=_;rw [a,List.length_cons];omega
def Nq (a:List Int) (p:Int):jR (a++[p])=jR a++dD p 2:=by simp [jR]
def QW (n:Nd):List UInt8:=((((dD n.kd 1++dD n.lk 2)++dD n.sz 4)++jR n.dr)++jR [n.rw])
def iO (n:Nd):List UInt8:=bY 480 (QW n)
def rJ (n:Nd):(iO n).length=480:=cu _ _
def ju {p:Int} (h:dh p=N):0<=p/\p<3840:=by simpa [dh] using h
def Nd.qR {n:Nd} (h:n.ok=N):(n.kd=1\/n.kd=2)/\0<=n.lk/\n.lk<=65535/\0<=n.sz/\n.sz<=122880/\n.dr.all dh=N/\dh n.rw=N/\(16<aX n.sz\/n.rw=0)/\∀ i:Nat,i<16->(i:Int)<aX n.sz\/n.dr.getD i 0=0:=by
 unfold Nd.ok at h;simp only [Bool.and_eq_true,Bool.or_eq_true,decide_eq_true_eq] at h;obtain ⟨⟨⟨⟨⟨⟨⟨⟨a,b⟩,c⟩,h4⟩,h5⟩,d⟩,e⟩,f⟩,g⟩:=h;refine ⟨a,b,c,h4,h5,d,e,f,fun i j=>?_⟩;have:=List.all_eq_true.1 g i (List.mem_range.2 j);simpa using this
end Go.SL
namespace Go.Proofs.Fs
open RowKit SL Proofs.Ba
def Gq (v:T) (l:List UInt8) (a:List Int) (w:V) (u0 u9:T) (wr:V):Prop:=
 ∃ k:Nat,k<=a.length/\u9 = Z Y (k:Int)/\Rd wr u0 (l++jR (a.take k))/\ag wr (whole w)/\(0<k->ag wr (bs 5 u0 (l++jR (a.take k))*whole w))/\aj w wr
def wY (w:V) (v B:T) (l:List UInt8) (xs:List Int) (hr:Rd w v l) (u:pP w B xs) (e:1<=xs.length) (hl:l.length+2*xs.length<=1000) (b0:xs.all dh=N) :
  Calls W 211 #[v,B] w (zg (l++jR xs) w):=by
 have C:=ae u;obtain ⟨xa,xc,rfl⟩:=u.De;have D:=ae b0
 go_in
 go_wp2_with fail
 go_loopw [0,9] (fun u0 u9 wr=>Gq v l xs w u0 u9 wr) (fun _ e0 _=>xs.length-(intOf e0).toNat)
 case atStart=>exact ⟨0,B2 _,rfl,by simpa [jR] using hr,ag.whole w,fun h=>absurd h Z',aj.refl w⟩
 case round=>
  obtain ⟨k,hk,rfl,b,j,q,s⟩:=hrel
  by_cases f:k<xs.length
  .have g0:(k:Int)<(xs.length:Int):=Z'
   have y:pP wr (Q xa xs.length xc) xs:=by
    rcases C.o with ⟨x,c,e,a⟩|⟨g,o,c,e,a,L,h4⟩
    .exact .inl ⟨x,c,e,a⟩
    .exact .inr ⟨g,o,c,e,a,L,fun d0 hj=>(j.to (cl _).symm).bV (h4 d0 hj)⟩
   obtain ⟨g,o,c',hv,hc⟩:=y.WE f;cases hv
   have t:=wu f;have n:xs.getD k 0 ∈ xs:=by rw [List.getD,H8 f];exact H4 f
   obtain ⟨p0,p1⟩:=ju (List.all_eq_true.1 D.o _ n);obtain ⟨z,A,rfl⟩:=b.shape;have P:(l++jR (xs.take k)).length<=998:=by rw [E2,ja,List.length_take];omega
   have p:l++jR (xs.take (k+1))=(l++jR (xs.take k))++dD (xs.getD k 0) 2:=by rw [t,Nq,List.append_assoc]
   generalize l++jR (xs.take k)=i at *;have r:Calls W 167 #[Q z i.length A,Z Y 2,Z .u64 (xs.getD k 0)] wr (zg (i++dD (xs.getD k 0) 2) wr):=fp wr _ i 2 (xs.getD k 0) b Z' Z' p0 Z';rw [<- p] at r;have F:=ae j;clear t n b q j y p P;generalize xs.getD k 0=h0 at *;generalize M:l++jR (xs.take (k+1))=G at *;have m:=ae M
   go_wp2_with fail
   (apply r.mono)
   rintro f0 w2 ⟨v2,rfl,a,K⟩;have d:=a.under F.o;obtain ⟨I,J,rfl⟩:=aC d;have c0:Gq v l xs w (Q I G.length J) (Z Y ((k:Int)+1)) w2:=⟨k+1,Z',by go_num,by rw [m.o];exact d.oa,d.right,fun _=>by rw [m.o];exact d,s.trans K⟩
   have E:=ae c0
   go_wp2_with fail
   go_roundw
   case rel=>exact E.o
   case measure=>simp [intOf];omega
  .obtain rfl:k=xs.length:=Z'
   have H:=q Z';rw [J7] at H b;obtain ⟨z,A,rfl⟩:=b.shape
   go_wp2_with fail
   go_ret
   exact ⟨_,rfl,H,s⟩
def bC:(prog.info? 66).map (·.size)=U 20:=Kr0
def Q2 (l:List UInt8) (w:V) (e:Ending) (a:V):Prop:=∃ v,e = O (Y' #[v,Z Y 0])/\ag a (bs 5 v l*whole w)/\aj w a
def sm (w:V) (n:Nd) (f:n.dr.length=16) (p:n.ok=R) :
  Calls W 158 #[n.v] w (kX (Y' #[Q S 0 0,Z Y 1]) w):=by
 have b:=(ag.whole w).alloc (X (ints n.l) 66 (0,0));have d:=(aj.refl w).alloc (X (ints n.l) 66 (0,0));have a:=jZ (w.alloc (X (ints n.l) 66 (0,0))) n f
 have q:(w.alloc (X (ints n.l) 66 (0,0))).rangeAt w.heap.size 0 (n.l.map (A3 Y)):=fun j v hv=>by
  rw [G3,b.cell,dP,<- B3];exact hv
 have o:(prog.info? 66).map (·.size)=U (n.l.map (A3 Y)).length:=by rw [A2,Nd.cells f];exact bC
 rw [p] at a;have c:=ae q;have h:=ae o;have hv:n.v = .agg (n.l.map (A3 Y)).toArray:=rfl;rw [hv] at a ⊢;have m:ints n.l=(n.l.map (A3 Y)).toArray:=rfl;rw [m] at b d a c;generalize n.l.map (A3 Y)=i at *
 go_in
 go_wp2_with (refine wpList_load_mid (by exact rfl) 66 (.tmp 1) (by exact rfl) w.heap.size 0 (by exact rfl) i _ (by with_reducible exact c.o) underlying66 rfl (by with_reducible exact h.o) ?_)
 (apply a.mono)
 rintro e r ⟨rfl,l,k⟩;have g:=(l.cM b).right
 go_wp2
 go_ret2
 exact ⟨rfl,g,d.trans k⟩
def mI (w:V) (n:Nd) (b:n.dr.length=16) (C:n.ok=N) :
  Calls W 158 #[n.v] w (Q2 (iO n) w):=by
 have q:=(ag.whole w).alloc (X (ints n.l) 66 (0,0));have A:=(aj.refl w).alloc (X (ints n.l) 66 (0,0));have f:=jZ (w.alloc (X (ints n.l) 66 (0,0))) n b
 have l0:(w.alloc (X (ints n.l) 66 (0,0))).rangeAt w.heap.size 0 (n.l.map (A3 Y)):=fun p0 v hv=>by
  rw [G3,q.cell,dP,<- B3];exact hv
 have e0:(prog.info? 66).map (·.size)=U (n.l.map (A3 Y)).length:=by rw [A2,Nd.cells b];exact bC
 rw [C] at f;have y:=ae l0;have b0:=ae e0;obtain ⟨f1,f2,f3,f4,f5,f6,f7,-,-⟩:=Nd.qR C;have f0:0<=n.kd:=Z'
 have o0:n.kd<=2:=Z'
 have hv:n.v = .agg (n.l.map (A3 Y)).toArray:=rfl;rw [hv] at f ⊢;have hi:ints n.l=(n.l.map (A3 Y)).toArray:=rfl;rw [hi] at q A f y
 have G:Hid (∀ (a:V) (P:ai),ag a (pt w.heap.size (X (n.l.map (A3 Y)).toArray 66 (0,0))*P)->a.cell? ⟨w.heap.size,0,S⟩=U (Z Y n.kd)/\a.cell? ⟨w.heap.size,1,S⟩=U (Z Y n.lk) /\
   a.cell? ⟨w.heap.size,2,S⟩=U (Z Y n.sz)/\a.cell? ⟨w.heap.size,19,S⟩=U (Z Y n.rw)/\pP a (Q (U ⟨w.heap.size,3,S⟩) 16 16) n.dr):=ae fun a P h=>by
  have B:=pP.row (xs:=n.l) h 3 16 (by rw [Nd.cells b];decide) De0;rw [Nd.lS b] at B;exact ⟨h.cell 0,h.cell 1,h.cell 2,(h.cell 19).trans (Nd.Ir b),B⟩
 generalize n.l.map (A3 Y)=d0 at *
 go_in
 go_wp2_with (refine wpList_load_mid (by exact rfl) 66 (.tmp 1) (by exact rfl) w.heap.size 0 (by exact rfl) d0 _ (by with_reducible exact y.o) underlying66 rfl (by with_reducible exact b0.o) ?_)
 (apply f.mono)
 rintro e r ⟨rfl,h2,d2⟩;have g:=h2.cM q;have K:=A.trans d2;have He:=ae (show iO n=bY 480 ((((dD n.kd 1++dD n.lk 2)++dD n.sz 4)++jR n.dr)++jR [n.rw]) from rfl);have c0:=(G.o _ _ g).1;have D:Calls W 167 #[Q S 0 0,Z Y 1,Z .u64 n.kd] r (zg ([]++dD n.kd 1) r):=fp r _ [] 1 n.kd (g.eU 5 1).oa De0 De0 f0 Z';rw [List.nil_append] at D
 go_wp2_with fail
 (apply D.mono)
 rintro e s ⟨v3,rfl,h3,d3⟩;have i:=h3.under g;have L:=K.trans d3;have c1:=(G.o _ _ i.ah).2.1;have E:Hid ((dD n.kd 1).length=1):=ae (bp _ _);generalize dD n.kd 1=c at *;have g0:Calls W 167 #[v3,Z Y 2,Z .u64 n.lk] s (zg (c++dD n.lk 2) s):=fp s v3 c 2 n.lk i.oa (by have:=E.o;omega) De0 f2 Z'
 go_wp2_with fail
 (apply g0.mono)
 rintro e t ⟨v4,rfl,h4,d4⟩;have j:=h4.under i.right;have M:=L.trans d4;have c2:=(G.o _ _ j.ah).2.2.1;have F:Hid ((c++dD n.lk 2).length=3):=ae (by rw [E2,bp,E.o]);generalize c++dD n.lk 2=d at *;have h0:Calls W 167 #[v4,Z Y 4,Z .u64 n.sz] t (zg (d++dD n.sz 4) t):=fp t v4 d 4 n.sz j.oa (by have:=F.o;omega) De0 f4 Z'
 go_wp2_with fail
 (apply h0.mono)
 rintro e w5 ⟨v5,rfl,h5,d5⟩;have k:=h5.under j.right;have D5:=M.trans d5;have H:Hid ((d++dD n.sz 4).length=7):=ae (by rw [E2,bp,F.o]);generalize d++dD n.sz 4=o at *;have i0:=wY w5 v5 _ o n.dr k.oa (G.o _ _ k.ah).2.2.2.2 Z' (by have:=H.o;omega) f6
 go_wp2_with fail
 (apply i0.mono)
 rintro e J ⟨v6,rfl,h6,d6⟩;have l:=h6.under k.right;have D6:=D5.trans d6;have n0:=(G.o _ _ l.ah).2.2.2.1;have l6:Hid ((o++jR n.dr).length=39):=ae (by rw [E2,ja,H.o,b]);generalize o++jR n.dr=p at *;obtain ⟨a6,n6,rfl⟩:=aC l;have m:=l.alloc (X #[Z Y n.rw] 3 (0,0));have D7:=D6.alloc (X #[Z Y n.rw] 3 (0,0))
 have j0:=wY (J.alloc (X #[Z Y n.rw] 3 (0,0))) (Q a6 p.length n6) (Q (U ⟨J.heap.size,0,S⟩) 1 1) p [n.rw] m.ah.oa (.inr ⟨_,0,1,rfl,E5 1,De0,fun m0 hk=>by
  have:m0=0:=by simpa using hk
  subst this;exact m.cell 0⟩) Si0 (by have:=l6.o;simp;omega) (by simpa using f7)
 go_wp2_with fail
 (apply j0.mono)
 rintro e u ⟨I,rfl,h8,d8⟩;have x:=h8.under m.right.right.right;have D8:=D7.trans d8;generalize p++jR [n.rw]=z at *;have k0:Calls W 168 #[I,Z Y 480] u (zg (bY 480 z) u):=oY u I z x.oa 480 De0
 go_wp2_with fail
 (apply k0.mono)
 rintro e w9 ⟨v9,rfl,h9,d9⟩;have H9:=h9.under x.right;have D9:=D8.trans d9
 go_wp2
 go_ret2
 exact ⟨_,rfl,by rw [He.o];exact H9,D9⟩
def ki:(prog.info? 151).map (·.size)=U 240:=Kr0
def zn (w:V) (l:List Int) (g:l.length=240) (f:l.all dh=R) :
  Calls W 159 #[.agg (ints l)] w (kX (Y' #[Q S 0 0,Z Y 1]) w):=by
 have a:=(ag.whole w).alloc (X (ints l) 151 (0,0));have d:=(aj.refl w).alloc (X (ints l) 151 (0,0));have c:=pP.row a 0 240 Z' De0;rw [D4,J2 Z'] at c;have b:=iA _ _ l c Z';rw [f] at b
 go_in
 go_wp2_with fail
 (apply b.mono)
 rintro e h ⟨rfl,rfl⟩
 go_wp2
 go_ret2
 exact ⟨rfl,a.right,d⟩
def xB (w:V) (l:List Int) (k:l.length=240) (c:l.all dh=N) :
  Calls W 159 #[.agg (ints l)] w (Q2 (jR l) w):=by
 have a:=(ag.whole w).alloc (X (ints l) 151 (0,0));have i:=(aj.refl w).alloc (X (ints l) 151 (0,0));have b:=pP.row a 0 240 Z' De0;rw [D4,J2 Z'] at b;have d:=iA _ _ l b Z';rw [c] at d;have f:=wY (w.alloc (X (ints l) 151 (0,0))) (Q S 0 0) _ [] l (a.eU 5 1).oa b Z' (by simp;omega) c;rw [List.nil_append] at f
 go_in
 go_wp2_with fail
 (apply d.mono)
 rintro e m ⟨rfl,rfl⟩
 go_wp2_with fail
 (apply f.mono)
 rintro e n ⟨v3,rfl,j,h⟩;have g:=j.under a.right
 go_wp2
 go_ret2
 exact ⟨_,rfl,g,i.trans h⟩
end Go.Proofs.Fs
namespace Go.SL
open RowKit
def bS (l:List UInt8) (o m:Nat):List Int:=(List.range m).map fun i=>iM (l.drop (o+2*i)) 2
def CE (l:List UInt8) (o m:Nat):bS l o (m+1)=bS l o m++[iM (l.drop (o+2*m)) 2]:=by simp [bS,List.range_succ]
def bL (l:List UInt8) (o m:Nat):(bS l o m).length=m:=by simp [bS]
def iF (l:List UInt8):Nd:=⟨iM l 1,iM (l.drop 1) 2,iM (l.drop 3) 4,bS l 7 16,iM (l.drop 39) 2⟩
def uO:∀ (a:List T) (b:Array T) (o:Nat) (v:T),fT b o (a++[v])=(fT b o a).setIfInBounds (o+a.length) v
 | [],b,o,v=>rfl
 | x :: a,b,o,v=>by
  show fT (b.setIfInBounds o x) (o+1) (a++[v])=(fT (b.setIfInBounds o x) (o+1) a).setIfInBounds (o+(a.length+1)) v
  rw [uO a _ (o+1) v,show o+1+a.length=o+(a.length+1) by omega]
end Go.SL
namespace Go.Proofs.Fs
open RowKit SL Proofs.Ba
variable {C tmps:Array T} {w:V} {z:Nat} {v:T} {F:ai}
def uS (r g c:Nat) (e:Array T) (L:List UInt8) (o b:Nat) (d:Array T) (a:TypeId) (f k:Nat) (F:ai):ai:=
 cy r g c e L (o+2*k)*(pt b (X (fT d f ((bS L o k).map (A3 Y))) a (0,0))*F)
def Ms (r g c:Nat) (e:Array T) (L:List UInt8) (o b:Nat) (d:Array T) (a:TypeId) (f m:Nat) (F:ai) (w:V) (u7:T) (wr:V):Prop:=
 ∃ k:Nat,k<=m/\u7 = Z Y (k:Int)/\ag wr (uS r g c e L o b d a f k F)/\aj w wr
def sP (w:V) (r g f:Nat) (j:Array T) (L:List UInt8) (o b:Nat) (d:Array T) (l:TypeId) (a m c:Nat) (F:ai) (h:ag w (cy r g f j L o*(pt b (X d l (0,0))*F))) (hm:a+m<=d.size) (hn:o+2*m<=L.length) (I:L.length<=1000000) (hc:m<=c) (H:c<=maxLen)
  (G:∀ i,i<m->(d[a+i]?).isSome=N) :
  Calls W 203 #[az r,Q (U ⟨b,a,S⟩) m c] w fun e n=>e = O (Y' #[])/\ag n (uS r g f j L o b d l a m F)/\aj w n:=by
 have b0:(c:Int)<=9223372036854775807:=by unfold maxLen at H;omega
 have z:=h
 go_in
 go_wp2_with fail
 go_loopw [7] (fun u wr=>Ms r g f j L o b d l a m F w u wr) (fun u _=>m-(intOf u).toNat)
 case atStart=>exact ⟨0,B2 _,rfl,z,aj.refl w⟩
 case round=>
  obtain ⟨k,hk,rfl,t,y⟩:=hrel
  by_cases J:k<m
  .have c0:(k:Int)<(m:Int):=Z'
   have s:Calls W 202 #[az r,Z Y 2] wr (Al r g f j L (o+2*k) 2 wr (pt b (X (fT d a ((bS L o k).map (A3 Y))) l (0,0))*F)):=iV wr r g f j L (o+2*k) 2 _ t Z' Z' De0 I;obtain ⟨v0,v1⟩:=il (L.drop (o+2*k)) 2;have v2:=v1
   have M:fT d a ((bS L o (k+1)).map (A3 Y))=(fT d a ((bS L o k).map (A3 Y))).setIfInBounds (a+k) (Z Y (iM (L.drop (o+2*k)) 2)):=by
    rw [CE,List.map_append,List.map_cons,List.map_nil,uO,A2,bL]
   have K:∃ x,(fT d a ((bS L o k).map (A3 Y)))[a+k]?=U x:=by
    rw [iS _ _ _ _ (by rw [A2,bL];omega),if_neg (by rw [A2,bL];omega)];exact Option.isSome_iff_exists.1 (G k J)
   have q:∀ n,ag n (cy r g f j L (o+2*k+2)*(pt b (X (fT d a ((bS L o (k+1)).map (A3 Y))) l (0,0))*F))->ag n (uS r g f j L o b d l a (k+1) F):=fun n h=>h;rw [M] at q;unfold Al at s;have C:=ae q;generalize iM (L.drop (o+2*k)) 2=v at *;obtain ⟨x,P⟩:=K;have D:=ae P
   go_wp2_with fail
   (apply s.mono)
   rintro e w2 ⟨rfl,p,E⟩;have cx:=(p.ah.cell _).trans D.o;have fx:=p.ah.frozen (a+k);have A:=p.ah.setCell (a+k) (Z Y v);have B:=ae (C.o _ (A.u00))
   go_wp2_with fail
   go_roundw
   case rel=>exact ⟨k+1,Z',by go_num,B.o,(y.trans E).setCell _ _⟩
   case measure=>simp [intOf];omega
  .obtain rfl:k=m:=Z'
   go_wp2_with fail
   go_end0
   exact ⟨rfl,t,y⟩
def RV (w:V) (c:Int):Calls W 208 #[Z .u8 c] w fun e a=>e = O (.bool (c != 0))/\w=a:=by
 go_in
 go_wp2
 go_ret
 exact ⟨rfl,rfl⟩
def PQ (l:List UInt8) (k:Nat):Prop:=(l.take k).all (· == 0)=N
def SD (l:List UInt8) (u:T):Prop:=∃ k:Nat,k<=l.length/\u = Z Y (k:Int)/\PQ l k
def Wm (l:List UInt8) (w:V) (e:Ending) (a:V):Prop:=∃ n:Int,e = O (Z Y n)/\(0<=n↔l.all (· == 0)=R)/\w=a
def BZ (w:V) (v:T) (l:List UInt8) (i:Rd w v l) (E:l.length<=1000000) :
  Calls W 242 #[v,.func (.func 208) #[] #[]] w (Wm l w):=by
 have t:=ae i;obtain ⟨H,I,rfl⟩:=i.shape;have F:(l.length:Int)<=1000000:=Z'
 clear i
 go_in
 go_wp2_with fail
 go_loop [8] (fun u=>SD l u) (fun u=>l.length-(intOf u).toNat)
 case atStart=>exact ⟨0,B2 _,rfl,rfl⟩
 case round=>
  obtain ⟨k,D,rfl,a⟩:=hrel
  by_cases f:k<l.length
  .have G:(k:Int)<(l.length:Int):=Z'
   obtain ⟨g,o,rfl,m⟩:=t.o.at Z';have A:=m k l[k] (H8 f);have b:=RV w (l[k].toNat:Int)
   have q:(l[k].toNat:Int)=0↔l[k]=0:=by
    constructor
    .intro h;exact UInt8.toNat_inj.1 (by have:(0:UInt8).toNat=0:=rfl;omega)
    .intro h;rw [h];rfl
   have p:PQ l (k+1)↔l[k]=0:=by
    unfold PQ at a ⊢;rw [List.take_add_one,H8 f,List.all_append,a];simp
   have n:l[k]≠0->l.all (· == 0)=R:=fun h=>List.all_eq_false.2 ⟨l[k],H4 f,by simpa using h⟩;have s:=ae n;have x:=ae p;have j:=ae q;unfold u8 at A;generalize (l[k].toNat:Int)=c at *;clear m a n p q
   by_cases d:c=0
   .subst d
    have y:=ae (x.o.2 (j.o.1 rfl))
    go_wp2_with fail
    (with_reducible apply b.mono)
    rintro e C ⟨rfl,rfl⟩;clear b
    go_wp2_with fail
    go_round
    case rel=>exact ⟨k+1,Z',by go_num,y.o⟩
    case measure=>simp [intOf];omega
   .have z:(c != 0)=N:=by simpa using d
    have B:=ae (s.o (fun h=>d (j.o.2 h)));rw [z] at b
    go_wp2_with fail
    (with_reducible apply b.mono)
    rintro e C ⟨rfl,rfl⟩;clear b
    go_wp2_with fail
    go_ret
    exact ⟨(k:Int),rfl,⟨fun _=>B.o,fun _=>Z'⟩,rfl⟩
  .obtain rfl:k=l.length:=Z'
   unfold PQ at a;rw [J7] at a;have r:=ae a;clear a
   go_wp2_with fail
   go_ret
   exact ⟨-1,rfl,⟨fun h=>absurd h De0,fun h=>by rw [r.o] at h;cases h⟩,rfl⟩
def W5 (l:List UInt8) (w:V) (e:Ending) (a:V):Prop:=e = O (.bool (!(l.all (· == 0))))/\w=a
def vr (w:V) (v:T) (l:List UInt8) (a:Rd w v l) (i:l.length<=1000000) :
  Calls W 207 #[v,.func (.func 208) #[] #[]] w (W5 l w):=by
 have c:=BZ w v l a i;obtain ⟨k,m,rfl⟩:=a.shape;clear a
 go_in
 go_wp2_with fail
 (with_reducible apply c.mono)
 rintro e o ⟨n,rfl,d,rfl⟩;have b:=ae d;clear c d
 by_cases h:0<=n
 .have e:=ae (b.o.1 h)
  go_wp2
  go_ret
  exact ⟨by rw [e.o];rfl,rfl⟩
 .have e:l.all (· == 0)=N:=by
   cases g:l.all (· == 0) with
   | true=>rfl
   | false=>exact absurd (b.o.2 g) h
  have f:=ae e;have j:decide (0<=n)=R:=decide_eq_false h;clear e
  go_wp2
  go_ret
  exact ⟨by rw [f.o];rfl,rfl⟩
def EB (a b c:Int) (dr:List Int) (r:Int) (d:dr.length=16):(fT #[Z Y a,Z Y b,Z Y c,Z Y 0,Z Y 0,Z Y 0,Z Y 0,Z Y 0,Z Y 0,Z Y 0,Z Y 0,Z Y 0,Z Y 0,Z Y 0,Z Y 0,Z Y 0,Z Y 0,Z Y 0,Z Y 0,Z Y 0] 3 (dr.map (A3 Y))).setIfInBounds 19 (Z Y r)=ints (Nd.l ⟨a,b,c,dr,r⟩):=by
 have g:(fT #[Z Y a,Z Y b,Z Y c,Z Y 0,Z Y 0,Z Y 0,Z Y 0,Z Y 0,Z Y 0,Z Y 0,Z Y 0,Z Y 0,Z Y 0,Z Y 0,Z Y 0,Z Y 0,Z Y 0,Z Y 0,Z Y 0,Z Y 0] 3 (dr.map (A3 Y))).size=20:=by rw [wi];rfl
 apply K4;intro k;rw [Array.getElem?_setIfInBounds,dP]
 by_cases e:19=k
 .subst e
  rw [if_pos rfl,if_pos (by rw [g];decide)];simp [Nd.l,d]
 .rw [if_neg e,iS _ _ _ _ (by rw [A2,d];show 3+16<=20;decide),A2,d]
  by_cases f:3<=k/\k<3+16
  .rw [if_pos f,B3]
   congr 1;obtain ⟨j,rfl⟩:∃ j,k=j+3:=⟨k-3,Z'⟩
   simp only [Nd.l,K6,Nat.add_sub_cancel];rw [K5 Z']
  .rw [if_neg f]
   rcases (by omega:k=0\/k=1\/k=2\/20<=k) with rfl|rfl|rfl|h
   .rfl
   .rfl
   .rfl
   .rw [K3 (by show 20<=k;exact h),J3 (by simp [Nd.l,d];omega)];rfl
def Gy:(#[Z Y 0,Z Y 0,Z Y 0,Z Y 0,Z Y 0,Z Y 0,Z Y 0,Z Y 0,Z Y 0,Z Y 0,Z Y 0,Z Y 0,Z Y 0,Z Y 0,Z Y 0,Z Y 0,Z Y 0,Z Y 0,Z Y 0,Z Y 0]:Array T).all (·.oneCell')=N:=by simp [H6]
def ly (a:tmps[2]?=U (az z)) (b:tmps[3]?=U v) (h:ag w (pt z (X C 66 (0,0))*F)) (d:C.size=20:=by rfl) :
  (results Tryz.f153 tmps).run W w = .ok (Y' #[.agg C,v]) w:=by
 have c:=run_loadVar_row (P:=W) w z 66 66 C (0,0) _ h.heap underlying66 rfl (by rw [d];exact bC);have e:tmps.getD 2 undef = .pointer (U ⟨z,0,S⟩):=by simp [a]
 simp [results,Tryz.results153,a,b,asAddr,c]
def KS:Nd:=⟨0,0,0,List.replicate 16 0,0⟩
def qx (w:V) (v:T) (L:List UInt8) (hr:Rd w v L) (hL:L.length=480) (i0:Ending->V->Prop)
  (hY:(iF L).ok=N->(L.drop 41).all (· == 0)=N->∀ c,ag c (whole w)->aj w c->i0 (O (Y' #[(iF L).v,Z Y 0])) c)
  (hN:(iF L).ok=R\/(L.drop 41).all (· == 0)=R->∀ c,ag c (whole w)->aj w c->i0 (O (Y' #[KS.v,Z Y 4])) c) :
  Calls W 153 #[v] w i0:=by
 obtain ⟨va,vc,rfl⟩:=hr.shape;rw [hL] at hr ⊢;have Hr:=ae hr;have HY:=ae hY;have HN:=ae hN;have b:=ae hL;clear hr hY hN hL
 go_in
 go_wp2_with fail
 have l:=(((ag.whole w).alloc (X #[Z Y 0,Z Y 0,Z Y 0,Z Y 0,Z Y 0,Z Y 0,Z Y 0,Z Y 0,Z Y 0,Z Y 0,Z Y 0,Z Y 0,Z Y 0,Z Y 0,Z Y 0,Z Y 0,Z Y 0,Z Y 0,Z Y 0,Z Y 0] 66 (0,0))).alloc (X #[Z Y 0,Z Y 0,Z Y 0,Z Y 0,Z Y 0,Z Y 0,Z Y 0,Z Y 0,Z Y 0,Z Y 0,Z Y 0,Z Y 0,Z Y 0,Z Y 0,Z Y 0,Z Y 0,Z Y 0,Z Y 0,Z Y 0,Z Y 0] 66 (0,0))).alloc (X #[Z Y 0] 264 (0,0));have D1:=(((aj.refl w).alloc (X #[Z Y 0,Z Y 0,Z Y 0,Z Y 0,Z Y 0,Z Y 0,Z Y 0,Z Y 0,Z Y 0,Z Y 0,Z Y 0,Z Y 0,Z Y 0,Z Y 0,Z Y 0,Z Y 0,Z Y 0,Z Y 0,Z Y 0,Z Y 0] 66 (0,0))).alloc (X #[Z Y 0,Z Y 0,Z Y 0,Z Y 0,Z Y 0,Z Y 0,Z Y 0,Z Y 0,Z Y 0,Z Y 0,Z Y 0,Z Y 0,Z Y 0,Z Y 0,Z Y 0,Z Y 0,Z Y 0,Z Y 0,Z Y 0,Z Y 0] 66 (0,0))).alloc (X #[Z Y 0] 264 (0,0));simp only [J4] at l;generalize ((w.alloc (X #[Z Y 0,Z Y 0,Z Y 0,Z Y 0,Z Y 0,Z Y 0,Z Y 0,Z Y 0,Z Y 0,Z Y 0,Z Y 0,Z Y 0,Z Y 0,Z Y 0,Z Y 0,Z Y 0,Z Y 0,Z Y 0,Z Y 0,Z Y 0] 66 (0,0))).alloc (X #[Z Y 0,Z Y 0,Z Y 0,Z Y 0,Z Y 0,Z Y 0,Z Y 0,Z Y 0,Z Y 0,Z Y 0,Z Y 0,Z Y 0,Z Y 0,Z Y 0,Z Y 0,Z Y 0,Z Y 0,Z Y 0,Z Y 0,Z Y 0] 66 (0,0))).alloc (X #[Z Y 0] 264 (0,0))=w1 at l D1 ⊢;generalize w.heap.size+1+1=x at l ⊢;generalize w.heap.size+1=a at l ⊢;generalize w.heap.size=d at l ⊢;obtain ⟨kd,p0⟩:=Mn0 (iM L 1)
 obtain ⟨lk,x0⟩:=Mn0 (iM (L.drop 1) 2)
 obtain ⟨sz,E⟩:=Mn0 (iM (L.drop 3) 4)
 obtain ⟨o,o1⟩:=Mn0 (iM (L.drop 39) 2)
 have a0:0<=kd/\kd<256:=by rw [p0];exact il L 1
 have b0:0<=lk/\lk<65536:=by rw [x0];exact il (L.drop 1) 2
 have q0:0<=sz/\sz<4294967296:=by rw [E];exact il (L.drop 3) 4
 obtain ⟨a0,a2⟩:=a0;obtain ⟨b0,b2⟩:=b0;obtain ⟨q0,q2⟩:=q0;have T0:=ae p0;have V0:=ae x0;have X0:=ae E;have W0:=ae o1;clear p0 x0 E o1;have l1:=om w1 (Q va 480 vc) L (Hr.o.bF (l.t00 ((pt x (X #[Z Y 0] 264 (0,0))*(pt a (X #[Z Y 0,Z Y 0,Z Y 0,Z Y 0,Z Y 0,Z Y 0,Z Y 0,Z Y 0,Z Y 0,Z Y 0,Z Y 0,Z Y 0,Z Y 0,Z Y 0,Z Y 0,Z Y 0,Z Y 0,Z Y 0,Z Y 0,Z Y 0] 66 (0,0))*pt d (X #[Z Y 0,Z Y 0,Z Y 0,Z Y 0,Z Y 0,Z Y 0,Z Y 0,Z Y 0,Z Y 0,Z Y 0,Z Y 0,Z Y 0,Z Y 0,Z Y 0,Z Y 0,Z Y 0,Z Y 0,Z Y 0,Z Y 0,Z Y 0] 66 (0,0))))*whole w))) (by rw [b.o];decide) (by rw [b.o];decide)
 (with_reducible apply l1.mono)
 rintro e w2 ⟨r,g,f,h,rfl,G,d2⟩;obtain ⟨a1,hZ⟩:=Mn0 (pt x (X #[Z Y 0] 264 (0,0))*(pt d (X #[Z Y 0,Z Y 0,Z Y 0,Z Y 0,Z Y 0,Z Y 0,Z Y 0,Z Y 0,Z Y 0,Z Y 0,Z Y 0,Z Y 0,Z Y 0,Z Y 0,Z Y 0,Z Y 0,Z Y 0,Z Y 0,Z Y 0,Z Y 0] 66 (0,0))*whole w))
 have H2:ag w2 (cy r g f h L 0*(pt a (X #[Z Y 0,Z Y 0,Z Y 0,Z Y 0,Z Y 0,Z Y 0,Z Y 0,Z Y 0,Z Y 0,Z Y 0,Z Y 0,Z Y 0,Z Y 0,Z Y 0,Z Y 0,Z Y 0,Z Y 0,Z Y 0,Z Y 0,Z Y 0] 66 (0,0))*a1)):=(G.under l).to (by rw [hZ];ac_rfl);have D2:=D1.trans d2;have HZ:=ae hZ;clear l1 G d2 l D1 hZ;have K:Calls W 202 #[az r,Z Y 1] w2 (Al r g f h L 0 1 w2 _):=iV w2 r g f h L 0 1 _ H2 (by rw [b.o];decide) (by rw [b.o];decide) De0 (by rw [b.o];decide);unfold Al at K;rw [D4,<- T0.o] at K
 go_wp2_with fail
 (with_reducible apply K.mono)
 rintro e w3 ⟨rfl,u,d3⟩;have n0:w3.cell? ⟨a,0,S⟩=U (Z Y 0):=u.ah.cell 0;have f0:w3.frozen? ⟨a,0,S⟩=R:=u.ah.frozen 0;have H3:=u.ah.setCell 0 (Z Y kd);have D3:=(D2.trans d3).setCell ⟨a,0,S⟩ (Z Y kd);simp only [K9,K8,K7] at H3;have M:Calls W 202 #[az r,Z Y 2] (w3.setCell ⟨a,0,S⟩ (Z Y kd)) (Al r g f h L 1 2 _ _):=iV _ r g f h L 1 2 _ H3.ah (by rw [b.o];decide) (by rw [b.o];decide) De0 (by rw [b.o];decide);unfold Al at M;rw [<- V0.o] at M;clear K u d3 D2 H2
 go_wp2_with fail
 generalize w3.setCell ⟨a,0,S⟩ (Z Y kd)=w4 at *
 (with_reducible apply M.mono)
 rintro e w5 ⟨rfl,h5,d5⟩;have n1:w5.cell? ⟨a,1,S⟩=U (Z Y 0):=h5.ah.cell 1;have f1:w5.frozen? ⟨a,1,S⟩=R:=h5.ah.frozen 1;have H5:=h5.ah.setCell 1 (Z Y lk);have D5:=(D3.trans d5).setCell ⟨a,1,S⟩ (Z Y lk);simp only [K9,K8,K7] at H5;have P:Calls W 202 #[az r,Z Y 4] (w5.setCell ⟨a,1,S⟩ (Z Y lk)) (Al r g f h L 3 4 _ _):=iV _ r g f h L 3 4 _ H5.ah (by rw [b.o];decide) (by rw [b.o];decide) De0 (by rw [b.o];decide);unfold Al at P;rw [<- X0.o] at P;clear M h5 d5 D3 H3 n0 f0
 go_wp2_with fail
 generalize w5.setCell ⟨a,1,S⟩ (Z Y lk)=w6 at *
 (with_reducible apply P.mono)
 rintro e w7 ⟨rfl,H,d7⟩;have n2:w7.cell? ⟨a,2,S⟩=U (Z Y 0):=H.ah.cell 2;have f2:w7.frozen? ⟨a,2,S⟩=R:=H.ah.frozen 2;have H7:=H.ah.setCell 2 (Z Y sz);have D7:=(D5.trans d7).setCell ⟨a,2,S⟩ (Z Y sz);simp only [K9,K8,K7] at H7
 have j:∀ k,k<20->(#[Z Y kd,Z Y lk,Z Y sz,Z Y 0,Z Y 0,Z Y 0,Z Y 0,Z Y 0,Z Y 0,Z Y 0,Z Y 0,Z Y 0,Z Y 0,Z Y 0,Z Y 0,Z Y 0,Z Y 0,Z Y 0,Z Y 0,Z Y 0]:Array T)[k]?.isSome=N:=fun k hk=>by
  rw [K2 (by show k<20;exact hk)];rfl
 have q1:=sP _ r g f h L 7 a _ 66 3 16 16 a1 H7.ah (by show 3+16<=20;decide) (by rw [b.o];decide) (by rw [b.o];decide) (E5 _) De0 (fun k hk=>j _ Z');clear P H d7 D5 H5 n1 f1 j
 go_wp2_with fail
 generalize w7.setCell ⟨a,2,S⟩ (Z Y sz)=w8 at *
 (with_reducible apply q1.mono)
 rintro e w9 ⟨rfl,I,d9⟩;obtain ⟨H0,J⟩:=Mn0 (fT #[Z Y kd,Z Y lk,Z Y sz,Z Y 0,Z Y 0,Z Y 0,Z Y 0,Z Y 0,Z Y 0,Z Y 0,Z Y 0,Z Y 0,Z Y 0,Z Y 0,Z Y 0,Z Y 0,Z Y 0,Z Y 0,Z Y 0,Z Y 0] 3 ((bS L 7 16).map (A3 Y)))
 have m0:=EB kd lk sz (bS L 7 16) o (bL _ _ _);rw [<- J] at m0
 have B1:∃ G0,H0[19]?=U G0:=by
  rw [J,iS _ _ _ _ (by rw [A2,bL];show 3+16<=20;decide),if_neg (by rw [A2,bL];decide)];exact ⟨_,rfl⟩
 unfold uS at I;rw [<- J,HZ.o] at I;have H9:ag w9 (cy r g f h L 39*(pt x (X #[Z Y 0] 264 (0,0))*(pt a (X H0 66 (0,0))*(pt d (X #[Z Y 0,Z Y 0,Z Y 0,Z Y 0,Z Y 0,Z Y 0,Z Y 0,Z Y 0,Z Y 0,Z Y 0,Z Y 0,Z Y 0,Z Y 0,Z Y 0,Z Y 0,Z Y 0,Z Y 0,Z Y 0,Z Y 0,Z Y 0] 66 (0,0))*whole w)))):=I.u00;have D9:=D7.trans d9;have r1:=sP w9 r g f h L 39 x _ 264 0 1 1 _ H9 De0 (by rw [b.o];decide) (by rw [b.o];decide) (E5 _) De0 (fun k hk=>by obtain rfl:k=0:=Z';rfl);have t1:=ae m0;clear q1 I d9 D7 H7 n2 f2 J m0
 go_wp2_with fail
 (with_reducible apply r1.mono)
 rintro e c0 ⟨rfl,p,b1⟩;have D:fT #[Z Y 0] 0 ((bS L 39 1).map (A3 Y))=#[Z Y o]:=by rw [W0.o];rfl
 unfold uS at p;rw [D] at p;have K0:=D9.trans b1;have r0:c0.cell? ⟨x,0,S⟩=U (Z Y o):=p.ah.cell 0;obtain ⟨G0,hy⟩:=B1;have H1:c0.cell? ⟨a,19,S⟩=U G0:=(p.au.cell 19).trans hy;have A1:c0.frozen? ⟨a,19,S⟩=R:=p.au.frozen 19;have y:=p.au.setCell 19 (Z Y o);rw [t1.o] at y;have j1:(⟨kd,lk,sz,bS L 7 16,o⟩:Nd)=iF L:=by rw [T0.o,V0.o,X0.o,W0.o];rfl
 rw [j1] at y;have L0:=K0.setCell ⟨a,19,S⟩ (Z Y o);have i1:((L.length-41:Nat):Int)=439:=by rw [b.o];rfl
 have u0:=BV _ r g f h L 41 _ y.ah;have o0:=Fg _ r g f h L 41 _ y.ah (by rw [b.o];decide) (by rw [b.o];decide);rw [i1] at u0 o0;have Hy:=ae hy;clear r1 p b1 H9 D9 K0 D hy j1
 go_wp2_with fail
 generalize c0.setCell ⟨a,19,S⟩ (Z Y o)=L1 at *
 (with_reducible apply u0.mono)
 rintro e M1 ⟨rfl,rfl⟩;clear u0 r0 H1 A1 i1
 go_wp2_with fail
 (with_reducible apply o0.mono)
 rintro e F0 ⟨bv,rfl,d1,c1⟩;have l0:(iF L).dr.length=16:=bL _ _ _;have n:=jZ F0 (iF L) l0;have s:ag F0 (pt a (X (ints (iF L).l) 66 (0,0))*(bs 5 bv (L.drop 41)*(pt d (X #[Z Y 0,Z Y 0,Z Y 0,Z Y 0,Z Y 0,Z Y 0,Z Y 0,Z Y 0,Z Y 0,Z Y 0,Z Y 0,Z Y 0,Z Y 0,Z Y 0,Z Y 0,Z Y 0,Z Y 0,Z Y 0,Z Y 0,Z Y 0] 66 (0,0))*whole w))):=(d1.t00 (pt x (X #[Z Y o] 264 (0,0))*(pt a (X (ints (iF L).l) 66 (0,0))*(bs 5 bv (L.drop 41)*(pt d (X #[Z Y 0,Z Y 0,Z Y 0,Z Y 0,Z Y 0,Z Y 0,Z Y 0,Z Y 0,Z Y 0,Z Y 0,Z Y 0,Z Y 0,Z Y 0,Z Y 0,Z Y 0,Z Y 0,Z Y 0,Z Y 0,Z Y 0,Z Y 0] 66 (0,0))*whole w))))).right;have N0:=L0.trans c1
 have D:F0.rangeAt a 0 ((iF L).l.map (A3 Y)):=fun E1 v hv=>by
  rw [G3,s.cell,dP,<- B3];exact hv
 have g1:(prog.info? 66).map (·.size)=U ((iF L).l.map (A3 Y)).length:=by rw [A2,Nd.cells l0];exact bC
 have k1:((iF L).l.map (A3 Y)).toArray.all (·.oneCell')=N:=by simp [H6]
 have hv:(iF L).v = .agg ((iF L).l.map (A3 Y)).toArray:=rfl;have hi:ints (iF L).l=((iF L).l.map (A3 Y)).toArray:=rfl;rw [hv] at n;rw [hi] at s;have h0:=ae (fun h1 G c u h4=>hv▸HY.o h1 G c u h4);have x1:=ae D;have S0:=ae g1;have v1:=ae k1;have E:KS.v = .agg #[Z Y 0,Z Y 0,Z Y 0,Z Y 0,Z Y 0,Z Y 0,Z Y 0,Z Y 0,Z Y 0,Z Y 0,Z Y 0,Z Y 0,Z Y 0,Z Y 0,Z Y 0,Z Y 0,Z Y 0,Z Y 0,Z Y 0,Z Y 0]:=rfl;obtain ⟨ba,bc,rfl⟩:=aC s.ah;have s0:(L.drop 41).length=439:=by rw [List.length_drop,b.o]
 rw [s0] at s ⊢;have e1:=fun c (k0:Rd c (Q ba 439 bc) (L.drop 41))=>vr c _ _ k0 (by rw [s0];decide);have u1:=ae e1;clear o0 d1 c1 L0 y D g1 k1 hv hi e1 s0 E
 go_wp2_with (refine wpList_load_mid (by exact rfl) 66 (.tmp 4) (by exact rfl) a 0 (by exact rfl) ((iF L).l.map (A3 Y)) _ (by with_reducible exact x1.o) underlying66 rfl (by with_reducible exact S0.o) ?_)
 have C:∀ c,ag c (pt d (X #[Z Y 0,Z Y 0,Z Y 0,Z Y 0,Z Y 0,Z Y 0,Z Y 0,Z Y 0,Z Y 0,Z Y 0,Z Y 0,Z Y 0,Z Y 0,Z Y 0,Z Y 0,Z Y 0,Z Y 0,Z Y 0,Z Y 0,Z Y 0] 66 (0,0))*whole w)->ag (c.setRow d #[Z Y 0,Z Y 0,Z Y 0,Z Y 0,Z Y 0,Z Y 0,Z Y 0,Z Y 0,Z Y 0,Z Y 0,Z Y 0,Z Y 0,Z Y 0,Z Y 0,Z Y 0,Z Y 0,Z Y 0,Z Y 0,Z Y 0,Z Y 0]) (pt d (X #[Z Y 0,Z Y 0,Z Y 0,Z Y 0,Z Y 0,Z Y 0,Z Y 0,Z Y 0,Z Y 0,Z Y 0,Z Y 0,Z Y 0,Z Y 0,Z Y 0,Z Y 0,Z Y 0,Z Y 0,Z Y 0,Z Y 0,Z Y 0] 66 (0,0))*whole w):=fun c k0=>k0.setRow
 cases q:(iF L).ok with
 | false=>
  have g0:=ae (HN.o (.inl q));rw [q] at n
  (with_reducible apply n.mono)
  rintro e d0 ⟨rfl,t,j0⟩;have i:=(t.cM s).right.right;have F:=N0.trans j0;have A:=ae i.heap;have m:=ae (C _ i);clear n t i C q h0
  go_wp2_with (refine wpList_store_row (by exact rfl) 66 (.tmp 2) (.tmp 47) (by exact rfl) d #[Z Y 0,Z Y 0,Z Y 0,Z Y 0,Z Y 0,Z Y 0,Z Y 0,Z Y 0,Z Y 0,Z Y 0,Z Y 0,Z Y 0,Z Y 0,Z Y 0,Z Y 0,Z Y 0,Z Y 0,Z Y 0,Z Y 0,Z Y 0] (by exact rfl) (by exact rfl) 66 #[Z Y 0,Z Y 0,Z Y 0,Z Y 0,Z Y 0,Z Y 0,Z Y 0,Z Y 0,Z Y 0,Z Y 0,Z Y 0,Z Y 0,Z Y 0,Z Y 0,Z Y 0,Z Y 0,Z Y 0,Z Y 0,Z Y 0,Z Y 0] (by with_reducible exact A.o) bC rfl Gy ?_)
  exact bodyPost_ret (ly rfl rfl m.o) rfl (g0.o _ m.o.right (F.setRow _ _))
 | true=>
  rw [q] at n
  (with_reducible apply n.mono)
  rintro e d0 ⟨rfl,t,j0⟩;have i:=t.cM s;have F:=N0.trans j0;have B:=u1.o d0 i.ah.oa;unfold W5 at B
  cases j:(L.drop 41).all (· == 0) with
  | false=>
   have g0:=ae (HN.o (.inr j));rw [j] at B;have z:=i.right.right;have A:=ae z.heap;have m:=ae (C _ z);clear n t z C q h0 j
   go_wp2_with (first|(refine wpList_store_row (by exact rfl) 66 (.tmp 2) (.tmp 47) (by exact rfl) d #[Z Y 0,Z Y 0,Z Y 0,Z Y 0,Z Y 0,Z Y 0,Z Y 0,Z Y 0,Z Y 0,Z Y 0,Z Y 0,Z Y 0,Z Y 0,Z Y 0,Z Y 0,Z Y 0,Z Y 0,Z Y 0,Z Y 0,Z Y 0] (by exact rfl) (by exact rfl) 66 #[Z Y 0,Z Y 0,Z Y 0,Z Y 0,Z Y 0,Z Y 0,Z Y 0,Z Y 0,Z Y 0,Z Y 0,Z Y 0,Z Y 0,Z Y 0,Z Y 0,Z Y 0,Z Y 0,Z Y 0,Z Y 0,Z Y 0,Z Y 0] (by with_reducible exact A.o) bC rfl Gy ?_)|(go_at_call 207;(with_reducible apply B.mono);rintro e K1 ⟨rfl,rfl⟩))
   exact bodyPost_ret (ly rfl rfl m.o) rfl (g0.o _ m.o.right (F.setRow _ _))
  | true=>
   have s1:=ae (h0.o q j);rw [j] at B;have z:=i;have e0:ag d0 (pt d (X #[Z Y 0,Z Y 0,Z Y 0,Z Y 0,Z Y 0,Z Y 0,Z Y 0,Z Y 0,Z Y 0,Z Y 0,Z Y 0,Z Y 0,Z Y 0,Z Y 0,Z Y 0,Z Y 0,Z Y 0,Z Y 0,Z Y 0,Z Y 0] 66 (0,0))*(pt a (X ((iF L).l.map (A3 Y)).toArray 66 (0,0))*whole w)):=(i.t00 (bs 5 (Q ba 439 bc) (L.drop 41)*(pt d (X #[Z Y 0,Z Y 0,Z Y 0,Z Y 0,Z Y 0,Z Y 0,Z Y 0,Z Y 0,Z Y 0,Z Y 0,Z Y 0,Z Y 0,Z Y 0,Z Y 0,Z Y 0,Z Y 0,Z Y 0,Z Y 0,Z Y 0,Z Y 0] 66 (0,0))*(pt a (X ((iF L).l.map (A3 Y)).toArray 66 (0,0))*whole w)))).right
   have m1:d0.rangeAt a 0 ((iF L).l.map (A3 Y)):=fun E1 v hv=>by
    rw [G3,i.cell,List.getElem?_toArray];exact hv
   have y1:=ae m1;have A:=ae e0.heap;have R0:=e0.setRow (cs':=((iF L).l.map (A3 Y)).toArray);have m:=ae R0;have D0:((iF L).l.map (A3 Y)).toArray.size=20:=by simp [Nd.cells l0]
   have Y0:=ae D0;have p1:(prog.info? 66).map (·.size)=U ((iF L).l.map (A3 Y)).toArray.size:=by rw [D0];exact bC
   have z1:=ae p1;clear n t i z e0 R0 C q j m1 p1 D0;generalize (iF L).l.map (A3 Y)=Z0 at *
   go_wp2_with (first
    | (refine wpList_load_mid (by exact rfl) 66 (.tmp 4) (by exact rfl) a 0 (by exact rfl) Z0 _ (by with_reducible exact y1.o) underlying66 rfl (by with_reducible exact S0.o) ?_)
    | (refine wpList_store_row (by exact rfl) 66 (.tmp 2) (.tmp 48) (by exact rfl) d Z0.toArray (by exact rfl) (by exact rfl) 66 #[Z Y 0,Z Y 0,Z Y 0,Z Y 0,Z Y 0,Z Y 0,Z Y 0,Z Y 0,Z Y 0,Z Y 0,Z Y 0,Z Y 0,Z Y 0,Z Y 0,Z Y 0,Z Y 0,Z Y 0,Z Y 0,Z Y 0,Z Y 0] (by with_reducible exact A.o) z1.o (by rw [Y0.o];rfl) v1.o ?_)
    | (go_at_call 207;(with_reducible apply B.mono);rintro e K1 ⟨rfl,rfl⟩))
   exact bodyPost_ret (ly rfl rfl m.o Y0.o) rfl (s1.o _ m.o.right.right (F.setRow _ _))
def eX:List Int:=List.replicate 240 0
def Qk:Tryz.zeroCells151=ints eX:=Kr0
def BQ:(prog.built 151 []).isSome=N:=Kr0
def xV:(prog.built 151 []).getD #[]=ints eX:=Kr0
def GK:(prog.info? 151).map (·.size)=U (ints eX).size:=by rw [er];exact ki
def Sh:(ints eX).all (·.oneCell')=N:=by simp [ints,H6]
def rI (a:tmps[2]?=U (az z)) (b:tmps[3]?=U v) (h:ag w (pt z (X C 151 (0,0))*F)) (d:C.size=240) :
  (results Tryz.f156 tmps).run W w = .ok (Y' #[.agg C,v]) w:=by
 have c:=run_loadVar_row (P:=W) w z 151 151 C (0,0) _ h.heap underlying151 rfl (by rw [d];exact ki);have e:tmps.getD 2 undef = .pointer (U ⟨z,0,S⟩):=by simp [a]
 simp [results,Tryz.results156,a,b,asAddr,c]
def xF (w:V) (v:T) (L:List UInt8) (u:Rd w v L) (F:L.length=480) (B:Ending->V->Prop)
  (hY:(bS L 0 240).all dh=N->∀ b,ag b (whole w)->aj w b->B (O (Y' #[.agg (ints (bS L 0 240)),Z Y 0])) b)
  (hN:(bS L 0 240).all dh=R->∀ b,ag b (whole w)->aj w b->B (O (Y' #[.agg (ints eX),Z Y 4])) b) :
  Calls W 156 #[v] w B:=by
 obtain ⟨va,vc,rfl⟩:=u.shape;rw [F] at u ⊢;have Hr:=ae u;have HY:=ae hY;have HN:=ae hN;have q:=ae F;clear u hY hN F
 go_in
 go_wp2_with fail
 have c:=((ag.whole w).alloc (X Tryz.zeroCells151 151 (0,0))).alloc (X Tryz.zeroCells151 151 (0,0));have o:=((aj.refl w).alloc (X Tryz.zeroCells151 151 (0,0))).alloc (X Tryz.zeroCells151 151 (0,0));simp only [J4] at c;generalize (w.alloc (X Tryz.zeroCells151 151 (0,0))).alloc (X Tryz.zeroCells151 151 (0,0))=w1 at c o ⊢;rw [Qk] at c;generalize w.heap.size+1=d at c ⊢;generalize w.heap.size=i at c ⊢;obtain ⟨a,s⟩:=Mn0 (ints eX)
 have i0:a.size=240:=by rw [s,er];rfl
 rw [<- s] at c;have q0:=ae s;have J:=om w1.drew (Q va 480 vc) L (Hr.o.bF (c.t00 ((pt d (X a 151 (0,0))*pt i (X a 151 (0,0)))*whole w)):Rd w1 _ _) (by rw [q.o];decide) (by rw [q.o];decide);have Hd:=ae (ag.drew c)
 have h0:∀ b r g f h,ag b (cy r g f h L 0*(pt d (X a 151 (0,0))*(pt i (X a 151 (0,0))*whole w)))->Calls W 203 #[az r,Q (U ⟨d,0,S⟩) 240 240] b fun e P=>e = O (Y' #[])/\ag P (uS r g f h L 0 d a 151 0 240 (pt i (X a 151 (0,0))*whole w))/\aj b P:=fun b r g f h o0=>
  sP b r g f h L 0 d a 151 0 240 240 _ o0 Z' (by rw [q.o];decide) (by rw [q.o];decide) (E5 _) De0 (fun r0 G=>by rw [K2 Z'];rfl)
 have A:=ae h0
 have f0:fT a 0 ((bS L 0 240).map (A3 Y))=ints (bS L 0 240):=by
  apply K4;intro p0;rw [iS _ _ _ _ (by rw [A2,bL];omega),A2,bL,dP,<- B3]
  by_cases hk:p0<240
  .rw [if_pos ⟨B2 _,Z'⟩,Nat.sub_zero]
  .rw [if_neg Z',K3 Z',J3 (by rw [A2,bL];omega)]
 have c0:=ae f0;clear s h0 f0
 go_region_held3 (fun _=>True) (trivial) (first
  | (go_at_call 201;(with_reducible apply J.mono);rintro e P ⟨r,g,f,h,rfl,E,C⟩;have x:=E.under Hd.o)
  | (go_at_call 203;(with_reducible apply (A.o _ r g f h x).mono);rintro e w3 ⟨rfl,n,D⟩))
 all_goals
  unfold uS at n;rw [c0.o] at n;have p:=n.ah;have D3:=ae (((o.drew).trans C).trans D);have t:=pP.row p 0 240 (by rw [bL];decide) De0;rw [D4,J2 (by rw [bL];decide)] at t;have m:=iA _ _ _ t (by rw [bL];decide);have j:ag w3 (pt i (X a 151 (0,0))*(pt d (X (ints (bS L 0 240)) 151 (0,0))*whole w)):=(p.t00 (cy r g f h L (0+2*240)*(pt i (X a 151 (0,0))*(pt d (X (ints (bS L 0 240)) 151 (0,0))*whole w)))).right
  have K:w3.rangeAt d 0 ((bS L 0 240).map (A3 Y)):=fun s0 v hv=>by
   rw [G3,j.ah.cell,dP,<- B3];exact hv
  have Hz:=ae j.heap;have y:=ae (j.setRow (cs':=ints eX));have z:=ae (j.setRow (cs':=ints (bS L 0 240)));have n0:=ae K;have k:(bS L 0 240).length=240:=bL _ _ _;have Hl:=ae k
  cases l:(bS L 0 240).all dh with
  | false=>
   have j0:=ae (HN.o l);rw [l] at m;clear J c Hd A E C x n D p t j K k l o
   go_wp2_with fail
   (with_reducible apply m.mono)
   rintro e w4 ⟨rfl,rfl⟩;clear m
   go_wp2_with (first
    | (refine wpList_build (by exact rfl) 151 #[] (by exact rfl) (by exact BQ) ?_)
    | (refine wpList_store_row (by exact rfl) 151 (.tmp 2) (.tmp 16) (by exact rfl) i (ints eX) (by exact rfl) (by exact congrArg Value.agg xV) 151 a (by with_reducible exact Hz.o) GK i0 (by exact Sh) ?_))
   exact bodyPost_ret (rI rfl rfl y.o (by rw [er];rfl)) rfl (j0.o _ y.o.right.right (D3.o.setRow _ _))
  | true=>
   have b0:=ae (HY.o l);rw [l] at m;have g0:(prog.info? 151).map (·.size)=U ((bS L 0 240).map (A3 Y)).length:=by rw [A2,k];exact ki
   have H:(prog.info? 151).map (·.size)=U (ints (bS L 0 240)).size:=by rw [er,k];exact ki
   have I:(ints (bS L 0 240)).all (·.oneCell')=N:=by simp [ints,H6]
   have G:ints (bS L 0 240)=((bS L 0 240).map (A3 Y)).toArray:=rfl;have M:(ints (bS L 0 240)).size=240:=by rw [er,k]
   rw [G] at H I M z b0;have k0:=ae g0;have l0:=ae H;have m0:=ae I;have d0:=ae M;clear J c Hd A E C x n D p t j K k l o g0 H I G y M c0;generalize (bS L 0 240).map (A3 Y)=e0 at *
   go_wp2_with fail
   (with_reducible apply m.mono)
   rintro e w4 ⟨rfl,rfl⟩;clear m
   go_wp2_with (first
    | (refine wpList_load_mid (by exact rfl) 151 (.tmp 4) (by exact rfl) d 0 (by exact rfl) e0 _ (by with_reducible exact n0.o) underlying151 rfl (by with_reducible exact k0.o) ?_)
    | (refine wpList_store_row (by exact rfl) 151 (.tmp 2) (.tmp 17) (by exact rfl) i e0.toArray (by exact rfl) (by exact rfl) 151 a (by with_reducible exact Hz.o) l0.o (by rw [d0.o];exact i0) m0.o ?_))
   exact bodyPost_ret (rI rfl rfl z.o d0.o) rfl (b0.o _ z.o.right.right (D3.o.setRow _ _))
end Go.Proofs.Fs
