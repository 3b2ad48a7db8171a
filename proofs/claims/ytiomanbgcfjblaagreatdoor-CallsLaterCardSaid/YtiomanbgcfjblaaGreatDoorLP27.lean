/- Steps. -/
import Derived.Test.YtiomanbgcfjblaaGreatDoorLP25
import Derived.Deep.QuietTactic
set_option linter.all false
set_option maxRecDepth 99999
set_option maxHeartbeats 0
open Go.SL
open Nat renaming le_refl->A1
namespace Go.Proofs.Nn
open RowKit SL
variable {D:aw} {has:Has}
def zV (J:Jr) {k:Nat} (a:k<J.T.ps.length):(Jr.jJ J).getD k 0=(told J.T.ps (k:Int)).getD (-1):=by
 unfold Jr.jJ;rw [List.getD,List.getElem?_map,List.getElem?_range a]
 rfl
def gm (J:Jr):(Jr.jJ J).length=J.T.ps.length:=by unfold Jr.jJ;rw [List.length_map,List.length_range]
def Nh {P b c a:Int} (h:0<=b) (i:b<P) (j:c<=P) (a0:b-c<=a) (g:a<b):nT P b (a%P)<=c:=by
 have d:a%P=a\/a%P=a+P:=by
  by_cases f:0<=a
  .exact .inl (Int.emod_eq_of_lt f Om0)
  .right
   rw [<- Int.add_emod_right];exact Int.emod_eq_of_lt Om0 Om0
 unfold nT;rcases d with e|e <;> rw [e] <;> split <;> omega
def tP {J:Jr} (h:dp J D has) (v:1<=J.n):(Jr.js J).rf J.P:=by
 have hps:=h.ok.ps;have s:=gm J;refine ⟨h.nums.Mj,h.nums.Vu,h.nums.Tp,h.nums.bS,h.ok.Bf,h.ok.xL,h.ok.uH,h.ok.LV,?_,?_,?_⟩
 .show 1<=(Jr.jJ J).length;omega
 .show (Jr.jJ J).length<=3840;have:=h.nums.n1;omega
 .intro k o
  have r:k<J.T.ps.length:=by rw [<- s];exact o
  unfold Js.Ad;show (Jr.jJ J).getD k 0=-1\/_
  rw [show (Jr.js J).at_=Jr.jJ J from rfl,zV J r]
  cases j:told J.T.ps (k:Int) with
  | none=>exact .inl rfl
  | some p=>
   right;have g:=h.place j;have f:=h.qE.pq _ _ j;obtain ⟨a,a0,l,rfl⟩:=h.win _ _ f;refine ⟨g.1,g.2,?_,Nh h.ok.Bf h.ok.xL h.ok.LV a0 l⟩;intro t;obtain ⟨i,u,e⟩:=List.mem_take_iff_getElem.1 t;have n:i<(Jr.jJ J).length:=Om0
   have m:(Jr.jJ J)[i]=(Jr.jJ J).getD i 0:=by rw [List.getD,List.getElem?_eq_getElem n];rfl
   have b:(told J.T.ps (i:Int)).getD (-1)=a%(J.P:Int):=by
    rw [<- zV J Om0,<- m];exact e
   cases d:told J.T.ps (i:Int) with
   | none=>rw [d,Option.getD_none] at b;omega
   | some w=>
    rw [d,Option.getD_some] at b;have c:=h.qE.pq _ _ d;rw [b,f] at c;injection c with c
    omega
structure Yw (J:Jr) (k:Nat):Prop where
 qE:(j5 J.P (Jr.jJ J) k).JO
 ps:∀ x,told (j5 J.P (Jr.jJ J) k).ps x=if x<(k:Int) then told J.T.ps x else none
 os:∀ q x,told (j5 J.P (Jr.jJ J) k).os q=some x↔(told J.T.os q=some x/\x<(k:Int))
def XK {J:Jr} (ok:J.Ok) (qE:J.T.JO):∀ k,k<=J.T.ps.length->Yw J k:=by
 intro k
 induction k with
 | zero=>
  intro _;refine ⟨Tb.y9 _ _,fun x=>?_,fun q x=>?_⟩
  .show told (Tb.fresh (Jr.jJ J).length J.P).ps x=_
   rw [(Tb.gp _ _ x).1]
   split
   .rename_i d
    cases c:told J.T.ps x with
    | none=>rfl
    | some p=>have:=dq c;omega
   .rfl
  .show told (Tb.fresh (Jr.jJ J).length J.P).os q=some x↔_
   rw [(Tb.gp _ _ q).2];constructor
   .intro h;cases h
   .rintro ⟨f,B⟩
    have:=dq (qE.qp _ _ f);omega
 | succ k A=>
  intro C;obtain ⟨j,n,o⟩:=A Om0;have l:=zV J (k:=k) Om0;have s:=AX J.P (Jr.jJ J) k;rw [gm] at s
  cases c:told J.T.ps (k:Int) with
  | none=>
   rw [c,Option.getD_none] at l;have e:j5 J.P (Jr.jJ J) (k+1)=j5 J.P (Jr.jJ J) k:=by rw [j5,l,if_neg De0]
   refine ⟨by rw [e];exact j,fun x=>?_,fun q x=>?_⟩
   .rw [e,n]
    by_cases d:x<(k:Int)
    .rw [if_pos d,if_pos Om0]
    .rw [if_neg d]
     by_cases i:x<((k+1:Nat):Int)
     .rw [if_pos i,show x=(k:Int) by omega,c]
     .rw [if_neg i]
   .rw [e,o]
    constructor
    .rintro ⟨a,b⟩;exact ⟨a,Om0⟩
    .rintro ⟨a,b⟩
     refine ⟨a,?_⟩
     have:x≠(k:Int):=by
      rintro rfl;have:=qE.qp _ _ a;rw [c] at this;cases this
     omega
  | some p=>
   rw [c,Option.getD_some] at l;have m:=qE.pq _ _ c;have g:=dq m;have e:j5 J.P (Jr.jJ J) (k+1)=((j5 J.P (Jr.jJ J) k).put (k:Int) p).2:=by rw [j5,l,if_pos g.1]
   have D:=ok.os
   have r:told (j5 J.P (Jr.jJ J) k).os p=none:=by
    cases w:told (j5 J.P (Jr.jJ J) k).os p with
    | none=>rfl
    | some x=>
     obtain ⟨a,b⟩:=(o p x).1 w;rw [m] at a;injection a with a;omega
   have u:(k:Int)<((j5 J.P (Jr.jJ J) k).ps.length:Int):=by rw [s.1];omega
   have v:p<((j5 J.P (Jr.jJ J) k).os.length:Int):=by rw [s.2];have:=g.2.1;omega
   have hps:=Tb.A0 j (by omega:(0:Int)<=(k:Int)) u g.1 v r;have z:=Tb.AQ j (by omega:(0:Int)<=(k:Int)) u g.1 v r;have y:told (j5 J.P (Jr.jJ J) k).ps (k:Int)=none:=by rw [n,if_neg Om0]
   refine ⟨by rw [e];exact Tb.GS j Om0 u g.1 v r,fun x=>?_,fun q x=>?_⟩
   .rw [e,hps,n]
    by_cases d:x=(k:Int)
    .rw [if_pos d,if_pos Om0,d,c]
    .rw [if_neg d]
     by_cases i:x<(k:Int)
     .rw [if_pos i,if_pos Om0]
     .rw [if_neg i,if_neg Om0]
   .rw [e,z,y]
    by_cases t:q=p
    .subst t
     rw [if_pos rfl];constructor
     .intro h;injection h with h;rw [<- h];exact ⟨m,Om0⟩
     .rintro ⟨a,b⟩;rw [m] at a;exact a
    .rw [if_neg t,if_neg Si0,o]
     constructor
     .rintro ⟨a,b⟩;exact ⟨a,Om0⟩
     .rintro ⟨a,b⟩
      refine ⟨a,?_⟩
      have:x≠(k:Int):=by
       rintro rfl;have f:=qE.qp _ _ a;rw [c] at f;injection f with f;exact t f.symm
      omega
def Mt {J:Jr} (h:dp J D has) (j:1<=J.n):dp (Jr.px J.P (Jr.js J)) D has:=by
 have n:=tP h j;have l:=Jr.NB n (by have:=h.ok.p0;omega) h.ok.p1;have e:=gm J;have d:=XK h.ok h.qE J.T.ps.length (A1 _)
 have c:(Jr.px J.P (Jr.js J)).T=j5 J.P (Jr.jJ J) J.T.ps.length:=by
  show j5 J.P (Jr.jJ J) (Jr.jJ J).length=_;rw [e]
 have hps:∀ x,told (Jr.px J.P (Jr.js J)).T.ps x=told J.T.ps x:=by
  intro x;rw [c,d.ps]
  split
  .rfl
  .rename_i r
   cases o:told J.T.ps x with
   | none=>rfl
   | some p=>have:=dq o;omega
 have m:∀ q x,told (Jr.px J.P (Jr.js J)).T.os q=some x->told J.T.os q=some x:=fun q x f=>by
  rw [c] at f;exact ((d.os q x).1 f).1
 have i:(Jr.px J.P (Jr.js J)).n=J.n:=by
  show ((Jr.jJ J).length:Int)=_;rw [e];exact h.ok.ps
 refine ⟨l,⟨h.nums.Mj,h.nums.Vz,h.nums.Tp,h.nums.bS,h.nums.Qg,h.nums.Vu,by rw [i];exact h.nums.n1,⟨?_⟩⟩,h.pH,rfl,h.calm,h.sec,by rw [c];exact d.qE,?_,?_,?_,?_⟩
 .rw [c]
  have:∀ k,k<=J.T.ps.length->(j5 J.P (Jr.jJ J) k).Ls:=by
   intro k
   induction k with
   | zero=>intro _;exact ⟨fun v hv=>.inl (List.eq_of_mem_replicate hv)⟩
   | succ k g=>
    intro d;rw [j5]
    split
    .exact Tb.BG (g Om0) _ _
    .exact g Om0
  exact (this _ (A1 _)).os
 .show J.us+0<=(J.P:Int);have:=h.ok.LV;omega
 .intro p b a;exact h.win p b (m p b a)
 .intro b p a;rw [hps] at a;exact h.ti b p a
 .intro b a;rw [hps] at a;exact h.Qt b a
def JX {J:Jr} (h:dp J D has):∀ x,told (Jr.px J.P (Jr.js J)).T.ps x=told J.T.ps x:=by
 intro x;have c:=gm J;have b:=XK h.ok h.qE J.T.ps.length (A1 _)
 have a:(Jr.px J.P (Jr.js J)).T=j5 J.P (Jr.jJ J) J.T.ps.length:=by
  show j5 J.P (Jr.jJ J) (Jr.jJ J).length=_;rw [c]
 rw [a,b.ps]
 split
 .rfl
 .rename_i e
  cases d:told J.T.ps x with
  | none=>rfl
  | some p=>have:=dq d;omega
def FB {J:Jr} (h:dp J D has) (d:jG J):jG (Jr.px J.P (Jr.js J)):=by
 have b:=gm J;have f:=XK h.ok h.qE J.T.ps.length (A1 _)
 have c:(Jr.px J.P (Jr.js J)).T=j5 J.P (Jr.jJ J) J.T.ps.length:=by
  show j5 J.P (Jr.jJ J) (Jr.jJ J).length=_;rw [b]
 have e:(Jr.px J.P (Jr.js J)).n=J.n:=by
  show ((Jr.jJ J).length:Int)=_;rw [b];exact h.ok.ps
 have g:Jr.tail (Jr.px J.P (Jr.js J))=Jr.tail J:=rfl;intro k j
 have l:kM (Jr.px J.P (Jr.js J)).T J.P (Jr.tail J) k<=kM J.T J.P (Jr.tail J) k:=by
  have:=xj (T:=J.T) (T':=(Jr.px J.P (Jr.js J)).T) (P:=J.P) (f:=Jr.tail J) (f':=Jr.tail J) (c:=0) k fun i m a=>by
   rw [Nat.zero_add];obtain ⟨x,a⟩:=Option.isSome_iff_exists.1 a;rw [c] at a;rw [((f.os _ x).1 a).1];rfl
  rw [Nat.zero_add] at this;omega
 have:=d k j;rw [e,g];show 2*J.us-(k:Int)+2*(kM (Jr.px J.P (Jr.js J)).T J.P (Jr.tail J) k:Int)<=5*J.n
 omega
end Go.Proofs.Nn
