/- Steps. -/
import Derived.Test.YtiomanbgcfjblaaGreatDoorLP26
import Derived.Test.YtiomanbgcfjblaaGreatDoorLP27
set_option linter.all false
set_option maxRecDepth 99999
set_option maxHeartbeats 0
open Go.SL
open Option renaming some->Z'
open Go.SL renaming Om0->Z
open Int renaming emod_nonneg->A1,le_refl->B3,emod_lt_of_pos->D8,natCast_add->D3
open Prod renaming fst->D9
open List renaming getElem?_eq_getElem->D7,getElem_mem->D5,getElem_of_mem->D2
open Option renaming getD_some->D6
open Nat renaming le_refl->D4
namespace Go.Proofs.Nn
open RowKit SL
def sf (a:Int) (P:Nat) (p:Int):Int:=if (a-p)%(P:Int)=0 then (P:Int) else (a-p)%(P:Int)
def DQ (a:Int) {P:Nat} (d:0<P) (p:Int):1<=sf a P p/\sf a P p<=(P:Int):=by
 have b:=A1 (a-p) (show (P:Int)≠0 by omega);have c:=D8 (a-p) (show (0:Int)<(P:Int) by omega);unfold sf;split <;> omega
def JZ (a:Int) {P:Nat} (f:0<P) {p:Int} (c:0<=p) (d:p<(P:Int)):(a-sf a P p)%(P:Int)=p:=by
 have e:=Int.emod_add_mul_ediv (a-p) (P:Int)
 have b:∃ k:Int,a-sf a P p=p+(P:Int)*k:=by
  unfold sf
  split
  .exact ⟨(a-p)/(P:Int)-1,by rw [Int.mul_sub];omega⟩
  .exact ⟨(a-p)/(P:Int),Z⟩
 obtain ⟨k,b⟩:=b;rw [b,Int.add_mul_emod_self_left,Int.emod_eq_of_lt c d]
def RP (b:Int) {P:Nat} (l:0<P) {p a c:Int} (i:b-c<=a) (j:a<b) (k:c<=(P:Int)) (g:p=a%(P:Int)):sf b P p=b-a:=by
 have e:(b-p)%(P:Int)=(b-a)%(P:Int):=by
  rw [g,Int.sub_emod,Int.emod_emod_of_dvd _ (Int.dvd_refl _),<- Int.sub_emod]
 unfold sf;rw [e]
 by_cases f:b-a<(P:Int)
 .rw [Int.emod_eq_of_lt Z f,if_neg Z]
 .have d:b-a=(P:Int):=Z
  rw [d,Int.emod_self,if_pos rfl]
def Kb (a:Int) (P:Nat) (n p:Int):ng a P n p=if p<0 then n else max n (sf a P p):=rfl
def zh (a:Int) (P:Nat):∀ (l:List Int) (n:Int),n<=l.foldl (ng a P) n/\(∀ p ∈ l,0<=p->sf a P p<=l.foldl (ng a P) n)/\∀ M,n<=M->(∀ p ∈ l,0<=p->sf a P p<=M)->l.foldl (ng a P) n<=M
 | [],n=>⟨B3 _,Si0,fun M h _=>h⟩
 | x :: l,n=>by
  rw [List.foldl_cons];obtain ⟨j,f,g⟩:=zh a P l (ng a P n x);have d:=Kb a P n x;refine ⟨?_,fun p b c=>?_,fun M i e=>?_⟩
  .split at d <;> omega
  .rcases List.mem_cons.1 b with rfl|b
   .rw [if_neg Z] at d;omega
   .exact f p b c
  .refine g M ?_ fun p b c=>e p (by simp [b]) c
   rw [d]
   split
   .exact i
   .have:=e x Si0 Z;omega
def _root_.Go.SL.Jr.seen (J:Jr) (ep a:Int):Jr:={ J with ep:=ep,st:=J.sq+1,us:=a,fr:=0 }
structure jd (n:Nat) (J:Jr) (D:aw) (has:Has):Prop where
 inv:dp J D has
 jn:J.n=(n:Int)
 tr:jL n J.P (bq J.P D) J.sq J.hd.toNat (qt J)
def JT.told {n:Nat} {J:Jr} {D:aw} {has:Has} (h:JT n J D has):jd n J D has:=⟨h.inv,h.jn,h.run.tr⟩
section
variable {n:Nat} {J:Jr} {D:aw} {has:Has}
def jd.Kl (h:jd n J D has):Lays J.P (bq J.P D) (dV (n:Int) D J.P):=La fun p t a b=>(h.tr.tag p t a b).2.2.2
def Gf (h:jd n J D has):kx (cQ (dV (n:Int) D J.P)) J.sq n=Jr.jJ J:=by
 have hps:=h.inv.ok.ps;have g:=h.jn;have d:J.T.ps.length=n:=Z
 apply List.ext_getElem
 .rw [kH,gm,d]
 .intro k a f
  rw [kH] at a;have b:=NN h.tr h.Kl a;rw [List.getD,D7 (by rw [kH];exact a),D6] at b;have c:(Jr.jJ J)[k]=(told J.T.ps (k:Int)).getD (-1):=by simp [Jr.jJ]
  rw [b,c];unfold qt
  cases e:told J.T.ps (k:Int) with
  | none=>rfl
  | some p=>
   have:=h.inv.place e;show ((p.toNat:Nat):Int)=p
   omega
def cR (n:Nat) (J:Jr):Int:=BF (Jr.jJ J) J.hd J.P
def CK (h:jd n J D has):0<=cR n J/\cR n J<=J.us/\∀ p b,told J.T.os p=Z' b->sf J.hd J.P p<=cR n J:=by
 obtain ⟨r,s,u⟩:=zh J.hd J.P (Jr.jJ J) 0
 have v:∀ p ∈ Jr.jJ J,0<=p->∃ b,told J.T.ps b=Z' p:=by
  intro p f g;obtain ⟨k,w,e⟩:=D2 f;have d:(Jr.jJ J)[k]=(told J.T.ps (k:Int)).getD (-1):=by simp [Jr.jJ]
  rw [e] at d
  cases c:told J.T.ps (k:Int) with
  | none=>rw [c,Option.getD_none] at d;omega
  | some q=>rw [c,D6] at d;exact ⟨k,by rw [c,d]⟩
 refine ⟨r,u _ h.inv.ok.uH fun p f g=>?_,fun p b f=>s p ?_ ?_⟩
 .obtain ⟨b,c⟩:=v p f g
  obtain ⟨a,i,j,a3⟩:=h.inv.win _ _ (h.inv.qE.pq _ _ c);rw [RP J.hd h.inv.ok.p0 i j h.inv.ok.LV a3];omega
 .have c:=h.inv.qE.qp _ _ f
  have x:=dq c;have d:(Jr.jJ J)[b.toNat]'(by rw [gm];omega)=(told J.T.ps ((b.toNat:Nat):Int)).getD (-1):=by simp [Jr.jJ]
  have l:((b.toNat:Nat):Int)=b:=Z
  rw [l,c,D6] at d;exact d▸D5 _
 .exact (dq f).1
def rh (h:jd n J D has) {ep:Int} (f:1<=ep) (g:ep<4294967296):dp (J.seen ep (cR n J)) D has:=by
 obtain ⟨u0,u1,u2⟩:=CK h;have b:=h.inv;have a:=b.ok;have c:=b.nums;have l:=a.LV;refine ⟨⟨a.p0,a.p1,a.T,a.ps,a.os,u0,by show cR n J<=(J.P:Int);omega,a.Bf,a.xL,B3 _,by show (0:Int)<=48;decide⟩,⟨f,g,by show 1<=J.sq+1;have:=c.Qg;omega,B3 _,c.Qg,c.Vu,c.n1,c.own⟩,b.pH,b.br,b.calm,b.sec,b.qE,by show cR n J+0<=(J.P:Int);omega,?_,b.ti,b.Qt⟩;intro p e d;have k:=DQ J.hd a.p0 p;have j:=u2 p e d;have i:=dq (show told J.T.os p=Z' e from d);refine ⟨J.hd-sf J.hd J.P p,by show J.hd-cR n J<=_;omega,by show _<J.hd;omega,(JZ J.hd a.p0 i.1 ?_).symm⟩;have:=a.os;omega
def I8 (h:jd n J D has) (f:J.sq<281474976710655) (b:lE (dV (n:Int) D J.P)≠4294967295) :
  xo (dV (n:Int) D J.P) J.P n=Z' (Jr.js (J.seen (lE (dV (n:Int) D J.P)+1) (cR n J))):=by
 have e:=P7 h.tr h.Kl;have c:=FH h.tr h.Kl;have d:((J.hd.toNat:Nat):Int)=J.hd:=by have:=h.inv.ok.Bf;omega
 unfold xo;rw [e,if_neg (by rintro (a|a);exact b a;omega),c,Gf h,d]
 rfl
def Mb (h:jd n J D has) {E:Int} (c:∀ p t,p<J.P->bq J.P D p=Z' t->t.ep<=E) (b:0<=E):lE (dV (n:Int) D J.P)<=E:=
 qe (fun x:dS=>x.1.ep) _ 0 b fun x d=>by
  have a:=(h.Kl.iff x.1 x.2).1 d;exact c _ _ a.1 a.2
def Vp (h:jd n J D has) {p:Nat} {t:Tg} (a:p<J.P) (b:bq J.P D p=Z' t):t.ep<=lE (dV (n:Int) D J.P):=
 (mP (fun x:dS=>x.1.ep) (dV (n:Int) D J.P) 0).2 (t,p) ((h.Kl.iff t p).2 ⟨a,b⟩)
end
def aw.xT (D:aw):aw:={ D with wait:=[] }
def sJ (D:aw) (a:Int):(aw.xT D).aG a=if (aA D.jI a).isSome then (3,[]) else (0,bB 512 (D.sec.getD a.toNat [])):=rfl
def ER (D:aw) (f:Int) (x:Int × List UInt8) (j:D.has x.1) (a:Int) (i:D.has a) :
  (aw.xT (D.vH f x)).aG a=if x.1=a then (if f=1 then (0,bB 512 x.2) else if f=2 then (3,[]) else (aw.xT D).aG a) else (aw.xT D).aG a:=by
 unfold aw.vH
 by_cases b:f=1
 .rw [if_pos b,if_pos b]
  have h:=wT (aw.xT D) x j rfl a i;have e:aw.xT (D.done x)=(aw.xT D).done x:=rfl;rw [e,h]
 .rw [if_neg b,if_neg b]
  by_cases c:f=2
  .rw [if_pos c,if_pos c,sJ,sJ]
   have e:(D.Oa x).jI=SL.dM D.jI x.1 ():=rfl;have g:(D.Oa x).sec=D.sec:=rfl;rw [e,g,eM]
   by_cases d:x.1=a
   .rw [if_pos d,if_pos d.symm];rfl
   .rw [if_neg d,if_neg (show ¬ a=x.1 from fun q=>d q.symm)]
  .rw [if_neg c,if_neg c]
   split <;> rfl
def uu (D:aw) (aH:List Int) (H:∀ x ∈ D.wait,D.has x.1) (A:(D.wait.map D9).Nodup) (a:Int) (l:D.has a):∀ k,k<=D.wait.length ->
  (∀ i (b:i<D.wait.length),i<k->a=D.wait[i].1->(aw.xT (D.dF aH k)).aG a=if aH.getD i 0=1 then (0,bB 512 D.wait[i].2) else if aH.getD i 0=2 then (3,[]) else (aw.xT D).aG a) /\
  ((∀ i (b:i<D.wait.length),i<k->a≠D.wait[i].1)->(aw.xT (D.dF aH k)).aG a=(aw.xT D).aG a):=by
 intro k
 induction k with
 | zero=>intro _;exact ⟨fun i _ b=>absurd b (Nat.not_lt_zero i),fun _=>rfl⟩
 | succ k M=>
  intro R;obtain ⟨u,g⟩:=M Z;obtain ⟨O,Q,f⟩:=iw D aH k;have w:D.wait[k]?=Z' D.wait[k]:=D7 Z
  have F:D.dF aH (k+1)=(D.dF aH k).vH (aH.getD k 0) D.wait[k]:=by
   show (match D.wait[k]? with|some p=>_|none=>_)=_
   rw [w]
  have I:(D.dF aH k).has D.wait[k].1:=by
   have:=H _ (D5 (by omega:k<D.wait.length));unfold aw.has at this ⊢;rw [f];exact this
  have v:(D.dF aH k).has a:=by unfold aw.has at l ⊢;rw [f];exact l
  have G:=ER (D.dF aH k) (aH.getD k 0) D.wait[k] I a v;rw [F,G]
  have r:∀ i (b:i<D.wait.length),i<k->D.wait[k].1≠D.wait[i].1:=by
   intro i b d e;have s:(D.wait.map D9)[k]'(by rw [List.length_map];omega)=(D.wait.map D9)[i]'(by simpa using b):=by simpa using e
   have:=PQ A _ _ s;omega
  refine ⟨fun i b d e=>?_,fun h=>?_⟩
  .rcases Nat.lt_or_eq_of_le (Nat.lt_succ_iff.1 d) with c|c
   .rw [if_neg (fun q=>r i b c (q.trans e))]
    exact u i b c e
   .subst c
    rw [if_pos e.symm];have C:=g fun j y z q=>r j y z (e.symm.trans q);rw [C]
  .rw [if_neg (fun q=>h k Z Z q.symm)]
   exact g fun i b d=>h i b Z
def aw.again (D:aw) (aH:List Int):aw:={ D.fY aH with down:=false }
def FD (D:aw) (aH:List Int):(aw.again D aH).Calm:=⟨rfl,rfl⟩
def tS (D:aw) (aH:List Int) (a:Int):(aw.again D aH).aG a=(aw.xT (D.dF aH D.wait.length)).aG a:=rfl
structure DN (J:Jr) (D:aw) (has:Has) (L:Bl) (m:Nat) (E:aw):Prop where
 sec:E.sec=D.ay.sec
 jI:E.jI=D.ay.jI
 wait:E.wait=nX J (eQ (L++aS J has L)) m
 m:m<=(L++aS J has L).length
def OJ (J:Jr) (D:aw) (has:Has) (L:Bl):DN J D has L (L++aS J has L).length (kS J D has L):=⟨rfl,rfl,rfl,D4 _⟩
def tO (D:aw):D.ay.sec.length=D.sec.length:=by
 show (({ D with cf:=bP (D.cf+1) }:aw).bY D.wait).sec.length=_
 generalize D.wait=l
 have:∀ (l:List (Int × List UInt8)) (D:aw),(D.bY l).sec.length=D.sec.length:=by
  intro l
  induction l with
  | nil=>intro D;rfl
  | cons x l a=>
   intro D;show (aw.bY (D.done x) l).sec.length=_
   rw [a,(D.kG x).1]
 exact this l _
section
variable {n:Nat} {J:Jr} {D E:aw} {has:Has} {L:Bl} {m:Nat} {aH:List Int}
def DN.xT (h:DN J D has L m E) (a:Int):(aw.xT E).aG a=D.ay.aG a:=by
 rw [sJ,h.sec,h.jI];rfl
def DN.len (h:DN J D has L m E):E.wait.length=m:=by rw [h.wait];simp [nX]
def DN.get (h:DN J D has L m E) (i:Nat) (a:i<E.wait.length) :
  E.wait[i]=((J.hd+(i:Int))%(J.P:Int)+1,enc (J.tag i (eQ (L++aS J has L)).length ((eQ (L++aS J has L)).getD i Wr.nil).1)++((eQ (L++aS J has L)).getD i Wr.nil).2.2):=by
 have:∀ (l:List (Int × List UInt8)) (e:E.wait=l) (b:i<l.length),E.wait[i]=l[i]:=by intro l e b;subst e;rfl
 rw [this _ h.wait (by rw [<- h.wait];exact a)];simp [nX]
def DN.nd (h:DN J D has L m E) (k:dp J D has) (r:m<=J.P):(E.wait.map D9).Nodup:=by
 rw [h.wait];unfold nX;rw [List.map_map,List.nodup_iff_pairwise_ne,List.pairwise_map];refine List.Pairwise.imp_of_mem ?_ (List.nodup_iff_pairwise_ne.1 (List.nodup_range (n:=m)));intro a b f g i e;have l:=List.mem_range.1 f;have q:=List.mem_range.1 g;have j:(J.hd+(a:Int))%(J.P:Int)+1=(J.hd+(b:Int))%(J.P:Int)+1:=e;have c:(J.hd+(a:Int))%(J.P:Int)=(J.hd+(b:Int))%(J.P:Int):=Z
 rcases Nat.lt_or_gt_of_ne i with d|d
 .exact gY (a:=J.hd+(b:Int)) (b:=J.hd+(a:Int)) Z Z c.symm
 .exact gY (a:=J.hd+(a:Int)) (b:=J.hd+(b:Int)) Z Z c
def sY (h:DN J D has L m E) (b:dp J D has) (s:Batch J.n L) (A:¬ (J.P:Int)-J.us-J.fr<((L++aS J has L).length:Int)) :
  (∀ i:Nat,i<m->(aw.again E aH).aG ((J.hd+(i:Int))%(J.P:Int)+1)=if aH.getD i 0=1 then (0,enc (uv J (L++aS J has L) i)++((L++aS J has L).getD i (0,[])).2) else if aH.getD i 0=2 then (3,[]) else D.aG ((J.hd+(i:Int))%(J.P:Int)+1)) /\
  ∀ a:Int,D.has a->(∀ i:Nat,i<m->a≠(J.hd+(i:Int))%(J.P:Int)+1)->(aw.again E aH).aG a=D.aG a:=by
 have r:=Fv b s;have C:=b.ok.SX;have Q:=b.ok.uH;have H:=b.ok.p0;have G:=h.m;have v:m<=J.P:=Z
 have y:(eQ (L++aS J has L)).length=(L++aS J has L).length:=by simp [eQ]
 have M:=b.sec;have F:=h.len;have O:E.sec.length=D.sec.length:=by rw [h.sec,tO]
 have l:∀ i:Nat,0<=(J.hd+(i:Int))%(J.P:Int)/\(J.hd+(i:Int))%(J.P:Int)<(J.P:Int):=fun i=>⟨A1 _ Z,D8 _ Z⟩
 have q:∀ x ∈ E.wait,E.has x.1:=by
  intro x z;obtain ⟨i,d,e⟩:=D2 z;rw [h.get i d] at e;subst e;have:=l i;exact ⟨by show (0:Int)<=_+1;omega,by show _+1<(E.sec.length:Int);omega⟩
 have k:=h.nd b v;refine ⟨fun i d=>?_,fun a c w=>?_⟩
 .have I:=l i
  have f:i<E.wait.length:=Z
  have c:D.has ((J.hd+(i:Int))%(J.P:Int)+1):=⟨Z,Z⟩
  have j:E.has ((J.hd+(i:Int))%(J.P:Int)+1):=⟨Z,Z⟩
  have g:=(uu E aH q k _ j E.wait.length (D4 _)).1 i f f (by rw [h.get i f]);have u:(L++aS J has L).getD i (0,[]) ∈ L++aS J has L:=by rw [List.getD,D7 Z];exact D5 _
  rw [tS,g,h.xT,bZ b.pH _ c,h.get i f];simp only;rw [y,(ea _ _).1,(ea _ _).2,kB,ia (by rw [List.length_append,cV,(r.b _ u).1])]
  rfl
 .have j:E.has a:=⟨c.1,by have:=c.2;omega⟩
  have g:=(uu E aH q k _ j E.wait.length (D4 _)).2 fun i d _ e=>w i Z (by rw [e,h.get i d]);rw [tS,g,h.xT,bZ b.pH _ c]
def Br (h:DN J D has L m E) (g:JT n J D has) (u:Batch J.n L) (y:J.sq<281474976710655) (v:¬ (J.P:Int)-J.us-J.fr<((L++aS J has L).length:Int)) (C:2*n<=J.P) :
  Part J.P (bq J.P D) (bq J.P (aw.again E aH)) J.hd.toNat (L++aS J has L).length (uv J (L++aS J has L)) /\
  (∀ i,i<(L++aS J has L).length->(bq J.P (aw.again E aH) ((J.hd.toNat+i)%J.P)=Z' (uv J (L++aS J has L) i)↔i<m/\aH.getD i 0=1)):=by
 have r:=ki g u y C v;have G:=g.inv.nums.numbers y;obtain ⟨O,z⟩:=sY (aH:=aH) h g.inv u v;have W:=g.inv.sec;have x:=g.inv.ok.p0;have T:=h.m;have S:=g.inv.ok.SX;have X:=g.inv.ok.uH;have M:∀ i:Nat,0<=(J.hd+(i:Int))%(J.P:Int)/\(J.hd+(i:Int))%(J.P:Int)<(J.P:Int):=fun i=>⟨A1 _ Z,D8 _ Z⟩
 have H:∀ i,i<(L++aS J has L).length->bq J.P D ((J.hd.toNat+i)%J.P)≠Z' (uv J (L++aS J has L) i):=by
  intro i d e;have f:=g.run.ep _ _ (Nat.mod_lt _ x) e;have Q:=(f.2 (r.ok i d).2.1).2.sq;have R:=(r.ok i d).2.2.2.1;omega
 have q:∀ i,i<(L++aS J has L).length->(i<m/\aH.getD i 0=1/\bq J.P (aw.again E aH) ((J.hd.toNat+i)%J.P)=Z' (uv J (L++aS J has L) i)) \/
   (¬ (i<m/\aH.getD i 0=1)/\(bq J.P (aw.again E aH) ((J.hd.toNat+i)%J.P)=bq J.P D ((J.hd.toNat+i)%J.P)\/bq J.P (aw.again E aH) ((J.hd.toNat+i)%J.P)=none)):=by
  intro i d;have I:=ig g.inv.ok i
  by_cases s:i<m
  .have f:=O i s
   rw [<- I] at f
   by_cases j:aH.getD i 0=1
   .rw [if_pos j] at f
    exact .inl ⟨s,j,xD (Nat.mod_lt _ x) f (Jr.uX G _ _ _) (r.ok i d).1⟩
   .rw [if_neg j] at f
    refine .inr ⟨fun c=>j c.2,?_⟩
    by_cases w:aH.getD i 0=2
    .rw [if_pos w] at f
     right;unfold bq;rw [f,if_neg Si0]
    .rw [if_neg w] at f
     exact .inl (lY f)
  .refine .inr ⟨fun c=>s c.1,.inl (lY ?_)⟩
   have V:=M i;refine z _ ⟨Z,Z⟩ fun k j e=>?_;have A:(J.hd+(i:Int))%(J.P:Int)=(J.hd+(k:Int))%(J.P:Int):=Z
   exact gY (a:=J.hd+(i:Int)) (b:=J.hd+(k:Int)) Z Z A
 refine ⟨⟨fun i d=>?_,fun p U F=>?_⟩,fun i d=>⟨fun e=>?_,fun ⟨a,b⟩=>?_⟩⟩
 .rcases q i d with ⟨_,_,e⟩|⟨_,e|e⟩
  .exact .inl e
  .exact .inr (.inl e)
  .exact .inr (.inr e)
 .refine lY (z _ ⟨Z,Z⟩ fun i d e=>F i Z (zm g.inv.ok e))
 .rcases q i d with ⟨a,b,_⟩|⟨_,l|l⟩
  .exact ⟨a,b⟩
  .exact absurd (l▸e) (H i d)
  .rw [l] at e;cases e
 .rcases q i d with ⟨_,_,e⟩|⟨c,_⟩
  .exact e
  .exact absurd ⟨a,b⟩ c
def Bz (h:DN J D has L m E) (a:dp J D has):(aw.again E aH).Ok/\(aw.again E aH).sec.length=D.sec.length:=by
 have b:=(iw E aH E.wait.length).2.2;have c:E.sec.length=D.sec.length:=by rw [h.sec,tO]
 have e:(aw.again E aH).sec.length=D.sec.length:=b.trans c;exact ⟨⟨by rw [e];exact a.pH.n,by simp [aw.again,aw.fY],by simp [aw.again,aw.fY],by simp [aw.again,aw.fY]⟩,e⟩
def NR (h:DN J D has L m E) (c:JT n J D has) (g:Batch J.n L) (r:J.sq<281474976710655) (j:¬ (J.P:Int)-J.us-J.fr<((L++aS J has L).length:Int)) (l:2*n<=J.P)
  {f:Nat} (k:f<(L++aS J has L).length) (w:¬ (f<m/\aH.getD f 0=1)):jd n J (aw.again E aH) has:=by
 obtain ⟨d,x⟩:=Br (aH:=aH) h c g r j l;have q:=ki c g r l j;have y:=FX q c.run d k fun e=>w ((x f k).1 e);obtain ⟨_,C⟩:=sY (aH:=aH) h c.inv g j;obtain ⟨z,A⟩:=Bz (aH:=aH) h c.inv;have a:=c.inv;have I:=a.ok.p0;have H:=h.m;refine ⟨⟨a.ok,a.nums,z,a.br,FD _ _,by rw [A];exact a.sec,a.qE,a.rm,a.win,fun s p d=>?_,a.Qt⟩,c.jn,y⟩;obtain ⟨t,b,u,v,a3,a4⟩:=a.ti s p d;have M:=a.place d;refine ⟨t,b,u,v,?_,a4⟩;rw [C (p+1) (a.xt d) fun i G e=>?_]
 .exact a3
 .have F:=q.free s p.toNat (by unfold qt;rw [d];rfl) i Z
  have:=ig a.ok i;omega
end
def Fu {n:Nat} {J:Jr} {D:aw} {has:Has} (h:jd n J D has) (d:jG J) (ep:Int):jG (J.seen ep (cR n J)):=by
 obtain ⟨u0,u1,_⟩:=CK h;have w:=h.inv.ok.p0;intro k f;have v:(k:Int)<=cR n J:=f;have q:(J.seen ep (cR n J)).us=cR n J:=rfl;obtain ⟨c,r⟩:∃ c:Nat,(c:Int)=J.us-cR n J:=⟨(J.us-cR n J).toNat,Z⟩
 have s:=xj (T:=J.T) (T':=J.T) (P:=J.P) (f:=Jr.tail J) (f':=Jr.tail (J.seen ep (cR n J))) (c:=c) k fun i u g=>by
  have e:((Jr.tail (J.seen ep (cR n J))+i)%J.P:Nat)=(Jr.tail J+(c+i))%J.P:=by
   have a:((Jr.tail (J.seen ep (cR n J)):Nat):Int)=(J.hd-cR n J)%(J.P:Int):=Int.toNat_of_nonneg (A1 _ (show (J.P:Int)≠0 by omega));have b:((Jr.tail J:Nat):Int)=(J.hd-J.us)%(J.P:Int):=Int.toNat_of_nonneg (A1 _ (show (J.P:Int)≠0 by omega))
   have j:(((Jr.tail (J.seen ep (cR n J))+i)%J.P:Nat):Int)=(((Jr.tail J+(c+i))%J.P:Nat):Int):=by
    rw [Int.natCast_emod,Int.natCast_emod,D3,D3,D3,a,b,Int.emod_add_emod,Int.emod_add_emod];congr 1;omega
   omega
  rw [<- e];exact g
 have l:=d (c+k) Z;show 2*cR n J-(k:Int)+2*(kM J.T J.P (Jr.tail (J.seen ep (cR n J))) k:Int)<=5*J.n
 omega
def _root_.Go.SL.Jr.opened (n:Nat) (J:Jr) (ep:Int):Jr:=Jr.px J.P (Jr.js (J.seen ep (cR n J)))
section
variable {n P B:Nat} {J:Jr} {D:aw} {has:Has} {ep:Int}
def En (h:jd n J D has) (c:1<=n) (a:1<=ep) (b:ep<4294967296):dp (J.opened n ep) D has:=Mt (rh h a b) (by show 1<=J.n;rw [h.jn];omega)
def Dj (h:jd n J D has) (a:1<=ep) (b:ep<4294967296):∀ x,told (J.opened n ep).T.ps x=told J.T.ps x:=JX (J:=J.seen ep (cR n J)) (rh h a b)
def Oo (h:jd n J D has):(J.opened n ep).n=(n:Int):=by
 show ((Jr.jJ J).length:Int)=_
 rw [gm,h.inv.ok.ps,h.jn]
def Ai (h:jd n J D has) (c:jG J) (a:1<=ep) (b:ep<4294967296):jG (J.opened n ep):=FB (rh h a b) (Fu h c ep)
def Lu (h:jd n J D has) (d:1<=n) (c:∀ p t,p<J.P->bq J.P D p=Z' t->t.ep<ep) (a:1<=ep) (b:ep<4294967296):JT n (J.opened n ep) D has:=by
 refine ⟨En h d a b,Oo h,?_⟩
 have e:qt (J.opened n ep)=qt J:=by
  funext f;unfold qt;rw [Dj h a b]
 rw [e];exact h.tr.run c
end
structure uy (n P B:Nat) (Sp:List UInt8) (J:Jr) (D:aw) (has:Has):Prop where
 told:jd n J D has
 bound:jG J
 jP:J.P=P
 sq:J.sq<=(B:Int)
 ep:∀ p t,p<P->bq P D p=some t->t.ep<=(B:Int)
 sup:D.aG 0=(0,Sp)
structure Sj (n P B:Nat) (Sp:List UInt8) (J:Jr) (D:aw) (has:Has):Prop where
 jt:JT n J D has
 bound:jG J
 jP:J.P=P
 sq:J.sq<=(B:Int)
 ep:J.ep<=(B:Int)
 sup:D.aG 0=(0,Sp)
section
variable {n P B:Nat} {Sp:List UInt8} {J:Jr} {D E:aw} {has:Has} {L:Bl} {m:Nat} {aH:List Int}
def Sj.more {a:Nat} (h:Sj n P B Sp J D has) (b:B<=a):Sj n P a Sp J D has:=⟨h.jt,h.bound,h.jP,by have:=h.sq;omega,by have:=h.ep;omega,h.sup⟩
def uy.more {a:Nat} (h:uy n P B Sp J D has) (d:B<=a):uy n P a Sp J D has:=⟨h.told,h.bound,h.jP,by have:=h.sq;omega,fun p t b c=>by have:=h.ep p t b c;omega,h.sup⟩
def Sj.Mj (h:Sj n P B Sp J D has):∀ p t,p<P->bq P D p=Z' t->t.ep<=J.ep:=fun p t a b=>by
 have c:=h.jP;subst c;exact (h.jt.run.ep p t a b).1
def Sj.Yx (h:Sj n P B Sp J D has):∀ p t,p<P->bq P D p=Z' t->t.ep<=(B:Int):=fun p t a b=>Int.le_trans (h.Mj p t a b) h.ep
def Sj.Vw (h:Sj n P B Sp J D has):uy n P B Sp J D has:=⟨h.jt.told,h.bound,h.jP,h.sq,h.Yx,h.sup⟩
def Sj.dev (h:Sj n P B Sp J D has) (c:dp J E has) (b:∀ a,D.has a->E.aG a=D.aG a):Sj n P B Sp J E has:=by
 have e:=h.jt.inv.sec;exact ⟨h.jt.dev c fun p d=>b _ ⟨Z,Z⟩,h.bound,h.jP,h.sq,h.ep,by rw [b 0 ⟨Z,Z⟩];exact h.sup⟩
def Sj.cr (h:Sj n P B Sp J D has) (r:Int):Sj n P B Sp J { D with cr:=r } has:=h.dev (h.jt.inv.cr r) fun _ _=>rfl
def Sj.ay (h:Sj n P B Sp J D has):Sj n P B Sp J D.ay has:=h.dev h.jt.inv.ay fun a b=>bZ h.jt.inv.pH a b
def uy.dev (h:uy n P B Sp J D has) (d:dp J E has) (b:∀ a,D.has a->E.aG a=D.aG a):uy n P B Sp J E has:=by
 have g:=h.told.inv.sec;have c:=h.jP;subst c;have e:bq J.P E=bq J.P D:=jT fun p f=>b _ ⟨Z,Z⟩;exact ⟨⟨d,h.told.jn,by rw [e];exact h.told.tr⟩,h.bound,rfl,h.sq,by rw [e];exact h.ep,by rw [b 0 ⟨Z,Z⟩];exact h.sup⟩
def uy.cr (h:uy n P B Sp J D has) (r:Int):uy n P B Sp J { D with cr:=r } has:=h.dev (h.told.inv.cr r) fun _ _=>rfl
def uy.ay (h:uy n P B Sp J D has):uy n P B Sp J D.ay has:=h.dev h.told.inv.ay fun a b=>bZ h.told.inv.pH a b
def uy.Yk (h:uy n P B Sp J D has):lE (dV (n:Int) D P)<=(B:Int)/\0<=lE (dV (n:Int) D P):=by
 have a:=h.jP;subst a;exact ⟨Mb h.told h.ep Z,(mP (fun x:dS=>x.1.ep) (dV (n:Int) D J.P) 0).1⟩
def uy.opened (h:uy n P B Sp J D has) (b:1<=n) (g:B<=1000000):Sj n P (B+1) Sp (J.opened n (lE (dV (n:Int) D P)+1)) D has:=by
 obtain ⟨e,f⟩:=h.Yk;have a:=h.jP;subst a;refine ⟨Lu h.told b (fun p t c d=>by have:=Vp h.told c d;omega) Z Z,Ai h.told h.bound Z Z,rfl,by show J.sq<=_;have:=h.sq;omega,?_,h.sup⟩;show lE (dV (n:Int) D J.P)+1<=_
 omega
def Sj.room (h:Sj n P B Sp J D has) (b:5*n+240<=2*P) (a:Batch (n:Int) L):¬ (J.P:Int)-J.us-J.fr<((L++aS J has L).length:Int):=
 F3 h.jt.inv h.bound (by rw [h.jt.jn,h.jP];omega) (by rw [h.jt.jn];exact a)
def Db (h:dp J D has) (b:¬ (J.P:Int)-J.us-J.fr<((L++aS J has L).length:Int)):(kS J D has L).aG 0=D.aG 0:=by
 have c:=h.ok.SX;have j:=h.ok.uH;have f:=h.ok.p0;have g:=h.sec
 have a:=(qo J h.ok.p0 (eQ (L++aS J has L)) 0 (L++aS J has L).length Z).2 fun i d e=>by
  have:=A1 (J.hd+(i:Int)) (show (J.P:Int)≠0 by omega);omega
 have e:(kS J D has L).aG 0=D.ay.aG 0:=by
  unfold aw.aG;show (match dg (nX J (eQ (L++aS J has L)) (L++aS J has L).length) _ with|some l=>_|none=>_)=_
  rw [a]
  rfl
 rw [e];exact bZ h.pH _ ⟨Z,Z⟩
def Sj.nS (h:Sj n P B Sp J D has) (f:5*n+240<=2*P) (g:B<=1000000) (c:Batch (n:Int) L) :
  dJ J D true L=(0,J.done (L++aS J has L) (J.aJ L.length),kS J D has L)/\Sj n P (B+1) Sp (J.done (L++aS J has L) (J.aJ L.length)) (kS J D has L) (kR has L):=by
 have b:Batch J.n L:=by rw [h.jt.jn];exact c
 have d:J.sq<281474976710655:=by have:=h.sq;omega
 have a:=h.room f c;have e:2*n<=J.P:=by rw [h.jP];omega
 refine ⟨(vK h.jt.inv b d a).run,Jw h.jt b d a e,ED h.jt.inv h.bound b a,h.jP,?_,by show J.ep<=_;have:=h.ep;omega,?_⟩
 .show J.sq+1<=_;have:=h.sq;omega
 .rw [Db h.jt.inv a];exact h.sup
def Ef (h:DN J D has L m E) (a:dp J D has) (b:Batch J.n L) (c:¬ (J.P:Int)-J.us-J.fr<((L++aS J has L).length:Int)):(aw.again E aH).aG 0=D.aG 0:=by
 have g:=a.sec;have f:=a.ok.p0;refine (sY h a b c).2 0 ⟨Z,Z⟩ fun i d e=>?_;have:=A1 (J.hd+(i:Int)) (show (J.P:Int)≠0 by omega);omega
def GY (h:DN J D has L m E) (a:Sj n P B Sp J D has) (k:5*n+240<=2*P) (u:B<=1000000) (c:Batch (n:Int) L):∀ p t,p<P->bq P (aw.again E aH) p=Z' t->t.ep<=J.ep:=by
 have d:Batch J.n L:=by rw [a.jt.jn];exact c
 have f:J.sq<281474976710655:=by have:=a.sq;omega
 have e:=a.room k c;have r:=a.jP;subst r;obtain ⟨s,_⟩:=Br (aH:=aH) h a.jt d f e Z;have l:=ki a.jt d f Z e;intro p t b g;rcases s.aG b g with j|⟨i,q,_,rfl⟩
 .exact a.Mj p t b j
 .rw [(l.ok i q).2.1];exact B3 _
def Q1 (h:DN J D has L m E) (a:Sj n P B Sp J D has) (e:5*n+240<=2*P) (d:B<=1000000) (f:Batch (n:Int) L):∀ p t,p<P->bq P (aw.again E aH) p=Z' t->t.ep<=(B:Int):=fun p t b c=>Int.le_trans (GY h a e d f p t b c) a.ep
def M6 (h:DN J D has L m E) (a:Sj n P B Sp J D has) (f:5*n+240<=2*P) (j:B<=1000000) (d:Batch (n:Int) L) {e:Nat} (b:e<(L++aS J has L).length) (c:¬ (e<m/\aH.getD e 0=1)):uy n P (B+1) Sp J (aw.again E aH) has:=by
 have g:Batch J.n L:=by rw [a.jt.jn];exact d
 have k:J.sq<281474976710655:=by have:=a.sq;omega
 have i:=a.room f d;exact ⟨NR (aH:=aH) h a.jt g k i (by rw [a.jP];omega) b c,a.bound,a.jP,by have:=a.sq;omega,fun p t b c=>by have:=Q1 (aH:=aH) h a f j d p t b c;omega,by rw [Ef (aH:=aH) h a.jt.inv g i];exact a.sup⟩
end
end Go.Proofs.Nn
namespace Go.SL
open RowKit
abbrev Ar:=Option (Nat × List Int)
def VL (o:Ar):Prop:=∃ K,o=Z' (0,K)
instance (o:Ar):Decidable (VL o):=match o with
 | none=>isFalse fun ⟨_,h⟩=>by cases h
 | some (0,K)=>isTrue ⟨K,rfl⟩
 | some (N+1,K)=>isFalse fun ⟨_,h⟩=>by injection h with h;injection h with h _;cases h
end Go.SL
namespace Go.Proofs.Nn
open RowKit SL
def N8 (has:Has) (id:Int):List UInt8:=(has id).getD (zs 480)
def MT (a b:Has):Prop:=∀ c,N8 a c=N8 b c
section
variable {n P B:Nat} {Sp:List UInt8} {J:Jr} {D E:aw} {has:Has} {L:Bl} {m:Nat} {K:List Int} {o:Ar}
def GH (h:dp J D has) (id:Int):(N8 has id).length=480:=by
 unfold N8
 cases a:told J.T.ps id with
 | none=>rw [h.Qt id a];show (zs 480).length=480;exact List.length_replicate
 | some p=>
  obtain ⟨t,b,c,d,_⟩:=h.ti id p a;rw [c];exact d
def w0 (has:Has):Bl:=[((0:Int),N8 has 0)]
def Mz (h:dp J D has) (b:1<=n):Batch (n:Int) (w0 has):=
 ⟨by simp [w0],by simp [w0],fun x a=>by simp [w0] at a;subst a;exact ⟨B3 _,by show (0:Int)<_;omega⟩,fun x a=>by simp [w0] at a;subst a;exact GH h 0,by simp [w0]⟩
def Rz (has:Has):MT (kR has (w0 has)) has:=by
 intro a;show ((aA (w0 has) a).or (has a)).getD (zs 480)=_
 by_cases h:a=0
 .subst h
  simp [w0,aA]
 .have:aA (w0 has) a=none:=by simp [w0,aA];exact fun e=>h e.symm
  rw [this];rfl
def zB (c:Int) (a b:Nat):df (df c a) b=df c (a+b):=by
 induction b with
 | zero=>rfl
 | succ b d=>show bP (df (df c a) b+1)=bP (df c (a+b)+1);rw [d]
def JQ (a:D.wait=[]) (K:List Int) (k:Nat):D.dF K k=D:=by
 induction k with
 | zero=>rfl
 | succ k b=>rw [aw.dF,a];simpa using b
def zC (h:D.Calm) (a:D.wait=[]):aw.again D K={ D with eO:=false,left:=0,aH:=[] }:=by
 unfold aw.again aw.fY;rw [JQ a];obtain ⟨d,f,a3,a4,a5,g,i,j,a9,e⟩:=D;obtain ⟨b,c⟩:=h;simp only at b c a;subst b;subst a
 rfl
def uy.xT (h:uy n P B Sp J D has) (b:D.wait=[]):uy n P B Sp J (aw.again D K) has:=by
 have a:=h.told.inv;rw [zC a.calm b];refine h.dev (a.dev ⟨a.pH.n,a.pH.wait,a.pH.many,?_⟩ ⟨a.calm.down,rfl⟩ rfl fun _ _=>rfl) fun _ _=>rfl;show (0:Nat)<=_
 omega
end
end Go.Proofs.Nn
