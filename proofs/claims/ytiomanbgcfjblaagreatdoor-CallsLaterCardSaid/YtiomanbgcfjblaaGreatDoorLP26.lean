/- Steps. -/
import Derived.Test.YtiomanbgcfjblaaGreatDoorLP17
import Derived.Test.YtiomanbgcfjblaaGreatDoorLP25
set_option linter.all false
set_option maxRecDepth 99999
set_option maxHeartbeats 0
open Go.SL
open Go.Value renaming int->Z,slice->W
open Go.IntKind renaming i64->V,u64->R
open Go.Obj renaming cells->Q
open Option renaming some->Y,none->X
open Bool renaming true->O,false->Z'
open Go.SL renaming Om0->U
open Go.Proofs.Tryz
open List renaming getD->B3,getElem?_eq_getElem->D4,foldl_cons->D3,range->E5,length_replicate->E3,getElem_mem->G3,getElem?_set->H3,length_append->J7,getElem?_replicate->J5,getElem_of_mem->J3,replicate->J2,setIfInBounds_toArray->K8,set_cons_succ->K7,set_cons_zero->K6
open Prod renaming fst->D7
open Nat renaming mod_lt->D2,mod_eq_of_lt->E4,lt_or_eq_of_le->H2,add_mod_right->K9
open Int renaming le_refl->E2
open Option renaming getD_some->H4
open Bool renaming and_eq_true->J4
namespace Go.SL
open RowKit
def xX (L:List dS):Int:=L.foldl (fun m x=>max m x.1.fl) 0
def lE (L:List dS):Int:=L.foldl (fun m x=>max m x.1.ep) 0
def BY {d:Type} (f:d->Int) (M:Int) (L:List d) (h:∀ x ∈ L,f x<=M):∀ a,0<=a->a<=M->0<=L.foldl (fun m x=>max m (f x)) a/\L.foldl (fun m x=>max m (f x)) a<=M:=by
 induction L with
 | nil=>intro a h0 b;exact ⟨h0,b⟩
 | cons x L g=>
  intro a h0 b;have j:=h x Si0;exact g (fun y hy=>h y (by simp [hy])) (max a (f x)) U U
end Go.SL
namespace Go.Proofs.Nn
open RowKit SL
variable {w:World} {v:Value} {F:ai}
def MK (L:List dS):Int:=if jF (cQ L) (xX L+1)=O then xX L+1 else xX L
def xo (L:List dS) (P B:Nat):Option Js:=
 if lE L=4294967295\/281474976710655<=MK L then X
 else Y ⟨lE L+1,MK L+1,MK L,um (cQ L) (MK L) P,BF (kx (cQ L) (MK L) B) (um (cQ L) (MK L) P) P,kx (cQ L) (MK L) B⟩
def XN:Value:=.agg #[Z .u32 0,Z R 0,Z R 0,Z V 0,Z V 0,W X 0 0]
def Kt (v:Value) (s:Option Js):ai:=match s with
 | none=>fact (v=XN)
 | some s=>ex fun g=>fact (v=s.v (W (Y ⟨g,0,X⟩) s.at_.length s.at_.length))*pt g (Q (ints s.at_) 3 (0,0))
def Wg (S:Hp) (d:Nat) (a:Int × Option Js × aw) (F:ai) (w:World) (e:Ending) (b:World):Prop:=
 ∃ v,e = .returned (.tuple #[v,Z V a.1])/\ah b (Kt v a.2.1*(aD S d a.2.2*(al S*F)))/\ak w b
def Aq {m:Array Value} {z:Nat} {b d f g j l:Value} (u:m[6]?=Y (ax z)) (x:m[7]?=Y v) (h:ah w (pt z (Q #[b,d,f,g,j,l] 173 (0,0))*F)) :
  (results Tryz.f119 m).run prog w = .ok (.tuple #[.agg #[b,d,f,g,j,l],v]) w:=by
 have a:∀ o,w.cell? ⟨z,o,X⟩=#[b,d,f,g,j,l][o]?:=fun o=>h.cell o;have z0:=a 0;have r:=a 1;have s:=a 2;have z3:=a 3;have z4:=a 4;have z5:=a 5;clear a h;simp only [List.getElem?_toArray,List.getElem?_cons_zero,List.getElem?_cons_succ] at z0 r s z3 z4 z5;simp [results,Tryz.results119,go_sem,u,x,z0,r,s,z3,z4,z5]
def TC (b d f g j:Int) (a:Option Addr) (n c:Nat):(#[Z .u32 b,Z R d,Z R f,Z V g,Z V j,W a n c]:Array Value).all (·.oneCell')=O:=by simp [Value.oneCell']
def Vn (b d f g j:Int) (a:Option Addr) (n c:Nat):(prog.info? 173).map (·.size)=Y (#[Z .u32 b,Z R d,Z R f,Z V g,Z V j,W a n c]:Array Value).size:=B7
def WT (L:List dS) (a:ai) (w:World) (u10 u11 u53:Value) (wr:World):Prop:=
 ∃ (k:Nat) (f e:Int),k<=L.length/\u53 = Z V (k:Int)/\u10 = Z R f/\u11 = Z .u32 e/\(L.take k).foldl (fun m x=>max m x.1.fl) 0=f/\(L.take k).foldl (fun m x=>max m x.1.ep) 0=e/\ah wr a/\ak w wr
def dV (B:Int) (D:aw):Nat->List dS
 | 0=>[]
 | k+1=>if (D.aG ((k:Int)+1)).1=0 then nI B k (dV B D k) (bH (D.aG ((k:Int)+1)).2) else dV B D k
def xF (B:Int) (D:aw) (k:Nat):dV B D (k+1)=if (D.aG ((k:Int)+1)).1=0 then nI B k (dV B D k) (bH (D.aG ((k:Int)+1)).2) else dV B D k:=rfl
def EW (D:aw) (a:Int):(D.aG a).1=0\/(D.aG a).1=3:=by
 unfold aw.aG
 split
 .exact .inl rfl
 .split
  .exact .inr rfl
  .exact .inl rfl
def xp (B:Int) {D:aw} (h:D.Calm) {P:Nat} (hP:P+1<=D.sec.length):∀ k,k<=P->dm B D k=((0:Int),dV B D k,{ D with cr:=df D.cr k }):=by
 intro k
 induction k with
 | zero=>intro _;rfl
 | succ k d=>
  intro f;have a:=d U
  have b:({ D with cr:=df D.cr k }:aw).read ((k:Int)+1)=(D.aG ((k:Int)+1),{ D with cr:=df D.cr (k+1) }):=by
   rw [(uG h (df D.cr k)).read (by show 0<=(k:Int)+1/\(k:Int)+1<(D.sec.length:Int);omega)]
   rfl
  rw [km,a,xF];unfold wC;simp only [b,if_true];rcases EW D ((k:Int)+1) with h0|h0
  .rw [if_neg (by rw [h0];decide),if_pos h0,if_pos h0]
  .rw [if_pos h0,if_neg (by rw [h0];decide)]
def T7 (n:Nat) (j:Nat):gE (zs n) j=0:=by
 induction j with
 | zero=>rfl
 | succ j a=>
  rw [gE,a]
  have:(zs n).getD j 0=0:=by
   unfold zs;rw [B3,J5]
   split <;> rfl
  rw [this];simp
def QM (n k:Nat):(zs n).drop k=zs (n-k):=by simp [zs]
def Ve (t:Tg) (n:Int) (k:Nat) (h:k≠1):(t.set n k).ep=t.ep:=by
 unfold Tg.set;split <;> first|rfl|exact absurd rfl h
def QS (n:Nat) (k:Nat):(iX (zs n) k).ep=0:=by
 induction k with
 | zero=>rfl
 | succ k a=>
  rw [iX]
  by_cases h:k=1
  .subst h
   rw [QM,T7];rfl
  .rw [Ve _ _ _ h];exact a
def ET (n:Nat):bH (zs n)=X:=by
 have h:=QS n 9;unfold bH;generalize iX (zs n) 9=t at *;rw [if_neg];rintro ⟨a,_⟩;have:=(eh a).1;omega
def PA (n:Nat) (h:n<=20000):(aw.fresh n).Ok:=⟨by simp [aw.fresh];omega,by simp [aw.fresh],by simp [aw.fresh],by simp [aw.fresh]⟩
def UD {s:Js} (h:ah w (Kt v (Y s)*F)):∃ g,v=s.v (W (Y ⟨g,0,X⟩) s.at_.length s.at_.length)/\ah w (pt g (Q (ints s.at_) 3 (0,0))*F):=by
 obtain ⟨g,h⟩:=ah.aq.1 h;exact ⟨g,ah.ao.1 (h.to (ar _ _ _))⟩
end Go.Proofs.Nn
namespace Go.SL
open RowKit
def lA (L:List dS) (e:Int):(SU.aA (dy L) e=X->∀ x ∈ L,x.1.ep≠e) /\
  (∀ s,SU.aA (dy L) e=Y s->(∃ x ∈ L,x.1.ep=e/\x.1.st=s)/\∀ x ∈ L,x.1.ep=e->s<=x.1.st):=by
 suffices h:∀ (L:List dS) (M:Ms) (a:List dS),((SU.aA M e=X->∀ x ∈ a,x.1.ep≠e)/\(∀ s,SU.aA M e=Y s->(∃ x ∈ a,x.1.ep=e/\x.1.st=s)/\∀ x ∈ a,x.1.ep=e->s<=x.1.st)) ->
   ((SU.aA (L.foldl dD M) e=X->∀ x ∈ a++L,x.1.ep≠e)/\(∀ s,SU.aA (L.foldl dD M) e=Y s->(∃ x ∈ a++L,x.1.ep=e/\x.1.st=s)/\∀ x ∈ a++L,x.1.ep=e->s<=x.1.st)) by
  have:=h L [] [] ⟨fun _ x G=>by simp at G,fun s b=>by simp [SU.aA] at b⟩;simpa [dy] using this
 intro L
 induction L with
 | nil=>intro M a h;simpa using h
 | cons x L H=>
  intro M a h
  have I:(SU.aA (dD M x) e=X->∀ y ∈ a++[x],y.1.ep≠e)/\(∀ s,SU.aA (dD M x) e=Y s->(∃ y ∈ a++[x],y.1.ep=e/\y.1.st=s)/\∀ y ∈ a++[x],y.1.ep=e->s<=y.1.st):=by
   obtain ⟨w,B⟩:=h
   by_cases g:e=x.1.ep
   .subst g
    unfold dD
    cases j:SU.aA M x.1.ep with
    | none=>
     simp only [SU.eM,if_true];refine ⟨fun h=>(by cases h),fun s b=>?_⟩;have o:x.1.st=s:=by simpa using b
     rw [<- o]
     exact ⟨⟨x,Si0,rfl,rfl⟩,fun y hy d=>by
      rcases List.mem_append.1 hy with h|h
      .exact absurd d (w j y h)
      .obtain rfl:y=x:=by simpa using h
       exact E2 _⟩
    | some m=>
     obtain ⟨⟨z,r,u,v⟩,l⟩:=B m j;simp only
     by_cases C:x.1.st<m
     .rw [if_pos C]
      simp only [SU.eM,if_true];refine ⟨fun h=>(by cases h),fun s b=>?_⟩;have o:x.1.st=s:=by simpa using b
      rw [<- o]
      exact ⟨⟨x,Si0,rfl,rfl⟩,fun y hy d=>by
       rcases List.mem_append.1 hy with h|h
       .have:=l y h d;omega
       .obtain rfl:y=x:=by simpa using h
        exact E2 _⟩
     .rw [if_neg C]
      refine ⟨fun h=>(by rw [j] at h;cases h),fun s b=>?_⟩;obtain rfl:m=s:=by rw [j] at b;simpa using b
      exact ⟨⟨z,by simp [r],u,v⟩,fun y hy d=>by
       rcases List.mem_append.1 hy with h|h
       .exact l y h d
       .obtain rfl:y=x:=by simpa using h
        omega⟩
   .have F:SU.aA (dD M x) e=SU.aA M e:=by
     unfold dD
     cases SU.aA M x.1.ep with
     | none=>simp only [SU.eM,if_neg g]
     | some m=>simp only;split <;> simp only [SU.eM,if_neg g]
    rw [F];refine ⟨fun h y hy=>?_,fun s b=>?_⟩
    .rcases List.mem_append.1 hy with f|f
     .exact w h y f
     .obtain rfl:y=x:=by simpa using f
      exact fun h=>g h.symm
    .obtain ⟨⟨z,r,u,v⟩,l⟩:=B s b
     exact ⟨⟨z,by simp [r],u,v⟩,fun y hy d=>by
      rcases List.mem_append.1 hy with f|f
      .exact l y f d
      .obtain rfl:y=x:=by simpa using f
       exact absurd d.symm g⟩
  have:=H (dD M x) (a++[x]) I;simpa using this
def xS (M:Ms):List Int->Int
 | []=>jh
 | e :: l=>min (xS M l) ((SU.aA M e).getD 0)
def Ie (M:Ms) (q:Int):∀ l,q<xS M l↔q<jh/\∀ e ∈ l,q<(SU.aA M e).getD 0
 | []=>by simp [xS]
 | e :: l=>by
  have:=Ie M q l;simp only [xS,List.mem_cons,forall_eq_or_imp];rw [show (q<min (xS M l) ((SU.aA M e).getD 0))↔(q<xS M l/\q<(SU.aA M e).getD 0) by omega,this];exact ⟨fun h=>⟨h.1.1,h.2,h.1.2⟩,fun h=>⟨⟨h.1,h.2.2⟩,h.2.1⟩⟩
def y4 (s:Ms × Int) (e:Int):Ms × Int:=(SU.dM s.1 e s.2,min s.2 ((SU.aA s.1 e).getD 0))
def R4 (K:List Int):(idx K).map Prod.snd=K:=by
 apply List.ext_getElem
 .simp [idx]
 .intro i b a
  simp [idx,B3,D4 a]
def O8 (K:List Int) (M:Ms):MV K M=K.foldr (fun e s=>y4 s e) (M,jh):=by
 rw [<- List.foldl_reverse];unfold MV
 conv=>rhs;rw [<- R4 K,<- List.map_reverse,List.foldl_map]
 rfl
def yz (M:Ms):∀ K:List Int,K.Nodup->(MV K M).2=xS M K/\(∀ e,e ∉ K->SU.aA (MV K M).1 e=SU.aA M e)/\∀ b e d,K=b++e :: d->SU.aA (MV K M).1 e=Y (xS M d)
 | [],_=>⟨rfl,fun _ _=>rfl,fun b e d h=>by simp at h⟩
 | k :: K,h=>by
  obtain ⟨o,s⟩:=List.nodup_cons.1 h;obtain ⟨j,l,r⟩:=yz M K s;have v:MV (k :: K) M=y4 (MV K M) k:=by rw [O8,O8,List.foldr_cons]
  rw [v];refine ⟨?_,fun e g=>?_,fun b e d f=>?_⟩
  .simp only [y4,xS,j,l k o]
  .simp only [List.mem_cons,not_or] at g
   simp only [y4,SU.eM,if_neg g.1,l e g.2]
  .cases b with
   | nil=>
    simp only [List.nil_append,List.cons.injEq] at f;obtain ⟨rfl,rfl⟩:=f;simp only [y4,SU.eM,if_true,j]
   | cons a b=>
    simp only [List.cons_append,List.cons.injEq] at f;obtain ⟨rfl,m⟩:=f;have u:¬ e=k:=fun h=>o (by rw [m,<- h];simp);simp only [y4,SU.eM,if_neg u];exact r b e d m
def xO (L:List dS):((dy L).map D7).Nodup:=by
 suffices h:∀ (L:List dS) (M:Ms),(M.map D7).Nodup->((L.foldl dD M).map D7).Nodup from h L [] List.nodup_nil
 intro L
 induction L with
 | nil=>intro M h;exact h
 | cons x L a=>
  intro M h;refine a _ ?_;unfold dD
  cases SU.aA M x.1.ep with
  | none=>exact SU.gr h _ _
  | some s=>simp only;split;exact SU.gr h _ _;exact h
def qj (L:List dS) (t:Tg):Bool:=L.any fun x=>decide (t.ep<x.1.ep) && decide (x.1.st<=t.sq)
end Go.SL
namespace Go.Proofs.Nn
open RowKit SL
def Kj (L:List dS) (hq:∀ x ∈ L,x.1.sq<jh):cQ L=L.filter fun x => !qj L x.1:=by
 unfold cQ;refine List.filter_congr fun x C=>?_;have b0:=xO L;have w:(kW L).Perm ((dy L).map D7):=List.mergeSort_perm _ _;have m:(kW L).Nodup:=w.nodup_iff.2 b0
 have B:(kW L).Pairwise fun a b=>a<=b:=by
  have:=List.pairwise_mergeSort (le:=fun x y:Int=>decide (x<=y)) (fun a b c h1 r=>by simp at *;omega) (fun a b=>by simp;omega) ((dy L).map D7);exact this.imp (by intro a b h;simpa using h)
 have g:∀ e,e ∈ kW L↔SU.aA (dy L) e≠X:=fun e=>by
  rw [w.mem_iff];rw [Ne,SU.eD];simp
 have c0:x.1.ep ∈ kW L:=(g _).2 fun h=>(lA L x.1.ep).1 h x C rfl;obtain ⟨H,j,l⟩:=List.append_of_mem c0;obtain ⟨f1,f2,I⟩:=yz (dy L) (kW L) m;have N:=I H x.1.ep j l;unfold lz;rw [N,H4];rw [l] at B m
 have u:∀ e,e ∈ j↔(e ∈ kW L/\x.1.ep<e):=fun e=>by
  rw [l];obtain ⟨p1,p2,p3⟩:=List.pairwise_append.1 B;obtain ⟨n1,n2,n3⟩:=List.nodup_append.1 m;obtain ⟨p4,p5⟩:=List.pairwise_cons.1 p2;obtain ⟨n4,n5⟩:=List.nodup_cons.1 n2;constructor
  .intro d
   have:=p4 e d;have e0:e≠x.1.ep:=fun h=>n4 (h▸d);exact ⟨by simp [d],U⟩
  .rintro ⟨d,v⟩
   rcases List.mem_append.1 d with h|h
   .have:=p3 e h x.1.ep Si0;omega
   .rcases List.mem_cons.1 h with h|h
    .omega
    .exact h
 have G:x.1.sq<xS (dy L) j↔qj L x.1=Z':=by
  rw [Ie];unfold qj;rw [List.any_eq_false];constructor
  .rintro ⟨_,h⟩ y hy z
   simp only [J4,decide_eq_true_eq] at z;have F:y.1.ep ∈ kW L:=(g _).2 fun h=>(lA L y.1.ep).1 h y hy rfl;have r:=h y.1.ep ((u _).2 ⟨F,z.1⟩)
   cases f:SU.aA (dy L) y.1.ep with
   | none=>exact (g _).1 F f
   | some s=>
    have:=((lA L y.1.ep).2 s f).2 y hy rfl;rw [f,H4] at r;omega
  .intro h
   refine ⟨hq x C,fun e d=>?_⟩;obtain ⟨M,v⟩:=(u e).1 d
   cases f:SU.aA (dy L) e with
   | none=>exact absurd f ((g _).1 M)
   | some s=>
    obtain ⟨⟨y,hy,K,d0⟩,_⟩:=(lA L e).2 s f;have:=h y hy;simp only [J4,decide_eq_true_eq,not_and] at this;have h4:=this (by rw [K];exact v);rw [H4];omega
 cases o:qj L x.1 with
 | false=>simp [G.2 o]
 | true=>simp;exact Int.not_lt.1 fun h=>by rw [G.1 h] at o;cases o
end Go.Proofs.Nn
namespace Go.SL
open RowKit
def lx (sq:Int) (s:Option Int) (x:dS):Option Int:=
 match s with
 | none=>X
 | some c=>if x.1.sq=sq then (if c≠0/\c≠x.1.ct then X else Y x.1.ct) else Y c
def gD (L:List dS) (sq:Int) (k:Int):Bool:=L.any fun x=>decide (x.1.sq=sq) && decide (x.1.ix=k)
def sM (L:List dS) (sq:Int):Bool:=match L.foldl (lx sq) (Y 0) with
 | none=>Z'
 | some c=>(E5 c.toNat).all (fun k:Nat=>gD L sq (k:Int)) && decide (0<c)
def Ui (sq:Int) (a:List dS) (c:Int) (seen:List Int) (h:Int):Prop:=
 0<=c/\c<=72/\seen.length=72/\(∀ i:Nat,i<72->seen.getD i 0=if gD a sq (i:Int) then 1 else 0)/\h=(seen.count 1:Nat)/\(∀ x ∈ a,x.1.sq=sq->x.1.ct=c)/\∀ x ∈ a,x.1.ok=O
def EZ (sq:Int) (L:List dS):L.foldl (lx sq) X=X:=by
 induction L with
 | nil=>rfl
 | cons x L a=>exact a
def qi (a:List dS) (x:dS) (sq k:Int):gD (a++[x]) sq k=(gD a sq k || (decide (x.1.sq=sq) && decide (x.1.ix=k))):=by
 simp [gD,List.any_append]
def uF (sq:Int):∀ (L a:List dS) (c:Int) (seen:List Int) (h:Int),(∀ x ∈ L,x.1.ok=O)->Ui sq a c seen h ->
  (∃ v b0 b,L.foldl (jE sq) (Y (c,seen,h))=Y (v,b0,b)/\L.foldl (lx sq) (Y c)=Y v/\Ui sq (a++L) v b0 b) \/
  (L.foldl (jE sq) (Y (c,seen,h))=X/\L.foldl (lx sq) (Y c)=X)
 | [],a,c,seen,h,_,f=>.inl ⟨c,seen,h,rfl,rfl,by simpa using f⟩
 | x :: L,a,c,seen,h,o,f=>by
  obtain ⟨i1,i2,s,u,i5,i6,B⟩:=f;obtain ⟨_,_,_,_,_,c1,C,x1,x2,_,_⟩:=eh (o x Si0);have z:∀ y ∈ L,y.1.ok=O:=fun y hy=>o y (by simp [hy]);have c0:a++x :: L=(a++[x])++L:=Si0
  rw [c0];simp only [D3]
  by_cases d:x.1.sq=sq
  .by_cases hc:c=0\/c=x.1.ct
   .have F:(if c=0 then x.1.ct else c)=x.1.ct:=by
     rcases hc with G|G
     .rw [if_pos G]
     .split <;> omega
    have l:lx sq (Y c) x=Y x.1.ct:=by
     show (if x.1.sq=sq then (if c≠0/\c≠x.1.ct then X else Y x.1.ct) else Y c)=_
     rw [if_pos d,if_neg U]
    have H:∀ y ∈ a++[x],y.1.sq=sq->y.1.ct=x.1.ct:=fun y hy r=>by
     rcases List.mem_append.1 hy with h|h
     .have h6:=i6 y h r
      obtain ⟨_,_,_,_,_,d1,_⟩:=eh (B y h);omega
     .obtain rfl:y=x:=by simpa using h
      rfl
    have K:∀ y ∈ a++[x],y.1.ok=O:=fun y hy=>by
     rcases List.mem_append.1 hy with h|h
     .exact B y h
     .obtain rfl:y=x:=by simpa using h
      exact o y Si0
    obtain ⟨n,hn⟩:∃ n:Nat,x.1.ix=(n:Int):=⟨x.1.ix.toNat,U⟩
    have I:n<72:=U
    have N:x.1.ix.toNat=n:=U
    have M:=u n I
    by_cases g:seen.getD n 0=0
    .have j:jE sq (Y (c,seen,h)) x=Y (x.1.ct,seen.set n 1,h+1):=by
      show (if x.1.sq=sq then _ else _)=_
      rw [if_pos d,F,if_pos rfl,N,if_pos g,if_pos g]
     rw [l,j];refine uF sq L (a++[x]) _ _ _ z ⟨U,C,by simp [s],fun i f=>?_,?_,H,K⟩
     .rw [qi]
      by_cases m:n=i
      .subst m
       simp [B3,H3,s,I,d,hn]
      .have:=u i f
       have e2:(seen.set n 1).getD i 0=seen.getD i 0:=by simp [B3,H3,m]
       have w:decide (x.1.ix=(i:Int))=Z':=by simp;omega
       rw [e2,this,w];simp
     .rw [List.count_set U]
      have e4:seen[n]'Om0=0:=by rw [B3,D4 (by omega:n<seen.length)] at g;exact g
      rw [e4];simp;omega
    .have j:jE sq (Y (c,seen,h)) x=Y (x.1.ct,seen,h):=by
      show (if x.1.sq=sq then _ else _)=_
      rw [if_pos d,F,if_pos rfl,N,if_neg g,if_neg g]
     rw [l,j];refine uF sq L (a++[x]) _ _ _ z ⟨U,C,s,fun i f=>?_,i5,H,K⟩;rw [qi,u i f]
     by_cases m:n=i
     .subst m
      have:gD a sq (n:Int)=O:=by
       cases hb:gD a sq (n:Int) with
       | true=>rfl
       | false=>simp only [hb,Bool.false_eq_true,if_false] at M;exact absurd M g
      simp [this]
     .have w:decide (x.1.ix=(i:Int))=Z':=by simp;omega
      rw [w];simp
   .have l:lx sq (Y c) x=X:=by
     show (if x.1.sq=sq then (if c≠0/\c≠x.1.ct then X else Y x.1.ct) else Y c)=_
     rw [if_pos d,if_pos U]
    have j:jE sq (Y (c,seen,h)) x=X:=by
     show (if x.1.sq=sq then _ else _)=_
     rw [if_pos d,if_neg (by rw [if_neg U];omega)]
    rw [l,j];exact .inr ⟨xb sq L,EZ sq L⟩
  .have l:lx sq (Y c) x=Y c:=if_neg d
   have j:jE sq (Y (c,seen,h)) x=Y (c,seen,h):=if_neg d;rw [l,j];refine uF sq L (a++[x]) c seen h z ⟨i1,i2,s,fun i f=>?_,i5,fun y hy r=>?_,fun y hy=>?_⟩
   .rw [u i f,qi];simp [d]
   .rcases List.mem_append.1 hy with b|b
    .exact i6 y b r
    .obtain rfl:y=x:=by simpa using b
     exact absurd r d
   .rcases List.mem_append.1 hy with b|b
    .exact B y b
    .obtain rfl:y=x:=by simpa using b
     exact o y Si0
def AV {l:List Int}:l.count 1=l.length↔∀ i:Nat,i<l.length->l.getD i 0=1:=by
 rw [List.count_eq_length];constructor
 .intro h i a
  rw [B3,D4 a];exact (h _ (G3 a)).symm
 .intro h b d
  obtain ⟨i,a,rfl⟩:=J3 d;have:=h i a;rw [B3,D4 a] at this;exact this.symm
def A9 (L:List dS) (sq:Int) (B:∀ x ∈ L,x.1.ok=O):jF L sq=sM L sq:=by
 have h0:Ui sq [] 0 (J2 72 0) 0:=⟨U,U,Si0,fun i b=>by rw [B3,J5,if_pos b];simp [gD],by simp [List.count_replicate],Si0,Si0⟩
 unfold jF sM qy;rcases uF sq L [] 0 _ 0 B h0 with ⟨c,seen,h,d,f,C,M,F,g,G,s,u⟩|⟨d,f⟩
 .rw [d,f]
  simp only [List.nil_append] at g s u;obtain ⟨n,rfl⟩:=Int.eq_ofNat_of_zero_le C;have K:n<=72:=U
  have w:(seen.drop n).count 1=0:=by
   rw [List.count_eq_zero];intro z;obtain ⟨i,b,l⟩:=J3 z;rw [List.length_drop] at b;rw [List.getElem_drop] at l;have:=g (n+i) U;rw [B3,D4 (by omega:n+i<seen.length),H4,l] at this
   have m:gD L sq ((n+i:Nat):Int)=O:=by
    rcases Bool.eq_false_or_eq_true (gD L sq ((n+i:Nat):Int)) with a|a
    .exact a
    .exfalso
     rw [if_neg (by rw [a];exact Bool.false_ne_true)] at this;omega
   unfold gD at m;obtain ⟨x,o,r⟩:=List.any_eq_true.1 m;simp only [J4,decide_eq_true_eq] at r;obtain ⟨_,_,_,_,_,_,_,_,I,_⟩:=eh (u x o);have:=s x o r.1;omega
  have v:seen.count 1=(seen.take n).count 1:=by
   conv=>lhs;rw [<- List.take_append_drop n seen,List.count_append,w]
   rfl
  have y:(seen.take n).length=n:=by simp [F];omega
  have H:(h=(n:Int))↔∀ i:Nat,i<n->gD L sq (i:Int)=O:=by
   rw [G,v];have j:=@AV (seen.take n);rw [y] at j;rw [Int.ofNat_inj,j];refine forall_congr' fun i=>forall_congr' fun b=>?_;have e:(seen.take n).getD i 0=seen.getD i 0:=by simp [B3,List.getElem?_take,b]
   rw [e,g i U]
   by_cases a:gD L sq (i:Int)=O <;> simp [a]
  show (decide (0<(n:Int)) && decide (h=(n:Int)))=((E5 n).all (fun k:Nat=>gD L sq (k:Int)) && decide (0<(n:Int)))
  rw [Bool.and_comm];congr 1;rw [Bool.eq_iff_iff,decide_eq_true_eq,H,List.all_eq_true];simp
 .rw [d,f]
def pM (id sq:Int) (s:Int × Int) (x:dS):Int × Int:=if x.1.id=id/\x.1.sq<=sq/\s.2<x.1.sq then ((x.2:Int),x.1.sq) else s
def atR (L:List dS) (id sq:Int):Int:=(L.foldl (pM id sq) (-1,0)).1
def zx (sq:Int) (k:Nat):∀ (L:List dS) (s:List Int × List Int),(∀ x ∈ L,0<=x.1.id)->k<s.1.length->k<s.2.length ->
  ((L.foldl (fV sq) s).1.getD k 0,(L.foldl (fV sq) s).2.getD k 0)=L.foldl (pM (k:Int) sq) (s.1.getD k 0,s.2.getD k 0)
 | [],s,_,_,_=>rfl
 | x :: L,s,h,d,f=>by
  have m:=h x Si0;have g:∀ y ∈ L,0<=y.1.id:=fun y hy=>h y (by simp [hy]);simp only [D3];rw [zx sq k L (fV sq s x) g (by unfold fV;split <;> simp [d]) (by unfold fV;split <;> simp [f])];congr 1;unfold fV pM;obtain ⟨n,j⟩:∃ n:Nat,x.1.id=(n:Int):=⟨x.1.id.toNat,U⟩
  have l:x.1.id.toNat=n:=U
  rw [l,j]
  by_cases b:n=k
  .subst b
   by_cases a:x.1.sq<=sq/\s.2.getD n 0<x.1.sq
   .rw [if_pos a,if_pos ⟨rfl,a⟩]
    simp [B3,H3,d,f]
   .rw [if_neg a,if_neg (fun h=>a h.2)]
  .rw [if_neg (fun h:(n:Int)=(k:Int)/\_=>b U)]
   split
   .simp [B3,H3,b]
   .rfl
def F7 (L:List dS) (sq:Int) (B k:Nat) (a:k<B) (h:∀ x ∈ L,0<=x.1.id):(kx L sq B).getD k 0=atR L (k:Int) sq:=by
 have:=zx sq k L (ft B) h (by simp [ft,a]) (by simp [ft,a]);have b:=congrArg D7 this;simp only at b;unfold kx atR;rw [b];congr 2;simp [ft,B3,J5,a]
end Go.SL
namespace Go.SL
def pC {sq c:Int} (f:0<c):∀ (L:List dS),(∀ x ∈ L,x.1.sq=sq->x.1.ct=c)->∀ s,(s=0\/s=c) ->
  (L.foldl (lx sq) (Y s)=Y s/\(∀ x ∈ L,x.1.sq≠sq))\/L.foldl (lx sq) (Y s)=Y c
 | [],_,s,_=>.inl ⟨rfl,Si0⟩
 | x :: L,h,s,g=>by
  rw [D3];have d:∀ y ∈ L,y.1.sq=sq->y.1.ct=c:=fun y hy=>h y (by simp [hy])
  by_cases b:x.1.sq=sq
  .have j:=h x Si0 b
   have e:lx sq (Y s) x=Y c:=by
    unfold lx;simp only [b,if_true,j];rw [if_neg];omega
   rw [e];rcases pC f L d c (.inr rfl) with a|a
   .exact .inr a.1
   .exact .inr a
  .have e:lx sq (Y s) x=Y s:=by unfold lx;simp only [b,if_false]
   rw [e];rcases pC f L d s g with a|a
   .exact .inl ⟨a.1,fun y hy=>by
     rcases List.mem_cons.1 hy with rfl|hy
     .exact b
     .exact a.2 y hy⟩
   .exact .inr a
def yU {L:List dS} {sq k:Int}:gD L sq k=O↔∃ x ∈ L,x.1.sq=sq/\x.1.ix=k:=by
 unfold gD;simp [List.any_eq_true]
def F5 {L:List dS} {sq c:Int} (d:0<c) (h:∀ x ∈ L,x.1.sq=sq->x.1.ct=c) (f:∀ k:Nat,(k:Int)<c->∃ x ∈ L,x.1.sq=sq/\x.1.ix=(k:Int)):sM L sq=O:=by
 have a:=pC d L h 0 (.inl rfl)
 have g:L.foldl (lx sq) (Y 0)=Y c:=by
  rcases a with a|a
  .obtain ⟨x,l,b,_⟩:=f 0 (by simpa using d)
   exact absurd b (a.2 x l)
  .exact a
 unfold sM;rw [g];have b:((E5 c.toNat).all fun k:Nat=>gD L sq (k:Int))=O:=List.all_eq_true.2 fun k j=>yU.2 (f k (by have:=List.mem_range.1 j;omega));show (((E5 c.toNat).all fun k:Nat=>gD L sq (k:Int)) && decide (0<c))=O
 rw [b];simp [d]
def vh {L:List dS} {sq c k:Int} (h0:0<=k) (m:k<c) (h:∀ x ∈ L,x.1.sq=sq->x.1.ct=c/\x.1.ix≠k):sM L sq=Z':=by
 have a:=pC (c:=c) U L (fun x d l=>(h x d l).1) 0 (.inl rfl);unfold sM;rcases a with a|a
 .rw [a.1];simp
 .rw [a]
  have j:gD L sq ((k.toNat:Nat):Int)=Z':=by
   cases g:gD L sq ((k.toNat:Nat):Int) with
   | false=>rfl
   | true=>
    obtain ⟨x,d,f,b⟩:=yU.1 g;exact absurd (by rw [b];omega) (h x d f).2
  have b:((E5 c.toNat).all fun k:Nat=>gD L sq (k:Int))=Z':=List.all_eq_false.2 ⟨k.toNat,List.mem_range.2 U,by rw [j];decide⟩;show (((E5 c.toNat).all fun k:Nat=>gD L sq (k:Int)) && decide (0<c))=Z'
  rw [b];rfl
def nO {id sq:Int}:∀ (L:List dS) (s:Int × Int),(∀ y ∈ L,y.1.id=id->y.1.sq<=sq->y.1.sq<=s.2)->L.foldl (pM id sq) s=s
 | [],s,_=>rfl
 | x :: L,s,h=>by
  rw [D3]
  have e:pM id sq s x=s:=by
   unfold pM;rw [if_neg];intro ⟨a,b,d⟩;have:=h x Si0 a b;omega
  rw [e];exact nO L s fun y hy=>h y (by simp [hy])
def zE {id sq:Int} {x:dS} (j:x.1.id=id) (m:x.1.sq<=sq):∀ (L:List dS) (s:Int × Int),x ∈ L->s.2<x.1.sq->(∀ y ∈ L,y.1.id=id->y.1.sq<=sq->y=x\/y.1.sq<x.1.sq)->(L.foldl (pM id sq) s).1=(x.2:Int)
 | [],s,d,_,_=>by cases d
 | z :: L,s,d,l,h=>by
  rw [D3];have g:∀ y ∈ L,y.1.id=id->y.1.sq<=sq->y=x\/y.1.sq<x.1.sq:=fun y hy=>h y (by simp [hy])
  by_cases f:z=x
  .subst f
   have e:pM id sq s z=((z.2:Int),z.1.sq):=by unfold pM;rw [if_pos ⟨j,m,l⟩]
   rw [e,nO L _ fun y hy a b=>by
    rcases g y hy a b with rfl|o
    .exact E2 _
    .exact Int.le_of_lt o]
  .have r:x ∈ L:=by
    rcases List.mem_cons.1 d with a|a
    .exact absurd a.symm f
    .exact a
   refine zE j m L _ r ?_ g;unfold pM
   split
   .rename_i a
    rcases h z Si0 a.1 a.2.1 with b|b
    .exact absurd b f
    .exact b
   .exact l
def nh {sq h:Int} {P:Nat}:∀ (L:List dS) (s:Int × Int),(∀ x ∈ L,x.1.sq=sq->((x.2:Int)+(x.1.ct-x.1.ix))%(P:Int)=h/\0<=x.1.ix)->(s.1=h\/(s.2=-1/\∃ x ∈ L,x.1.sq=sq))->(L.foldl (lu sq P) s).1=h
 | [],s,_,g=>by
  rcases g with h|⟨_,x,l,_⟩
  .exact h
  .cases l
 | x :: L,s,f,g=>by
  rw [D3];have j:∀ y ∈ L,y.1.sq=sq->((y.2:Int)+(y.1.ct-y.1.ix))%(P:Int)=h/\0<=y.1.ix:=fun y hy=>f y (by simp [hy]);refine nh L _ j ?_;unfold lu
  by_cases a:x.1.sq=sq/\s.2<x.1.ix
  .rw [if_pos a];exact .inl (f x Si0 a.1).1
  .rw [if_neg a]
   rcases g with b|⟨b,y,hy,d⟩
   .exact .inl b
   .rcases List.mem_cons.1 hy with rfl|hy
    .exact absurd ⟨d,by have:=(f y Si0 d).2;omega⟩ a
    .exact .inr ⟨b,y,hy,d⟩
def EH {sq:Int} {P:Nat} {L:List dS} (h:∀ x ∈ L,x.1.sq≠sq):um L sq P=0:=by
 unfold um
 have:∀ s,L.foldl (lu sq P) s=s:=by
  intro s
  induction L with
  | nil=>rfl
  | cons x L b=>
   rw [D3];have e:lu sq P s x=s:=by unfold lu;rw [if_neg];intro a;exact h x Si0 a.1
   rw [e];exact b fun y hy=>h y (by simp [hy])
 rw [this]
def qe {d:Type} (f:d->Int) {M:Int}:∀ (L:List d) (a:Int),a<=M->(∀ x ∈ L,f x<=M)->L.foldl (fun m x=>max m (f x)) a<=M
 | [],a,h,_=>h
 | x :: L,a,h,b=>by
  rw [D3];exact qe f L _ (by have:=b x Si0;omega) fun y hy=>b y (by simp [hy])
def mP {b:Type} (f:b->Int):∀ (L:List b) (a:Int),a<=L.foldl (fun m x=>max m (f x)) a/\∀ x ∈ L,f x<=L.foldl (fun m x=>max m (f x)) a
 | [],a=>⟨E2 _,Si0⟩
 | x :: L,a=>by
  rw [D3];have h:=mP f L (max a (f x));refine ⟨U,fun y hy=>?_⟩;rcases List.mem_cons.1 hy with rfl|hy
  .omega
  .exact h.2 y hy
abbrev TM:=Nat->Option Tg
structure EO (P:Nat) (T:TM) (q:Int) (at_:Int->Option Nat) (p:Nat) (t:Tg):Prop where
 sq:t.sq<=q
 fresh:∀ p' t',p'<P->T p'=some t'->t.ep<t'.ep->t.sq<t'.st
 live:∃ p' t',at_ t.id=some p'/\T p'=some t'/\(p'=p\/t.sq<t'.sq)
structure Xx (n P:Nat) (T:TM) (q:Int) (h p:Nat) (t:Tg):Prop where
 off:(p+P-h)%P<n
 WD:t.sq=q+1\/∃ pw tw,pw<P/\T pw=some tw/\t.ep<tw.ep/\tw.st<=t.sq/\(p+P-pw)%P<n/\(p+P-h)%P<(p+P-pw)%P
structure YF (P:Nat) (T:TM) (q:Int) (h:Nat) (at_:Int->Option Nat) (c:Nat):Prop where
 all:∀ i:Nat,i<c->∃ t,T ((h+P-c+i)%P)=some t/\t.sq=q/\t.ix=(i:Int)/\t.ct=(c:Int)/\EO P T q at_ ((h+P-c+i)%P) t
 one:∀ p t,p<P->T p=some t->EO P T q at_ p t->t.sq=q->∃ i:Nat,i<c/\p=(h+P-c+i)%P
structure jL (n P:Nat) (T:TM) (q:Int) (h:Nat) (at_:Int->Option Nat):Prop where
 hP:h<P
 nP:n<=P
 q0:0<=q
 h0:q=0->h=0
 tag:∀ p t,p<P->T p=some t->t.ok=true/\t.fl=t.sq-1/\t.sq<=q+1/\t.id<n
 cg:∀ p t,p<P->T p=some t->EO P T q at_ p t\/Xx n P T q h p t
 live:∀ id p,at_ id=some p->p<P/\0<=id/\id<n/\∃ t,T p=some t/\t.id=id/\EO P T q at_ p t
 last:0<q->∃ c:Nat,0<c/\c<=n/\YF P T q h at_ c
 nw:∀ e:Int,∃ c k:Int,0<=k/\k<c/\∀ p t,p<P->T p=some t->t.ep=e->t.sq=q+1->t.ct=c/\t.ix≠k
end Go.SL
namespace Go.Proofs.Nn
open SL
structure Lays (P:Nat) (T:TM) (L:List dS):Prop where
 iff:∀ t p,(t,p) ∈ L↔p<P/\T p=some t
section
variable {n P:Nat} {T:TM} {q:Int} {h:Nat} {at_:Int->Option Nat} {L:List dS}
def JY {L:List dS} {t:Tg}:qj L t=O↔∃ x ∈ L,t.ep<x.1.ep/\x.1.st<=t.sq:=by
 unfold qj;simp [List.any_eq_true]
def lZ (b:jL n P T q h at_) (a:Lays P T L) (x:dS):x ∈ cQ L↔x ∈ L/\¬ ∃ y ∈ L,x.1.ep<y.1.ep/\y.1.st<=x.1.sq:=by
 rw [Kj L fun y hy=>by
  have:=(a.iff y.1 y.2).1 hy;have:=eh (b.tag _ _ this.1 this.2).1;unfold jh;omega]
 rw [List.mem_filter];refine and_congr_right fun _=>?_;rw [<- JY];cases qj L x.1 <;> simp
def tf (g:jL n P T q h at_) (a:Lays P T L) {p:Nat} {t:Tg} (l:p<P) (b:T p=Y t) (j:EO P T q at_ p t):(t,p) ∈ cQ L:=by
 rw [lZ g a];refine ⟨(a.iff t p).2 ⟨l,b⟩,fun ⟨y,hy,d,f⟩=>?_⟩;have h4:=(a.iff y.1 y.2).1 hy;exact absurd f (Int.not_le.2 (j.fresh _ _ h4.1 h4.2 d))
def oM (d:jL n P T q h at_) (a:Lays P T L) {x:dS} (o:x ∈ cQ L) (r:x.1.sq<=q):EO P T q at_ x.2 x.1:=by
 obtain ⟨f,g⟩:=(lZ d a x).1 o;have b:=(a.iff x.1 x.2).1 f;rcases d.cg _ _ b.1 b.2 with h4|h4
 .exact h4
 .rcases h4.WD with h5|⟨pw,tw,h5,j,l,m,_⟩
  .omega
  .exact absurd ⟨(tw,pw),(a.iff tw pw).2 ⟨h5,j⟩,l,m⟩ g
def gv (d:jL n P T q h at_) (b:Lays P T L) {x:dS} (g:x ∈ cQ L):x.2<P/\T x.2=Y x.1/\x.1.ok=O/\x.1.fl=x.1.sq-1/\x.1.sq<=q+1/\x.1.id<n:=by
 obtain ⟨f,j⟩:=(lZ d b x).1 g;have a:=(b.iff x.1 x.2).1 f;exact ⟨a.1,a.2,d.tag _ _ a.1 a.2⟩
def BH (a:jL n P T q h at_) (d:Lays P T L) (h0:0<q):jF (cQ L) q=O:=by
 obtain ⟨c,v,w,g⟩:=a.last h0;rw [A9 _ _ fun x f=>(gv a d f).2.2.1];have hP:0<P:=by have:=a.hP;omega
 refine F5 (c:=(c:Int)) U (fun x f u=>?_) fun k y=>?_
 .obtain ⟨o,j,_⟩:=gv a d f
  obtain ⟨i,r,s⟩:=g.one _ _ o j (oM a d f U) u;obtain ⟨t,b,h4,h5,l,m⟩:=g.all i r;rw [<- s,j] at b;obtain rfl:x.1=t:=by simpa using b
  exact l
 .obtain ⟨t,b,h4,h5,l,m⟩:=g.all k U
  exact ⟨(t,_),tf a d (D2 _ hP) b m,h4,h5⟩
def LR (a:jL n P T q h at_) (d:Lays P T L):jF (cQ L) (q+1)=Z':=by
 rw [A9 _ _ fun x b=>(gv a d b).2.2.1]
 by_cases f:∃ x ∈ cQ L,x.1.sq=q+1
 .obtain ⟨x,b,g⟩:=f
  obtain ⟨c,k,v,w,z⟩:=a.nw x.1.ep;refine vh v w fun y hy B=>?_;obtain ⟨C,F,a3,_⟩:=gv a d b;obtain ⟨m,o,r,_⟩:=gv a d hy;have G:=eh a3;have H:=eh r;have j:=(lZ a d x).1 b;have l:=(lZ a d y).1 hy
  have e:y.1.ep=x.1.ep:=by
   by_cases s:y.1.ep<x.1.ep
   .exact absurd ⟨x,j.1,s,U⟩ l.2
   .by_cases u:x.1.ep<y.1.ep
    .exact absurd ⟨y,l.1,u,U⟩ j.2
    .omega
  exact z _ _ m o e B
 .refine vh (c:=1) (k:=0) U U fun x b g=>absurd ⟨x,b,g⟩ f
def P7 (a:jL n P T q h at_) (b:Lays P T L):MK L=q:=by
 have F:xX L<=q:=qe (fun x:dS=>x.1.fl) L 0 a.q0 fun x s=>by
  have d:=(b.iff x.1 x.2).1 s;have:=a.tag _ _ d.1 d.2;omega
 have g:=mP (fun x:dS=>x.1.fl) L 0;have B:0<=xX L:=g.1
 have C:q-1<=xX L:=by
  by_cases h0:0<q
  .obtain ⟨c,l,z,o⟩:=a.last h0
   obtain ⟨t,f,h4,h5,v,w⟩:=o.all 0 l;have hP:0<P:=by have:=a.hP;omega
   have r:=(b.iff t _).2 ⟨D2 _ hP,f⟩;have j:=g.2 _ r;have y:=a.tag _ _ (D2 _ hP) f;have u:t.fl<=xX L:=j;omega
  .omega
 unfold MK
 by_cases m:xX L=q
 .rw [m,LR a b];simp
 .have e:xX L+1=q:=U
  rw [e,BH a b U];simp
def NN (a:jL n P T q h at_) (d:Lays P T L) {k:Nat} (w:k<n):(kx (cQ L) q n).getD k 0=match at_ (k:Int) with|some p=>(p:Int)|none=>-1:=by
 rw [F7 _ _ _ _ w fun x B=>(eh (gv a d B).2.2.1).2.2.2.2.2.2.2.2.2.1];unfold atR
 cases j:at_ (k:Int) with
 | none=>
  simp only;rw [nO];intro y hy f r;obtain ⟨p',t',g,_⟩:=(oM a d hy r).live;rw [f,j] at g;cases g
 | some p=>
  simp only;obtain ⟨f,r,g,t,h4,h5,s⟩:=a.live _ _ j;have z:=tf a d f h4 s;refine zE (x:=(t,p)) h5 s.sq (cQ L) _ z ?_ fun y hy u v=>?_
  .have:=eh (a.tag _ _ f h4).1
   show (0:Int)<t.sq
   omega
  .obtain ⟨p',t',m,o,b⟩:=(oM a d hy v).live
   rw [u,j] at m;obtain rfl:p=p':=by simpa using m
   rw [h4] at o;obtain rfl:t=t':=by simpa using o
   rcases b with b|b
   .left
    obtain ⟨C,l,_⟩:=gv a d hy;rw [<- b,h4] at l;obtain rfl:t=y.1:=by simpa using l
    exact Prod.ext rfl b.symm
   .exact .inr b
def Nb {P h c i:Nat} (hP:h<P) (b:c<=P) (d:i<c):((((h+P-c+i)%P:Nat):Int)+((c:Int)-(i:Int)))%(P:Int)=(h:Int):=by
 have e:(((h+P-c+i)%P:Nat):Int)+((c:Int)-(i:Int))=(((h+P-c+i)%P+(c-i):Nat):Int):=U
 rw [e,<- Int.natCast_emod];congr 1;rw [Nat.mod_add_mod];have a:h+P-c+i+(c-i)=h+P:=U
 rw [a,K9,E4 hP]
def FH (a:jL n P T q h at_) (d:Lays P T L):um (cQ L) q P=(h:Int):=by
 by_cases h0:0<q
 .obtain ⟨c,u,w,g⟩:=a.last h0
  have hP:=a.hP;have y:=a.nP;refine nh (cQ L) (0,-1) (fun x f v=>?_) (.inr ⟨rfl,?_⟩)
  .obtain ⟨s,j,_⟩:=gv a d f
   obtain ⟨i,o,r⟩:=g.one _ _ s j (oM a d f U) v;obtain ⟨t,b,h4,h5,l,m⟩:=g.all i o;rw [<- r,j] at b;obtain rfl:x.1=t:=by simpa using b
   rw [h5,l,r];exact ⟨Nb hP U o,U⟩
  .obtain ⟨t,b,h4,h5,l,m⟩:=g.all 0 u
   exact ⟨(t,_),tf a d (D2 _ U) b m,h4⟩
 .have z:=a.q0
  have e:q=0:=U
  rw [EH fun x f=>by have:=eh (gv a d f).2.2.1;omega,a.h0 e];rfl
end
end Go.Proofs.Nn
namespace Go.SL
def mA {a b P:Nat} (d:a<P) (f:b<P):(a+P-b)%P=if b<=a then a-b else a+P-b:=by
 split
 .have e:a+P-b=(a-b)+P:=U
  rw [e,K9,E4 U]
 .exact E4 U
def nC {h i P:Nat} (a:h<P) (b:i<=P):(h+i)%P=if h+i<P then h+i else h+i-P:=by
 split
 .exact E4 ‹_›
 .rw [Nat.mod_eq_sub_mod U,E4 U]
structure Uj (n P:Nat) (T:TM) (q:Int) (h:Nat) (at_:Int->Option Nat) (E S:Int):Prop where
 tr:jL n P T q h at_
 ep:∀ p t,p<P->T p=some t->t.ep<=E/\(t.ep=E->t.st=S/\EO P T q at_ p t)
 st:∀ p t,p<P->T p=some t->EO P T q at_ p t->t.ep<E->t.sq<S
 S1:S<=q+1
def jL.run {n P:Nat} {T:TM} {q:Int} {h:Nat} {at_:Int->Option Nat} (f:jL n P T q h at_) {E:Int} (d:∀ p t,p<P->T p=Y t->t.ep<E):Uj n P T q h at_ E (q+1):=
 ⟨f,fun p t a b=>⟨Int.le_of_lt (d p t a b),fun e=>absurd (d p t a b) U⟩,fun p t a b g _=>by have:=g.sq;omega,E2 _⟩
structure Vt (n P:Nat) (q:Int) (h:Nat) (at_:Int->Option Nat) (E S:Int) (k:Nat) (A:Nat->Tg):Prop where
 k0:0<k
 kn:k<=n
 nP:2*n<=P
 ok:∀ i,i<k->(A i).ok=true/\(A i).ep=E/\(A i).st=S/\(A i).sq=q+1/\(A i).fl=q/\(A i).ix=(i:Int)/\(A i).ct=(k:Int)/\(A i).id<n
 free:∀ id p,at_ id=some p->∀ i,i<k->p≠(h+i)%P
section
variable {n P:Nat} {T T':TM} {q:Int} {h k:Nat} {at_ at':Int->Option Nat} {E S:Int} {A:Nat->Tg}
structure Part (P:Nat) (T T':TM) (h k:Nat) (A:Nat->Tg):Prop where
 new:∀ i,i<k->T' ((h+i)%P)=some (A i)\/T' ((h+i)%P)=T ((h+i)%P)\/T' ((h+i)%P)=none
 nu:∀ p,p<P->(∀ i,i<k->p≠(h+i)%P)->T' p=T p
def Part.aG (f:Part P T T' h k A) {p:Nat} (g:p<P) {t:Tg} (d:T' p=Y t):T p=Y t\/∃ i,i<k/\p=(h+i)%P/\t=A i:=by
 by_cases b:∃ i,i<k/\p=(h+i)%P
 .obtain ⟨i,b,rfl⟩:=b
  rcases f.new i b with a|a|a
  .rw [d] at a
   exact .inr ⟨i,b,rfl,by simpa using a⟩
  .exact .inl (a▸d)
  .rw [d] at a;cases a
 .exact .inl (by rw [<- f.nu p g fun i j e=>b ⟨i,j,e⟩];exact d)
def om (d:Vt n P q h at_ E S k A) (b:jL n P T q h at_) (g:Part P T T' h k A) {id:Int} {p:Nat} (a:at_ id=Y p):T' p=T p:=
 g.nu p (b.live _ _ a).1 fun i f=>d.free _ _ a i f
def vx (m:Vt n P q h at_ E S k A) (l:Uj n P T q h at_ E S) (r:Part P T T' h k A) {p:Nat} {t:Tg} (f:p<P) (g:T p=Y t) (b:EO P T q at_ p t) :
  ∀ p' t',p'<P->T' p'=Y t'->t.ep<t'.ep->t.sq<t'.st:=by
 intro p' t' a h4 h5;rcases r.aG a h4 with j|⟨i,o,_,rfl⟩
 .exact b.fresh _ _ a j h5
 .obtain ⟨_,s,d,_⟩:=m.ok i o
  rw [d];exact l.st _ _ f g b U
def AL (f:Vt n P q h at_ E S k A) (hP:h<P) (g:Part P T T' h k A) {p pw:Nat} (a:p<P) (b:pw<P) (d:(p+P-pw)%P<n) (h4:(p+P-h)%P<(p+P-pw)%P):T' pw=T pw:=by
 refine g.nu pw b fun i j e=>?_;have:=f.nP;have:=f.kn;rw [nC hP U] at e;rw [mA a b] at d h4;rw [mA a hP] at h4
 split at e <;> split at d <;> split at h4 <;> omega
def FX (s:Vt n P q h at_ E S k A) (C:Uj n P T q h at_ E S) (w:Part P T T' h k A) {z:Nat} (m0:z<k) (hm:T' ((h+z)%P)≠Y (A z)):jL n P T' q h at_:=by
 have o:=C.tr;have hP:=o.hP;have n0:=s.k0;have o0:=s.kn;have p0:=s.nP
 have F:∀ p t,p<P->T p=Y t->T' p=Y t->EO P T q at_ p t->EO P T' q at_ p t:=by
  intro p t b l d r;refine ⟨r.sq,vx s C w b l r,?_⟩;obtain ⟨p',t',h4,h5,m⟩:=r.live;exact ⟨p',t',h4,by rw [om s o w h4];exact h5,m⟩
 have e0:∀ id p,at_ id=Y p->p<P/\0<=id/\id<n/\∃ t,T' p=Y t/\t.id=id/\EO P T' q at_ p t:=by
  intro id p I;obtain ⟨b,l,d,t,h4,h5,m⟩:=o.live _ _ I;have u:T' p=Y t:=by rw [om s o w I];exact h4
  exact ⟨b,l,d,t,u,h5,F _ _ b h4 u m⟩
 refine ⟨hP,o.nP,o.q0,o.h0,?_,?_,e0,?_,?_⟩
 .intro p t b l
  rcases w.aG b l with d|⟨i,v,_,rfl⟩
  .exact o.tag _ _ b d
  .obtain ⟨a,i0,c,l0,e,f,g,j⟩:=s.ok i v
   exact ⟨a,U,U,j⟩
 .intro p t b l
  rcases w.aG b l with d|⟨i,v,e,rfl⟩
  .rcases o.cg _ _ b d with r|r
   .exact .inl (F _ _ b d l r)
   .refine .inr ⟨r.off,?_⟩
    rcases r.WD with h4|⟨pw,tw,h4,h5,m,u,x,B⟩
    .exact .inl h4
    .exact .inr ⟨pw,tw,h4,by rw [AL s hP w b h4 x B];exact h5,m,u,x,B⟩
  .refine .inr ⟨?_,.inl (s.ok i v).2.2.2.1⟩
   rw [mA b hP,e,nC hP U]
   split <;> split <;> omega
 .intro h0
  obtain ⟨c,r,d0,M⟩:=o.last h0;refine ⟨c,r,d0,fun i v=>?_,fun p t b l d h4=>?_⟩
  .obtain ⟨t,d,h4,h5,m,u⟩:=M.all i v
   obtain ⟨p',t',G,N,y⟩:=u.live;have f0:(h+P-c+i)%P<P:=D2 _ U
   have g0:¬ t.sq<t'.sq:=by
    obtain ⟨_,_,_,t2,H,_,g5⟩:=o.live _ _ G;rw [N] at H;obtain rfl:t'=t2:=by simpa using H
    have:=g5.sq;omega
   have e:p'=(h+P-c+i)%P:=by rcases y with y|y;exact y;exact absurd y g0
   have x:T' ((h+P-c+i)%P)=Y t:=by rw [<- e,om s o w G,e];exact d
   exact ⟨t,x,h4,h5,m,F _ _ f0 d x u⟩
  .rcases w.aG b l with h5|⟨i,v,e,rfl⟩
   .rcases o.cg _ _ b h5 with r|r
    .exact M.one _ _ b h5 r h4
    .rcases r.WD with m|⟨pw,tw,m,u,x,B,b0,c0⟩
     .omega
     .have:=d.fresh pw tw m (by rw [AL s hP w b m b0 c0];exact u) x
      omega
   .have:=(s.ok i v).2.2.2.1
    omega
 .intro e
  by_cases K:e=E
  .subst K
   refine ⟨(k:Int),(z:Int),U,U,fun p t b l d h4=>?_⟩;rcases w.aG b l with h5|⟨i,v,e,rfl⟩
   .have:=((C.ep _ _ b h5).2 d).2.sq
    omega
   .obtain ⟨_,_,_,_,_,f,g,_⟩:=s.ok i v
    refine ⟨g,fun e2=>hm ?_⟩;have:i=z:=U
    rw [<- this,<- e];exact l
  .obtain ⟨c,j,b,l,d⟩:=o.nw e
   refine ⟨c,j,b,l,fun p t h4 h5 m u=>?_⟩;rcases w.aG h4 h5 with x|⟨i,v,_,rfl⟩
   .exact d _ _ h4 x m u
   .exact absurd ((s.ok i v).2.1.symm.trans m).symm K
def Jd (s:Vt n P q h at_ E S k A) (B:Uj n P T q h at_ E S) (w:Part P T T' h k A) (C:∀ i,i<k->T' ((h+i)%P)=Y (A i))
  (M:∀ i,i<k->at' (A i).id=Y ((h+i)%P)) (n0:∀ id,(∀ i,i<k->(A i).id≠id)->at' id=at_ id):Uj n P T' (q+1) ((h+k)%P) at' E S:=by
 have v:=B.tr;have hP:=v.hP;have b0:=s.k0;have o0:=s.kn;have u0:=s.nP;have hS:=B.S1;have K:0<P:=U
 have f0:(h+k)%P<P:=D2 _ K
 have d0:∀ p t,p<P->T' p=Y t->t.ep<=E:=by
  intro p t m o;rcases w.aG m o with r|⟨i,l,_,rfl⟩
  .exact (B.ep _ _ m r).1
  .have:=(s.ok i l).2.1;omega
 have F:∀ i,i<k->EO P T' (q+1) at' ((h+i)%P) (A i):=by
  intro i l;obtain ⟨a,b,c,d,e,f,g,j⟩:=s.ok i l;refine ⟨U,fun p' t' m o r=>?_,⟨_,_,M i l,C i l,.inl rfl⟩⟩;have:=d0 _ _ m o;omega
 have g0:∀ id,at' id=at_ id\/∃ i,i<k/\(A i).id=id:=by
  intro id
  by_cases l:∃ i,i<k/\(A i).id=id
  .exact .inr l
  .exact .inl (n0 id fun i m o=>l ⟨i,m,o⟩)
 have N:∀ p t,p<P->T p=Y t->T' p=Y t->EO P T q at_ p t->EO P T' (q+1) at' p t:=by
  intro p t m o r u;have s0:=u.sq;refine ⟨U,vx s B w m o u,?_⟩;rcases g0 t.id with h4|⟨i,l,h4⟩
  .obtain ⟨p',t',h5,y,x⟩:=u.live
   exact ⟨p',t',by rw [h4];exact h5,by rw [om s v w h5];exact y,x⟩
  .refine ⟨_,_,by rw [<- h4];exact M i l,C i l,.inr ?_⟩
   have:=(s.ok i l).2.2.2.1;omega
 have r0:=s.ok 0 b0
 have c0:T' h=Y (A 0):=by
  have:=C 0 b0;rw [Nat.add_zero,E4 hP] at this;exact this
 have m0:∀ p t,p<P->T' p=Y t->T p=Y t->Xx n P T q h p t->(∃ i,i<k/\p=(h+i)%P/\t=A i)\/Xx n P T' (q+1) ((h+k)%P) p t:=by
  intro p t m o r u
  by_cases l:∃ i,i<k/\p=(h+i)%P
  .obtain ⟨i,l,e⟩:=l
   have:=C i l;rw [<- e,o] at this;exact .inl ⟨i,l,e,by simpa using this⟩
  .right
   have l0:=u.off
   have e0:k<=(p+P-h)%P:=by
    refine Nat.le_of_not_lt fun i0=>l ⟨_,i0,?_⟩;rw [nC hP (Nat.le_of_lt (D2 _ K)),mA m hP]
    split <;> split <;> omega
   have x0:(p+P-(h+k)%P)%P=(p+P-h)%P-k:=by
    rw [mA m f0,nC hP U];rw [mA m hP] at e0 l0 ⊢
    split <;> split at e0 <;> split <;> omega
   refine ⟨U,.inr ?_⟩;rcases u.WD with h4|⟨pw,tw,h4,h5,y,x,z,I⟩
   .have i0:t.ep<E:=by
     rcases Int.lt_or_eq_of_le (B.ep _ _ m r).1 with h5|h5
     .exact h5
     .have:=((B.ep _ _ m r).2 h5).2.sq
      omega
    exact ⟨h,A 0,hP,c0,U,U,l0,U⟩
   .exact ⟨pw,tw,h4,by rw [AL s hP w m h4 z I];exact h5,y,x,z,U⟩
 refine ⟨⟨f0,v.nP,by have:=v.q0;omega,fun e=>by have:=v.q0;omega,?_,?_,?_,?_,?_⟩,?_,?_,U⟩
 .intro p t m o
  rcases w.aG m o with r|⟨i,l,_,rfl⟩
  .obtain ⟨a,b,c,d⟩:=v.tag _ _ m r
   exact ⟨a,b,U,d⟩
  .obtain ⟨a,b,c,d,e,f,g,j⟩:=s.ok i l
   exact ⟨a,U,U,j⟩
 .intro p t m o
  rcases w.aG m o with r|⟨i,l,e,rfl⟩
  .rcases v.cg _ _ m r with u|u
   .exact .inl (N _ _ m r o u)
   .rcases m0 _ _ m o r u with ⟨i,l,e,rfl⟩|h4
    .exact .inl (e▸F i l)
    .exact .inr h4
  .exact .inl (e▸F i l)
 .intro id p G
  rcases g0 id with h4|⟨i,l,h4⟩
  .rw [h4] at G
   obtain ⟨m,o,r,t,h5,y,x⟩:=v.live _ _ G;have z:T' p=Y t:=by rw [om s v w G];exact h5
   exact ⟨m,o,r,t,z,y,N _ _ m h5 z x⟩
  .obtain ⟨a,b,c,d,e,f,g,j⟩:=s.ok i l
   have h5:=M i l;rw [h4,G] at h5;obtain rfl:p=(h+i)%P:=by simpa using h5
   have:=eh a;exact ⟨D2 _ K,U,U,A i,C i l,h4,F i l⟩
 .intro _
  have H:∀ i,i<k->((h+k)%P+P-k+i)%P=(h+i)%P:=by
   intro i l;rw [nC hP U]
   split
   .have e:h+k+P-k+i=h+i+P:=U
    rw [e,K9]
   .have e:h+k-P+P-k+i=h+i:=U
    rw [e]
  refine ⟨k,b0,o0,fun i l=>?_,fun p t m o r h4=>?_⟩
  .obtain ⟨a,b,c,d,e,f,g,j⟩:=s.ok i l
   rw [H i l];exact ⟨A i,C i l,d,f,g,F i l⟩
  .rcases w.aG m o with h5|⟨i,l,e,rfl⟩
   .rcases v.cg _ _ m h5 with u|u
    .have:=u.sq;omega
    .rcases m0 _ _ m o h5 u with ⟨i,l,e,rfl⟩|y
     .exact ⟨i,l,by rw [H i l];exact e⟩
     .rcases y.WD with x|⟨pw,tw,x,z,I,p0,_⟩
      .omega
      .have:=r.fresh _ _ x z I
       omega
   .exact ⟨i,l,by rw [H i l];exact e⟩
 .intro e
  refine ⟨1,0,U,U,fun p t m o r h4=>?_⟩;rcases w.aG m o with h5|⟨i,l,_,rfl⟩
  .have:=v.tag _ _ m h5;omega
  .have:=(s.ok i l).2.2.2.1;omega
 .intro p t m o
  refine ⟨d0 p t m o,fun e=>?_⟩;rcases w.aG m o with r|⟨i,l,e2,rfl⟩
  .obtain ⟨h4,h5⟩:=(B.ep _ _ m r).2 e
   exact ⟨h4,N _ _ m r o h5⟩
  .exact ⟨(s.ok i l).2.2.1,e2▸F i l⟩
 .intro p t m o r h4
  have:=r.fresh h (A 0) hP c0 U;omega
end
end Go.SL
namespace Go.Proofs.Nn
open RowKit SL
def bq (P:Nat) (D:aw):TM:=fun p=>if p<P/\(D.aG ((p:Int)+1)).1=0 then (bH (D.aG ((p:Int)+1)).2).map D7 else X
def lY {P:Nat} {D a:aw} {p:Nat} (h:D.aG ((p:Int)+1)=a.aG ((p:Int)+1)):bq P D p=bq P a p:=by unfold bq;rw [h]
def jT {P:Nat} {D b:aw} (h:∀ p:Nat,p<P->D.aG ((p:Int)+1)=b.aG ((p:Int)+1)):bq P D=bq P b:=by
 funext p
 by_cases a:p<P
 .exact lY (h p a)
 .unfold bq;rw [if_neg (fun c=>a c.1),if_neg (fun c=>a c.1)]
def xD {P:Nat} {D:aw} {p:Nat} {t:Tg} {b:List UInt8} (f:p<P) (h:D.aG ((p:Int)+1)=(0,enc t++b)) (a:t.Fit) (d:t.ok=O):bq P D p=Y t:=by
 unfold bq;rw [h];simp [tI a d,f]
def LZ {D:aw} {n P:Nat} (h:∀ p t,p<P->bq P D p=Y t->t.id<n):∀ k,k<=P->∀ t p,(t,p) ∈ dV (n:Int) D k↔p<k/\bq P D p=Y t:=by
 intro k
 induction k with
 | zero=>intro _ t p;simp [dV]
 | succ k m=>
  intro o t p;have j:=m U t p;rw [xF]
  have f:bq P D k=if (D.aG ((k:Int)+1)).1=0 then (bH (D.aG ((k:Int)+1)).2).map D7 else X:=by
   unfold bq;have:k<P:=U
   simp only [this,true_and]
  by_cases h0:(D.aG ((k:Int)+1)).1=0
  .rw [if_pos h0] at f ⊢
   cases l:bH (D.aG ((k:Int)+1)).2 with
   | none=>
    rw [l] at f;rw [tE,j];refine ⟨fun ⟨a,b⟩=>⟨U,b⟩,fun ⟨a,b⟩=>⟨?_,b⟩⟩;rcases H2 (Nat.lt_succ_iff.1 a) with d|d
    .exact d
    .rw [d,f] at b;cases b
   | some x=>
    rw [l] at f;have g:bq P D k=Y x.1:=f;rw [wm (h k x.1 U g),List.mem_append,j];constructor
    .rintro (⟨a,b⟩|a)
     .exact ⟨U,b⟩
     .simp only [List.mem_singleton,Prod.mk.injEq] at a
      obtain ⟨rfl,rfl⟩:=a;exact ⟨U,g⟩
    .rintro ⟨a,b⟩
     rcases H2 (Nat.lt_succ_iff.1 a) with d|d
     .exact .inl ⟨d,b⟩
     .right
      rw [d,g] at b;have:x.1=t:=by simpa using b
      simp [this,d]
  .rw [if_neg h0] at f ⊢
   rw [j];refine ⟨fun ⟨a,b⟩=>⟨U,b⟩,fun ⟨a,b⟩=>⟨?_,b⟩⟩;rcases H2 (Nat.lt_succ_iff.1 a) with d|d
   .exact d
   .rw [d,f] at b;cases b
def La {D:aw} {n P:Nat} (h:∀ p t,p<P->bq P D p=Y t->t.id<n):Lays P (bq P D) (dV (n:Int) D P):=⟨LZ h P (Nat.le_refl _)⟩
def qt (J:Jr):Int->Option Nat:=fun id=>(told J.T.ps id).map Int.toNat
structure JT (n:Nat) (J:Jr) (D:aw) (has:Has):Prop where
 inv:dp J D has
 jn:J.n=(n:Int)
 run:Uj n J.P (bq J.P D) J.sq J.hd.toNat (qt J) J.ep J.st
def JT.dev {n:Nat} {J:Jr} {D a:aw} {has:Has} (h:JT n J D has) (b:dp J a has) (d:∀ p:Nat,p<J.P->a.aG ((p:Int)+1)=D.aG ((p:Int)+1)):JT n J a has:=
 ⟨b,h.jn,by rw [jT d];exact h.run⟩
def nX (J:Jr) (a:List Wr) (k:Nat):List (Int × List UInt8):=(E5 k).map fun i:Nat=>((J.hd+(i:Int))%(J.P:Int)+1,enc (J.tag i a.length (a.getD i Wr.nil).1)++(a.getD i Wr.nil).2.2)
def yH (J:Jr) (a:List Wr) (k:Nat):nX J a (k+1)=nX J a k++[((J.hd+(k:Int))%(J.P:Int)+1,enc (J.tag k a.length (a.getD k Wr.nil).1)++(a.getD k Wr.nil).2.2)]:=by simp [nX,List.range_succ]
def Jx (J:Jr) (D:aw) (hP:0<J.P) (f:D.Calm) (y:(J.P:Int)+1<=D.sec.length) (a:List Wr) (g:∀ z ∈ a,z.2.2.length=480):∀ k,k<=a.length->J.bg D a k=(0,{ D with cw:=df D.cw k,wait:=D.wait++nX J a k }):=by
  intro k
  induction k with
  | zero=>intro _;simp [Jr.bg,nX,df]
  | succ k r=>
    intro v;have s:=r U;have m:a.getD k Wr.nil ∈ a:=by rw [B3,D4 U];exact G3 _
    have l:(enc (J.tag k a.length (a.getD k Wr.nil).1)++(a.getD k Wr.nil).2.2).length=512:=by rw [J7,cV,g _ m]
    have w:0<=(J.hd+(k:Int))%(J.P:Int):=Int.emod_nonneg _ U;have x:(J.hd+(k:Int))%(J.P:Int)<J.P:=Int.emod_lt_of_pos _ U;have u:({ D with cw:=df D.cw k,wait:=D.wait++nX J a k }:aw).Calm:=⟨f.down,f.eO⟩
    have j:({ D with cw:=df D.cw k,wait:=D.wait++nX J a k }:aw).has ((J.hd+(k:Int))%(J.P:Int)+1):=⟨U,by show _<(D.sec.length:Int);omega⟩
    have o:=u.write j l
    have b:J.bg D a (k+1)=if (J.bg D a k).1=0 then
        (let d:=(J.bg D a k).2.write ((J.hd+(k:Int))%(J.P:Int)+1) (enc (J.tag k a.length (a.getD k Wr.nil).1)++(a.getD k Wr.nil).2.2)
         (if d.1=0 then 0 else 2,d.2)) else J.bg D a k:=rfl
    rw [s] at b;simp only [if_true] at b;rw [o] at b;simp only [if_true] at b;rw [b,yH,<- List.append_assoc]
    rfl
def kS (J:Jr) (D:aw) (has:Has) (L:Bl):aw:=
 { D.ay with cr:=df D.ay.cr (aS J has L).length,cw:=df D.ay.cw (L++aS J has L).length,wait:=nX J (eQ (L++aS J has L)) (L++aS J has L).length }
def vK {J:Jr} {D:aw} {has:Has} (h:dp J D has) {L:Bl} (b:Batch J.n L) (r:J.sq<281474976710655) (f:¬ (J.P:Int)-J.us-J.fr<((L++aS J has L).length:Int)) :
  Tf J D has L (kS J D has L):=by
 obtain ⟨g,d⟩:=Dn h b r f;have m:=tu h.ay L;have l:=Fv h b
 have j:∀ z ∈ eQ (L++aS J has L),z.2.2.length=480:=by
  intro z w;obtain ⟨x,v,rfl⟩:=List.mem_map.1 w;exact (l.b x v).1
 have u:(eQ (L++aS J has L)).length=(L++aS J has L).length:=by simp [eQ]
 have s:=Jx J { D.ay with cr:=df D.ay.cr (aS J has L).length } h.ok.p0 (uG h.ay.calm _) h.ay.sec (eQ (L++aS J has L)) j (L++aS J has L).length (by rw [u];exact Nat.le_refl _)
 have o:dJ J D O L=(0,J.done (L++aS J has L) (J.aJ L.length),kS J D has L):=by
  unfold dJ;rw [if_neg Si0,if_neg U,h.flush,if_neg Si0];unfold qI;rw [m,if_neg Si0,if_neg f,s,if_neg Si0]
  rfl
 have e:g=kS J D has L:=by
  have a:=d.run;rw [o] at a;simp only [Prod.mk.injEq] at a;exact a.2.2.symm
 exact e▸d
def qo (J:Jr) (hP:0<J.P) (b:List Wr) (a:Int):∀ k:Nat,k<=J.P->(∀ i:Nat,i<k->a=(J.hd+(i:Int))%(J.P:Int)+1->dg (nX J b k) a=Y (enc (J.tag i b.length (b.getD i Wr.nil).1)++(b.getD i Wr.nil).2.2)) /\
  ((∀ i:Nat,i<k->a≠(J.hd+(i:Int))%(J.P:Int)+1)->dg (nX J b k) a=X):=by
 intro k
 induction k with
 | zero=>intro _;exact ⟨fun i d=>absurd d (Nat.not_lt_zero i),fun _=>rfl⟩
 | succ k l=>
  intro m;obtain ⟨g,j⟩:=l U;rw [yH];refine ⟨fun i d e=>?_,fun h=>?_⟩
  .rw [gi]
   rcases H2 (Nat.lt_succ_iff.1 d) with f|f
   .have o:(J.hd+(k:Int))%(J.P:Int)≠(J.hd+(i:Int))%(J.P:Int):=gY U U
    rw [if_neg (by simp only;omega)];exact g i f e
   .subst f
    rw [if_pos e.symm]
  .rw [gi,if_neg (fun e=>h k U e.symm)]
   exact j fun i d=>h i U
def ig {J:Jr} (a:J.Ok) (i:Nat):(((J.hd.toNat+i)%J.P:Nat):Int)=(J.hd+(i:Int))%(J.P:Int):=by
 have:=a.Bf;rw [Int.natCast_emod,Int.natCast_add];congr 2;omega
def zm {J:Jr} (a:J.Ok) {p i:Nat} (h:(p:Int)+1=(J.hd+(i:Int))%(J.P:Int)+1):p=(J.hd.toNat+i)%J.P:=by
 have:=ig a i;omega
def PQ {g:Type} {l:List g} (h:l.Nodup) {i j:Nat} (d:i<l.length) (f:j<l.length) (e:l[i]=l[j]):i=j:=by
 have b:=List.pairwise_iff_getElem.1 h;rcases Nat.lt_trichotomy i j with a|a|a
 .exact absurd e (b i j d f a)
 .exact a
 .exact absurd e.symm (b j i f d a)
def Gj {L:Bl} (g:(L.map D7).Nodup) {i:Nat} (a:i<L.length):L.findIdx? (fun y=>y.1 == (L.getD i (0,[])).1)=Y i:=by
 cases d:L.findIdx? (fun y=>y.1 == (L.getD i (0,[])).1) with
 | none=>
  exact absurd (List.mem_map.2 ⟨L.getD i (0,[]),by rw [B3,D4 a];exact G3 _,rfl⟩) (eW.1 d)
 | some j=>
  obtain ⟨b,f,_⟩:=Bc d
  have e:(L.map D7)[j]'(by simpa using b)=(L.map D7)[i]'(by simpa using a):=by
   simp only [List.getElem_map];simpa [B3,D4 b,D4 a] using f
  exact congrArg Y (PQ g _ _ e)
def uv (J:Jr) (A:Bl) (i:Nat):Tg:=J.tag i A.length (A.getD i (0,[])).1
section
variable {n:Nat} {J:Jr} {D:aw} {has:Has} {L:Bl}
def ki (h:JT n J D has) (g:Batch J.n L) (v:J.sq<281474976710655) (hP:2*n<=J.P) (m:¬ (J.P:Int)-J.us-J.fr<((L++aS J has L).length:Int)) :
  Vt n J.P J.sq J.hd.toNat (qt J) J.ep J.st (L++aS J has L).length (uv J (L++aS J has L)):=by
 have d:=Fv h.inv g;have G:=h.inv.ok.SX;have H:=h.jn;have o:1<=(L++aS J has L).length:=by rw [J7];have:=g.n0;omega
 have l:(L++aS J has L).length<=72:=by
  rw [J7];have:=rG J has L h.inv.ok.uH;have:=Jr.eI h.inv.ok.uH L.length;have:=g.n1;omega
 generalize L++aS J has L=A at d m o l ⊢;have s:=h.inv.nums.numbers v;have I:=h.inv.nums.n1;refine ⟨U,?_,hP,fun i j=>?_,fun id p b i j e=>?_⟩
 .have:=tB (n:=n) d.nd (fun x w=>by
   obtain ⟨y,hy,rfl⟩:=List.mem_map.1 w;have:=d.b y hy;omega)
  rwa [List.length_map] at this
 .have r:A.getD i (0,[]) ∈ A:=by rw [B3,D4 j];exact G3 _
  have u:=d.b _ r;exact ⟨Jr.F8 s j l u.2.1 U,rfl,rfl,rfl,rfl,rfl,rfl,by show (A.getD i (0,[])).1<(n:Int);omega⟩
 .unfold qt at b
  cases f:told J.T.ps id with
  | none=>rw [f] at b;cases b
  | some q=>
   rw [f] at b;obtain rfl:q.toNat=p:=by simpa using b
   obtain ⟨a,z,B,a3⟩:=h.inv.win _ _ (h.inv.qE.pq _ _ f);have K:=h.inv.place f;have C:(J.hd+(i:Int))%(J.P:Int)≠a%(J.P:Int):=gY U U;have F:=ig h.inv.ok i;omega
def FE (h:JT n J D has) (g:Batch J.n L) (r:¬ (J.P:Int)-J.us-J.fr<((L++aS J has L).length:Int)) :
  (∀ i:Nat,i<(L++aS J has L).length->(kS J D has L).aG ((J.hd+(i:Int))%(J.P:Int)+1)=(0,enc (uv J (L++aS J has L) i)++((L++aS J has L).getD i (0,[])).2)) /\
  ∀ p:Nat,p<J.P->(∀ i:Nat,i<(L++aS J has L).length->p≠(J.hd.toNat+i)%J.P)->(kS J D has L).aG ((p:Int)+1)=D.aG ((p:Int)+1):=by
 have f:=Fv h.inv g;have s:=h.inv.ok.SX;have w:=h.inv.ok.uH;have o:(eQ (L++aS J has L)).length=(L++aS J has L).length:=by simp [eQ]
 have d:(L++aS J has L).length<=J.P:=U
 have v:=h.inv.sec;refine ⟨fun i a=>?_,fun p u m=>?_⟩
 .have b:=(qo J h.inv.ok.p0 (eQ (L++aS J has L)) ((J.hd+(i:Int))%(J.P:Int)+1) _ d).1 i a rfl
  have j:(L++aS J has L).getD i (0,[]) ∈ L++aS J has L:=by rw [B3,D4 a];exact G3 _
  have e:(kS J D has L).aG ((J.hd+(i:Int))%(J.P:Int)+1)=(0,bB 512 (enc (J.tag i (eQ (L++aS J has L)).length ((eQ (L++aS J has L)).getD i Wr.nil).1)++((eQ (L++aS J has L)).getD i Wr.nil).2.2)):=by
   unfold aw.aG;show (match dg (nX J (eQ (L++aS J has L)) (L++aS J has L).length) _ with|some l=>_|none=>_)=_
   rw [b]
  rw [e,o,(ea _ _).1,(ea _ _).2,kB];rw [ia (by rw [J7,cV,(f.b _ j).1])]
  rfl
 .have b:=(qo J h.inv.ok.p0 (eQ (L++aS J has L)) ((p:Int)+1) _ d).2 fun i a e=>m i a (zm h.inv.ok e)
  have e:(kS J D has L).aG ((p:Int)+1)=D.ay.aG ((p:Int)+1):=by
   unfold aw.aG;show (match dg (nX J (eQ (L++aS J has L)) (L++aS J has L).length) _ with|some l=>_|none=>_)=_
   rw [b]
   rfl
  rw [e];exact bZ h.inv.pH _ ⟨U,U⟩
def QZ (h:JT n J D has) (f:Batch J.n L) (g:¬ (J.P:Int)-J.us-J.fr<((L++aS J has L).length:Int)) (c:Int) :
  (∀ i,i<(L++aS J has L).length->qt (J.done (L++aS J has L) c) (uv J (L++aS J has L) i).id=Y ((J.hd.toNat+i)%J.P)) /\
  ∀ id,(∀ i,i<(L++aS J has L).length->(uv J (L++aS J has L) i).id≠id)->qt (J.done (L++aS J has L) c) id=qt J id:=by
 have d:=Fv h.inv f;obtain ⟨o,b,r⟩:=tH h.inv f g;rw [List.take_length] at b;generalize L++aS J has L=A at d b g ⊢;refine ⟨fun i a=>?_,fun id j=>?_⟩
 .show (told (J.fL A A.length).ps (A.getD i (0,[])).1).map Int.toNat=_
  rw [b,Gj d.nd a];show Y ((J.hd+(i:Int))%(J.P:Int)).toNat=_
  rw [<- ig h.inv.ok i];rfl
 .show (told (J.fL A A.length).ps id).map Int.toNat=_
  have m:A.findIdx? (fun y=>y.1 == id)=X:=by
   rw [eW];intro l;obtain ⟨y,hy,rfl⟩:=List.mem_map.1 l;obtain ⟨i,a,e⟩:=J3 hy;refine j i a ?_;show (A.getD i (0,[])).1=y.1
   rw [B3,D4 a,<- e];rfl
  rw [b,m];rfl
def JP (h:JT n J D has) (b:Batch J.n L) (g:J.sq<281474976710655) (d:¬ (J.P:Int)-J.us-J.fr<((L++aS J has L).length:Int)) (hP:2*n<=J.P) :
  Part J.P (bq J.P D) (bq J.P (kS J D has L)) J.hd.toNat (L++aS J has L).length (uv J (L++aS J has L)) /\
  ∀ i,i<(L++aS J has L).length->bq J.P (kS J D has L) ((J.hd.toNat+i)%J.P)=Y (uv J (L++aS J has L) i):=by
 have j:=ki h b g hP d;have m:=h.inv.nums.numbers g;obtain ⟨r,s⟩:=FE h b d
 have f:∀ i,i<(L++aS J has L).length->bq J.P (kS J D has L) ((J.hd.toNat+i)%J.P)=Y (uv J (L++aS J has L) i):=by
  intro i a;refine xD (D2 _ h.inv.ok.p0) (b:=((L++aS J has L).getD i (0,[])).2) ?_ (Jr.uX m _ _ _) (j.ok i a).1;rw [ig h.inv.ok i];exact r i a
 exact ⟨⟨fun i a=>.inl (f i a),fun p o l=>lY (s p o l)⟩,f⟩
def Jw (h:JT n J D has) (a:Batch J.n L) (d:J.sq<281474976710655) (b:¬ (J.P:Int)-J.us-J.fr<((L++aS J has L).length:Int)) (hP:2*n<=J.P) :
  JT n (J.done (L++aS J has L) (J.aJ L.length)) (kS J D has L) (kR has L):=by
 have j:=vK h.inv a d b;obtain ⟨m,l⟩:=JP h a d b hP;obtain ⟨f,g⟩:=QZ h a b (J.aJ L.length);have o:=Jd (ki h a d hP b) h.run m l f g;refine ⟨j.inv,h.jn,?_⟩
 have e:(J.done (L++aS J has L) (J.aJ L.length)).hd.toNat=(J.hd.toNat+(L++aS J has L).length)%J.P:=by
  show ((J.hd+((L++aS J has L).length:Int))%(J.P:Int)).toNat=_
  rw [<- ig h.inv.ok];rfl
 rw [e];exact o
end
end Go.Proofs.Nn
namespace Go.SL
open RowKit
def C4 {L:List dS} {E:Nat} (h:∀ x ∈ L,0<=x.1.ep/\x.1.ep<=(E:Int)):(dy L).length<=E+1:=by
 have v:∀ (L:List dS) (M:Ms),(∀ x ∈ L,0<=x.1.ep/\x.1.ep<=(E:Int))->(M.map D7).Nodup->(∀ p ∈ M,0<=p.1/\p.1<=(E:Int))->((L.foldl dD M).map D7).Nodup/\∀ p ∈ L.foldl dD M,0<=p.1/\p.1<=(E:Int):=by
  intro L
  induction L with
  | nil=>intro M _ h k;exact ⟨h,k⟩
  | cons x L u=>
   intro M f j g
   have o:∀ p ∈ SU.dM M x.1.ep x.1.st,0<=p.1/\p.1<=(E:Int):=fun p d=>by
    rcases SU.ri d with rfl|d
    .exact f x Si0
    .exact g p d
   have m:=SU.gr j x.1.ep x.1.st
   have l:((dD M x).map D7).Nodup/\∀ p ∈ dD M x,0<=p.1/\p.1<=(E:Int):=by
    unfold dD
    split
    .exact ⟨m,o⟩
    .split
     .exact ⟨m,o⟩
     .exact ⟨j,g⟩
   exact u _ (fun y hy=>f y (by simp [hy])) l.1 l.2
 obtain ⟨r,s⟩:=v L [] h List.nodup_nil Si0
 have:=SU.kC (m:=(E5 (E+1)).map fun i:Nat=>(i:Int)) r fun x f=>by
  obtain ⟨p,d,rfl⟩:=List.mem_map.1 f;obtain ⟨a,b⟩:=s p d;exact List.mem_map.2 ⟨p.1.toNat,by simp;omega,U⟩
 simpa [dy] using this
end Go.SL
namespace Go.Proofs.Nn
open RowKit SL
attribute [local go_sem] Oper.semAt_some
theorem Ow (w:World) (S:Hp) (d:Nat) (D H:aw) (P B:Nat) (F:ai) (L:List dS) (st:Js) (h:ah w (aD S d D*(al S*F))) (hD:D.Ok) (y1:1<=P) (hP:P+1<=D.sec.length) (x1:1<=B) (hB:B<=3840) (hR:dm B D P=((0:Int),L,H)) (p1:xo L P B=Y st) (k1:(dy L).length<=12) :
  Calls prog 119 #[ax d,Z V (P:Int),Z V (B:Int)] w (Wg S d ((0:Int),Y st,H) F w):=by
 have hn:(D.sec.length:Int)<=20000:=by have:=hD.n;omega
 have hA:=h.alloc (Q #[Z .u32 0,Z R 0,Z R 0,Z V 0,Z V 0,W X 0 0] 173 (0,0));have hs:=(ak.refl w).alloc (Q #[Z .u32 0,Z R 0,Z R 0,Z V 0,Z V 0,W X 0 0] 173 (0,0));have o1:=jw _ S d D _ hA.right;have p0:=Lv _ S d D P B _ (hA.t00 (aD S d D*(al S*(pt w.heap.size (Q #[Z .u32 0,Z R 0,Z R 0,Z V 0,Z V 0,W X 0 0] 173 (0,0))*F)))) hD hP;obtain ⟨n0,K0,-⟩:=od (B:Int) D P;rw [hR] at p0 n0 K0;have Z1:(1:Int)<=(P:Int):=U
 have a2:(P:Int)<=(D.sec.length:Int)-1:=U
 have R1:(1:Int)<=(B:Int):=U
 have T1:(B:Int)<=3840:=U
 dsimp only at p0 n0 K0;have s:=ae n0;have r:=ae (show 1<=P/\P<=20000/\1<=B/\B<=3840 by omega);have z1:L.length<=20000:=U
 have h1:=ae p1;have m:=ae k1;clear h hA hD y1 hP x1 hB hR n0 K0 p1 k1;generalize (D.sec.length:Int)=n at *
 go_in
 go_wp2_with (apply o1.mono;rintro e w1 ⟨rfl,rfl⟩)
 generalize w.alloc (Q #[Z .u32 0,Z R 0,Z R 0,Z V 0,Z V 0,W X 0 0] 173 (0,0))=w1 at *;generalize w.heap.size=z at *
 (with_reducible apply p0.mono)
 rintro e w2 ⟨v,rfl,h2,d2⟩;clear o1 p0;have d3:=hs.trans d2;obtain ⟨x0,hX⟩:=Mn0 (sl 252 8 v L.length (gS L)*(aD S d H*(al S*(pt z (Q #[Z .u32 0,Z R 0,Z R 0,Z V 0,Z V 0,W X 0 0] 173 (0,0))*F))))
 have h3:ah w2 x0:=hX▸h2;have HX:=ae hX;obtain ⟨va,vc,rfl⟩:=az h2;clear h2 d2 hs hX;have W1:(L.length:Int)<=20000:=U
 go_wp2_with fail
 go_loopw [10,11,53] (fun u10 u11 u53 wr=>WT L x0 w u10 u11 u53 wr) (fun _ _ V0 _=>L.length-(intOf V0).toNat)
 case atStart=>exact ⟨0,0,0,Nat.zero_le _,rfl,rfl,rfl,rfl,rfl,h3,d3⟩
 case round=>
  clear h3 d3;obtain ⟨k,f,e,hk,rfl,rfl,rfl,G,u,M,S0⟩:=hrel;have m0:yo wr (W va L.length vc) L:=(HX.o▸M:ah wr (sl 252 8 (W va L.length vc) L.length (gS L)*_)).ny
  by_cases L0:k<L.length
  .have Y1:(k:Int)<(L.length:Int):=U
   obtain ⟨g,off,c',hv,t,p,ht,c0,c1,c2,c3,c4,c5,c6,c7⟩:=jV m0 L0;cases hv
   have H0:=ie (fun T0 (x:dS)=>max T0 x.1.fl) 0 L L0;have G0:=ie (fun T0 (x:dS)=>max T0 x.1.ep) 0 L L0;rw [G,ht] at H0;rw [u,ht] at G0;have Hf:=ae H0;have He:=ae G0;have HA:=ae (M.alloc (Q #[Z .u32 t.ep,Z R t.st,Z R t.sq,Z R t.fl,Z V t.ix,Z V t.ct,Z V t.id,Z V (p:Int)] 252 (0,0))).right;clear G u H0 G0 ht m0 M
   go_wp2_with fail
   all_goals
    go_roundw
    case rel=>exact ⟨k+1,max f t.fl,max e t.ep,U,by go_num,by first|rfl|(congr 1;omega),by first|rfl|(congr 1;omega),Hf.o,He.o,HA.o,S0.alloc _⟩
    case measure=>simp [intOf];omega
  obtain rfl:k=L.length:=U
  rw [List.take_length] at G u;have m1:xX L=f:=G;have l1:lE L=e:=u;have bf:=BY (fun x:dS=>x.1.fl) 281474976710654 L (fun x l=>by have:=eh (s.o x l).ok;omega) 0 U U;have be:=BY (fun x:dS=>x.1.ep) 4294967295 L (fun x l=>by have:=(s.o x l).fit.Vz;omega) 0 U U;rw [G] at bf;rw [u] at be;obtain ⟨L1,M1⟩:=bf;obtain ⟨H1,K1⟩:=be;have q1:=IG wr _ L m0 (fun x l=>⟨(s.o x l).ok,(s.o x l).fit⟩) U m.o;have g1:=ae m1;have f1:=ae l1;clear G u m1 l1 m0
  go_wp2_with fail
  (with_reducible apply q1.mono)
  rintro e5 w5 ⟨v2,rfl,h5,d5⟩;have H5:=h5.under M;have D0:yo w5 v2 (cQ L):=h5.ny;have N0:∀ x ∈ cQ L,x ∈ L:=fun x l=>(List.mem_filter.1 l).1;have X1:(cQ L).length<=20000:=Nat.le_trans (List.length_filter_le _ _) z1;have C:=JE w5 v2 (cQ L) (f+1) D0 (fun x l=>(s.o x (N0 x l)).ok) U;obtain ⟨q,hq⟩:=Mn0 (MK L)
  have K:q=if jF (cQ L) (f+1)=O then f+1 else f:=by rw [hq];unfold MK;rw [g1.o]
  have y:=h1.o;unfold xo at y;rw [<- hq,f1.o] at y
  split at y
  .cases y
  rename_i R0;injection y with y
  have u:e≠4294967295:=fun h=>R0 (.inl h);have V1:(e == 4294967295)=Z':=by simpa using u
  have e2:¬ 281474976710655<=q:=fun h=>R0 (.inr h);have i0:=ae y.symm;have l0:=ae N0;have e1:=ae D0;have D5:=S0.trans d5;clear q1 h5 d5 N0 D0 M S0 y R0 hq h1 g1 f1 m;obtain ⟨b0,d0,rfl⟩:∃ u1 c,v2 = W u1 (cQ L).length c:=az H5;generalize cQ L=j at *;generalize jF j (f+1)=wb at C K
  go_wp2_with fail
  (with_reducible apply C.mono)
  rintro e6 w6 ⟨rfl,h6,d6⟩;have H6:=h6.cU H5;have D6:=D5.trans d6;have s1:Hid (yo w6 (W b0 j.length d0) j):=ae (e1.o.aH (h6.to (cy _).symm));clear C h6 d6 H5 D5 e1;have b2:0<=q:=by rw [K];split <;> omega
  go_upto_if 74 with (fail)
  go_cut [15] from 75 to 76 (fun V0 wx=>V0 = Z R q/\wx=w6)
  case first=>
   cases wb
   .go_wp2_with fail
    go_meet
    exact ⟨by rw [K];rfl,rfl⟩
   .go_wp2_with fail
    go_meet
    exact ⟨by rw [K];rfl,rfl⟩
  case rest=>
   clear K;obtain ⟨rfl,rfl⟩:=hcut;have g2:wc.heap[z]?=Y (Q #[Z .u32 0,Z R 0,Z R 0,Z V 0,Z V 0,W X 0 0] 173 (0,0)):=(HX.o▸H6:ah wc (_*(_*(_*(_*(pt z _*F)))))).aI.heap;have f2:IntKind.u32.wrap (e+1)=e+1:=by rw [IntKind.wrap_u32];omega
   have n1:=tK P 0 wc r.o.1 (by have:=r.o;omega)
   go_wp2_with fail
   (with_reducible apply n1.mono)
   rintro e7 w7 ⟨s0,rfl,h7,d7⟩;have H7:=h7.under H6;have H8:=H7.alloc (Q #[Z .u32 (e+1),Z R (q+1),Z R q,Z V 0,Z V 0,W X 0 0] 173 (0,0));have D8:=(D6.trans d7).alloc (Q #[Z .u32 (e+1),Z R (q+1),Z R q,Z V 0,Z V 0,W X 0 0] 173 (0,0));clear n1 h7 d7 H6 D6 H7 s1
   go_wp2_with fail
   generalize A1:w7.alloc (Q #[Z .u32 (e+1),Z R (q+1),Z R q,Z V 0,Z V 0,W X 0 0] 173 (0,0))=w8 at *;generalize w7.heap.size=a at *;have C:=Lc w8 (W b0 j.length d0) j q B H8.au.ny r.o.2.2.2 (fun x l=>⟨(s.o x (l0.o x l)).ok,(s.o x (l0.o x l)).id⟩) U;have F0:=kH j q B;generalize v1:kx j q B=b at C F0 i0;have t1:=ae F0;clear v1 A1 F0
   (with_reducible apply C.mono)
   rintro e9 w9 ⟨g,rfl,h9,d9⟩;have H9:=h9.under H8;have D9:=D8.trans d9;have q5:w9.cell? ⟨a,5,X⟩=Y (W X 0 0):=H9.aj.cell 5;have f5:w9.frozen? ⟨a,5,X⟩=Z':=H9.aj.frozen 5;have I:=H9.aj.setCell 5 (W (Y ⟨g,0,X⟩) b.length b.length);have Y0:=D9.setCell ⟨a,5,X⟩ (W (Y ⟨g,0,X⟩) b.length b.length);simp only [K8,K7,K6] at I;clear C h9 d9 H8 D8 H9 D9
   go_wp2_with fail
   generalize w9.setCell ⟨a,5,X⟩ (W (Y ⟨g,0,X⟩) b.length b.length)=E1 at *;have o0:=NM E1 (W b0 j.length d0) j q s0 (J2 P 0) _ I.aC.ny I.au (by rw [E3];exact r.o.1) (by rw [E3];have:=r.o;omega) (fun x l=>⟨(s.o x (l0.o x l)).ok,by have:=(s.o x (l0.o x l)).place;have:=r.o;omega⟩) U;rw [E3] at o0;generalize um j q P=o at o0 i0
   (with_reducible apply o0.mono)
   rintro N1 e0 ⟨rfl,j1,i1⟩;have f0:=j1.cU I;have Z0:=Y0.trans i1;have q3:e0.cell? ⟨a,3,X⟩=Y (Z V 0):=f0.cell 3;have f3:e0.frozen? ⟨a,3,X⟩=Z':=f0.frozen 3;have m:=f0.setCell 3 (Z V o);have a1:=Z0.setCell ⟨a,3,X⟩ (Z V o);simp only [K8,K7,K6] at m;have p3:(e0.setCell ⟨a,3,X⟩ (Z V o)).cell? ⟨a,3,X⟩=Y (Z V o):=m.cell 3;have p5:(e0.setCell ⟨a,3,X⟩ (Z V o)).cell? ⟨a,5,X⟩=Y (W (Y ⟨g,0,X⟩) b.length b.length):=m.cell 5;have r0:=Pv _ g b.length b o s0 (J2 P 0) _ (m.aj.t00 (pt g _*(bC s0 _*(pt a _*(sl 252 8 (W b0 j.length d0) j.length (gS j)*x0))))) (by rw [E3];exact r.o.1) (by rw [E3];have:=r.o;omega) (by rw [t1.o];have:=r.o;omega);rw [E3] at r0;clear o0 j1 i1 I Y0 f0 Z0 q5 f5
   go_wp2_with fail
   generalize e0.setCell ⟨a,3,X⟩ (Z V o)=W0 at *;generalize BF b o P=N at r0 i0
   (with_reducible apply r0.mono)
   rintro O1 i2 ⟨rfl,rfl⟩;have q4:W0.cell? ⟨a,4,X⟩=Y (Z V 0):=m.cell 4;have f4:W0.frozen? ⟨a,4,X⟩=Z':=m.frozen 4;have g0:=m.setCell 4 (Z V N);have r1:=a1.setCell ⟨a,4,X⟩ (Z V N);simp only [K8,K7,K6] at g0;have rr:=g0.cell
   have u0:ah (W0.setCell ⟨a,4,X⟩ (Z V N)) (pt z (Q #[Z .u32 0,Z R 0,Z R 0,Z V 0,Z V 0,W X 0 0] 173 (0,0))*(pt g (Q (ints b) 3 (0,0))*(aD S d H*(al S*F)))):=by
    have h:=g0;rw [HX.o] at h;exact (h.t00 ((pt a _*(bC s0 _*(sl 252 8 (W b0 j.length d0) j.length (gS j)*sl 252 8 (W va L.length vc) L.length (gS L))))*(pt z (Q #[Z .u32 0,Z R 0,Z R 0,Z V 0,Z V 0,W X 0 0] 173 (0,0))*(pt g (Q (ints b) 3 (0,0))*(aD S d H*(al S*F)))))).right
   have D1:=u0.heap;have b1:=u0.setRow (cs':=#[Z .u32 (e+1),Z R (q+1),Z R q,Z V o,Z V N,W (Y ⟨g,0,X⟩) b.length b.length]);have d1:=ae b1;clear r0 m a1 g0 p3 p5 q3 f3 u0 b1
   go_wp2_with (refine wpList_store_row rfl 173 (.tmp 6) (.tmp 109) rfl z #[Z .u32 (e+1),Z R (q+1),Z R q,Z V o,Z V N,W (Y ⟨g,0,X⟩) b.length b.length] rfl rfl 173 #[Z .u32 0,Z R 0,Z R 0,Z V 0,Z V 0,W X 0 0] D1 (Vn _ _ _ _ _ _ _ _) rfl (TC _ _ _ _ _ _ _ _) ?_)
   refine bodyPost_ret (Aq rfl rfl d1.o) rfl ?_;rw [i0.o];exact ⟨_,rfl,(ah.aq.2 ⟨g,(ah.ao.2 ⟨rfl,d1.o.right⟩:ah _ (fact _*_)).to (ar _ _ _).symm⟩:ah _ (ex _*_)),r1.setRow _ _⟩
end Go.Proofs.Nn
