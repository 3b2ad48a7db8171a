/- Steps. -/
import Derived.Test.YtdickhgiahcnaaaGreatDoorNP26
set_option linter.all false
set_option maxRecDepth 99999
set_option maxHeartbeats 0
open Go.SL
open Go.Value renaming int->Y
open Go.IntKind renaming i64->X
open Go renaming World->Z'
open Go.Proofs.Tryz renaming prog->Z
open Go.Proofs.Tryz
open Nat renaming le_trans->A3,add_le_add_right->A2
namespace Go.SL
open RowKit
def RQ {a:Type} (f:Nat->a) (k:Nat) (x y:a):df (df f k x) k y=df f k y:=by
 funext b;unfold df;split <;> rfl
end Go.SL
namespace Go.Proofs.Fs
open RowKit SL Proofs.Ba
structure Fx (n:Nat) where
 σ:Type
 c:Cx σ
 V0:Nat->List UInt8
 I:σ->Prop
 ok:c.Ok
 Ki:qm c.ask n V0 I
 h4:4<=n
 hn:n<=3840
 R:Hp->ai
 hR:∀ S S',Ext S S'->∀ h,R S h->R S' h
 C:Nat
@[reducible] def Fx.more {n:Nat} (x:Fx n) (m:Nat):Fx n:=⟨x.σ,x.c,x.V0,x.I,x.ok,x.Ki,x.h4,x.hn,x.R,x.hR,x.C+m⟩
def SE {n:Nat} (x:Fx n) (b:Nat) (M:gD x.σ):ai:=ex fun S=>dG x.c S b M*(al S*x.R S)
abbrev xy {n:Nat} (x:Fx n) (M:gD x.σ) (A:Nat->Option AF) (k:Nat):Prop:=oV n x.V0 x.I M A k/\M.W.length<=x.C
def dx {n:Nat} (x:Fx n) (b:Nat) (A:Nat->Option AF) (k:Nat):ai:=ex fun M=>fact (xy x M A k)*SE x b M
section
variable {n:Nat} {x:Fx n} {b k:Nat} {A:Nat->Option AF} {M:gD x.σ} {w w':Z'} {F:ai}
def ag.np (h:ag w (SE x b M*F)):∃ S,ag w (dG x.c S b M*(al S*(x.R S*F))):=by
 obtain ⟨S,a⟩:=ag.aw.1 h;exact ⟨S,a.to Ac0⟩
def ag.qN {S S':Hp} (d:Ext S S') (h:ag w (dG x.c S' b M*(al S'*(x.R S*F)))):ag w (SE x b M*F):=by
 have a:=(h.to (by ac_rfl:_=x.R S*(dG x.c S' b M*(al S'*F)))).gZ (x.hR S S' d);exact ag.aw.2 ⟨S',a.to Ac0⟩
def ag.kV (h:ag w (dx x b A k*F)):∃ M,xy x M A k/\ag w (SE x b M*F):=by
 obtain ⟨M,a⟩:=ag.aw.1 h;obtain ⟨d,f⟩:=ag.aq.1 (a.to (ay _ _ _));exact ⟨M,d,f⟩
def ag.nQ (a:xy x M A k) (h:ag w (SE x b M*F)):ag w (dx x b A k*F):=
 ag.aw.2 ⟨M,(ag.aq.2 ⟨a,h⟩:ag w (fact (xy x M A k)*(SE x b M*F))).to (ay _ _ _).symm⟩
def ag.mY (m:Nat) (h:ag w (dx x b A k*F)):ag w (dx (x.more m) b A k*F):=by
 obtain ⟨M,a,d⟩:=ag.kV h;exact ag.nQ (x:=x.more m) ⟨a.1,A3 a.2 (Nat.le_add_right _ _)⟩ d
def YI {n:Nat} (x:Fx n) (b:Nat) (A:Nat->Option AF) (k:Nat) (v c:Int) (F:ai) (w:Z') (e:Ending) (w':Z'):Prop:=
 e = .returned (.tuple #[Y X v,Y X c])/\aj w w'/\ag w' (dx x b A k*F)
def YE {n:Nat} (x:Fx n) (b:Nat) (A:Nat->Option AF) (k:Nat) (c:Int) (F:ai) (w:Z') (e:Ending) (w':Z'):Prop:=
 e = .returned (Y X c)/\aj w w'/\ag w' (dx x b A k*F)
def YB {n:Nat} (x:Fx n) (b:Nat) (A:Nat->Option AF) (k:Nat) (l:List UInt8) (F:ai) (w:Z') (e:Ending) (w':Z'):Prop:=
 ∃ v,e = .returned (.tuple #[v,Y X 0])/\aj w w'/\ag w' (bs 5 v l*(dx x b A k*F))
def YN {n:Nat} (x:Fx n) (b:Nat) (A:Nat->Option AF) (k:Nat) (f:AF) (F:ai) (w:Z') (e:Ending) (w':Z'):Prop:=
 ∃ y:Nd,e = .returned (.tuple #[.agg (ints y.l),Y X 0])/\y.dr.length=16/\y.kd=f.kd/\y.lk=f.lk/\y.sz=f.sz/\aj w w'/\ag w' (dx x b A k*F)
def Ws {n:Nat} (x:Fx n) (b:Nat) (A:Nat->Option AF) (k:Nat) (d:Int) (F:ai) (w:Z') (e:Ending) (w':Z'):Prop:=
 ∃ a:Nat,e = .returned (.tuple #[Y X (a:Int),Y X 0])/\A a=none/\0<a/\a<n/\aj w w'/\ag w' (dx x b (df A a (some (lx d))) (k-1)*F)
section
variable {S:Hp} {c:Int} {M':gD x.σ} {A':Nat->Option AF} {k':Nat} {e:Ending}
def Ld.ye {p:Rs Unit × gD x.σ} (h:Ld x.c b S (x.R S*F) w p e w') (i:p=(.ok (),M')) (a:xy x M' A' k'):YE x b A' k' 0 F w e w':=by
 subst i;obtain ⟨S',f,d,g,j⟩:=h;exact ⟨g,d,ag.nQ a (ag.qN f j)⟩
def Ld.no {p:Rs Unit × gD x.σ} (h:Ld x.c b S (x.R S*F) w p e w') (i:p=(.bad c,M')) (a:xy x M' A' k'):YE x b A' k' c F w e w':=by
 subst i;obtain ⟨S',f,d,g,j⟩:=h;exact ⟨g,d,ag.nQ a (ag.qN f j)⟩
def Ub.ye {p:Rs Nat × gD x.σ} {v:Nat} (h:Ub x.c b S (x.R S*F) w p e w') (i:p=(.ok v,M')) (a:xy x M' A' k'):YI x b A' k' v 0 F w e w':=by
 subst i;obtain ⟨S',f,d,g,j⟩:=h;exact ⟨g,d,ag.nQ a (ag.qN f j)⟩
def Ub.no {p:Rs Nat × gD x.σ} (h:Ub x.c b S (x.R S*F) w p e w') (i:p=(.bad c,M')) (a:xy x M' A' k'):YI x b A' k' 0 c F w e w':=by
 subst i;obtain ⟨S',f,d,g,j⟩:=h;exact ⟨g,d,ag.nQ a (ag.qN f j)⟩
end
variable (h:ag w (dx x b A k*F))
include h
def Ur {a:Int} (r:a=1\/a=2) (B:0<k):Calls Z 90 #[fI b n,Y X a] w (Ws (x.more 3) b A k a F w):=by
 obtain ⟨M,i,g⟩:=ag.kV h;obtain ⟨S,o⟩:=ag.np g;refine (Na x.c x.ok n x.h4 x.hn b M w S a (x.R S*F) o).mono fun e w' j=>?_;rcases Fz x.Ki (by have:=x.h4;omega) x.hn i.1 r with ⟨v,z,f,y,t,u,-,m⟩|⟨E,-,g,-⟩
 .rw [f] at j
  obtain ⟨S',p,d,q,s⟩:=j;exact ⟨v,q,y,t,u,d,ag.nQ (x:=x.more 3) ⟨m,A3 ((L7 a).run f) (A2 i.2 3)⟩ (ag.qN (x:=x.more 3) p s)⟩
 .omega
def RM {a:Int} (m:a=1\/a=2) (q:k=0):Calls Z 90 #[fI b n,Y X a] w (YI x b A k 0 7 F w):=by
 obtain ⟨M,g,i⟩:=ag.kV h;obtain ⟨S,j⟩:=ag.np i;refine (Na x.c x.ok n x.h4 x.hn b M w S a (x.R S*F) j).mono fun e w' o=>?_;rcases Fz x.Ki (by have:=x.h4;omega) x.hn g.1 m with ⟨u,p,f,v,s,t,r,d⟩|⟨y,f,-,d⟩
 .omega
 .exact o.no f ⟨d,g.2⟩
def RU:Calls Z 40 #[fI b n] w (YI x b A k k 0 F w):=by
 obtain ⟨M,d,g⟩:=ag.kV h;obtain ⟨S,i⟩:=ag.np g;refine (QP x.c x.ok n x.h4 x.hn b M w S (x.R S*F) i).mono fun e w' j=>?_;obtain ⟨m,a,f⟩:=Lf x.Ki (by have:=x.h4;omega) d.1;exact j.ye a ⟨f,A3 (Fq.run a) d.2⟩
def Ng {id:Nat} {f:AF} (m:A id=some f):Calls Z 53 #[fI b n,Y X (id:Int)] w (YE (x.more 1) b (df A id none) (k+bE f.pr) 0 F w):=by
 obtain ⟨M,d,i⟩:=ag.kV h;obtain ⟨S,j⟩:=ag.np i;refine (PH x.c x.ok n x.h4 x.hn b M w S id (x.R S*F) j).mono fun e w' o=>?_;obtain ⟨p,a,g⟩:=M7 x.Ki (by have:=x.h4;omega) x.hn d.1 m;exact o.ye (x:=x.more 1) a ⟨g,A3 ((Io _).run a) (A2 d.2 1)⟩
def Ae {id:Nat} {f:AF} (o:A id=some f) (a:Nat) (q:a<=122880):Calls Z 66 #[fI b n,Y X (id:Int),Y X (a:Int)] w (YE (x.more 4) b (df A id (some (f.cut a))) (k+bE f.pr-bE (f.cut a).pr) 0 F w):=by
 obtain ⟨M,g,j⟩:=ag.kV h;obtain ⟨S,m⟩:=ag.np j;refine (Mb x.c x.ok n x.h4 x.hn b M w S id a (x.R S*F) m).mono fun e w' p=>?_;obtain ⟨r,d,i⟩:=GO x.Ki (by have:=x.h4;omega) x.hn g.1 o a q;exact p.ye (x:=x.more 4) d ⟨i,A3 ((Da _ _).run d) (A2 g.2 4)⟩
def Mu {j:Nat} {f:AF} (z:A j=some f) (g a:Nat):Calls Z 83 #[fI b n,Y X (j:Int),Y X (g:Int),Y X (a:Int)] w (YB x b A k (f.sub g a) F w):=by
 obtain ⟨M,p,r⟩:=ag.kV h;obtain ⟨S,s⟩:=ag.np r;refine (Ik x.c x.ok n x.h4 x.hn b M w S j g a (x.R S*F) s).mono fun e w' q=>?_;obtain ⟨m,o,i⟩:=DJ x.Ki (by have:=x.h4;omega) x.hn p.1 z g a;have i:xy x m A k:=⟨i,A3 ((Ad _ _ _).run o) p.2⟩
 rw [o] at q;obtain ⟨S',u,v,d,y,B⟩:=q;refine ⟨u,y,d,?_⟩;have t:=ag.nQ i (ag.qN v (B.to (by unfold gX;ac_rfl:_=dG x.c S' b m*(al S'*(x.R S*(bs 5 u (f.sub g a)*F))))));exact t.ah
def DM {id:Nat} {f:AF} (v:A id=some f):Calls Z 74 #[fI b n,Y X (id:Int)] w (YN x b A k f F w):=by
 obtain ⟨M,i,o⟩:=ag.kV h;obtain ⟨S,p⟩:=ag.np o;refine (Pc x.c x.ok n x.h4 x.hn b M w S id (x.R S*F) p).mono fun e w' j=>?_;obtain ⟨y,m,g,B,E,G,a⟩:=MB x.Ki (by have:=x.h4;omega) x.hn i.1 v;have a:xy x m A k:=⟨a,A3 ((EG _).run g) i.2⟩
 rw [g] at j;obtain ⟨S',u,s,d,t,z⟩:=j;obtain ⟨⟨rfl,q⟩,r⟩:=ag.aq.1 z;exact ⟨y,t,q,B,E,G,d,ag.nQ a (ag.qN s r)⟩
def Gw {id:Nat} {f:AF} (q:A id=some f) (d:Int) (j:0<=wrap64 (f.lk+d)/\wrap64 (f.lk+d)<=65535):Calls Z 49 #[fI b n,Y X (id:Int),Y X d] w (YE (x.more 3) b (df A id (some { f with lk:=wrap64 (f.lk+d) })) k 0 F w):=by
 obtain ⟨M,g,m⟩:=ag.kV h;obtain ⟨S,o⟩:=ag.np m;refine (Nh x.c x.ok n x.h4 x.hn b M w S id d (x.R S*F) o).mono fun e w' r=>?_;rcases JI x.Ki (by have:=x.h4;omega) x.hn g.1 q d with ⟨s,a,-,i⟩|⟨t,-,p,-⟩
 .exact r.ye (x:=x.more 3) a ⟨i,A3 ((E3 _ _).run a) (A2 g.2 3)⟩
 .exact absurd j p
omit h
variable {D:ai} {va:Option Addr} {cap:Nat} {l:List UInt8}
def zt {d:Nat} {f:AF} (s:A d=some f) (a:Nat) (q:∀ W P,ag W (D*P)->Rd W (.slice va l.length cap) l) (r:l.length<=cap) (t:l.length<=4096) (u:a+l.length<=122880) (z:bE (f.wr a l).pr<=k+bE f.pr) (h:ag w (dx x b A k*(D*F))) :
  Calls Z 45 #[fI b n,Y X (d:Int),Y X (a:Int),.slice va l.length cap] w (YE (x.more (l.length/480+5)) b (df A d (some (f.wr a l))) (k+bE f.pr-bE (f.wr a l).pr) 0 (D*F) w):=by
 obtain ⟨M,i,o⟩:=ag.kV h;obtain ⟨S,p⟩:=ag.np o;refine (wN x.c x.ok n x.h4 x.hn b M w S d a l va cap D q r Om0 (x.R S*F) (p.u00)).mono fun e w' j=>?_;rw [aD] at j;rcases tF x.Ki (by have:=x.h4;omega) x.hn i.1 s a l t u with ⟨v,g,-,m⟩|⟨B,-,y,-⟩
 .exact j.ye (x:=x.more (l.length/480+5)) g ⟨m,A3 ((Ag _ _ _).run g) (A2 i.2 (l.length/480+5))⟩
 .omega
def Cy {d:Nat} {f:AF} (s:A d=some f) (a:Nat) (q:∀ W P,ag W (D*P)->Rd W (.slice va l.length cap) l) (r:l.length<=cap) (t:l.length<=4096) (u:a+l.length<=122880) (z:k+bE f.pr<bE (f.wr a l).pr) (h:ag w (dx x b A k*(D*F))) :
  Calls Z 45 #[fI b n,Y X (d:Int),Y X (a:Int),.slice va l.length cap] w (YE x b A k 7 (D*F) w):=by
 obtain ⟨M,j,o⟩:=ag.kV h;obtain ⟨S,p⟩:=ag.np o;refine (wN x.c x.ok n x.h4 x.hn b M w S d a l va cap D q r Om0 (x.R S*F) (p.u00)).mono fun e w' m=>?_;rw [aD] at m;rcases tF x.Ki (by have:=x.h4;omega) x.hn j.1 s a l t u with ⟨v,i,y,g⟩|⟨B,i,-,g⟩
 .omega
 .exact m.no i ⟨g,j.2⟩
end
def qC (w:Z') (v:Value) (l:List UInt8) (h:Rd w v l):(convert 23 9 v).run Z w = .ok (.string (str l)) w:=by
 have vU:∀ (l:List UInt8) (s:ByteArray),(l.map fun x=>(x.toNat:Int)).foldl (fun r n=>r.push (UInt8.ofNat n.toNat)) s=⟨s.data++l.toArray⟩:=by
  intro l
  induction l with
  | nil=>intro s;simp
  | cons a l j=>intro s;simp only [List.map_cons,List.foldl_cons,j];simp [ByteArray.push]
 obtain ⟨_,i⟩:=h;rcases i with ⟨rfl,f⟩|⟨a,c,rfl,g⟩
 .have:l=[]:=List.eq_nil_of_length_eq_zero f
  subst this;rw [run_convert_bytes_string w _ _ 5 none 0 0 underlying23 underlying5 underlying9]
  rfl
 .rw [run_convert_bytes_string w _ _ 5 (some a) _ c underlying23 underlying5 underlying9]
  have d:=run_loadCells_list (P:=Z) (w:=w) a (l.map u8) g;rw [List.length_map] at d
  have:=run_bytesToString (P:=Z) w a l.length c (l.map fun x=>(x.toNat:Int)) (by
   rw [d];simp [u8,Function.comp_def])
  rw [this,vU];simp [str]
end Go.Proofs.Fs
