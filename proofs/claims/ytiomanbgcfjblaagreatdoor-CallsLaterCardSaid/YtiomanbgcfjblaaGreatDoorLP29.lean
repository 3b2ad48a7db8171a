/- Steps. -/
import Derived.Test.YtiomanbgcfjblaaGreatDoorLP23
import Derived.Test.YtiomanbgcfjblaaGreatDoorLP28
set_option linter.all false
set_option maxRecDepth 99999
set_option maxHeartbeats 0
open Go.SL
open Go.Value renaming int->Y,slice->W,pointer->Q
open Go.IntKind renaming i64->X,u64->X'
open Go.Obj renaming cells->Z
open Go.Ending renaming returned->Y'
open Go renaming World->O,Value->Z'
open Go.Proofs.Tryz renaming prog->T
open Option renaming some->U,none->V
open Go.SL renaming Om0->N
open Go.Proofs.Tryz
open Go.World renaming size_alloc->B3
open Int renaming le_refl->D5
open List renaming replicate->D3,length_replicate->E4,nil_append->E3
open Nat renaming le_refl->E5
namespace Go.Proofs.Su
open RowKit SL Proofs.Nn Proofs.Ba Proofs.Fs
def GF (g d:Nat):ai:=pt g (Z #[.func (.func 117) #[ax d] #[]] 53 (0,0))
def VT (S:Hp) (d:Nat) (R:Int × aw) (F:ai) (w:O) (e:Ending) (a:O):Prop:=
 (R.1=0/\e = Y' (.tuple #[])\/R.1≠0/\e = .panicked (P1 2))/\ah a (aD S d R.2*F)/\ak w a
def MJ (w:O) (S:Hp) (d g:Nat) (D:aw) (F:ai) (h:ah w (aD S d D*(GF g d*F))) (p:D.Ok) :
  Calls T 116 #[W (U ⟨g,0,V⟩) 1 1] w (VT S d D.flush (GF g d*F) w):=by
 refine (GW 1 (fun _=>(117,#[ax d],#[])) (fun k a=>if k=0 then ah a (aD S d D*(GF g d*F))/\ak w a else (ah a (aD S d D.flush.2*(GF g d*F))/\ak w a)/\D.flush.1=0) (fun a=>(ah a (aD S d D.flush.2*(GF g d*F))/\ak w a)/\D.flush.1≠0) g De0 ?_ ?_ w ⟨h,ak.refl w⟩).mono ?_
 .intro i k a s b q
  obtain rfl:k=0:=N
  have:∃ D',ah a (aD S d D'*(GF g d*F)):=by
   cases i with
   | zero=>have b:ah a (aD S d D*(GF g d*F))/\ak w a:=b;exact ⟨_,b.1⟩
   | succ i=>have b:(ah a (aD S d D.flush.2*(GF g d*F))/\ak w a)/\D.flush.1=0:=b;exact ⟨_,b.1.1⟩
  obtain ⟨D',m⟩:=this;exact m.right.cell 0
 .intro k q
  obtain rfl:k=0:=N
  refine ⟨fun r w=>by simp [go_sem],fun a b=>?_⟩;have b:ah a (aD S d D*(GF g d*F))/\ak w a:=b;apply (mg a S d D _ b.1 p).mono;rintro e j ⟨rfl,c,l⟩;refine ⟨_,rfl,?_⟩
  by_cases f:D.flush.1=0
  .exact .inl ⟨f,⟨c,b.2.trans l⟩,f⟩
  .exact .inr ⟨f,⟨c,b.2.trans l⟩,f⟩
 .rintro e j (⟨rfl,c⟩|⟨rfl,c⟩)
  .have c:(ah j (aD S d D.flush.2*(GF g d*F))/\ak w j)/\D.flush.1=0:=c
   exact ⟨.inl ⟨c.2,rfl⟩,c.1⟩
  .exact ⟨.inr ⟨c.2,rfl⟩,c.1⟩
def BO (w:O) (S:Hp) (j d:Nat) (J:Jr) (D:aw) (F:ai) (e:Nat) (id:Int) (a:Option Addr) (c:Nat) (b:List UInt8) (h:ah w (pt e (Z #[Y X id,W a 480 c] 179 (0,0))*(bs 5 (W a 480 c) b*(nA j d J*(aD S d D*(al S*F))))))
  (s:J.Ok) (t:J.Kk) (r:D.Ok) (u:b.length=480) (p:0<=id) (q:id<J.n) :
  Calls T 93 #[ax j,W (U ⟨e,0,V⟩) 1 1] w (GB S j d (dJ J D true [(id,b)]) (pt e (Z #[Y X id,W a 480 c] 179 (0,0))*(bs 5 (W a 480 c) b*F)) w):=by
 refine tF w S j d J D _ (W (U ⟨e,0,V⟩) 1 1) [(id,W a 480 c,b)] (h.u00) s t r Si0 ?_ true ⟨fun _=>⟨Si0,Si0,fun k f=>?_⟩,fun _=>rfl⟩
 .intro i l x y m
  have g:ah x (pt e (Z #[Y X id,W a 480 c] 179 (0,0))*(bs 5 (W a 480 c) b*(l*(al i*F)))):=m.u00;refine ⟨.inr ⟨e,0,1,rfl,Si0,by unfold maxLen;omega,fun k f=>?_⟩,fun z v=>?_⟩
  .have f:k<1:=f
   obtain rfl:k=0:=N
   exact ⟨g.cell 0,g.cell 1⟩
  .obtain rfl:z=(id,W a 480 c,b):=by simpa using v
   exact (g.aj).mI
 .have f:k<1:=f
  obtain rfl:k=0:=N
  exact ⟨p,q,u,Si0⟩
structure V3 (n P B E:Nat) (J:Jr) (D:aw) (has:Has) (J':Jr) (D':aw) (has':Has):Prop where
 sj:Sj n P (B+2) (bh n P) J' D' has'
 same:MT has' has
 sq:J'.sq=J.sq+1
 ep:J'.ep<=(E:Int)+1
 xT:D'.wait=[]
 sec:D'.sec.length=D.sec.length
 cr:∃ k,k<=P+4/\D'.cr=df D.cr k
 cw:∃ k,k<=3/\D'.cw=df D.cw k
 cf:D'.cf=df D.cf 3
def U3 (S:Hp) (d n P B E:Nat) (J:Jr) (D:aw) (has:Has) (F:ai) (w:O) (e:Ending) (b:O):Prop:=
 ∃ s j a J' D' has',Ext S a/\e = Y' (.tuple #[ax s,Y X 0])/\ah b (dz s j d n P J'*(aD a d D'*(al a*F)))/\ak w b/\V3 n P B E J D has J' D' has'
def TZ (P:Nat) (D:aw) (E:Nat):Prop:=∀ p t,p<P->bq P D p=U t->t.ep<=(E:Int)
def Sq {n P E:Nat} {J:Jr} {D:aw} {has:Has} (h:jd n J D has) (f:J.P=P) (g:P+1<=D.sec.length) (b:TZ P D E) (i:E<=11):lE (dV (n:Int) D P)<=(E:Int)/\(dy (dV (n:Int) D P)).length<=12:=by
 subst f;refine ⟨Mb h b N,Nat.le_trans (C4 (E:=E) fun x c=>?_) N⟩;have a:=(h.Kl.iff x.1 x.2).1 c;have e:=xp (n:Int) h.inv.calm g J.P (E5 _);exact ⟨((od (n:Int) D J.P).1 x (by rw [e];exact c)).fit.Mj,b _ _ a.1 a.2⟩
def RQ {J:Jr} {D:aw} {has:Has} (h:dp J D has) {id:Int} (a:0<=id) (b:id<J.n):∃ r,(r=D.cr\/r=bP (D.cr+1))/\J.read D id=((0,N8 has id),J,{ D with cr:=r }):=by
 rw [h.read a b];cases (told J.T.ps id).isSome
 .exact ⟨D.cr,.inl rfl,rfl⟩
 .exact ⟨bP (D.cr+1),.inr rfl,rfl⟩
def JL (w:O) (S:Hp) (d n P B E:Nat) (J:Jr) (D:aw) (has:Has) (F:ai) (l0:ah w (aD S d D*(al S*F))) (hM:uy n P B (bh n P) J D has) (hB:B<=999990) (hg:gG n P=true) (hs:D.sec.length=P+1) (hE:TZ P D E) (h0:E<=11)
  (hh:∀ w' u0,ah w' (u0*F)->iZ w'):Calls T 61 #[ax d] w (U3 S d n P B E J D has F w):=by
 have c2:=oq T;have A:=((l0.alloc (Z #[Q V] 101 (0,0))).alloc (Z #[Y X 0] 31 (0,0))).alloc (Z #[.func (.func 117) #[ax d] #[]] 53 (0,0));have d1:=ae ((((ak.refl w).alloc (Z #[Q V] 101 (0,0))).alloc (Z #[Y X 0] 31 (0,0))).alloc (Z #[.func (.func 117) #[ax d] #[]] 53 (0,0)));rw [B3,B3] at A;have HM:=ae hM;have Hs:=ae hs;have Hg:=ae hg;have HB:=ae hB;have Hh:=ae hh;have HE:=ae hE;have f0:=ae h0;have A1:=hM.told.inv.calm.flush;have K1:D.Ok:=hM.told.inv.pH;clear l0 hM hB hg hs hh hE h0
 go_enter_defers func61,ntmps61
 go_wp2_with fail
 generalize ((w.alloc (Z #[Q V] 101 (0,0))).alloc (Z #[Y X 0] 31 (0,0))).alloc (Z #[.func (.func 117) #[ax d] #[]] 53 (0,0))=w1 at A d1 ⊢;generalize w.heap.size+1+1=fb at A ⊢;generalize w.heap.size+1=eb at A ⊢;generalize w.heap.size=M at A ⊢;have p0:=MJ w1 S d fb D (pt eb (Z #[Y X 0] 31 (0,0))*(pt M (Z #[Q V] 101 (0,0))*(al S*F))) (A.to (by unfold GF;ac_rfl)) K1;rw [A1] at p0;have d0:uy n P B (bh n P) J D.ay has:=HM.o.ay;have S0:D.ay.cr=D.cr:=(aF D).1;have Y0:D.ay.cw=D.cw:=(aF D).2.1;have H0:D.ay.cf=bP (D.cf+1):=(aF D).2.2.1;have e0:D.ay.sec.length=P+1:=(aF D).2.2.2.trans Hs.o
 have D0:TZ P D.ay E:=by
  have e:bq P D.ay=bq P D:=jT fun f2 hp=>bZ HM.o.told.inv.pH _ ⟨N,by have:=Hs.o;omega⟩;unfold TZ;rw [e];exact HE.o
 generalize D.ay=f at p0 d0 S0 Y0 H0 e0 D0;clear A1 K1 A
 (with_reducible refine p0.mono ?_)
 rintro e w2 ⟨hc,h2,d2⟩;rcases hc with ⟨_,rfl⟩|⟨hc,_⟩
 case inr=>exact absurd rfl hc
 obtain ⟨G,hG⟩:∃ G,G=pt M (Z #[Q V] 101 (0,0))*(pt eb (Z #[Y X 0] 31 (0,0))*(GF fb d*F)):=⟨_,rfl⟩
 have H2:ah w2 (aD S d f*(al S*G)):=h2.to (by rw [hG];ac_rfl);have D2:=ae (d1.o.trans d2);have b2:=dN.1 Hg.o;have f1:=zG w2 S d f G H2 d0.told.inv.pH (fun w' u0 h'=>Hh.o w' (u0*(aD S d (f.read 0).2*(al S*(pt M (Z #[Q V] 101 (0,0))*(pt eb (Z #[Y X 0] 31 (0,0))*GF fb d))))) (h'.to (by rw [hG];ac_rfl)));rw [d0.told.inv.calm.read ⟨D5 _,by rw [e0];omega⟩,d0.sup] at f1;have hq:=f1 (fun _=>gO n P) rfl (by rw [e0];omega);have g:uy n P B (bh n P) J ({ f with cr:=bP (f.cr+1) }:aw) has:=d0.cr _;have T0:({ f with cr:=bP (f.cr+1) }:aw).cr=df D.cr 1:=by show bP (f.cr+1)=_;rw [S0];rfl
 have Z0:({ f with cr:=bP (f.cr+1) }:aw).cw=D.cw:=Y0;have K0:({ f with cr:=bP (f.cr+1) }:aw).cf=bP (D.cf+1):=H0;have g1:({ f with cr:=bP (f.cr+1) }:aw).sec.length=P+1:=e0;have F0:TZ P ({ f with cr:=bP (f.cr+1) }:aw) E:=D0;generalize ({ f with cr:=bP (f.cr+1) }:aw)=b at hq g T0 Z0 K0 g1 F0;rw [e0] at hq;clear f1 S0 Y0 H0 e0 H2 d0 D0 p0 h2 d2 d1
 go_wp2_with fail
 (with_reducible refine hq.mono ?_)
 rintro e w3 ⟨⟨h3,d3⟩,_,_,hp,_⟩;obtain rfl:=hp rfl _ _ (OF Hg.o) N;have h4:=h3.alloc (Z #[Y X (n:Int),Y X (P:Int)] 132 (0,0));have D4:=ae ((D2.o.trans d3).alloc (Z #[Y X (n:Int),Y X (P:Int)] 132 (0,0)));have H4:ah (w3.alloc (Z #[Y X (n:Int),Y X (P:Int)] 132 (0,0))) (aD S d b*(al S*(pt w3.heap.size (Z #[Y X (n:Int),Y X (P:Int)] 132 (0,0))*G))):=h4.to Ac0;obtain ⟨V1,y1⟩:=Sq g.told g.jP N F0 f0.o
 have N1:xo (dV (n:Int) b P) P n=U (Jr.js (J.seen (lE (dV (n:Int) b P)+1) (cR n J))):=by
  have D1:=g.jP;have:=I8 g.told (by have:=g.sq;have:=HB.o;omega) (by rw [D1];have:=f0.o;omega);rw [D1] at this;exact this
 have u:=Ow _ S d b _ P n _ _ _ H4 g.told.inv.pH N N N N (xp (n:Int) g.told.inv.calm N P (E5 _)) N1 y1;have k0:=g.opened N (by have:=HB.o;omega);unfold Jr.opened at k0;rw [g.jP] at k0
 have r0:(Jr.js (J.seen (lE (dV (n:Int) b P)+1) (cR n J))).rf P:=by
  have a2:=g.Yk;have:=tP (rh (ep:=lE (dV (n:Int) b P)+1) g.told N (by have:=HB.o;omega)) (by show 1<=J.n;rw [g.told.jn];omega);have e:(J.seen (lE (dV (n:Int) b P)+1) (cR n J)).P=J.P:=rfl;rw [e,g.jP] at this;exact this
 have k1:0<=(Jr.js (J.seen (lE (dV (n:Int) b P)+1) (cR n J))).sq:=g.told.inv.nums.Qg;have q0:(Jr.px P (Jr.js (J.seen (lE (dV (n:Int) b P)+1) (cR n J)))).sq=J.sq:=rfl;have n0:(Jr.px P (Jr.js (J.seen (lE (dV (n:Int) b P)+1) (cR n J)))).ep<=(E:Int)+1:=by show lE _+1<=_;omega
 generalize Jr.js (J.seen (lE (dV (n:Int) b P)+1) (cR n J))=a at k0 r0 k1 q0 n0 u;have q:Sj n P (B+1) (bh n P) (Jr.px P a) ({ b with cr:=df b.cr P }:aw) has:=k0.cr _;have m0:({ b with cr:=df b.cr P }:aw).cr=df D.cr (P+1):=by show df b.cr P=_;rw [T0];exact Cn D.cr P
 have a1:({ b with cr:=df b.cr P }:aw).cw=D.cw:=Z0;have L0:({ b with cr:=df b.cr P }:aw).cf=bP (D.cf+1):=K0;have h1:({ b with cr:=df b.cr P }:aw).sec.length=P+1:=g1;generalize ({ b with cr:=df b.cr P }:aw)=h at u q m0 a1 L0 h1;have q1:=ae u;unfold zM;clear N1 H4 hq h3 d3 hp D2 h4 T0 Z0 K0 g1 g k0 F0 V1 y1 u
 go_wp2_with fail
 have u:=q1.o;generalize w3.alloc (Z #[Y X (n:Int),Y X (P:Int)] 132 (0,0))=w4 at u D4 ⊢;generalize w3.heap.size=gb at u ⊢;clear q1
 (with_reducible refine u.mono ?_)
 rintro e w5 ⟨v,rfl,h5,d5⟩;obtain ⟨l,rfl,u1⟩:=UD h5;have H6:=ae (u1.alloc (Z #[Y .u32 a.ep,Y X' a.st,Y X' a.sq,Y X a.hd,Y X a.us,W (U ⟨l,0,V⟩) a.at_.length a.at_.length] 173 (0,0)));have D6:=ae ((D4.o.trans d5).alloc (Z #[Y .u32 a.ep,Y X' a.st,Y X' a.sq,Y X a.hd,Y X a.us,W (U ⟨l,0,V⟩) a.at_.length a.at_.length] 173 (0,0)));have I:=fun w=>rq w;unfold Js.v;clear u h5 u1 d5 D4
 go_wp2_with fail
 generalize w5.alloc (Z #[Y .u32 a.ep,Y X' a.st,Y X' a.sq,Y X a.hd,Y X a.us,W (U ⟨l,0,V⟩) a.at_.length a.at_.length] 173 (0,0))=w6 at H6 D6 ⊢;generalize w5.heap.size=sb at H6 ⊢
 (with_reducible refine (I _).mono ?_)
 rintro e w7 ⟨rfl,rfl⟩;have h6:=H6.o;have x0:ah w6 (pt l (Z (ints a.at_) 3 (0,0))*(pt gb (Z #[Y X (n:Int),Y X (P:Int)] 132 (0,0))*(pt sb (Z #[Y .u32 a.ep,Y X' a.st,Y X' a.sq,Y X a.hd,Y X a.us,W (U ⟨l,0,V⟩) a.at_.length a.at_.length] 173 (0,0))*(aD S d h*(al S*G))))):=h6.to Ac0;have v1:ah w6 (aD S d h*(pt gb (Z #[Y X (n:Int),Y X (P:Int)] 132 (0,0))*(pt sb (Z #[Y .u32 a.ep,Y X' a.st,Y X' a.sq,Y X a.hd,Y X a.us,W (U ⟨l,0,V⟩) a.at_.length a.at_.length] 173 (0,0))*(pt l (Z (ints a.at_) 3 (0,0))*(al S*G))))):=h6.to Ac0
 have L1:Calls T 121 #[ax d,.agg #[Y X (n:Int),Y X (P:Int)],.agg #[Y .u32 a.ep,Y X' a.st,Y X' a.sq,Y X a.hd,Y X a.us,W (U ⟨l,0,V⟩) a.at_.length a.at_.length]] w6 (tL d n P (Jr.px P a) w6):=by
  refine kE w6 S d h _ v1 n P a (W (U ⟨l,0,V⟩) a.at_.length a.at_.length) (.inr ⟨l,0,a.at_.length,rfl,E5 _,?_,fun k hk=>?_⟩) N N N N k1 r0 N
  .have:=r0.n1;unfold maxLen;omega
  .rw [Nat.zero_add,x0.cell];exact (by simp [ints,List.getD,hk])
 have g0:=x0.aj.cell;have s0:=h6.cell;clear h6 x0 v1 I
 go_wp2_with fail
 (with_reducible refine L1.mono ?_)
 rintro e w7 ⟨s,j,rfl,h7,d7⟩;have H7:ah w7 (nA j d (Jr.px P a)*(aD S d h*(al S*(pt s (Z #[ax j,Y X (n:Int),Y X (P:Int)] 134 (0,0))*G)))):=(h7.under H6.o |> fun l0=>(l0.to (by unfold dz;ac_rfl:_=(pt sb (Z #[Y .u32 a.ep,Y X' a.st,Y X' a.sq,Y X a.hd,Y X a.us,W (U ⟨l,0,V⟩) a.at_.length a.at_.length] 173 (0,0))*(pt gb (Z #[Y X (n:Int),Y X (P:Int)] 132 (0,0))*pt l (Z (ints a.at_) 3 (0,0))))*(nA j d (Jr.px P a)*(aD S d h*(al S*(pt s (Z #[ax j,Y X (n:Int),Y X (P:Int)] 134 (0,0))*G)))))).right)
 have D7:=ae (D6.o.trans d7);have c0:w7.cell? ⟨s,0,V⟩=U (ax j):=(H7.to (by ac_rfl:_=pt s (Z #[ax j,Y X (n:Int),Y X (P:Int)] 134 (0,0))*(nA j d (Jr.px P a)*(aD S d h*(al S*G))))).cell 0;generalize Jr.px P a=c at q q0 n0 H7;have o0:Calls T 122 #[ax j,Y X 0] w7 (MR S j d (c.read h 0) (pt s (Z #[ax j,Y X (n:Int),Y X (P:Int)] 134 (0,0))*G) w7):=yJ w7 S j d c h 0 _ H7 q.jt.inv.ok q.jt.inv.pH;obtain ⟨r,M1,hR⟩:=RQ q.jt.inv (id:=0) (D5 _) (by rw [q.jt.jn];omega);rw [hR] at o0;have G0:=GH q.jt.inv 0;have t:Sj n P (B+1) (bh n P) c ({ h with cr:=r }:aw) has:=q.cr r
 have V0:∃ k,k<=P+2/\({ h with cr:=r }:aw).cr=df D.cr k:=by
  rcases M1 with e|e
  .exact ⟨P+1,N,by show r=_;rw [e,m0]⟩
  .exact ⟨P+2,N,by show r=_;rw [e,m0];rfl⟩
 have b1:({ h with cr:=r }:aw).cw=D.cw:=a1;have N0:({ h with cr:=r }:aw).cf=bP (D.cf+1):=L0;have i1:({ h with cr:=r }:aw).sec.length=P+1:=h1;generalize ({ h with cr:=r }:aw)=i at o0 t V0 b1 N0 i1;clear H7 L1 h7 d7 H6 D6 g0 s0 r0 k1 m0 a1 L0 h1 q M1 hR
 go_wp2_with fail
 (with_reducible refine o0.mono ?_)
 rintro e w8 ⟨dv,rfl,h8,d8⟩;have i0:=h8.n9;obtain ⟨x,y,rfl⟩:=i0.mI.shape;rw [G0] at i0 ⊢;have D8:=ae (D7.o.trans d8);have c0:w8.cell? ⟨s,0,V⟩=U (ax j):=(i0.to (by ac_rfl:_=pt s (Z #[ax j,Y X (n:Int),Y X (P:Int)] 134 (0,0))*(bs 5 (W x 480 y) (N8 has 0)*(nA j d c*(aD S d i*(al S*G)))))).cell 0;have h9:=i0.alloc (Z #[Y X 0,W x 480 y] 179 (0,0));have D9:=ae (D8.o.alloc (Z #[Y X 0,W x 480 y] 179 (0,0)));have m:=BO _ S j d c i _ _ 0 x y (N8 has 0) h9 t.jt.inv.ok t.jt.inv.nums t.jt.inv.pH G0 (D5 _) (by rw [t.jt.jn];omega);rw [show [((0:Int),N8 has 0)]=w0 has from rfl] at m;have x1:=Mz t.jt.inv (n:=n) N;obtain ⟨E1,H⟩:=t.nS N (by have:=HB.o;omega) x1;rw [E1] at m;have X1:=rG c has (w0 has) t.jt.inv.ok.uH;have H1:(w0 has).length=1:=rfl;have W1:c.aJ (w0 has).length<=2:=by unfold Jr.aJ;rw [H1];omega
 have W0:∃ k,k<=P+4/\(kS c i has (w0 has)).cr=df D.cr k:=by
  obtain ⟨k,hk,e⟩:=V0;refine ⟨k+(aS c has (w0 has)).length,N,?_⟩;show df i.ay.cr _=_
  rw [(aF i).1,e,zB]
 have c1:∃ k,k<=3/\(kS c i has (w0 has)).cw=df D.cw k:=by
  refine ⟨(w0 has++aS c has (w0 has)).length,by rw [List.length_append];omega,?_⟩;show df i.ay.cw _=_
  rw [(aF i).2.1,b1]
 have R0:(kS c i has (w0 has)).cf=df D.cf 2:=by
  show i.ay.cf=_
  rw [(aF i).2.2.1,N0];rfl
 have j1:(kS c i has (w0 has)).sec.length=P+1:=(aF i).2.2.2.trans i1;have l1:(c.done (w0 has++aS c has (w0 has)) (c.aJ (w0 has).length)).sq=J.sq+1:=by show c.sq+1=_;rw [q0]
 have e1:(c.done (w0 has++aS c has (w0 has)) (c.aJ (w0 has).length)).ep<=(E:Int)+1:=n0;generalize c.done (w0 has++aS c has (w0 has)) (c.aJ (w0 has).length)=z at m H l1 e1;generalize kS c i has (w0 has)=p at m H W0 c1 R0 j1;have p1:=ae m;have I:=fun w=>rq w;clear o0 h8 d8 D7 i0 D8 h9 m E1 t x1 X1 H1 V0 b1 N0 i1 q0 n0 G0 W1
 go_wp2_with fail
 (with_reducible refine (I _).mono ?_)
 rintro e w9 ⟨rfl,rfl⟩
 go_wp2_with fail
 have m:=p1.o;generalize w8.alloc (Z #[Y X 0,W x 480 y] 179 (0,0))=g2 at m D9 ⊢;generalize w8.heap.size=wb at m ⊢;clear p1
 (with_reducible refine m.mono ?_)
 rintro e O1 ⟨L,T1,rfl,h0,r1⟩;have f0:ah O1 (dz s j d n P z*(aD L d p*(al L*(pt wb (Z #[Y X 0,W x 480 y] 179 (0,0))*(bs 5 (W x 480 y) (N8 has 0)*G))))):=h0.to (by unfold dz;ac_rfl);have n1:=ae (D9.o.trans r1);have m1:=Cf O1 L s j d n P z p _ f0 H.jt.inv.pH
 have z1:z.flush p=(0,z,p.ay):=by
  unfold Jr.flush;rw [H.jt.inv.br];simp only [Bool.false_eq_true,if_false];rw [H.jt.inv.calm.flush];rfl
 rw [z1] at m1;clear m h0 r1 D9 f0 z1
 go_wp2_with fail
 (with_reducible refine (I _).mono ?_)
 rintro e i2 ⟨rfl,rfl⟩
 go_wp2_with fail
 (with_reducible refine m1.mono ?_)
 rintro e Y1 ⟨rfl,t1,s1⟩;have o1:=ae (n1.o.trans s1);have S1:=ae (⟨H.ay,Rz has,l1,e1,rfl,by rw [(aF p).2.2.2,j1,Hs.o],by rw [(aF p).1];exact W0,by rw [(aF p).2.1];exact c1,by rw [(aF p).2.2.1,R0];rfl⟩:V3 n P B E J D has z p.ay (kR has (w0 has)));have C:ah Y1 (pt M (Z #[Q V] 101 (0,0))*(pt eb (Z #[Y X 0] 31 (0,0))*((pt wb (Z #[Y X 0,W x 480 y] 179 (0,0))*(bs 5 (W x 480 y) (N8 has 0)*GF fb d))*(dz s j d n P z*(aD L d p.ay*(al L*F)))))):=t1.to (by rw [hG];ac_rfl);have a0:=C.cell 0;have b0:=C.aj.cell 0;have fa:=C.frozen 0;have Z1:=C.aj.frozen 0;have e2:M≠eb:=ah.ne C;have HK:=ae ((C.setCell 0 (ax s)).aj.setCell 0 (Y X 0));have R1:=ae ((o1.o.setCell ⟨M,0,V⟩ (ax s)).setCell ⟨eb,0,V⟩ (Y X 0));clear m1 t1 C n1 s1 o1 W0 c1 R0 j1 H l1 e1
 go_wp2_with fail
 (with_reducible refine (I _).mono ?_)
 rintro e j2 ⟨rfl,rfl⟩;clear I
 go_wp2_with fail
 exact IU rfl rfl (HK.o.aj.cell 0) (HK.o.cell 0) ⟨s,j,L,z,_,_,T1,rfl,HK.o.right.right.right,R1.o,S1.o⟩
end Go.Proofs.Su
namespace Go.Proofs.Nn
open RowKit SL Proofs.Su
def sL:Has:=fun _=>V
def Zero (P:Nat) (D:aw):Prop:=∀ p:Nat,p<P->D.aG ((p:Int)+1)=(0,zs 512)
section
variable {n P B:Nat} {D E:aw} {K:List Int}
def EU (h:Zero P D):bq P D=fun _=>V:=by
 funext p;unfold bq
 split
 .rename_i a
  rw [h p a.1,ET];rfl
 .rfl
def Fh (b:1<=P) (a:n<=P):jL n P (fun _=>V) 0 0 (fun _=>V):=
 ⟨N,a,D5 _,fun _=>rfl,fun p t _ h=>(by cases h),fun p t _ h=>(by cases h),fun c p h=>(by cases h),fun h=>absurd h De0,fun e=>⟨1,0,De0,De0,fun p t _ h=>(by cases h)⟩⟩
def RE (q:Zero P D) (m:D.Ok) (j:D.Calm) (r:P+1<=D.sec.length) (b:1<=P) (i:P<=19999) (f:1<=n) (g:n<=3840) (l:n<=P):JT n (J0 P n) D sL:=by
 have h:=Jn (P:=P) (n:=n) b i f g;refine ⟨⟨h.ok,h.nums,m,h.br,j,by show (P:Int)+1<=_;omega,h.qE,h.rm,h.win,fun a p c=>?_,h.Qt⟩,XC P n,?_⟩
 .rw [Vb,(Tb.gp n P a).1] at c;cases c
 .have e:qt (J0 P n)=fun _=>V:=by
   funext a;unfold qt;rw [Vb,(Tb.gp n P a).1];rfl
  show Uj n P (bq P D) 0 0 (qt (J0 P n)) 1 1
  rw [EU q,e];exact (Fh b l).run fun p t _ h=>by cases h
def RZ (g:Zero P D) (e:D.Ok) (b:D.Calm) (f:P+1<=D.sec.length) (c:gG n P=true) (a:D.aG 0=(0,bh n P)):Sj n P 1 (bh n P) (J0 P n) D sL:=by
 have h:=dN.1 c;exact ⟨RE g e b f N N N N N,Ck P n,rfl,by show (0:Int)<=_;omega,by show (1:Int)<=_;omega,a⟩
def F1 (D:aw):aw:={ D with cw:=bP (D.cw+1),wait:=D.wait++[((0:Int),zs 512)] }
def zW (k:Nat):List (Int × List UInt8):=(List.range k).map fun i:Nat=>((i:Int)+1,zs 512)
def FZ (D:aw) (k:Nat):aw:={ D with cw:=df D.cw k,wait:=zW k }
def FS (n P:Nat) (D:aw):aw:={ D with cw:=bP (D.cw+1),wait:=[((0:Int),bh n P)] }
def Iz (k:Nat):zW (k+1)=zW k++[((k:Int)+1,zs 512)]:=by simp [zW,List.range_succ]
def qq (n:Nat):(zs n).length=n:=E4
def yW (a:Int) (k:Nat):dg (zW k) a=if 1<=a/\a<=(k:Int) then U (zs 512) else V:=by
 induction k with
 | zero=>rw [if_neg N];rfl
 | succ k c=>
  rw [Iz,gi,c]
  by_cases h:(k:Int)+1=a
  .rw [if_pos h,if_pos N]
  .rw [if_neg h]
   by_cases b:1<=a/\a<=(k:Int)
   .rw [if_pos b,if_pos N]
   .rw [if_neg b,if_neg N]
def Tc (h:D.Ok) (b:D.wait.length<=1000) (c:1<=D.sec.length):(F1 D).Ok:=by
 refine ⟨h.n,fun x a=>?_,by show (D.wait++[((0:Int),zs 512)]).length<=_;rw [List.length_append];simp;omega,h.aH⟩;rcases List.mem_append.1 a with a|a
 .exact h.wait x a
 .obtain rfl:x=((0:Int),zs 512):=by simpa using a
  exact ⟨D5 _,by show (0:Int)<(D.sec.length:Int);omega⟩
def GK (h:D.Calm):(F1 D).Calm:=⟨h.down,h.eO⟩
def NX:(F1 D).aG 0=(0,zs 512):=by
 unfold aw.aG;show (match dg (D.wait++[((0:Int),zs 512)]) 0 with|some l=>_|none=>_)=_
 rw [gi,if_pos rfl];show ((0:Int),bB 512 (zs 512))=_
 rw [ia (qq 512)]
def SV (h:D.Ok) {k:Nat} (c:k+1<=D.sec.length):(FZ D k).Ok:=by
 have:=h.n;refine ⟨h.n,fun x b=>?_,by show (zW k).length<=_;simp [zW];omega,h.aH⟩;obtain ⟨i,a,rfl⟩:=List.mem_map.1 (show x ∈ zW k from b);have:=List.mem_range.1 a;exact ⟨by show (0:Int)<=(i:Int)+1;omega,by show (i:Int)+1<(D.sec.length:Int);omega⟩
def zS (h:D.Calm) (k:Nat):(FZ D k).Calm:=⟨h.down,h.eO⟩
def RT (D:aw) (P:Nat):Zero P (FZ D P):=by
 intro p a;unfold aw.aG;show (match dg (zW P) _ with|some l=>_|none=>_)=_
 rw [yW,if_pos N];show ((0:Int),bB 512 (zs 512))=_
 rw [ia (qq 512)]
def Kg (a:D.wait=[]) (k:Nat):(FZ D k).aG 0=D.aG 0:=by
 unfold aw.aG;show (match dg (zW k) 0 with|some l=>_|none=>_)=match dg D.wait 0 with|some l=>_|none=>_
 rw [yW,if_neg N,a]
 rfl
end
end Go.Proofs.Nn
namespace Go.Proofs.Su
open RowKit SL Proofs.Nn Proofs.Ba Proofs.Fs
def uD (cd ca cb d:Nat) (a:Int) (bv:Z'):ai:=pt cd (Z #[ax d] 27 (0,0))*(pt ca (Z #[Y X a] 3 (0,0))*pt cb (Z #[bv] 23 (0,0)))
def zR (w:O) (S:Hp) (d:Nat) (D:aw) (cd ca cb:Nat) (a:Int) (bv:Z') (l:List UInt8) (F:ai) (h:ah w (aD S d D*(al S*(uD cd ca cb d a bv*F)))) (x:D.Ok) (f:∀ q D',ah q (aD S d D'*(al S*(uD cd ca cb d a bv*F)))->Rd q bv l) (c:l.length=512) :
  Calls T 227 #[ax cd,ax ca,ax cb] w (iu S d (D.write a l).2 (Y X (D.write a l).1) (uD cd ca cb d a bv*F) w):=by
 have g:=f w D h;have i:=oZ w S d D a bv l _ h x g f (by rw [c];decide);have b:=h;unfold uD at b;have u:w.cell? ⟨cd,0,V⟩=U (ax d):=(b.t00 (pt cd (Z #[ax d] 27 (0,0))*(pt ca (Z #[Y X a] 3 (0,0))*(pt cb (Z #[bv] 23 (0,0))*(aD S d D*(al S*F)))))).cell 0;have v:w.cell? ⟨ca,0,V⟩=U (Y X a):=(b.t00 (pt ca (Z #[Y X a] 3 (0,0))*(pt cd (Z #[ax d] 27 (0,0))*(pt cb (Z #[bv] 23 (0,0))*(aD S d D*(al S*F)))))).cell 0;have j:w.cell? ⟨cb,0,V⟩=U bv:=(b.t00 (pt cb (Z #[bv] 23 (0,0))*(pt cd (Z #[ax d] 27 (0,0))*(pt ca (Z #[Y X a] 3 (0,0))*(aD S d D*(al S*F)))))).cell 0;obtain ⟨z,A,rfl⟩:=g.shape;clear h b f g;rw [c] at i j ⊢;clear c
 go_in
 go_wp2_with fail
 (with_reducible apply i.mono)
 rintro e C ⟨t,y,rfl,p,m⟩;have s:=ae p;have r:=ae m;clear i p m u v j
 go_wp2_with fail
 go_ret
 exact ⟨t,y,rfl,s.o,r.o⟩
def dQ (a:Nat->aw->Int × aw) (D:aw):Nat->Int × aw
 | 0=>(0,D)
 | k+1=>if (dQ a D k).1=0 then a k (dQ a D k).2 else dQ a D k
def IP (a:Nat->aw->Int × aw) (D:aw) {k:Nat} (h:(dQ a D k).1≠0):∀ m,k<=m->dQ a D m=dQ a D k:=by
  intro m e
  induction m with
  | zero => obtain rfl : k = 0 := N
            rfl
  | succ m c=>
    by_cases b:k=m+1
    · rw [b]
    · have:=c N
      rw [dQ,this,if_neg h]
def Gy (S:Hp) (d:Nat) (R:Int × aw) (c:ai) (w:O) (e:Ending) (b:O):Prop:=
 (R.1=0/\e = Y' (.tuple #[])\/R.1≠0/\e = .panicked (P1 2))/\∃ a,Ext S a/\ah b (aD a d R.2*(al a*c))/\ak w b
def xJ (m:Nat) (f:Nat->FuncId × Array Z' × Array Z') (b:Nat->aw->Int × aw) (S:Hp) (d g:Nat) (D:aw) (i:ai) (L:m<=10)
  (H:∀ c G k,ah c (G*i)->k<m->c.cell? ⟨g,k,V⟩=U (.func (.func (f k).1) (f k).2.1 (f k).2.2))
  (I:∀ k,k<m->∀ (v:Array Z') (w:O),(callFunc (f k).1 v).run T w = .ok (.enter (f k).1 v) w)
  (hs:∀ k,k<m->∀ c a D',Ext S a->D'.Ok->ah c (aD a d D'*(al a*i))->Calls T (f k).1 ((f k).2.1++(f k).2.2) c (iu a d (b k D').2 (Y X (b k D').1) i c))
  (M:∀ k,k<m->(dQ b D k).1=0->(dQ b D k).2.Ok) (w:O) (h:ah w (aD S d D*(al S*i))) :
  Calls T 116 #[W (U ⟨g,0,V⟩) m m] w (Gy S d (dQ b D m) i w):=by
 refine (GW m f (fun k c=>(dQ b D k).1=0/\∃ a,Ext S a/\ah c (aD a d (dQ b D k).2*(al a*i))/\ak w c) (fun c=>(dQ b D m).1≠0/\∃ a,Ext S a/\ah c (aD a d (dQ b D m).2*(al a*i))/\ak w c) g L ?_ ?_ w ⟨rfl,S,Ext.refl S,h,ak.refl w⟩).mono ?_
 .rintro b0 k c hi ⟨_,a,_,r,_⟩ l
  exact H c _ k (r.t00 ((aD a d (dQ b D b0).2*al a)*i)) l
 .intro k l
  refine ⟨I k l,?_⟩;rintro c ⟨A,a,t,r,x⟩;apply (hs k l c a _ t (M k l A) r).mono;rintro e w2 ⟨u,C,rfl,j,y⟩;have p:dQ b D (k+1)=b k (dQ b D k).2:=by rw [dQ,if_pos A]
  refine ⟨_,rfl,?_⟩
  by_cases q:(b k (dQ b D k).2).1=0
  .exact .inl ⟨q,by rw [p];exact q,u,t.trans C,by rw [p];exact j,x.trans y⟩
  .have F:(dQ b D (k+1)).1≠0:=by rw [p];exact q
   have z:=IP b D F m N;exact .inr ⟨q,by rw [z];exact F,u,t.trans C,by rw [z,p];exact j,x.trans y⟩
 .rintro e w2 (⟨rfl,s,j⟩|⟨rfl,s,j⟩)
  .exact ⟨.inl ⟨s,rfl⟩,j⟩
  .exact ⟨.inr ⟨s,rfl⟩,j⟩
def oo (m k:Nat):List Int:=D3 k (-1)++D3 (m-k) 0
def Lt {m k:Nat} (h:k<=m):(oo m k).length=m:=by simp [oo];omega
def Jk {m k:Nat} (h:k<m):(oo m k).set k (-1)=oo m (k+1):=by
 unfold oo;rw [List.set_append_right _ _ Si0,E4,Nat.sub_self,show m-k=(m-(k+1))+1 by omega,List.replicate_succ,List.replicate_succ',List.append_assoc]
 rfl
def OH (m b:Nat) (a:ai) (w:O) (u:Z') (wr:O):Prop:=
 ∃ k:Nat,k<=m/\u = Y X (k:Int)/\ah wr (pt b (Z (ints (oo m k)) 3 (0,0))*a)/\ak w wr
section
variable {D:aw} {o:Ar} {n P k:Nat} {K:List Int}
def uE (k:Nat) (D:aw):Int × aw:=if k=0 then D.write 0 (zs 512) else D.flush
def UU (a:Int) (_:Nat) (D:aw):Int × aw:=D.write a (zs 512)
def pI (n P k:Nat) (D:aw):Int × aw:=if k=1 then D.write 0 (bh n P) else D.flush
def wY (a:Nat->aw->Int × aw) (D:aw):dQ a D 1=a 0 D:=by rw [dQ,dQ];rfl
end
def OD (w:O) (c f:Addr) :
    CallsD T 154 #[Q (U c),Q (U f)] .returning w fun e u g=>e = Y' (.tuple #[])/\u = .returning/\w=g:=by
  refine callsD_of_wpS func154 rfl fun a h b=>?_;apply wpS_seq;apply wpS_region
  simp only [ntmps154,List.size_toArray,List.length_cons,List.length_nil,Nat.reduceAdd,Nat.reduceSub,Array.replicate_succ,
     Array.replicate_zero,List.push_toArray,List.append_toArray,E3,List.cons_append]
  simp [wpOpsS,go_sem,recoverD,b,Exit.thenS];refine wpS_of_wp ?_
  go_wp2
  cases a
  simp_all [bodyPostS,results,Tryz.results154]
def CL {w:O} {c:Array Z'} {a b:Nat} {x e:Z'} (f:c[4]?=U (ax a)) (g:c[5]?=U (ax b)) (h:w.cell? ⟨a,0,V⟩=U x) (i:w.cell? ⟨b,0,V⟩=U e) :
  (results Tryz.f81 c).run T w = .ok (.tuple #[x,e]) w:=by
 simp [results,Tryz.results81,go_sem,f,g,h,i]
def J8 {w:O} {c:Array Z'} {a b:Nat} {x z:Z'} {R:Ending->O->Prop} (f:c[4]?=U (ax a)) (g:c[5]?=U (ax b))
  (i:w.cell? ⟨a,0,V⟩=U x) (j:w.cell? ⟨b,0,V⟩=U z) (h:R (Y' (.tuple #[x,z])) w) :
  bodyPostD T Tryz.f81 R Exit.ret { tmps:=c,defers:=[{ target:=.fn (.func 154) #[Q (U ⟨a,0,V⟩),Q (U ⟨b,0,V⟩)],args:=#[] }] } w:=by
 refine leaves_cons (f:=154) (args:=#[Q (U ⟨a,0,V⟩),Q (U ⟨b,0,V⟩)]) Si0 (by simp [go_sem]) ?_;apply (OD w ⟨a,0,V⟩ ⟨b,0,V⟩).mono;rintro e u l ⟨rfl,rfl,rfl⟩;exact ⟨_,CL f g i j,h⟩
def xZ (cd ca cb:Nat):Z':=.func (.func 227) #[] #[ax cd,ax ca,ax cb]
def zr (d:Nat):Z':=.func (.func 117) #[ax d] #[]
def lT (rb:Nat) (a:Array Z'):ai:=pt rb (Z a 53 (0,0))
section
variable (w:O) (S:Hp) (d:Nat) (D:aw) (cd ca cb rb:Nat) (bv:Z') (R:ai)
def NT (h:ah w (aD S d D*(al S*(uD cd ca cb d 0 bv*(lT rb #[xZ cd ca cb,zr d]*R))))) (r:∀ a f,ah a (f*R)->Rd a bv (zs 512)) (q:∀ k,k<2->(dQ uE D k).1=0->(dQ uE D k).2.Ok) :
  Calls T 116 #[W (U ⟨rb,0,V⟩) 2 2] w (Gy S d (dQ uE D 2) (uD cd ca cb d 0 bv*(lT rb #[xZ cd ca cb,zr d]*R)) w):=by
 refine xJ 2 (fun k=>if k=0 then (227,#[],#[ax cd,ax ca,ax cb]) else (117,#[ax d],#[])) uE S d rb D _ De0 ?_ ?_ ?_ q w h
 .intro a f k s b
  have l:=(s.t00 (lT rb #[xZ cd ca cb,zr d]*(f*(uD cd ca cb d 0 bv*R))))
  match k,b with
  | 0,_=>exact l.cell 0
  | 1,_=>exact l.cell 1
 .intro k b t w
  match k,b with
  | 0,_=>simp [go_sem]
  | 1,_=>simp [go_sem]
 .intro k b a c D' u j i
  match k,b with
  | 0,_=>exact zR a c d D' cd ca cb 0 bv (zs 512) _ i j (fun m p g=>r m _ (g.t00 ((aD c d p*(al c*(uD cd ca cb d 0 bv*lT rb #[xZ cd ca cb,zr d])))*R))) (qq 512)
  | 1,_=>exact (mg a c d D' _ i j).mono fun e m g=>iu.of g
def xf (a:Int) (h:ah w (aD S d D*(al S*(uD cd ca cb d a bv*(lT rb #[xZ cd ca cb]*R))))) (p:∀ b f,ah b (f*R)->Rd b bv (zs 512)) (m:D.Ok) :
  Calls T 116 #[W (U ⟨rb,0,V⟩) 1 1] w (Gy S d (dQ (UU a) D 1) (uD cd ca cb d a bv*(lT rb #[xZ cd ca cb]*R)) w):=by
 refine xJ 1 (fun k=>(227,#[],#[ax cd,ax ca,ax cb])) (UU a) S d rb D _ De0 ?_ ?_ ?_ ?_ w h
 .intro b f k q c
  have r:=(q.t00 (lT rb #[xZ cd ca cb]*(f*(uD cd ca cb d a bv*R))))
  match k,c with
  | 0,_=>exact r.cell 0
 .intro k c t w
  simp [go_sem]
 .intro k c b e D' u l i
  exact zR b e d D' cd ca cb a bv (zs 512) _ i l (fun s g j=>p s _ (j.t00 ((aD e d g*(al e*(uD cd ca cb d a bv*lT rb #[xZ cd ca cb])))*R))) (qq 512)
 .intro k c _
  obtain rfl:k=0:=N
  exact m
def Nr (n P:Nat) (h:ah w (aD S d D*(al S*(uD cd ca cb d 0 bv*(lT rb #[zr d,xZ cd ca cb,zr d]*R))))) (r:∀ a g,ah a (g*R)->Rd a bv (bh n P)) (q:∀ k,k<3->(dQ (pI n P) D k).1=0->(dQ (pI n P) D k).2.Ok) :
  Calls T 116 #[W (U ⟨rb,0,V⟩) 3 3] w (Gy S d (dQ (pI n P) D 3) (uD cd ca cb d 0 bv*(lT rb #[zr d,xZ cd ca cb,zr d]*R)) w):=by
 refine xJ 3 (fun k=>if k=1 then (227,#[],#[ax cd,ax ca,ax cb]) else (117,#[ax d],#[])) (pI n P) S d rb D _ De0 ?_ ?_ ?_ q w h
 .intro a g k s f
  have l:=(s.t00 (lT rb #[zr d,xZ cd ca cb,zr d]*(g*(uD cd ca cb d 0 bv*R))))
  match k,f with
  | 0,_=>exact l.cell 0
  | 1,_=>exact l.cell 1
  | 2,_=>exact l.cell 2
 .intro k f t w
  match k,f with
  | 0,_=>simp [go_sem]
  | 1,_=>simp [go_sem]
  | 2,_=>simp [go_sem]
 .intro k f a b D' u j i
  match k,f with
  | 0,_=>exact (mg a b d D' _ i j).mono fun e m c=>iu.of c
  | 1,_=>exact zR a b d D' cd ca cb 0 bv (bh n P) _ i j (fun m p c=>r m _ (c.t00 ((aD b d p*(al b*(uD cd ca cb d 0 bv*lT rb #[zr d,xZ cd ca cb,zr d])))*R))) (gO n P)
  | 2,_=>exact (mg a b d D' _ i j).mono fun e m c=>iu.of c
end
def Q0 {n P:Nat} {D:aw} (f:D.Ok) (c:D.Calm) (l:D.wait=[]) (j:D.sec.length=P+1) (r:Zero P D) (h:gG n P=true) :
  Sj n P 1 (bh n P) (J0 P n) (FS n P D).ay sL/\(FS n P D).ay.sec.length=P+1/\(FS n P D).ay.cr=D.cr/\(FS n P D).ay.cw=bP (D.cw+1)/\(FS n P D).ay.cf=bP (D.cf+1):=by
 have m:∀ x ∈ (FS n P D).wait,(FS n P D).has x.1:=by
  intro x q;obtain rfl:x=((0:Int),bh n P):=by simpa [FS] using q
  exact ⟨D5 _,by show (0:Int)<(D.sec.length:Int);omega⟩
 have a:(FS n P D).Ok:=⟨f.n,m,by show [((0:Int),bh n P)].length<=_;simp,f.aH⟩
 have b:(FS n P D).Calm:=⟨c.down,c.eO⟩
 have e:=aw.iA a;rw [b.flush] at e;have g:(FS n P D).ay.sec.length=P+1:=by rw [(aF _).2.2.2];exact j
 refine ⟨RZ (fun p i=>?_) (e.ok a (by have:=a.many;omega)) (iU b) (by rw [g];omega) h ?_,g,(aF _).1,(aF _).2.1,(aF _).2.2.1⟩
 .rw [bZ a _ ⟨N,by show (p:Int)+1<(D.sec.length:Int);omega⟩,<- r p i]
  unfold aw.aG
  have:dg [((0:Int),bh n P)] ((p:Int)+1)=V:=by
   have:=gi [] ((0:Int),bh n P) ((p:Int)+1);rw [E3,if_neg (by show ¬ ((0:Int)=(p:Int)+1);omega)] at this;exact this
  rw [show (FS n P D).wait=[((0:Int),bh n P)] from rfl,this,l]
  rfl
 .rw [bZ a 0 ⟨D5 _,by show (0:Int)<(D.sec.length:Int);omega⟩]
  unfold aw.aG
  have:dg [((0:Int),bh n P)] 0=U (bh n P):=by
   have:=gi [] ((0:Int),bh n P) 0;rw [E3,if_pos rfl] at this;exact this
  rw [show (FS n P D).wait=[((0:Int),bh n P)] from rfl,this];show ((0:Int),bB 512 (bh n P))=_
  rw [ia (gO n P)]
section
variable {D:aw} {n P k:Nat}
def IW (h:D.Calm) (e:D.Ok) (g:D.wait.length<=1000) (c:D.has 0):dQ uE D 2=(0,(F1 D).ay)/\∀ k,k<2->(dQ uE D k).1=0->(dQ uE D k).2.Ok:=by
 have a:dQ uE D 1=(0,F1 D):=(wY _ _).trans (h.write c (qq 512));have b:dQ uE D 2=if (dQ uE D 1).1=0 then (dQ uE D 1).2.flush else dQ uE D 1:=rfl
 rw [a,if_pos rfl] at b;refine ⟨b.trans (GK h).flush,fun k f _=>?_⟩
 match k,f with
 | 0,_=>exact e
 | 1,_=>rw [a];exact Tc e g (by have:=c.2;omega)
def LP (h:D.Calm) (a:k+1<D.sec.length):dQ (UU ((k:Int)+1)) (FZ D k) 1=(0,FZ D (k+1)):=by
 rw [wY];show (FZ D k).write ((k:Int)+1) (zs 512)=_
 rw [(zS h k).write (a:=(k:Int)+1) ⟨N,by show (k:Int)+1<(D.sec.length:Int);omega⟩ (qq 512)];show (0,({ D with cw:=bP (df D.cw k+1),wait:=zW k++[((k:Int)+1,zs 512)] }:aw))=_
 rw [<- Iz];rfl
def JG (h:D.Calm) (a:D.Ok) (l:D.has 0):dQ (pI n P) D 3=(0,(FS n P D.ay).ay)/\∀ k,k<3->(dQ (pI n P) D k).1=0->(dQ (pI n P) D k).2.Ok:=by
 have j:=aw.iA a;rw [h.flush] at j;have e:D.ay.Ok:=j.ok a (by have:=a.many;omega);have c:D.ay.Calm:=iU h;have i:D.ay.has 0:=⟨D5 _,by rw [(aF D).2.2.2];exact l.2⟩
 have m:(FS n P D.ay).Ok:=⟨e.n,fun x q=>by
  obtain rfl:x=((0:Int),bh n P):=by simpa [FS] using q
  exact i,by show [((0:Int),bh n P)].length<=_;simp,e.aH⟩
 have f:dQ (pI n P) D 1=(0,D.ay):=(wY _ _).trans h.flush;have b:dQ (pI n P) D 2=if (dQ (pI n P) D 1).1=0 then (dQ (pI n P) D 1).2.write 0 (bh n P) else dQ (pI n P) D 1:=rfl
 rw [f,if_pos rfl,show (((0:Int),D.ay).2.write 0 (bh n P))=(0,FS n P D.ay) from c.write i (gO n P)] at b;have g:dQ (pI n P) D 3=if (dQ (pI n P) D 2).1=0 then (dQ (pI n P) D 2).2.flush else dQ (pI n P) D 2:=rfl
 rw [b,if_pos rfl] at g;refine ⟨g.trans (aw.Calm.flush (D:=FS n P D.ay) ⟨c.down,c.eO⟩),fun k p _=>?_⟩
 match k,p with
 | 0,_=>exact a
 | 1,_=>rw [f];exact e
 | 2,_=>rw [b];exact m
end
structure XJ (n P:Nat) (D D':aw):Prop where
 sj:Sj n P 1 (bh n P) (J0 P n) D' sL
 xT:D'.wait=[]
 sec:D'.sec.length=D.sec.length
 cr:D'.cr=D.cr
 cw:D'.cw=df D.cw (P+2)
 cf:D'.cf=df D.cf 3
def Rp (S:Hp) (d n P:Nat) (D:aw) (F:ai) (w:O) (e:Ending) (b:O):Prop:=
 ∃ s j a D',Ext S a/\e = Y' (.tuple #[ax s,Y X 0])/\ah b (dz s j d n P (J0 P n)*(aD a d D'*(al a*F)))/\ak w b/\XJ n P D D'
def UO (S:Hp) (d P:Nat) (b:aw) (c:ai) (w wr:O):Prop:=∃ a,Ext S a/\ah wr (aD a d (FZ b P)*(al a*c))/\ak w wr
def Uc (S:Hp) (d P:Nat) (b:aw) (c:ai) (w:O) (u:Z') (wr:O):Prop:=
 ∃ k a,k<=P/\u = Y X ((k:Nat):Int)/\Ext S a/\ah wr (aD a d (FZ b k)*(al a*c))/\ak w wr
def KE (w:O) (S:Hp) (d n P:Nat) (D:aw) (F:ai) (Y1:ah w (aD S d D*(al S*F))) (o2:D.Ok) (hc:D.Calm) (hm:D.wait.length<=1000) (hg:gG n P=true) (hs:D.sec.length=P+1)
  (hh:∀ h b,ah h (b*F)->iZ h):Calls T 81 #[ax d,Y X (n:Int)] w (Rp S d n P D F w):=by
 have g3:=oq T;have f3:=dN.1 hg;have h1:=((Y1.alloc (Z #[Q V] 101 (0,0))).alloc (Z #[Y X 0] 31 (0,0)))
 have d1:=(((ak.refl w).alloc (Z #[Q V] 101 (0,0))).alloc (Z #[Y X 0] 31 (0,0)))
 rw [B3] at h1;have R1:=ae o2;have Hc:=ae hc;have Hm:=ae hm;have Hg:=ae hg;have Hs:=ae hs;have Hh:=ae hh;clear Y1 o2 hc hm hg hs hh
 go_enter_defers func81,ntmps81
 go_wp2_with fail
 generalize (w.alloc (Z #[Q V] 101 (0,0))).alloc (Z #[Y X 0] 31 (0,0))=w1 at h1 d1 ⊢;generalize w.heap.size+1=x at h1 ⊢;generalize w.heap.size=v at h1 ⊢;have z1:=jw w1 S d D _ (h1.to (by ac_rfl:_=aD S d D*(pt x (Z #[Y X 0] 31 (0,0))*(pt v (Z #[Q V] 101 (0,0))*(al S*F)))));rw [Hs.o] at z1;have m3:IntKind.i64.wrap (((P+1:Nat):Int)-1)=(P:Int):=by rw [IntKind.wrap_i64];omega
 (with_reducible refine z1.mono ?_)
 rintro e w2 ⟨rfl,rfl⟩;have h2:=h1.alloc (Z #[Y X (n:Int),Y X (P:Int)] 132 (0,0));have d2:=d1.alloc (Z #[Y X (n:Int),Y X (P:Int)] 132 (0,0));clear z1 h1 d1
 go_wp2_with fail
 have R0:=pY (w1.alloc (Z #[Y X (n:Int),Y X (P:Int)] 132 (0,0))) n P;unfold GQ zM at R0;rw [if_pos Hg.o] at R0
 (with_reducible refine R0.mono ?_)
 rintro e w3 ⟨rfl,h3,d3⟩;have X2:=fun w=>rq w;have H3:=h3.cU h2;have r:=d2.trans d3;generalize w1.heap.size=q at H3 ⊢;clear R0 h2 d2 h3 d3
 go_wp2_with fail
 (with_reducible refine (X2 _).mono ?_)
 rintro e w4 ⟨rfl,rfl⟩;have H4:=H3.alloc (Z (dP (zs 512)) 5 (0,0));have D4:=r.alloc (Z (dP (zs 512)) 5 (0,0));obtain ⟨u,hZ⟩:∃ u,u=dP (zs 512):=⟨_,rfl⟩
 have y1:∀ w,(Instr.makeSlice 23 (Y X 512) (Y X 512)).run T w = .ok (W (U ⟨w.heap.size,0,V⟩) 512 512) (w.alloc (Z u 5 (0,0))):=by
  rw [hZ];exact Go.Proofs.Nn.fm 512 De0
 rw [<- hZ] at H4 D4;clear H3 r;have HZ:=ae hZ;clear hZ
 go_wp2_with fail
 generalize w3.alloc (Z u 5 (0,0))=i at H4 D4 ⊢;generalize w3.heap.size=f at H4 ⊢;obtain ⟨c,o1⟩:∃ b,b=pt f (Z u 5 (0,0))*(pt q (Z #[Y X (n:Int),Y X (P:Int)] 132 (0,0))*(pt x (Z #[Y X 0] 31 (0,0))*(pt v (Z #[Q V] 101 (0,0))*F))):=⟨_,rfl⟩
 have H5:ah i (aD S d D*(al S*c)):=H4.to (by rw [o1];ac_rfl);have i0:=ae o1
 have s0:∀ h b,ah h (b*c)->Rd h (W (U ⟨f,0,V⟩) 512 512) (zs 512):=by
  intro h b hx;have:=uT (c:=512) ((hx.to (by rw [i0.o,HZ.o];ac_rfl:_=pt f (Z (dP (zs 512)) 5 (0,0))*(b*(pt q (Z #[Y X (n:Int),Y X (P:Int)] 132 (0,0))*(pt x (Z #[Y X 0] 31 (0,0))*(pt v (Z #[Q V] 101 (0,0))*F)))))).heap)
  rwa [qq] at this
 have s0:=ae s0;clear H4 o1
 have L:=uZ i d 0 (U ⟨f,0,V⟩) 512 512;have h6:=(((H5.alloc (Z #[ax d] 27 (0,0))).alloc (Z #[Y X 0] 3 (0,0))).alloc (Z #[W (U ⟨f,0,V⟩) 512 512] 23 (0,0))).alloc (Z #[.func (.func 227) #[] #[ax i.heap.size,ax (i.heap.size+1),ax (i.heap.size+1+1)],.func (.func 117) #[ax d] #[]] 53 (0,0));have D6:=(((D4.alloc (Z #[ax d] 27 (0,0))).alloc (Z #[Y X 0] 3 (0,0))).alloc (Z #[W (U ⟨f,0,V⟩) 512 512] 23 (0,0))).alloc (Z #[.func (.func 227) #[] #[ax i.heap.size,ax (i.heap.size+1),ax (i.heap.size+1+1)],.func (.func 117) #[ax d] #[]] 53 (0,0));rw [B3,B3,B3] at h6
 (with_reducible refine L.mono ?_)
 rintro e w6 ⟨rfl,rfl⟩;have H6:=ae h6;have b1:=ae D6;clear L h6 D6 D4 H5 y1
 go_wp2_with fail
 generalize (((i.alloc (Z #[ax d] 27 (0,0))).alloc (Z #[Y X 0] 3 (0,0))).alloc (Z #[W (U ⟨f,0,V⟩) 512 512] 23 (0,0))).alloc (Z #[.func (.func 227) #[] #[ax i.heap.size,ax (i.heap.size+1),ax (i.heap.size+1+1)],.func (.func 117) #[ax d] #[]] 53 (0,0))=w6 at H6 b1 ⊢;generalize i.heap.size+1+1+1=rb at H6 ⊢;generalize i.heap.size+1+1=cb at H6 ⊢;generalize i.heap.size+1=ca at H6 ⊢;generalize i.heap.size=cd at H6 ⊢;have h6:ah w6 (aD S d D*(al S*(uD cd ca cb d 0 (W (U ⟨f,0,V⟩) 512 512)*(lT rb #[xZ cd ca cb,zr d]*c)))):=H6.o.to (by unfold uD lT xZ zr;ac_rfl);have q0:D.has 0:=⟨D5 _,by rw [Hs.o];omega⟩
 obtain ⟨hR,b2⟩:=IW Hc.o R1.o Hm.o q0;have I:=NT w6 S d D cd ca cb rb _ c h6 s0.o b2;clear H6 h6 b2
 (with_reducible refine I.mono ?_)
 rintro e w7 ⟨L0,S7,g2,h7,d7⟩;have D7:=b1.o.trans d7;clear I d7 b1;rw [hR] at L0 h7;rcases L0 with ⟨_,rfl⟩|⟨L0,_⟩
 case inr=>exact absurd rfl L0
 have r0:=Tc R1.o Hm.o (by rw [Hs.o];omega);have l1:=GK Hc.o;obtain ⟨a,A⟩:∃ b,b=(F1 D).ay:=⟨_,rfl⟩
 have e0:=aw.iA r0;rw [l1.flush] at e0;have p2:a.Ok:=by rw [A];exact e0.ok r0 (by have:=r0.many;omega)
 have j2:a.Calm:=by rw [A];exact iU l1
 have D1:a.wait=[]:=by rw [A];rfl
 have s2:a.sec.length=P+1:=by rw [A,(aF _).2.2.2];exact Hs.o
 have u2:a.aG 0=(0,zs 512):=by rw [A,bZ r0 0 q0];exact NX
 have m2:a.cr=D.cr:=by rw [A,(aF _).1];rfl
 have n2:a.cw=df D.cw 1:=by rw [A,(aF _).2.1];rfl
 have l2:a.cf=df D.cf 1:=by rw [A,(aF _).2.2.1];rfl
 rw [<- A] at h7;have i2:FZ a 0=a:=by unfold FZ zW;rw [List.range_zero,List.map_nil,<- D1];rfl
 have a2:ah w7 (aD S7 d (FZ a 0)*(al S7*c)):=by
  rw [i2];exact (h7.to (by ac_rfl:_=(uD cd ca cb d 0 (W (U ⟨f,0,V⟩) 512 512)*lT rb #[xZ cd ca cb,zr d])*(aD S7 d a*(al S7*c)))).right
 have H7:=ae a2;have c1:=ae D7;have f1:=ae g2;have S1:=ae p2;have i1:=ae j2;have R2:=ae D1;have k0:=ae s2;have P2:=ae u2;have M2:=ae m2;have N2:=ae n2;have L2:=ae l2;clear h7 a2 D7 hR A e0 p2 j2 D1 s2 u2 m2 n2 l2 r0 l1 i2 g2
 have g1:w7.cell? ⟨q,1,V⟩=U (Y X (P:Int)):=by
  have:=H7.o;rw [i0.o] at this;exact (this.to (by ac_rfl:_=pt q (Z #[Y X (n:Int),Y X (P:Int)] 132 (0,0))*(pt f (Z u 5 (0,0))*(pt x (Z #[Y X 0] 31 (0,0))*(pt v (Z #[Q V] 101 (0,0))*(F*(aD S7 d (FZ a 0)*al S7))))))).cell 1
 go_upto_block 0 with (fail)
 go_cut [] from 32 to 42 (fun wx=>UO S d P a c w wx)
 case first=>
  go_wp2_with fail
  go_loopw [32] (fun h0 wr=>Uc S d P a c w h0 wr) (fun h0 _=>P-(intOf h0).toNat)
  case atStart=>exact ⟨0,S7,Nat.zero_le _,rfl,f1.o,H7.o,c1.o⟩
  case round=>
   clear H7 c1 f1 g1;obtain ⟨k,m,hk,rfl,m0,z,M⟩:=hrel
   by_cases x1:k<P
   .have S2:(k:Int)<(P:Int):=N
    have l3:IntKind.i64.wrap ((k:Int)+1)=(k:Int)+1:=by rw [IntKind.wrap_i64];omega
    have L:=uZ wr d ((k:Int)+1) (U ⟨f,0,V⟩) 512 512;have G:=(((z.alloc (Z #[ax d] 27 (0,0))).alloc (Z #[Y X ((k:Int)+1)] 3 (0,0))).alloc (Z #[W (U ⟨f,0,V⟩) 512 512] 23 (0,0))).alloc (Z #[.func (.func 227) #[] #[ax wr.heap.size,ax (wr.heap.size+1),ax (wr.heap.size+1+1)]] 53 (0,0));have D9:=(((M.alloc (Z #[ax d] 27 (0,0))).alloc (Z #[Y X ((k:Int)+1)] 3 (0,0))).alloc (Z #[W (U ⟨f,0,V⟩) 512 512] 23 (0,0))).alloc (Z #[.func (.func 227) #[] #[ax wr.heap.size,ax (wr.heap.size+1),ax (wr.heap.size+1+1)]] 53 (0,0));rw [B3,B3,B3] at G;have p:=ae G;have e1:=ae D9;have x0:=ae m0;clear z M G D9 m0
    go_wp2_with fail
    (with_reducible refine L.mono ?_)
    rintro e g ⟨rfl,rfl⟩;clear L
    go_wp2_with fail
    generalize (((wr.alloc (Z #[ax d] 27 (0,0))).alloc (Z #[Y X ((k:Int)+1)] 3 (0,0))).alloc (Z #[W (U ⟨f,0,V⟩) 512 512] 23 (0,0))).alloc (Z #[.func (.func 227) #[] #[ax wr.heap.size,ax (wr.heap.size+1),ax (wr.heap.size+1+1)]] 53 (0,0))=g at p e1 ⊢;generalize wr.heap.size+1+1+1=rb at p ⊢;generalize wr.heap.size+1+1=cb at p ⊢;generalize wr.heap.size+1=ca at p ⊢;generalize wr.heap.size=cd at p ⊢;have G:ah g (aD m d (FZ a k)*(al m*(uD cd ca cb d ((k:Int)+1) (W (U ⟨f,0,V⟩) 512 512)*(lT rb #[xZ cd ca cb]*c)))):=p.o.to (by unfold uD lT xZ;ac_rfl);have I:=xf g m d (FZ a k) cd ca cb rb _ c _ G s0.o (SV S1.o (by rw [k0.o];omega));clear G p
    (with_reducible refine I.mono ?_)
    rintro e W0 ⟨H0,D0,e2,y,V1⟩;have n0:=e1.o.trans V1;have hE:Ext S D0:=x0.o.trans e2;clear I V1 e1 e2;rw [LP i1.o (by rw [k0.o];omega)] at H0 y;rcases H0 with ⟨_,rfl⟩|⟨H0,_⟩
    case inr=>exact absurd rfl H0
    have C:=ae ((y.to (by ac_rfl:_=(uD cd ca cb d ((k:Int)+1) (W (U ⟨f,0,V⟩) 512 512)*lT rb #[xZ cd ca cb])*(aD D0 d (FZ a (k+1))*(al D0*c)))).right);have o0:=ae n0;have D2:=ae hE;clear y n0 hE
    go_wp2_with fail
    go_roundw
    case rel=>exact ⟨k+1,D0,N,by go_num,D2.o,C.o,o0.o⟩
    case measure=>simp [intOf];omega
   .obtain rfl:k=P:=N
    have H8:=ae z;have u0:=ae M;clear z M
    go_wp2_with fail
    go_meet
    exact ⟨m,m0,H8.o,u0.o⟩
 case rest=>
  clear H7 c1 f1 g1;obtain ⟨m,m0,z,M⟩:=hcut;have N0:∀ h b,ah h (b*c)->ah h (pt q (Z #[Y X (n:Int),Y X (P:Int)] 132 (0,0))*((pt f (Z u 5 (0,0))*(pt x (Z #[Y X 0] 31 (0,0))*(pt v (Z #[Q V] 101 (0,0))*F)))*b)):=fun h b hx=>hx.to (by rw [i0.o];ac_rfl);have g0:wc.cell? ⟨q,0,V⟩=U (Y X (n:Int)):=(N0 _ (aD m d (FZ a P)*al m) (z.to Ac0)).cell 0;have g1:wc.cell? ⟨q,1,V⟩=U (Y X (P:Int)):=(N0 _ (aD m d (FZ a P)*al m) (z.to Ac0)).cell 1;have u1:∀ h b,ah h (b*c)->iZ h:=fun h b hx=>Hh.o h (b*(pt f (Z u 5 (0,0))*(pt q (Z #[Y X (n:Int),Y X (P:Int)] 132 (0,0))*(pt x (Z #[Y X 0] 31 (0,0))*pt v (Z #[Q V] 101 (0,0)))))) (hx.to (by rw [i0.o];ac_rfl));have t1:=tV wc n P Hg.o (u1 wc (aD m d (FZ a P)*al m) (z.to Ac0));unfold zM at t1;have b3:=ae N0;have c3:=ae u1;have H8:=ae z;have u0:=ae M;have x0:=ae m0;clear N0 u1 z M m0
  go_wp2_with fail
  (with_reducible refine t1.mono ?_)
  rintro e g ⟨ev,rfl,G,d9⟩;have p:=G.under H8.o;have D9:=u0.o.trans d9;obtain ⟨s,t,rfl⟩:=p.mI.shape;rw [gO] at p ⊢;clear t1 G d9 H8 u0 g0 g1;have L:=uZ g d 0 s 512 t;have y:=(((p.alloc (Z #[ax d] 27 (0,0))).alloc (Z #[Y X 0] 3 (0,0))).alloc (Z #[W s 512 t] 23 (0,0))).alloc (Z #[.func (.func 117) #[ax d] #[],.func (.func 227) #[] #[ax g.heap.size,ax (g.heap.size+1),ax (g.heap.size+1+1)],.func (.func 117) #[ax d] #[]] 53 (0,0));have n0:=(((D9.alloc (Z #[ax d] 27 (0,0))).alloc (Z #[Y X 0] 3 (0,0))).alloc (Z #[W s 512 t] 23 (0,0))).alloc (Z #[.func (.func 117) #[ax d] #[],.func (.func 227) #[] #[ax g.heap.size,ax (g.heap.size+1),ax (g.heap.size+1+1)],.func (.func 117) #[ax d] #[]] 53 (0,0));rw [B3,B3,B3] at y;have C:=ae y;have o0:=ae n0;clear p D9 y n0
  go_wp2_with fail
  (with_reducible refine L.mono ?_)
  rintro e W0 ⟨rfl,rfl⟩;clear L
  go_wp2_with fail
  generalize (((g.alloc (Z #[ax d] 27 (0,0))).alloc (Z #[Y X 0] 3 (0,0))).alloc (Z #[W s 512 t] 23 (0,0))).alloc (Z #[.func (.func 117) #[ax d] #[],.func (.func 227) #[] #[ax g.heap.size,ax (g.heap.size+1),ax (g.heap.size+1+1)],.func (.func 117) #[ax d] #[]] 53 (0,0))=W0 at C o0 ⊢;generalize g.heap.size+1+1+1=rb at C ⊢;generalize g.heap.size+1+1=cb at C ⊢;generalize g.heap.size+1=ca at C ⊢;generalize g.heap.size=cd at C ⊢;have y:ah W0 (aD m d (FZ a P)*(al m*(uD cd ca cb d 0 (W s 512 t)*(lT rb #[zr d,xZ cd ca cb,zr d]*(bs 5 (W s 512 t) (bh n P)*c))))):=C.o.to (by unfold uD lT xZ zr;ac_rfl);have q0:(FZ a P).has 0:=⟨D5 _,by show (0:Int)<(a.sec.length:Int);rw [k0.o];omega⟩
  have d0:=SV S1.o (k:=P) (by rw [k0.o];omega);obtain ⟨hR,c2⟩:=JG (n:=n) (P:=P) (zS i1.o P) d0 q0;have I:=Nr W0 m d (FZ a P) cd ca cb rb (W s 512 t) (bs 5 (W s 512 t) (bh n P)*c) n P y (fun h b hx=>(hx.to (by ac_rfl:_=bs 5 (W s 512 t) (bh n P)*(b*c))).mI) c2;clear C y c2
  (with_reducible refine I.mono ?_)
  rintro e E1 ⟨K0,j,f2,G0,W1⟩;have H1:=o0.o.trans W1;have hE:Ext S j:=x0.o.trans f2;clear I W1 o0 f2
  have m1:=zS i1.o P;have e0:=aw.iA d0;rw [m1.flush] at e0;have q2:(FZ a P).ay.Ok:=e0.ok d0 (by have:=d0.many;omega);have k2:(FZ a P).ay.Calm:=iU m1;have t2:(FZ a P).ay.sec.length=P+1:=by rw [(aF _).2.2.2];exact k0.o
  have v2:Zero P (FZ a P).ay:=fun y2 hp=>by rw [bZ d0 _ ⟨N,by show (y2:Int)+1<(a.sec.length:Int);rw [k0.o];omega⟩];exact RT a P y2 hp
  have W2:(FZ a P).ay.aG 0=(0,zs 512):=by rw [bZ d0 _ q0,Kg R2.o];exact P2.o
  rw [hR] at K0 G0;rcases K0 with ⟨_,rfl⟩|⟨K0,_⟩
  case inr=>exact absurd rfl K0
  obtain ⟨A1,S0,r1,s1,q1⟩:=Q0 q2 k2 rfl t2 v2 Hg.o
  have n1:XJ n P D (FS n P (FZ a P).ay).ay:=by
   refine ⟨A1,rfl,by rw [S0,Hs.o],?_,?_,?_⟩
   .rw [r1,(aF _).1];exact M2.o
   .rw [s1,(aF _).2.1]
    show bP (df a.cw P+1)=_
    rw [N2.o,zB,show P+2=(1+P)+1 by omega];rfl
   .rw [q1,(aF _).2.2.1]
    show bP (bP (a.cf+1)+1)=_
    rw [L2.o];rfl
  generalize (FS n P (FZ a P).ay).ay=r at G0 A1 S0 r1 s1 q1 n1;have M1:ah E1 (aD j d r*(al j*c)):=(G0.to (by ac_rfl:_=(uD cd ca cb d 0 (W s 512 t)*(lT rb #[zr d,xZ cd ca cb,zr d]*bs 5 (W s 512 t) (bh n P)))*(aD j d r*(al j*c)))).right;have J2:=ae n1;clear G0 hR A1 r1 s1 q1 q2 k2 t2 v2 W2 e0 m1 d0 n1 x0 s0;obtain ⟨F0,k1⟩:∃ l,l=oo n 0:=⟨_,rfl⟩
  have y1:∀ w,(Instr.makeSlice 97 (Y X (n:Int)) (Y X (n:Int))).run T w = .ok (W (U ⟨w.heap.size,0,V⟩) n n) (w.alloc (Z (ints F0) 3 (0,0))):=by
   rw [k1];exact oD n N
  have H2:=ae k1;have p0:=M1.alloc (Z (ints F0) 3 (0,0));have Y0:=H1.alloc (Z (ints F0) 3 (0,0));clear k1 M1 H1
  go_upto_block 2 with (fail)
  generalize E1.alloc (Z (ints F0) 3 (0,0))=n3 at p0 Y0 ⊢;generalize E1.heap.size=H at p0 ⊢;obtain ⟨Z2,p1⟩:∃ b,b=aD j d r*(al j*c):=⟨_,rfl⟩
  rw [<- p1] at p0;have K2:=ae p1;have Z0:=ae p0;have a1:=ae Y0;have E2:=ae hE;have T1:=ae S0;clear p1 y1 p0 Y0 hE S0
  go_cut [] from 57 to 63 (fun wx=>ah wx (pt H (Z (ints (D3 n (-1))) 3 (0,0))*Z2)/\ak w wx)
  case first=>
   go_wp2_with fail
   go_loopw [57] (fun h0 wr=>OH n H Z2 w h0 wr) (fun h0 _=>n-(intOf h0).toNat)
   case atStart=>exact ⟨0,Nat.zero_le _,rfl,by rw [<- H2.o];exact Z0.o,a1.o⟩
   case round=>
    clear Z0 a1;obtain ⟨k,hk,rfl,f0,T0⟩:=hrel
    by_cases x1:k<n
    .have S2:(k:Int)<(n:Int):=N
     have ck:wr.cell? ⟨H,k,V⟩=U (Y X ((oo n k).getD k 0)):=(f0.cell k).trans (aY (by rw [Lt hk];exact x1));have fk:=f0.frozen k;have h2:=f0.setCell k (Y X (-1));rw [eS,Jk x1] at h2;have T2:=ae h2;have O2:=ae T0;generalize (oo n k).getD k 0=uo at ck;clear f0 T0 h2
     go_wp2
     go_roundw
     case rel=>exact ⟨k+1,N,by go_num,T2.o,O2.o.setCell _ _⟩
     case measure=>simp [intOf];omega
    .obtain rfl:k=n:=N
     have e:oo k k=D3 k (-1):=by simp [oo]
     rw [e] at f0;have Hs:=ae f0;have Hd:=ae T0;clear f0 T0 e
     go_wp2_with fail
     go_meet
     exact ⟨Hs.o,Hd.o⟩
  case rest=>
   clear Z0 a1;obtain ⟨l0,K1⟩:=hcut;rw [K2.o] at l0;have j1:ah wc (pt q (Z #[Y X (n:Int),Y X (P:Int)] 132 (0,0))*(pt f (Z u 5 (0,0))*(pt x (Z #[Y X 0] 31 (0,0))*(pt v (Z #[Q V] 101 (0,0))*F))*(pt H (Z (ints (D3 n (-1))) 3 (0,0))*(aD j d r*al j)))):=l0.to (by rw [i0.o];ac_rfl);have g0:wc.cell? ⟨q,0,V⟩=U (Y X (n:Int)):=j1.cell 0;have g1:wc.cell? ⟨q,1,V⟩=U (Y X (P:Int)):=j1.cell 1;have v1:(nV n).at_.length=n:=E4
   have r2:Calls T 121 #[ax d,.agg #[Y X (n:Int),Y X (P:Int)],.agg #[Y .u32 1,Y X' 1,Y X' 0,Y X 0,Y X 0,W (U ⟨H,0,V⟩) n n]] wc (tL d n P (J0 P n) wc):=by
    refine kE wc j d r _ (l0.to (by ac_rfl:_=aD j d r*(pt H (Z (ints (D3 n (-1))) 3 (0,0))*(al j*c)))) n P (nV n) (W (U ⟨H,0,V⟩) n n) (.inr ⟨H,0,n,by rw [v1],by rw [v1];exact E5 _,by unfold maxLen;omega,fun k hk=>?_⟩) N N (by rw [T1.o];omega) (by rw [T1.o];omega) (show (0:Int)<=0 by decide) (uf N N N) N;rw [Nat.zero_add,l0.cell];exact aY hk
   have N1:=ae l0;have O1:=ae K1;clear l0 j1 K1 v1
   go_wp2_with fail
   (with_reducible refine r2.mono ?_)
   rintro e Y2 ⟨V0,x2,rfl,Z1,X1⟩;have L1:=O1.o.trans X1;have c0:ah Y2 (pt v (Z #[Q V] 101 (0,0))*(pt x (Z #[Y X 0] 31 (0,0))*((pt H (Z (ints (D3 n (-1))) 3 (0,0))*(pt q (Z #[Y X (n:Int),Y X (P:Int)] 132 (0,0))*pt f (Z u 5 (0,0))))*(dz V0 x2 d n P (J0 P n)*(aD j d r*(al j*F)))))):=(Z1.under N1.o).to (by rw [i0.o];ac_rfl);have a0:=c0.cell 0;have b0:=c0.aj.cell 0;have fa:=c0.frozen 0;have e3:=c0.aj.frozen 0;have i3:v≠x:=ah.ne c0;have HK:=ae ((c0.setCell 0 (ax V0)).aj.setCell 0 (Y X 0));have z2:=ae ((L1.setCell ⟨v,0,V⟩ (ax V0)).setCell ⟨x,0,V⟩ (Y X 0));clear r2 Z1 c0 X1 L1 N1 O1 g0 g1
   go_wp2_with fail
   exact J8 rfl rfl (HK.o.aj.cell 0) (HK.o.cell 0) ⟨V0,x2,j,r,E2.o,rfl,HK.o.right.right.right,z2.o,J2.o⟩
def mV (n:Int):Int:=if n<4\/3840<n then 0 else (5*n+241)/2
def EK {n:Nat} (a:4<=n) (b:n<=3840):mV (n:Int)=(((5*n+241)/2:Nat):Int):=by
 unfold mV;rw [if_neg N];omega
def JH (w:O) (n:Int):Calls T 34 #[Y X n] w fun e f=>e = Y' (Y X (mV n))/\w=f:=by
 go_in
 by_cases h:n<4
 .have e:mV n=0:=by unfold mV;rw [if_pos (.inl h)]
  rw [e]
  go_wp2
  go_ret
  exact ⟨rfl,rfl⟩
 .by_cases c:3840<n
  .have e:mV n=0:=by unfold mV;rw [if_pos (.inr c)]
   rw [e]
   go_wp2
   go_ret
   exact ⟨rfl,rfl⟩
  .have e:mV n=(5*n+241)/2:=by unfold mV;rw [if_neg N]
   have g:IntKind.i64.wrap ((IntKind.i64.wrap (IntKind.i64.wrap (IntKind.i64.wrap (IntKind.i64.wrap (5*n)+240)+2)-1)).tdiv 2)=(5*n+241)/2:=by
    have a:IntKind.i64.wrap (5*n)=5*n:=by rw [IntKind.wrap_i64];omega
    have b:IntKind.i64.wrap (5*n+240)=5*n+240:=by rw [IntKind.wrap_i64];omega
    have a3:IntKind.i64.wrap (5*n+240+2)=5*n+242:=by rw [IntKind.wrap_i64];omega
    have a4:IntKind.i64.wrap (5*n+242-1)=5*n+241:=by rw [IntKind.wrap_i64];omega
    rw [a,b,a3,a4,Int.tdiv_eq_ediv_of_nonneg N,IntKind.wrap_i64];omega
   rw [e]
   go_wp2
   go_ret
   refine ⟨?_,rfl⟩;rw [show 5*n+240+2-1=5*n+241 by omega]
   rfl
end Go.Proofs.Su
