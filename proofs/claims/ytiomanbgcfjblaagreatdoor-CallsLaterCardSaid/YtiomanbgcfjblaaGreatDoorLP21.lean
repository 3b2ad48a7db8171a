/- Steps. -/
import Derived.Test.YtiomanbgcfjblaaGreatDoorLP20
import Derived.Lib.IndexLaws
set_option linter.all false
set_option maxRecDepth 99999
set_option maxHeartbeats 0
open Go.SL
open Go.Value renaming int->Z,pointer->S,tuple->Z'
open Go.IntKind renaming i64->Y
open Go.Obj renaming cells->T
open Go.Ending renaming returned->R
open Go renaming World->U,Value->Q
open Go.Proofs.Tryz renaming prog->X
open Option renaming some->V,none->W
open Go.Proofs.Tryz
open Int renaming toNat_natCast->A1,eq_ofNat_of_zero_le->D3
open List renaming length_nil->B3,nil_append->D7,length_append->D5,append_assoc->D4,append_toArray->E5
open Array renaming replicate_succ->D2,replicate_zero->D1
namespace Go.Proofs.Su
open RowKit SL Proofs.Ba Proofs.Fs
variable {l:List UInt8} {w w':U} {P n:Int} {ab eb:Nat} {tmps:Array Q} {e:Q} {F:ai}
def dI (l:List UInt8):Option (Int × Int):=
 if gG (gE (l.drop 8) 4) (gE (l.drop 12) 4)=true/\bh (gE (l.drop 8) 4).toNat (gE (l.drop 12) 4).toNat=l then V (gE (l.drop 8) 4,gE (l.drop 12) 4) else W
def rL (a:Array Q) (b:a.size=2):(prog.info? 132).map (·.size)=V a.size:=by rw [b];kernel_rfl
def P1 (c:Int):List PanicEntry:=[{ v:=.iface 31 (Z Y c),recovered:=false }]
def oY (w:U):Calls X 305 #[.bool true] w fun e a=>e = R (Z' #[])/\w=a:=by
 go_in
 go_wp2
 go_end0
 exact ⟨rfl,rfl⟩
def vU (w:U):Calls X 305 #[.bool false] w fun e a=>e = .panicked (P1 4)/\w=a:=by
 go_in
 go_wp2
 exact ⟨rfl,rfl,rfl⟩
def pj (w:U) (v:Q) (l:List UInt8) (h:Rd w v l):(convert 23 9 v).run X w = .ok (.string (str l)) w:=by
 have nh:∀ (l:List UInt8) (s:ByteArray),(l.map fun x=>(x.toNat:Int)).foldl (fun r n=>r.push (UInt8.ofNat n.toNat)) s=⟨s.data++l.toArray⟩:=by
  intro l
  induction l with
  | nil=>intro s;simp
  | cons a l g=>intro s;simp only [List.map_cons,List.foldl_cons,g];simp [ByteArray.push]
 obtain ⟨_,f⟩:=h;rcases f with ⟨rfl,d⟩|⟨a,c,rfl,e⟩
 .have:l=[]:=List.eq_nil_of_length_eq_zero d
  subst this;rw [run_convert_bytes_string w _ _ 5 W 0 0 underlying23 underlying5 underlying9]
  rfl
 .rw [run_convert_bytes_string w _ _ 5 (V a) _ c underlying23 underlying5 underlying9]
  have b:=run_loadCells_list (P:=X) (w:=w) a (l.map SL.u8) e;rw [List.length_map] at b
  have:=run_bytesToString (P:=X) w a l.length c (l.map fun x=>(x.toNat:Int)) (by
   rw [b];simp [SL.u8,Function.comp_def])
  rw [this,nh];simp [str]
def Mx (w:U) (r g b:Nat) (d:Array Q) (L:List UInt8) (o:Nat) (F:ai) (h:ah w (bD r g b d L o*F)) :
  Calls X 306 #[ax r] w (kL (.bool true) w):=by
 obtain ⟨x,c,_,_,a⟩:=jB h;have f:w.cell? ⟨r,1,W⟩=V (.bool false):=a.cell 1;have e:=(ah.whole w)
 clear h a
 go_in
 go_wp2
 go_ret
 exact ⟨rfl,e,ak.refl _⟩
def Bk (a b:List UInt8):((str a).toList == (str b).toList)=decide (a=b):=by
 rw [Lib.toList_data,Lib.toList_data,Bool.eq_iff_iff,beq_iff_eq,decide_eq_true_iff];exact Iff.rfl
def WG (a b:List UInt8) (w:U) (e:Ending) (c:U):Prop:=e = R (.bool (decide (a=b)))/\w=c
def EX (w:U) (v u:Q) (a b:List UInt8) (hv:Rd w v a) (g:Rd w u b):Calls X 307 #[v,u] w (WG a b w):=by
 have d:∀ c,c=w->(convert 23 9 v).run X c = .ok (.string (str a)) c:=fun c e=>by subst e;exact pj _ v a hv
 have f:∀ c,c=w->(convert 23 9 u).run X c = .ok (.string (str b)) c:=fun c e=>by subst e;exact pj _ u b g
 have h:=d w rfl;have i:=f w rfl;clear d f hv g
 go_in
 go_wp2_with fail
 go_ret
 refine ⟨?_,rfl⟩;show Ending.returned (.bool ((str a).toList == (str b).toList))=_
 rw [Bk]
def uK (r g b:Nat) (c:Array Q) (L:List UInt8) (o n:Nat) (w:U) (F:ai) (e:Ending) (a:U):Prop:=
 ∃ v,e = R v/\ah a (bs 5 v ((L.drop o).take n)*(bD r g b c L (o+n)*F))/\ak w a
def BS (w:U) (r g a:Nat) (b:Array Q) (L:List UInt8) (o n:Nat) (F:ai) (h:ah w (bD r g a b L o*F)) (v:o<L.length) (u:o+n<=L.length) (t:L.length<=1000000) :
  Calls X 278 #[ax r,Z Y (n:Int)] w (uK r g a b L o n w F):=by
 have l:=rX w r g a b L o n F h v u t;have z:(n:Int)<=1000000:=Om0
 clear h
 go_in
 go_wp2_with fail
 (with_reducible apply l.mono)
 rintro e x ⟨c,rfl,d,q⟩;have k:((L.drop o).take n).length=n:=by rw [List.length_take,List.length_drop];omega
 have m:=ph d o n c Om0;have j:ah x (bs 5 (.slice W 0 0) []*(bD r g a b L (o+n)*F)):=d.dR _ _;obtain ⟨A,B,i,f,s,a3,y,rfl⟩:=gx j m Si0 Om0;simp only [B3,Nat.zero_add,k] at i f;have p:=ae i;rw [D7] at f;clear l i d m k j
 go_wp2_with (at_builtin;refine wpList_append_run p.o _ _ rfl rfl rfl rfl rfl ?_)
 go_ret
 exact ⟨_,rfl,f,q.trans s⟩
def PJ (l:List UInt8) (w:U) (e:Ending) (a:U):Prop:=(∀ n P,dI l=V (n,P)->e = R (zM n P))/\(dI l=W->e = .panicked (P1 4))/\ah a (whole w)/\ak w a
def ou (h:dI l=W) (a:ah w' (whole w)) (b:ak w w'):PJ l w (.panicked (P1 4)) w':=
 ⟨fun n P e=>(by rw [h] at e;cases e),fun _=>rfl,a,b⟩
def Dl (h:dI l=V (n,P)) (c:ah w' (whole w)) (d:ak w w'):PJ l w (R (zM n P)) w':=
 ⟨fun m f e=>(by rw [h] at e;injection e with e;injection e with a b;rw [a,b]),fun e=>(by rw [h] at e;cases e),c,d⟩
def vp (l:List UInt8):0<=gE l 4/\gE l 4<4294967296:=gw l 4
def sK (n P:Nat):∃ b,bh n P=fz++(cO n 4++(cO P 4++b)):=by
 refine ⟨(zs 508).take 492++cO (Ek (lI n P)) 4,?_⟩
 have e:lI n P=fz++(cO n 4++(cO P 4++(zs 508).take 492)):=by
  unfold lI bB;have a:(fz++cO (n:Int) 4++cO (P:Int) 4).length=16:=by rw [D5,D5,aT,aT];rfl
  rw [List.take_append,a,List.take_of_length_le (by rw [a];decide)];simp only [D4]
 show lI n P++_=_
 rw [e];simp only [D4]
def zN (n P:Nat):(bh n P).take 8=fz:=by
 obtain ⟨a,h⟩:=sK n P;rw [h];exact (List.take_left (l₁:=fz):List.take fz.length _=_)
def OG {n:Nat} (P:Nat) (b:n<=3840):gE ((bh n P).drop 8) 4=(n:Int):=by
 obtain ⟨a,h⟩:=sK n P;have e:(bh n P).drop 8=cO n 4++(cO P 4++a):=by rw [h];exact (List.drop_left (l₁:=fz):List.drop fz.length _=_)
 rw [e,jR _ _ _ _ (Nat.le_refl _)];omega
def PC (n:Nat) (c:ab<=19999):gE ((bh n ab).drop 12) 4=(ab:Int):=by
 obtain ⟨a,h⟩:=sK n ab
 have e:(bh n ab).drop 12=cO ab 4++a:=by
  have b:(fz++cO (n:Int) 4).length=12:=by rw [D5,aT];rfl
  rw [h,<- D4,<- b];exact List.drop_left
 rw [e,jR _ _ _ _ (Nat.le_refl _)];omega
def OF {n P:Nat} (h:gG n P=true):dI (bh n P)=V ((n:Int),(P:Int)):=by
 have a:=dN.1 h;unfold dI;rw [OG P Om0,PC n Om0,A1,A1,if_pos ⟨h,rfl⟩]
def El (h:dI l=V (n,P)):gG n P=true/\l=bh n.toNat P.toNat:=by
 unfold dI at h
 split at h
 .rename_i c
  simp only [Option.some.injEq,Prod.mk.injEq] at h;obtain ⟨rfl,rfl⟩:=h;exact ⟨c.1,c.2.symm⟩
 .cases h
def rI (w:U) (v:Q) (l:List UInt8) (J:Rd w v l) (H:l.length=512) (hh:iZ w):Calls X 263 #[v] w (PJ l w):=by
 obtain ⟨va,vc,rfl⟩:=J.shape;rw [H];rw [H] at J;have z:=(ah.whole w).alloc (T #[Z Y 0,Z Y 0] 132 (0,0));have d1:=(ak.refl w).alloc (T #[Z Y 0,Z Y 0] 132 (0,0));have a:=ae H;have Hr:=ae J;have Hh:=ae hh;clear H J hh
 go_in
 go_wp2_with fail
 generalize w.alloc (T #[Z Y 0,Z Y 0] 132 (0,0))=w1 at z d1 ⊢;generalize w.heap.size=d at z ⊢;have G0:Rd w1 (.slice va 512 vc) l:=Hr.o.aH z;have K0:=jx w1 _ l G0 (by rw [a.o];decide) (by rw [a.o];decide)
 (with_reducible apply K0.mono)
 rintro e w2 ⟨r,g,i,j,rfl,h2,d2⟩;have H2:=h2.under z;have t:=d1.trans d2;clear K0 G0 z d1 h2 d2;have hy:=oY w2
 go_wp2_with fail
 (with_reducible apply hy.mono)
 rintro e w3 ⟨rfl,rfl⟩;have hb:Calls X 278 #[ax r,Z Y 8] w2 (uK r g i j l 0 8 w2 (pt d (T #[Z Y 0,Z Y 0] 132 (0,0))*whole w)):=BS w2 r g i j l 0 8 _ H2 (by rw [a.o];decide) (by rw [a.o];decide) (by rw [a.o];decide);clear hy H2
 go_wp2_with fail
 (with_reducible apply hb.mono)
 rintro e o ⟨v8,rfl,h4,d4⟩;have r0:=pj o v8 _ h4.mI;obtain ⟨O,h0⟩:=Mn0 ((l.drop 0).take 8)
 rw [<- h0] at r0
 have i0:((str O).toList == [72,65,82,82,79,87,32,49])=decide (O=fz):=by
  have e1:(str fz).toList=[72,65,82,82,79,87,32,49]:=by rw [Lib.toList_data];rfl
  rw [<- e1];exact Bk O fz
 have C:=t.trans d4;have S0:=ae h0;clear hb h0 t d4
 by_cases q:O=fz
 .rw [decide_eq_true q] at i0
  have L:=oY o;have H4:=h4.right;have HM:=ae q;clear q h4
  go_wp2_with fail
  (with_reducible apply L.mono)
  rintro e w5 ⟨rfl,rfl⟩;have x0:Calls X 276 #[ax r,Z Y 4] o (vD r g i j l 8 4 o (pt d (T #[Z Y 0,Z Y 0] 132 (0,0))*whole w)):=fX o r g i j l 8 4 _ H4 (by rw [a.o];decide) (by rw [a.o];decide) De0 (by rw [a.o];decide);clear L r0 i0 H4
  go_wp2_with fail
  (with_reducible apply x0.mono)
  rintro e w6 ⟨rfl,h6,d6⟩;obtain ⟨n,I⟩:=Mn0 (gE (l.drop 8) 4)
  have V0:0<=n/\n<4294967296:=by rw [I];exact vp _
  rw [<- I];have W0:IntKind.i64.wrap n=n:=by rw [IntKind.wrap_i64];omega
  have F0:Calls X 276 #[ax r,Z Y 4] w6 (vD r g i j l 12 4 w6 (pt d (T #[Z Y 0,Z Y 0] 132 (0,0))*whole w)):=fX w6 r g i j l 12 4 _ h6 (by rw [a.o];decide) (by rw [a.o];decide) De0 (by rw [a.o];decide);have D6:=C.trans d6;have Hn:=ae I;clear x0 h6 d6 C I
  go_wp2_with fail
  (with_reducible apply F0.mono)
  rintro e w7 ⟨rfl,h7,d7⟩;obtain ⟨P,F⟩:=Mn0 (gE (l.drop 12) 4)
  have T0:0<=P/\P<4294967296:=by rw [F];exact vp _
  rw [<- F];have Y0:IntKind.i64.wrap P=P:=by rw [IntKind.wrap_i64];omega
  have u:=h7.alloc (T #[Z Y n,Z Y P] 132 (0,0));have D8:=(D6.trans d7).alloc (T #[Z Y n,Z Y P] 132 (0,0));have HP:=ae F;clear F0 h7 d7 D6 F
  go_wp2_with fail
  generalize w7.alloc (T #[Z Y n,Z Y P] 132 (0,0))=w8 at u D8 ⊢;generalize w7.heap.size=s at u ⊢;have hf:=Mx w8 r g i j l 16 _ u.aj
  (with_reducible apply hf.mono)
  rintro e w9 ⟨rfl,h9,d9⟩;have x:=h9.cU u;have D9:=D8.trans d9;have E:=pY w9 n P;unfold zM at E;have q0:w9.cell? ⟨s,0,W⟩=V (Z Y n):=x.cell 0;have q1:w9.cell? ⟨s,1,W⟩=V (Z Y P):=x.cell 1;clear hf h9 d9 u D8 W0 Y0
  go_wp2_with fail
  (with_reducible apply E.mono)
  rintro e m ⟨rfl,c0,b0⟩;have p:=c0.cU x;have B:=D9.trans b0;have A:ah m (whole w):=p.right.right.right
  by_cases k:gG n P=true
  .rw [if_pos k]
   have K:=oY m;obtain ⟨N,rfl⟩:=D3 V0.1;obtain ⟨M,rfl⟩:=D3 T0.1;have u0:iZ m:=Hh.o.Xq A;have he:=tV m N M k u0;unfold zM at he;have a1:m.cell? ⟨s,0,W⟩=V (Z Y (N:Int)):=p.cell 0;have b1:m.cell? ⟨s,1,W⟩=V (Z Y (M:Int)):=p.cell 1;have Hg:=ae k;have i1:=ae A;clear E c0 b0 q0 q1 x D9 k A u0
   go_wp2_with fail
   (with_reducible apply K.mono)
   rintro e c1 ⟨rfl,rfl⟩;clear K
   go_wp2_with fail
   (with_reducible apply he.mono)
   rintro e b ⟨ev,rfl,o0,n0⟩;have D:=o0.under p;have l0:=B.trans n0;have d0:ah b (whole w):=D.right.right.right.right;have H0:Rd b (.slice va 512 vc) l:=Hr.o.aH (P:=emp) (d0.to (cy _).symm);have G:=EX b ev (.slice va 512 vc) (bh N M) l D.mI H0;obtain ⟨eb,e0⟩:=Mn0 (decide (bh N M=l))
   unfold WG at G;rw [<- e0] at G;have HE:=ae e0;have h:=ae D;have N0:=ae d0;have m0:=ae l0;have k0:=oY b;have D0:=vU b;clear he o0 n0 D H0 a1 b1 p B d0 l0 e0
   go_wp2_with fail
   (with_reducible apply G.mono)
   rintro e j1 ⟨rfl,rfl⟩;clear G
   cases eb with
   | true=>
    have L0:dI l=V ((N:Int),(M:Int)):=by
     unfold dI;rw [<- Hn.o,<- HP.o,A1,A1,if_pos ⟨Hg.o,of_decide_eq_true HE.o.symm⟩]
    have p0:b.cell? ⟨s,0,W⟩=V (Z Y (N:Int)):=h.o.aj.cell 0;have p1:b.cell? ⟨s,1,W⟩=V (Z Y (M:Int)):=h.o.aj.cell 1;have g0:b.cell? ⟨d,0,W⟩=V (Z Y 0):=h.o.aC.cell 0;have g1:b.cell? ⟨d,1,W⟩=V (Z Y 0):=h.o.aC.cell 1;have f0:b.frozen? ⟨d,0,W⟩=false:=h.o.aC.frozen 0;have f1:b.frozen? ⟨d,1,W⟩=false:=h.o.aC.frozen 1;have K1:=h.o.aC.setCell 0 (Z Y (N:Int));have K2:=K1.setCell 1 (Z Y (M:Int));have t:=(m0.o.setCell ⟨d,0,W⟩ (Z Y (N:Int))).setCell ⟨d,1,W⟩ (Z Y (M:Int));have HT:=ae (Dl L0 (K2.right.right.right.right) t);have R0:=ae K2;clear D0 L0 K1 K2 t
    go_wp2_with fail
    (with_reducible apply k0.mono)
    rintro e h1 ⟨rfl,rfl⟩;clear k0
    go_wp2_with fail
    have K3:=R0.o;exact bodyPost_ret (results_cell_row rfl _ _ d 132 _ (0,0) _ rfl K3.heap underlying132 rfl (rL _ rfl)) rfl HT.o
   | false=>
    have f:dI l=W:=by
     unfold dI;rw [<- Hn.o,<- HP.o,A1,A1,if_neg (fun c=>of_decide_eq_false HE.o.symm c.2)]
    have y:=ae (ou f N0.o m0.o);clear k0 f
    go_wp2_with fail
    (with_reducible apply D0.mono)
    rintro e h1 ⟨rfl,rfl⟩;exact ⟨rfl,y.o⟩
  .rw [if_neg k]
   have f:dI l=W:=by
    unfold dI;rw [<- Hn.o,<- HP.o,if_neg (fun c=>k c.1)]
   have K:=vU m;have y:=ae (ou f A B);clear E c0 b0 q0 q1 x D9 k A f p B
   go_wp2_with fail
   (with_reducible apply K.mono)
   rintro e c1 ⟨rfl,rfl⟩;exact ⟨rfl,y.o⟩
 .rw [decide_eq_false q] at i0
  have f:dI l=W:=by
   cases hd:dI l with
   | none=>rfl
   | some Z0=>
    obtain ⟨n,P⟩:=Z0;have:=(El hd).2;refine absurd ?_ q;rw [S0.o,List.drop_zero,this];exact zN _ _
  have L:=vU o;have s0:ah o (whole w):=h4.right.right.right;have y:=ae (ou f s0 C);clear q h4 f s0 C
  go_wp2_with fail
  (with_reducible apply L.mono)
  rintro e w5 ⟨rfl,rfl⟩;exact ⟨rfl,y.o⟩
def W7 (n P c:Int) (w:U) (e:Ending) (a:U):Prop:=e = R (Z' #[zM n P,Z Y c])/\ah a (whole w)/\ak w a
def PN (w:U) (c d:Addr) :
    CallsD X 262 #[S (V c),S (V d)] .returning w fun e u f=>e = R (Z' #[])/\u = .returning/\w=f:=by
  refine callsD_of_wpS func262 rfl fun a g b=>?_;apply wpS_seq;apply wpS_region
  simp only [ntmps262,List.size_toArray,List.length_cons,B3,Nat.reduceAdd,Nat.reduceSub,D2,
     D1,List.push_toArray,E5,D7,List.cons_append]
  simp [wpOpsS,go_sem,recoverD,b,Exit.thenS];refine wpS_of_wp ?_
  go_wp2
  cases a
  simp_all [bodyPostS,results,Tryz.results262]
def MU (w:U) (a b:Nat) (c h i y:Int) (d:List PanicEntry) (o:w.cell? ⟨a,0,W⟩=V (Z Y h)) (p:w.cell? ⟨a,1,W⟩=V (Z Y i)) (q:w.cell? ⟨b,0,W⟩=V (Z Y y))
    (l:w.frozen? ⟨a,0,W⟩=false) (m:w.frozen? ⟨a,1,W⟩=false) (n:w.frozen? ⟨b,0,W⟩=false) (r:a≠b) :
    CallsD X 262 #[S (V ⟨a,0,W⟩),S (V ⟨b,0,W⟩)] (.panicking ({ v:=.iface 31 (Z Y c),recovered:=false } :: d)) w fun e u g=>
      e = R (Z' #[])/\u = .panicking ({ v:=.iface 31 (Z Y c),recovered:=true } :: d)/\g=((w.setCell ⟨a,0,W⟩ (Z Y 0)).setCell ⟨a,1,W⟩ (Z Y 0)).setCell ⟨b,0,W⟩ (Z Y 4):=by
  refine callsD_of_wpS func262 rfl fun k j f=>?_;apply wpS_seq;apply wpS_region
  simp only [ntmps262,List.size_toArray,List.length_cons,B3,Nat.reduceAdd,Nat.reduceSub,D2,
     D1,List.push_toArray,E5,D7,List.cons_append]
  simp [wpOpsS,go_sem,recoverD,f,Exit.thenS];refine wpS_of_wp ?_
  go_wp2
  exact ⟨rfl,_,rfl,_,results_none rfl _ _ _,rfl,rfl,rfl⟩
def rE {a:Array Q} (b:tmps[2]?=V (ax ab)) (c:tmps[3]?=V (ax eb)) (f:ah w (pt ab (T a 132 (0,0))*F)) (d:a.size=2) (g:w.cell? ⟨eb,0,W⟩=V e) :
  (results Tryz.f192 tmps).run X w = .ok (Z' #[.agg a,e]) w:=by
 have h:=run_loadVar_row (P:=X) w ab 132 132 a (0,0) _ f.heap underlying132 rfl (rL a d);have j:tmps.getD 2 undef = S (V ⟨ab,0,W⟩):=by simp [b]
 have k:tmps.getD 3 undef = S (V ⟨eb,0,W⟩):=by simp [c]
 have i:(loadVar 31 ⟨eb,0,W⟩).run X w = .ok e w:=by simp [go_sem,g]
 simp [results,Tryz.results192,b,c,asAddr,h,i]
def Ll {f g z c:Int} {d:Ending->U->Prop} (i:tmps[2]?=V (ax ab)) (j:tmps[3]?=V (ax eb))
  (h:ah w (pt ab (T #[Z Y f,Z Y g] 132 (0,0))*(pt eb (T #[Z Y z] 31 (0,0))*F))) (k:∀ b,ah b F->ak w b->d (R (Z' #[.agg #[Z Y 0,Z Y 0],Z Y 4])) b) :
  bodyPostD X Tryz.f192 d (Exit.panic (P1 c)) { tmps:=tmps,defers:=[{ target:=.fn (.func 262) #[S (V ⟨ab,0,W⟩),S (V ⟨eb,0,W⟩)],args:=#[] }] } w:=by
 have l:ab≠eb:=ah.ne h;refine leaves_cons (f:=262) (args:=#[S (V ⟨ab,0,W⟩),S (V ⟨eb,0,W⟩)]) Si0 (by simp [go_sem]) ?_;apply (MU w ab eb c f g z [] (h.cell 0) (h.cell 1) (h.aj.cell 0) (h.frozen 0) (h.frozen 1) (h.aj.frozen 0) l).mono;rintro e u m ⟨rfl,rfl,rfl⟩;have a:=(((h.setCell 0 (Z Y 0)).setCell 1 (Z Y 0)).aj.setCell 0 (Z Y 4))
 exact ⟨_,rE i j a.aj rfl (a.cell 0),k _ a.right.right ((((ak.refl w).setCell _ _).setCell _ _).setCell _ _)⟩
def LQ {a:Array Q} {b:Ending->U->Prop} (c:tmps[2]?=V (ax ab)) (d:tmps[3]?=V (ax eb))
  (h:ah w (pt ab (T a 132 (0,0))*F)) (g:a.size=2) (i:w.cell? ⟨eb,0,W⟩=V e) (f:b (R (Z' #[.agg a,e])) w) :
  bodyPostD X Tryz.f192 b Exit.ret { tmps:=tmps,defers:=[{ target:=.fn (.func 262) #[S (V ⟨ab,0,W⟩),S (V ⟨eb,0,W⟩)],args:=#[] }] } w:=by
 refine leaves_cons (f:=262) (args:=#[S (V ⟨ab,0,W⟩),S (V ⟨eb,0,W⟩)]) Si0 (by simp [go_sem]) ?_;apply (PN w ⟨ab,0,W⟩ ⟨eb,0,W⟩).mono;rintro j u k ⟨rfl,rfl,rfl⟩;exact ⟨_,rE c d h g i,f⟩
def Cw (w:U) (v:Q) (l:List UInt8) (o:Rd w v l) (y:l.length=512) (E:iZ w) (h g r:Int) (u:dI l=W->h=0/\g=0/\r=4) (x:∀ n P,dI l=V (n,P)->h=n/\g=P/\r=0):Calls X 192 #[v] w (W7 h g r w):=by
 have b0:=oq X;obtain ⟨J,L,rfl⟩:=o.shape;rw [y];rw [y] at o;have b:=((ah.whole w).alloc (T #[Z Y 0,Z Y 0] 132 (0,0))).alloc (T #[Z Y 0] 31 (0,0));have j:=((ak.refl w).alloc (T #[Z Y 0,Z Y 0] 132 (0,0))).alloc (T #[Z Y 0] 31 (0,0));rw [World.size_alloc] at b
 go_enter_defers func192,ntmps192
 go_wp2_with fail
 generalize (w.alloc (T #[Z Y 0,Z Y 0] 132 (0,0))).alloc (T #[Z Y 0] 31 (0,0))=F at b j ⊢;generalize w.heap.size+1=f at b ⊢;generalize w.heap.size=c at b ⊢;have s:ah F ((pt f (T #[Z Y 0] 31 (0,0))*pt c (T #[Z Y 0,Z Y 0] 132 (0,0)))*whole w):=b.to Ac0;have z:=rI F (.slice J 512 L) l (o.aH s) y (E.nu s);clear o E s
 cases d:dI l with
 | none=>
  obtain ⟨rfl,rfl,rfl⟩:=u d;clear u x
  (with_reducible refine z.mono ?_)
  rintro e i ⟨_,t,m,k⟩;obtain rfl:=t d;have a:=m.cU b;exact Ll rfl rfl (a.to Ac0) fun w' I H=>⟨rfl,I,(j.trans k).trans H⟩
 | some p=>
  obtain ⟨n,P⟩:=p;obtain ⟨C,D,rfl⟩:=x n P d;rw [<- C,<- D] at d;clear C D;clear u x
  (with_reducible refine z.mono ?_)
  rintro e i ⟨t,_,m,k⟩;obtain rfl:=t _ _ d;have a:ah i (pt c (T #[Z Y 0,Z Y 0] 132 (0,0))*(pt f (T #[Z Y 0] 31 (0,0))*whole w)):=(m.cU b).to Ac0;have A:=j.trans k;have g0:i.cell? ⟨c,0,W⟩=V (Z Y 0):=a.cell 0;have g1:i.cell? ⟨c,1,W⟩=V (Z Y 0):=a.cell 1;have M:i.cell? ⟨f,0,W⟩=V (Z Y 0):=a.aj.cell 0;have N:=a.frozen 0;have O:=a.frozen 1;have fe:=a.aj.frozen 0;have c0:c≠f:=ah.ne a;have K:=(((a.setCell 0 (Z Y h)).setCell 1 (Z Y g)).aj.setCell 0 (Z Y 0))
  have B:=((A.setCell ⟨c,0,W⟩ (Z Y h)).setCell ⟨c,1,W⟩ (Z Y g)).setCell ⟨f,0,W⟩ (Z Y 0);have q:=ae K;have G:=ae B;unfold zM;clear z b m j k d K B a A
  go_wp2_with fail
  exact LQ rfl rfl q.o.aj rfl (q.o.cell 0) ⟨rfl,q.o.right.right,G.o⟩
def rq (w:U):Calls X 120 #[Z Y 0] w fun e a=>e = R (Z' #[])/\w=a:=by
 go_in
 go_wp2
 go_end0
 exact ⟨rfl,rfl⟩
def Uh (f:FuncId) (first d:Array Q) (A B C:U->Prop):Prop:=
 (∀ (b:Array Q) (w:U),(callFunc f b).run X w = .ok (.enter f b) w) /\
 ∀ w,A w->Calls X f (first++d) w fun e c=>∃ a:Int,e = R (Z Y a)/\((a=0/\B c)\/(a≠0/\C c))
def Ap (B C:U->Prop) (e:Ending) (a:U):Prop:=(e = R (Z' #[])/\B a)\/(e = .panicked (P1 2)/\C a)
def Va (m:Nat) (I:Nat->U->Prop) (u:Q) (wr:U):Prop:=∃ k:Nat,k<=m/\u = Z Y (k:Int)/\I k wr
def GW (m:Nat) (a:Nat->FuncId × Array Q × Array Q) (I:Nat->U->Prop) (C:U->Prop) (g:Nat) (N:m<=10)
  (t:∀ i k w,i<=m->I i w->k<m->w.cell? ⟨g,k,W⟩=V (.func (.func (a k).1) (a k).2.1 (a k).2.2)) (y:∀ k,k<m->Uh (a k).1 (a k).2.1 (a k).2.2 (I k) (I (k+1)) C)
  (w:U) (b:I 0 w):Calls X 116 #[.slice (V ⟨g,0,W⟩) m m] w (Ap (I m) C):=by
 have O:(m:Int)<=10:=Om0
 have G:=ae t;have H:=ae y;have n:=ae b;clear t y b
 go_in
 go_wp2_with fail
 go_loopw [6] (fun u wr=>Va m I u wr) (fun u _=>m-(intOf u).toNat)
 case atStart=>exact ⟨0,Nat.zero_le _,rfl,n.o⟩
 case round=>
  clear n;obtain ⟨k,J,rfl,c⟩:=hrel
  by_cases v:k<m
  .have M:(k:Int)<(m:Int):=Om0
   have j:=G.o k k wr J c v;obtain ⟨l,z⟩:=H.o k v;have d:=z wr c;generalize a k=q at j l d;obtain ⟨f,first,K⟩:=q;dsimp only at j l d;have p:=ae d;clear z d c
   go_wp2_with fail
   (with_reducible refine p.o.mono ?_)
   rintro e B ⟨A,rfl,x⟩;have o:=ae x;clear j l x p
   by_cases b:A=0
   .subst b
    have s:I (k+1) B:=by
     rcases o.o with ⟨_,h⟩|⟨h,_⟩
     .exact h
     .exact absurd rfl h
    have F:=ae s;clear s
    go_wp2_with fail
    go_roundw
    case rel=>exact ⟨k+1,Om0,by go_num,F.o⟩
    case measure=>simp [intOf];omega
   .have r:C B:=by
     rcases o.o with ⟨h,_⟩|⟨_,h⟩
     .exact absurd h b
     .exact h
    have D:=ae r;have L:(A != 0)=true:=by simpa using b
    clear r
    go_wp2_with fail
    exact ⟨rfl,.inr ⟨rfl,D.o⟩⟩
  .obtain rfl:k=m:=Om0
   have E:=ae c;clear c
   go_wp2_with fail
   go_end0
   exact .inl ⟨rfl,E.o⟩
def VM (d:Nat) (a:Int) (v:Q) (w:U) (e:Ending) (b:U):Prop:=
 e = R (.func (.func 227) #[] #[S (V ⟨w.heap.size,0,W⟩),S (V ⟨w.heap.size+1,0,W⟩),S (V ⟨w.heap.size+1+1,0,W⟩)]) /\
 b=((w.alloc (T #[ax d] 27 (0,0))).alloc (T #[Z Y a] 3 (0,0))).alloc (T #[v] 23 (0,0))
def uZ (w:U) (d:Nat) (a:Int) (b:Option Addr) (n c:Nat):Calls X 157 #[ax d,Z Y a,.slice b n c] w (VM d a (.slice b n c) w):=by
 have e:=oq X
 go_in
 go_wp2
 go_ret
 exact ⟨rfl,rfl⟩
end Go.Proofs.Su
