/- Steps. -/
import Derived.Test.YtiomanbgcfjblaaGreatDoorLP10
import Derived.BigQuiet
import Derived.IntWalk
set_option linter.all false
set_option maxRecDepth 99999
set_option maxHeartbeats 0
open Go.SL
open Go.Value renaming int->Z,slice->R
open Go.IntKind renaming i64->Y,u64->X
open Go.Obj renaming cells->W
open Go renaming World->T,Value->O
open Go.Proofs.Tryz renaming prog->S
open Option renaming some->U,none->V
open Bool renaming false->Z'
open Go.SL renaming Om0->Q
open Go.Proofs.Tryz
open List renaming replicate->A1,take_length->D9,getElem_mem->D8,getElem?_toArray->D3,getElem?_cons_zero->D2,getElem?_cons_succ->D1,length_replicate->E5,getElem?_eq_getElem->E3
open Nat renaming zero_le->B3
open Int renaming toNat_natCast->D7,emod_nonneg->D5,emod_lt_of_pos->D4,eq_ofNat_of_zero_le->E4
namespace Go.SL
open RowKit
variable {w:T} {v:O} {t:Tg}
abbrev dS:=Tg × Nat
def Km (x:dS):Array O:=#[Z .u32 x.1.ep,Z X x.1.st,Z X x.1.sq,Z X x.1.fl,Z Y x.1.ix,Z Y x.1.ct,Z Y x.1.id,Z Y (x.2:Int)]
def gS (L:List dS):List O:=L.flatMap fun x=>(Km x).toList
def FR (L:List dS) (x:dS):gS (L++[x])=gS L++(Km x).toList:=by simp [gS]
def zp:∀ (L:List dS) (i j:Nat) (h:i<L.length),j<8->(gS L)[i*8+j]?=(Km L[i])[j]?:=by
 intro L
 induction L with
 | nil=>intro i j h;simp at h
 | cons x L b=>
  intro i j h a;rw [gS,List.flatMap_cons]
  cases i with
  | zero=>
   rw [List.getElem?_append_left (by show _<8;omega)];simp
  | succ i=>
   rw [List.getElem?_append_right (by show 8<=_;omega)];show (gS L)[(i+1)*8+j-8]?=_
   rw [show (i+1)*8+j-8=i*8+j by omega,b i j (by simpa using h) a];simp
def yo (w:T) (v:O) (L:List dS):Prop:=nt w 8 v L.length (gS L)
def yo.cells {L:List dS} (h:yo w v L) {i:Nat} (f:i<L.length) :
  ∃ g off c,v = R (U ⟨g,off,V⟩) L.length c/\∀ j,j<8->w.cell? ⟨g,off+i*8+j,V⟩=(Km L[i])[j]?:=by
 rcases h.2 with ⟨_,m⟩|⟨a,c,rfl,d⟩
 .omega
 .obtain ⟨x,l⟩:∃ x,(gS L)[0*8+0]?=U x:=⟨_,by rw [zp L 0 0 Q Q];rfl⟩
  obtain ⟨g,off,p⟩:=a
  have k:p=V:=by
   have:=d _ _ l
   cases p with
   | none=>rfl
   | some q=>
    simp only [World.cell?,Addr.add] at this
    split at this
    .simp at this
    .cases this
  subst k;refine ⟨g,off,c,rfl,fun j b=>?_⟩;have e:=zp L i j f b;obtain ⟨y,hy⟩:∃ y,(Km L[i])[j]?=U y:=⟨(Km L[i])[j]'(by show j<8;exact b),Array.getElem?_eq_getElem (by show j<8;exact b)⟩
  rw [hy] at e ⊢;have:=d _ _ e;rw [Addr.add_lit] at this;rw [Nat.add_assoc];exact this
def yo.aH {w b:T} {L:List dS} {P:ai} (h:yo w v L) (s:ah b (P*whole w)):yo b v L:=nt.carry h fun a u c=>s.bX c
def yo.shape {L:List dS} (h:yo w v L):∃ a c,v = R a L.length c:=by
 rcases h.2 with ⟨rfl,b⟩|⟨a,c,rfl,_⟩
 .exact ⟨V,0,by rw [b]⟩
 .exact ⟨_,_,rfl⟩
def nI (B:Int) (k:Nat) (L:List dS) (o:Option (Tg × List UInt8)):List dS:=
 match o with
 | some p=>if p.1.id<B then L++[(p.1,k)] else L
 | none=>L
def tE (B:Int) (k:Nat) (L:List dS):nI B k L V=L:=rfl
def wm {B:Int} (h:t.id<B) (k:Nat) (L:List dS) (r:List UInt8):nI B k L (U (t,r))=L++[(t,k)]:=if_pos h
def J1 {B:Int} (h:¬ t.id<B) (k:Nat) (L:List dS) (r:List UInt8):nI B k L (U (t,r))=L:=if_neg h
def wC (B:Int) (k:Nat) (a:Int × List dS × aw):Int × List dS × aw:=
 if a.1=0 then
  (if (a.2.2.read ((k:Int)+1)).1.1=3 then ((0:Int),a.2.1,(a.2.2.read ((k:Int)+1)).2)
  else if (a.2.2.read ((k:Int)+1)).1.1=0 then ((0:Int),nI B k a.2.1 (bH (a.2.2.read ((k:Int)+1)).1.2),(a.2.2.read ((k:Int)+1)).2)
  else ((2:Int),[],(a.2.2.read ((k:Int)+1)).2))
 else a
def dm (B:Int) (D:aw):Nat->Int × List dS × aw
 | 0=>((0:Int),[],D)
 | k+1=>wC B k (dm B D k)
def wu (B:Int) (D:aw):dm B D 0=((0:Int),[],D):=rfl
def km (B:Int) (D:aw) (k:Nat):dm B D (k+1)=wC B k (dm B D k):=rfl
def yZ {l:List UInt8} {b:List UInt8} (h:bH l=U (t,b)):t.ok=true/\t.Fit:=by
 have c:=BC l 9;unfold bH at h;generalize iX l 9=u at *
 split at h
 .rename_i a
  cases h
  exact ⟨a.1,c⟩
 .cases h
structure Tm (B:Int) (P:Nat) (x:dS):Prop where
 ok:x.1.ok=true
 fit:x.1.Fit
 id:x.1.id<B
 place:x.2<P
def od (B:Int) (D:aw) (k:Nat):(∀ x ∈ (dm B D k).2.1,Tm B k x)/\(dm B D k).2.1.length<=k/\((dm B D k).2.1.map Prod.snd).Pairwise (·<·):=by
 induction k with
 | zero=>exact ⟨fun x c=>by simp [dm] at c,by simp [dm],by simp [dm]⟩
 | succ k m=>
  obtain ⟨d,r,e⟩:=m;have f:∀ x ∈ (dm B D k).2.1,Tm B (k+1) x:=fun x c=>⟨(d x c).ok,(d x c).fit,(d x c).id,Nat.lt_succ_of_lt (d x c).place⟩
  rw [km];unfold wC
  split
  .split
   .exact ⟨f,by dsimp only;omega,e⟩
   .split
    .generalize j:bH ((dm B D k).2.2.read ((k:Int)+1)).1.2=o
     match o,j with
     | some p,g=>
      dsimp only [nI]
      split
      .rename_i l
       obtain ⟨n,q⟩:=yZ (t:=p.1) (b:=p.2) g;refine ⟨fun x c=>?_,by simp;omega,?_⟩
       .rcases List.mem_append.1 c with c|c
        .exact f x c
        .obtain rfl:x=(p.1,k):=by simpa using c
         exact ⟨n,q,l,Nat.lt_succ_self k⟩
       .rw [List.map_append,List.pairwise_append]
        refine ⟨e,Si0,fun a h b i=>?_⟩;obtain ⟨x,c,rfl⟩:=List.mem_map.1 h;obtain rfl:b=k:=by simpa using i
        exact (d x c).place
      .exact ⟨f,Q,e⟩
     | none,g=>exact ⟨f,by dsimp only [nI];omega,e⟩
    .exact ⟨Si0,Si0,Si0⟩
  .exact ⟨f,Q,e⟩
def FV {B:Int} {D:aw} {k n:Nat} (h:(dm B D k).1≠0) (c:k<=n):dm B D n=dm B D k:=by
  induction n with
  | zero => obtain rfl : k = 0 := Q
            rfl
  | succ n b=>
    by_cases a:k=n+1
    · rw [a]
    · have:=b Q
      rw [km];unfold wC;rw [this,if_neg h]
end Go.SL
namespace Go.Proofs.Nn
open RowKit SL
variable {D:aw}
def J9 (h:D.Ok):D.cY.Ok:=by
 unfold aw.cY
 split
 .refine ⟨?_,by simp [aw.fY],by simp [aw.fY],by simp [aw.fY]⟩
  show (D.dF D.aH D.wait.length).sec.length<=20000
  rw [(iw D D.aH D.wait.length).2.2];exact h.n
 .exact h
def BJ (h:D.Ok):D.begun.Ok:=by
 have:=J9 h;unfold aw.begun
 split
 .exact this
 .split
  .exact ⟨this.n,this.wait,this.many,this.aH⟩
  .exact this
def Fc (D:aw):D.cY.sec.length=D.sec.length:=by
 unfold aw.cY
 split
 .exact (iw D D.aH D.wait.length).2.2
 .rfl
def y0 (D:aw):D.begun.sec.length=D.sec.length:=by
 have:=Fc D;unfold aw.begun
 split
 .exact this
 .split
  .exact this
  .exact this
def AZ (h:D.Ok) (a:Int):(D.read a).2.Ok:=by
 unfold aw.read
 split
 .split
  .have:=BJ h
   exact ⟨this.n,this.wait,this.many,this.aH⟩
  .exact BJ h
 .exact h
def I6 (D:aw) (a:Int):(D.read a).2.sec.length=D.sec.length:=by
 unfold aw.read
 split
 .split
  .exact y0 D
  .exact y0 D
 .rfl
def JI {B:Int} (h:D.Ok) (k:Nat):(dm B D k).2.2.Ok/\(dm B D k).2.2.sec.length=D.sec.length:=by
 induction k with
 | zero=>exact ⟨h,rfl⟩
 | succ k c=>
  have a:=AZ c.1 ((k:Int)+1);have b:=(I6 (dm B D k).2.2 ((k:Int)+1)).trans c.2;rw [km];unfold wC
  split
  .split
   .exact ⟨a,b⟩
   .split
    .exact ⟨a,b⟩
    .exact ⟨a,b⟩
  .exact c
def Ex {a:Int} (h:D.has a):(D.read a).1.1=0\/(D.read a).1.1=2\/(D.read a).1.1=3:=by
 unfold aw.read;rw [if_pos h]
 split
 .unfold aw.aG
  split
  .exact .inl rfl
  .split
   .exact .inr (.inr rfl)
   .exact .inl rfl
 .exact .inr (.inl rfl)
def Fl:(prog.info? 252).map (fun i=>(i.zero,i.size,i.bytes))=U (U (.agg #[Z .u32 0,Z X 0,Z X 0,Z X 0,Z Y 0,Z Y 0,Z Y 0,Z Y 0]),8,64):=Kr0
def qV {w:T} {v:O} {L:List dS} {F:ai} (h:ah w (sl 252 8 v L.length (gS L)*F)) (x:dS) (p:L.length<=1000000) :
  ∃ a c b,(Builtin.append_ #[246,246] 246 #[v,R (U ⟨w.heap.size,0,V⟩) 1 1]).run S (w.alloc (W (Km x) 252 (0,0))) = .ok (R a (L.length+1) c) b /\
   ah b (sl 252 8 (R a (L.length+1) c) (L++[x]).length (gS (L++[x]))*F)/\ak w b:=by
 obtain ⟨q,i,o,l,g⟩:=info_parts Fl;have d:=h.alloc (W (Km x) 252 (0,0))
 have f:nt (w.alloc (W (Km x) 252 (0,0))) 8 (R (U ⟨w.heap.size,0,V⟩) 1 1) 1 (Km x).toList:=
  ⟨rfl,.inr ⟨_,_,rfl,fun j u n=>by
   rw [Addr.add_lit,Nat.zero_add];exact (d.cell j).trans (by simpa using n)⟩⟩
 obtain ⟨r,b,k,e,m⟩:=ah.append (P:=S) (ty:=246) underlying246 i o l g rfl d.right f (by simp [Km,Value.oneCell']) (by unfold maxLen;omega) Q;obtain ⟨a,c,rfl⟩:=az e;exact ⟨a,c,b,k,by rw [FR,List.length_append,List.length_singleton];exact e,((ak.refl w).alloc _).trans m⟩
def TJ (b:Hp) (d:Nat) (a:Int × List dS × aw) (F:ai) (w:T) (e:Ending) (c:T):Prop:=
 ∃ v,e = .returned (.tuple #[v,Z Y a.1])/\ah c (sl 252 8 v a.2.1.length (gS a.2.1)*(aD b d a.2.2*(al b*F)))/\ak w c
def RS (a:Hp) (d:Nat) (B:Int) (D:aw) (P:Nat) (F:ai) (w:T) (u8 u15:O) (wr:T):Prop:=
 ∃ k:Nat,k<=P/\u15 = Z Y (k:Int)/\(dm B D k).1=0/\ah wr (sl 252 8 u8 (dm B D k).2.1.length (gS (dm B D k).2.1)*(aD a d (dm B D k).2.2*(al a*F)))/\ak w wr
def Lv (w:T) (u:Hp) (d:Nat) (D:aw) (P:Nat) (B:Int) (F:ai) (d0:ah w (aD u d D*(al u*F))) (K:D.Ok) (hP:P+1<=D.sec.length) :
  Calls S 193 #[ax d,Z Y (P:Int),Z Y B] w (TJ u d (dm B D P) F w):=by
 have K0:(P:Int)<=20000:=by have:=K.n;omega
 have HD:=ae K;have HP:=ae hP;clear K hP
 go_in
 go_wp2_with fail
 go_loopw [8,15] (fun u8 u15 wr=>RS u d B D P F w u8 u15 wr) (fun _ u0 _=>P-(intOf u0).toNat)
 case atStart=>exact ⟨0,B3 _,rfl,by rw [wu],by rw [wu];exact d0.dR _ _,ak.refl w⟩
 case round=>
  clear d0;obtain ⟨k,hk,rfl,M,G,o⟩:=hrel
  by_cases L0:k<P
  .have N0:(k:Int)<(P:Int):=Q
   obtain ⟨i0,h0⟩:=JI (B:=B) HD.o k;have f0:=(od B D k).2.1;have y:=km B D k;unfold wC at y;have C:=Ex (D:=(dm B D k).2.2) (a:=(k:Int)+1) (by unfold aw.has;rw [h0];have:=HP.o;omega);have n:=jx wr u d _ ((k:Int)+1) (sl 252 8 u8 (dm B D k).2.1.length (gS (dm B D k).2.1)*F) (G.u00) i0;have v:=oh (dm B D k).2.2 ((k:Int)+1);have HC:=ae M;have b0:=ae f0;clear i0 h0 G M f0;generalize dm B D k=o0 at *;obtain ⟨c,L,D'⟩:=o0;dsimp only at n C v y HC b0;generalize D'.read ((k:Int)+1)=m0 at n C v y;obtain ⟨⟨code,l⟩,r⟩:=m0;dsimp only at n C v y;have r0:c=0:=HC.o;subst r0;rw [if_pos rfl] at y;have h:=ae y;clear y;rcases C with rfl|rfl|rfl
   .have hl:=v rfl
    have z:=ae hl;clear v hl
    go_wp2_with fail
    (with_reducible apply n.mono)
    rintro e w1 ⟨dv,rfl,q,i⟩;clear n;have f:=q.n9;obtain ⟨p0,cc,rfl,N,A⟩:=Tl f (by rw [z.o];omega) (by rw [z.o];omega)
    have e0:cc<=maxLen:=by
     rcases f.cH with ⟨J,_⟩|⟨g',G0,H0,J,_,h4,_⟩
     .cases J
     .cases J;exact h4
    rw [z.o] at N A f;have g:=mO l z.o p0 cc N e0 w1 A;rw [z.o];have x0:=ae A;clear N e0 A
    cases m:bH l with
    | none=>
     rw [m] at g;unfold A4 at g;dsimp only [Tg.cells,Tg.zero] at g;have b:Hid (dm B D (k+1)=((0:Int),L,r)):=ae (by rw [h.o,m,tE];simp);clear m h
     go_wp2_with fail
     (with_reducible apply g.mono)
     rintro e H ⟨rfl,j,p⟩;have h4:=j.cU f.right;have h5:=h4.alloc (W #[Z .u32 0,Z X 0,Z X 0,Z X 0,Z Y 0,Z Y 0,Z Y 0] 250 (0,0));have s:=((o.trans i).trans p).alloc (W #[Z .u32 0,Z X 0,Z X 0,Z X 0,Z Y 0,Z Y 0,Z Y 0] 250 (0,0));clear g q i f j p o
     go_wp2_with fail
     go_roundw
     case rel=>exact ⟨k+1,Q,by go_num,by rw [b.o],by rw [b.o];exact h5.right.u00,s⟩
     case measure=>simp [intOf];omega
    | some s0=>
     obtain ⟨t,rest⟩:=s0;obtain ⟨l0,k0⟩:=yZ m;rw [m] at g;unfold A4 at g;dsimp only [Tg.cells] at g;have D0:=ae k0;have F0:=ae l0;clear l0 k0
     by_cases g0:t.id<B
     .have b:Hid (dm B D (k+1)=((0:Int),L++[(t,k)],r)):=ae (by rw [h.o,m,wm g0];simp)
      clear m h
      go_wp2_with fail
      (with_reducible apply g.mono)
      rintro e H ⟨rv,rfl,j,p⟩;have h4:=j.under f.right;have h5:=h4.alloc (W #[Z .u32 t.ep,Z X t.st,Z X t.sq,Z X t.fl,Z Y t.ix,Z Y t.ct,Z Y t.id] 250 (0,0));have s:=((o.trans i).trans p).alloc (W #[Z .u32 t.ep,Z X t.st,Z X t.sq,Z X t.fl,Z Y t.ix,Z Y t.ct,Z Y t.id] 250 (0,0));obtain ⟨ra,rc,rfl⟩:∃ a c,rv = R a rest.length c:=az j;clear g q i f j p o h4;generalize R0:H.alloc (W #[Z .u32 t.ep,Z X t.st,Z X t.sq,Z X t.fl,Z Y t.ix,Z Y t.ct,Z Y t.id] 250 (0,0))=w3 at h5 s;generalize q0:H.heap.size=b3 at h5;obtain ⟨xa,xc,w4,E,h6,d6⟩:=qV (h5.t00 (sl 252 8 u8 L.length (gS L)*(pt b3 (W #[Z .u32 t.ep,Z X t.st,Z X t.sq,Z X t.fl,Z Y t.ix,Z Y t.ct,Z Y t.id] 250 (0,0))*(bs 5 (R ra rest.length rc) rest*(aD u d r*(al u*F)))))) (t,k) (by have:=b0.o;omega);have c0:=h5.cell 0;have c1:=h5.cell 1;have c2:=h5.cell 2;have c3:=h5.cell 3;have c4:=h5.cell 4;have c5:=h5.cell 5;have I:=h5.cell 6;simp only [D3,D2,D1] at c0 c1 c2 c3 c4 c5 I;unfold Km at E;dsimp only at E;have n0:=ae E;have H6:=ae h6;have D6:=ae (s.trans d6);clear E h6 d6 h5 s;subst q0
      go_wp2_with (at_builtin;refine wpList_append_run n0.o _ _ rfl rfl rfl rfl rfl ?_)
      go_roundw
      case rel=>exact ⟨k+1,Q,by go_num,by rw [b.o],by rw [b.o];exact H6.o.fT.fT,D6.o⟩
      case measure=>simp [intOf];omega
     .have b:Hid (dm B D (k+1)=((0:Int),L,r)):=ae (by rw [h.o,m,J1 g0];simp)
      clear m h
      go_wp2_with fail
      (with_reducible apply g.mono)
      rintro e H ⟨rv,rfl,j,p⟩;have h4:=j.under f.right;have h5:=h4.alloc (W #[Z .u32 t.ep,Z X t.st,Z X t.sq,Z X t.fl,Z Y t.ix,Z Y t.ct,Z Y t.id] 250 (0,0));have s:=((o.trans i).trans p).alloc (W #[Z .u32 t.ep,Z X t.st,Z X t.sq,Z X t.fl,Z Y t.ix,Z Y t.ct,Z Y t.id] 250 (0,0));obtain ⟨ra,rc,rfl⟩:∃ a c,rv = R a rest.length c:=az j;clear g q i f j p o h4;have I:=h5.cell 6;simp only [D3,D2,D1] at I;have H5:=ae h5.right.right;clear h5
      go_wp2_with fail
      go_roundw
      case rel=>exact ⟨k+1,Q,by go_num,by rw [b.o],by rw [b.o];exact H5.o.u00,s⟩
      case measure=>simp [intOf];omega
   .have b:Hid (dm B D (k+1)=((2:Int),[],r)):=ae (by rw [h.o];simp)
    have Hf:Hid (dm B D P=((2:Int),[],r)):=ae (by
     rw [FV (k:=k+1) (by rw [b.o];show (2:Int)≠0;decide) Q];exact b.o)
    clear h v
    go_wp2_with fail
    (with_reducible apply n.mono)
    rintro e w1 ⟨dv,rfl,q,i⟩;clear n;obtain ⟨rfl,f⟩:=q.xn (by show (2:Int)≠0;decide)
    go_wp2_with fail
    go_ret2
    rw [Hf.o];exact ⟨_,rfl,f.ly.dR _ _,o.trans i⟩
   .have b:Hid (dm B D (k+1)=((0:Int),L,r)):=ae (by rw [h.o];simp)
    clear h v
    go_wp2_with fail
    (with_reducible apply n.mono)
    rintro e w1 ⟨dv,rfl,q,i⟩;clear n;obtain ⟨rfl,f⟩:=q.xn (by show (3:Int)≠0;decide)
    go_wp2_with fail
    go_roundw
    case rel=>exact ⟨k+1,Q,by go_num,by rw [b.o],by rw [b.o];exact f.u00,o.trans i⟩
    case measure=>simp [intOf];omega
  .obtain rfl:k=P:=Q
   have hs:∃ a c,u8 = R a (dm B D k).2.1.length c:=az G;obtain ⟨sa,sc,rfl⟩:=hs
   go_wp2_with fail
   go_ret2
   exact ⟨_,by rw [M];rfl,G,o⟩
end Go.Proofs.Nn
namespace Go.SL
open RowKit
def ie {b a:Type} (f:a->b->a) (s:a) (L:List b) {k:Nat} (h:k<L.length):(L.take (k+1)).foldl f s=f ((L.take k).foldl f s) L[k]:=by
 rw [List.take_succ_eq_append_getElem h,List.foldl_append];rfl
def jE (a:Int) (s:Option (Int × List Int × Int)) (x:dS):Option (Int × List Int × Int):=
 match s with
 | none=>V
 | some (c,seen,h)=>
  if x.1.sq=a then
   (if x.1.ct=(if c=0 then x.1.ct else c) then
    U (if c=0 then x.1.ct else c,if seen.getD x.1.ix.toNat 0=0 then seen.set x.1.ix.toNat 1 else seen,if seen.getD x.1.ix.toNat 0=0 then h+1 else h)
   else V)
  else U (c,seen,h)
def qy:Option (Int × List Int × Int):=U (0,A1 72 0,0)
def jF (L:List dS) (a:Int):Bool:=match L.foldl (jE a) qy with
 | none=>Z'
 | some (c,_,h)=>decide (0<c) && decide (h=c)
def xb (b:Int) (L:List dS):L.foldl (jE b) V=V:=by
 induction L with
 | nil=>rfl
 | cons x L a=>exact a
def Gl {a:Int} {s:Option (Int × List Int × Int)} {L:List dS} {k:Nat} (h:(L.take k).foldl (jE a) s=V):L.foldl (jE a) s=V:=by
 rw [<- List.take_append_drop k L,List.foldl_append,h];exact xb a _
def eh {t:Tg} (h:t.ok=true):1<=t.ep/\1<=t.st/\t.st<=t.sq/\t.sq<=281474976710655/\t.fl<t.sq/\1<=t.ct/\t.ct<=72/\0<=t.ix/\t.ix<t.ct/\0<=t.id/\t.id<3840:=by
 unfold Tg.ok at h;simp only [Bool.and_eq_true,decide_eq_true_eq] at h;obtain ⟨⟨⟨⟨⟨⟨⟨⟨⟨⟨a,d⟩,e⟩,h4⟩,h5⟩,f⟩,g⟩,i⟩,j⟩,b⟩,c⟩:=h;exact ⟨a,d,e,h4,h5,f,g,i,j,b,c⟩
end Go.SL
namespace Go.Proofs.Nn
open RowKit SL
def jV {w:T} {v:O} {L:List dS} (h:yo w v L) {i:Nat} (d:i<L.length) :
  ∃ g a c,v = R (U ⟨g,a,V⟩) L.length c/\∃ (t:Tg) (p:Nat),L[i]=(t,p)/\w.cell? ⟨g,a+i*8,V⟩=U (Z .u32 t.ep)/\w.cell? ⟨g,a+i*8+1,V⟩=U (Z X t.st)/\w.cell? ⟨g,a+i*8+2,V⟩=U (Z X t.sq)/\w.cell? ⟨g,a+i*8+3,V⟩=U (Z X t.fl)/\w.cell? ⟨g,a+i*8+4,V⟩=U (Z Y t.ix)/\w.cell? ⟨g,a+i*8+5,V⟩=U (Z Y t.ct)/\w.cell? ⟨g,a+i*8+6,V⟩=U (Z Y t.id)/\w.cell? ⟨g,a+i*8+7,V⟩=U (Z Y (p:Int)):=by
 obtain ⟨g,a,c,rfl,b⟩:=h.cells d;refine ⟨g,a,c,rfl,L[i].1,L[i].2,rfl,?_⟩;exact ⟨b 0 Q,b 1 Q,b 2 Q,b 3 Q,b 4 Q,b 5 Q,b 6 Q,b 7 Q⟩
def UR:Tryz.zeroCells330=ints (A1 72 0):=Kr0
def Uo (B:Bool) (w:T) (e:Ending) (a:T):Prop:=e = .returned (.bool B)/\ah a (whole w)/\ak w a
def P9 (L:List dS) (b:Int) (a:Nat) (w:T) (u6 u7 u12:O) (wr:T):Prop:=
 ∃ (k:Nat) (c:Int) (seen:List Int) (h:Nat),k<=L.length/\u12 = Z Y (k:Int)/\u6 = Z Y c/\u7 = Z Y (h:Int)/\h<=k/\0<=c/\seen.length=72/\(L.take k).foldl (jE b) qy=U (c,seen,(h:Int))/\ah wr (pt a (W (ints seen) 330 (0,0))*whole w)/\ak w wr
def JE (w:T) (v:O) (L:List dS) (g:Int) (h:yo w v L) (j:∀ x ∈ L,x.1.ok=true) (hl:L.length<=1000000) :
  Calls S 195 #[v,Z X g] w (Uo (jF L g) w):=by
 have D0:(L.length:Int)<=1000000:=Q
 have H0:=ae h;have f0:=ae j;obtain ⟨g0,c,rfl⟩:=h.shape;clear h j
 go_in
 go_wp2_with fail
 have l:=(ah.whole w).alloc (W Tryz.zeroCells330 330 (0,0));have C:=(ak.refl w).alloc (W Tryz.zeroCells330 330 (0,0));generalize w.alloc (W Tryz.zeroCells330 330 (0,0))=w1 at l C ⊢;rw [UR] at l;generalize w.heap.size=s at l ⊢
 go_loopw [6,7,12] (fun u6 u7 u12 wr=>P9 L g s w u6 u7 u12 wr) (fun _ _ q0 _=>L.length-(intOf q0).toNat)
 case atStart=>exact ⟨0,0,_,0,B3 _,rfl,rfl,rfl,Nat.le_refl _,Int.le_refl _,E5,rfl,l,C⟩
 case round=>
  clear l C;obtain ⟨k,n,seen,m,hk,rfl,rfl,rfl,L0,l0,E,o,b,f⟩:=hrel;have M:yo wr (R g0 L.length c) L:=H0.o.aH b;have K0:(m:Int)<=1000000:=Q
  by_cases A:k<L.length
  .have F0:(k:Int)<(L.length:Int):=Q
   obtain ⟨s0,R0,c',hv,t,p0,G,c0,c1,c2,c3,c4,c5,c6,c7⟩:=jV M A;cases hv
   have j:=f0.o _ (D8 A);have p:=ie (jE g) qy L A;rw [o,G] at p;rw [G] at j;obtain ⟨-,-,-,-,-,h0,i0,N,k0,-,-⟩:=eh j;dsimp only at h0 i0 N k0;clear M G j o
   by_cases F:g=t.sq
   .obtain ⟨a,y⟩:=E4 N
    have x0:a<72:=Q
    have o0:a<seen.length:=Q
    rw [y] at c4;have hb:(a:Int)<72:=Q
    have cs:wr.cell? ⟨s,a,V⟩=U (Z Y (seen.getD a 0)):=(b.cell a).trans (aY o0);have fs:wr.frozen? ⟨s,a,V⟩=Z':=b.frozen a;have D:=b.setCell a (Z Y 1);rw [eS] at D;have d0:=(D.alloc (W #[Z .u32 t.ep,Z X t.st,Z X t.sq,Z X t.fl,Z Y (a:Int),Z Y t.ct,Z Y t.id,Z Y (p0:Int)] 252 (0,0))).right;clear D;subst F;have G0:s<wr.heap.size:=b.lt
    have q:(L.take (k+1)).foldl (jE t.sq) qy=if t.ct=(if n=0 then t.ct else n) then U (if n=0 then t.ct else n,if seen.getD a 0=0 then seen.set a 1 else seen,if seen.getD a 0=0 then (m:Int)+1 else m) else V:=by
     rw [p];simp only [jE,if_true,y,D7]
    have d:=ae q;have r0:=ae y;have r:=ae E;have I:=ae d0;clear p q y E d0;generalize seen.getD a 0=z at cs d;rcases (by omega:n=0\/(n≠0/\t.ct=n)\/(n≠0/\t.ct≠n)) with e|⟨e,u⟩|⟨e,u⟩
    .subst e
     by_cases i:z=0
     .subst i
      go_wp2_with fail
      go_roundw
      case rel=>exact ⟨k+1,t.ct,seen.set a 1,m+1,Q,by go_num,rfl,by go_num,Q,Q,by rw [List.length_set];exact r.o,by rw [d.o];simp,I.o,(f.setCell _ _).alloc _⟩
      case measure=>simp [intOf];omega
     .have n0:(z == 0)=Z':=by simpa using i
      go_wp2_with fail
      go_roundw
      case rel=>exact ⟨k+1,t.ct,seen,m,Q,by go_num,rfl,by go_num,Q,Q,r.o,by rw [d.o];simp [i],(b.alloc _).right,f.alloc _⟩
      case measure=>simp [intOf];omega
    .have m0:(n == 0)=Z':=by simpa using e
     subst u
     by_cases i:z=0
     .subst i
      go_wp2_with fail
      go_roundw
      case rel=>exact ⟨k+1,t.ct,seen.set a 1,m+1,Q,by go_num,rfl,by go_num,Q,Q,by rw [List.length_set];exact r.o,by rw [d.o];simp [e],I.o,(f.setCell _ _).alloc _⟩
      case measure=>simp [intOf];omega
     .have n0:(z == 0)=Z':=by simpa using i
      go_wp2_with fail
      go_roundw
      case rel=>exact ⟨k+1,t.ct,seen,m,Q,by go_num,rfl,by go_num,Q,Q,r.o,by rw [d.o];simp [e,i],(b.alloc _).right,f.alloc _⟩
      case measure=>simp [intOf];omega
    .have m0:(n == 0)=Z':=by simpa using e
     have u0:(t.ct == n)=Z':=by simpa using u
     have b0:jF L t.sq=Z':=by
      have:L.foldl (jE t.sq) qy=V:=Gl (k:=k+1) (by rw [d.o,if_neg (by rw [if_neg e];exact u)]);unfold jF;rw [this]
     have e0:=ae b0;clear b0
     go_wp2_with fail
     go_ret
     exact ⟨by rw [e0.o];rfl,(b.alloc _).right.right,f.alloc _⟩
   .have q:(L.take (k+1)).foldl (jE g) qy=U (n,seen,(m:Int)):=by rw [p];simp [jE,Ne.symm F]
    have d:=ae q;have N0:(t.sq == g)=Z':=by simpa using Ne.symm F
    clear p q
    go_wp2_with fail
    go_roundw
    case rel=>exact ⟨k+1,n,seen,m,Q,by go_num,rfl,rfl,Q,l0,E,d.o,(b.alloc _).right,f.alloc _⟩
    case measure=>simp [intOf];omega
  .obtain rfl:k=L.length:=Q
   rw [D9] at o;have K:jF L g=(decide (0<n) && decide ((m:Int)=n)):=by unfold jF;rw [o]
   have H:=ae K;clear K o
   by_cases J:0<n
   .go_wp2_with fail
    go_ret
    exact ⟨by rw [H.o];simp only [J,decide_true,Bool.true_and];rfl,b.right,f⟩
   .have h1:¬ n > 0:=J
    go_wp2_with fail
    go_ret
    exact ⟨by rw [H.o,decide_eq_false (by omega:¬ 0<n)];rfl,b.right,f⟩
end Go.Proofs.Nn
namespace Go.SL
open RowKit
def lu (a:Int) (P:Nat) (s:Int × Int) (x:dS):Int × Int:=
 if x.1.sq=a/\s.2<x.1.ix then (((x.2:Int)+(x.1.ct-x.1.ix))%(P:Int),x.1.ix) else s
def um (L:List dS) (a:Int) (P:Nat):Int:=(L.foldl (lu a P) (0,-1)).1
def ng (a:Int) (P:Nat) (n p:Int):Int:=if p<0 then n else max n (if (a-p)%(P:Int)=0 then (P:Int) else (a-p)%(P:Int))
def BF (l:List Int) (a:Int) (P:Nat):Int:=l.foldl (ng a P) 0
def Tv (a b:Int):(if a<b then b else a)=max a b:=Q
def Bb {a b:Type} (f:b->a->b) (s:b) (L:List a) (d:a) {k:Nat} (h:k<L.length):(L.take (k+1)).foldl f s=f ((L.take k).foldl f s) (L.getD k d):=by
 rw [ie f s L h,List.getD,E3 h];rfl
end Go.SL
namespace Go.Proofs.Nn
open RowKit SL
def QY (w:T) (r:Nat) (l:List Int) (a b:Int) (F:ai) (h:ah w (bC r l*F)) (d:0<l.length) (f:l.length<=1048576) :
  Calls S 268 #[.pointer (U ⟨r,0,V⟩),Z Y a,Z Y b] w (lB ((b-a)%(l.length:Int)) w):=by
 have g:=de w r l b F h d f;have i:=de w r l a F h d f;have c:=de w r l (b%(l.length:Int)-a%(l.length:Int)) F h d f;rw [<- Int.sub_emod] at c;have n:=D5 a (by omega:(l.length:Int)≠0);have k:=D4 a (by omega:(0:Int)<l.length);have o:=D5 b (by omega:(l.length:Int)≠0);have m:=D4 b (by omega:(0:Int)<l.length);have a3:a%(l.length:Int)<=1048576:=Q
 have p:b%(l.length:Int)<=1048576:=Q
 generalize (b-a)%(l.length:Int)=s at c ⊢;generalize a%(l.length:Int)=q at *;generalize b%(l.length:Int)=t at *;clear h k m
 go_in
 go_wp2_with fail
 apply g.mono;rintro e j ⟨rfl,rfl⟩;clear g
 go_wp2_with fail
 apply i.mono;rintro e j ⟨rfl,rfl⟩;clear i
 go_wp2_with fail
 apply c.mono;rintro e j ⟨rfl,rfl⟩;clear c
 go_wp2
 go_ret
 exact ⟨rfl,rfl⟩
def QO (L:List dS) (a:Int) (P:Nat) (w:T) (u7 u8 u13:O) (wr:T):Prop:=
 ∃ (k:Nat) (s:Int × Int),k<=L.length/\u13 = Z Y (k:Int)/\u7 = Z Y s.1/\u8 = Z Y s.2/\(L.take k).foldl (lu a P) (0,-1)=s/\ah wr (whole w)/\ak w wr
def NM (w:T) (v:O) (L:List dS) (f:Int) (r:Nat) (l:List Int) (F:ai) (h:yo w v L) (hr:ah w (bC r l*F)) (I:0<l.length) (J:l.length<=1048576) (m:∀ x ∈ L,x.1.ok=true/\x.2<=1048576) (hl:L.length<=1000000) :
  Calls S 198 #[v,Z X f,ax r] w (kL (Z Y (um L f l.length)) w):=by
 have r0:(L.length:Int)<=1000000:=Q
 have H0:=ae h;have f0:=ae m;have Hr:=ae hr;have H1:=ae I;have H2:=ae J;obtain ⟨g0,c,rfl⟩:=h.shape;clear h m hr I J
 go_in
 go_wp2_with fail
 go_loopw [7,8,13] (fun u7 u8 u13 wr=>QO L f l.length w u7 u8 u13 wr) (fun _ _ n0 _=>L.length-(intOf n0).toNat)
 case atStart=>exact ⟨0,(0,-1),B3 _,rfl,rfl,rfl,rfl,ah.whole w,ak.refl w⟩
 case round=>
  obtain ⟨k,m0,hk,rfl,rfl,rfl,q,n,d0⟩:=hrel;have M:yo wr (R g0 L.length c) L:=H0.o.aH (n.to (cy _).symm)
  by_cases u:k<L.length
  .have s0:(k:Int)<(L.length:Int):=Q
   obtain ⟨q0,D0,c',hv,t,p,A,c0,c1,c2,c3,c4,c5,c6,c7⟩:=jV M u;cases hv
   obtain ⟨m,b0⟩:=f0.o _ (D8 u);have z:=ie (lu f l.length) (0,-1) L u;rw [q,A] at z;rw [A] at m b0;obtain ⟨-,-,-,-,-,h0,i0,k0,l0,-,-⟩:=eh m;dsimp only at h0 i0 k0 l0 b0;have K:=n.alloc (W #[Z .u32 t.ep,Z X t.st,Z X t.sq,Z X t.fl,Z Y t.ix,Z Y t.ct,Z Y t.id,Z Y (p:Int)] 252 (0,0));have s:=d0.alloc (W #[Z .u32 t.ep,Z X t.st,Z X t.sq,Z X t.fl,Z Y t.ix,Z Y t.ct,Z Y t.id,Z Y (p:Int)] 252 (0,0));have g:=ae K;have i:=ae z;obtain ⟨H,C⟩:=m0;clear M A m q z K
   by_cases y:f=t.sq
   .subst y
    by_cases N:C<t.ix
    .have b:(L.take (k+1)).foldl (lu t.sq l.length) (0,-1)=(((p:Int)+(t.ct-t.ix))%(l.length:Int),t.ix):=by rw [i.o];unfold lu;rw [if_pos ⟨rfl,N⟩]
     have j:=ae b;clear b i
     go_wp2_with fail
     generalize wr.alloc (W #[Z .u32 t.ep,Z X t.st,Z X t.sq,Z X t.fl,Z Y t.ix,Z Y t.ct,Z Y t.id,Z Y (p:Int)] 252 (0,0))=w5 at g s ⊢;generalize wr.heap.size=o at g ⊢;obtain ⟨d,e⟩:=Mn0 (pt o (W #[Z .u32 t.ep,Z X t.st,Z X t.sq,Z X t.fl,Z Y t.ix,Z Y t.ct,Z Y t.id,Z Y (p:Int)] 252 (0,0))*whole w)
     have g4:∀ a,ah a d->a.cell? ⟨o,4,V⟩=U (Z Y t.ix):=fun a h=>(e▸h).cell 4;have g5:∀ a,ah a d->a.cell? ⟨o,5,V⟩=U (Z Y t.ct):=fun a h=>(e▸h).cell 5;have g7:∀ a,ah a d->a.cell? ⟨o,7,V⟩=U (Z Y (p:Int)):=fun a h=>(e▸h).cell 7
     have G:Hid (∀ a,ah a d->Calls S 171 #[.pointer (U ⟨r,0,V⟩),Z Y (p:Int),Z Y (t.ct-t.ix)] a (lB (((p:Int)+(t.ct-t.ix))%(l.length:Int)) a)):=fun a h'=>
      xE a r l _ _ F ((e▸h':ah a (_*whole w)).right.cU Hr.o) H1.o H2.o
     have D:ah w5 d:=e▸g.o;have E:ah w5.drew d:=D;have o0:=ae n;have e0:=ae e;have x0:IntKind.i64.wrap (t.ct-t.ix)=t.ct-t.ix:=IntWalk.i64_in _ Q;clear c0 c1 c2 c3 c4 c5 c6 c7 g n e;generalize ((p:Int)+(t.ct-t.ix))%(l.length:Int)=F0 at G j
     go_region_held3 (fun a=>ah a d) (first|(with_reducible exact D)|(with_reducible exact E)) (first
      | (go_at_call 171;(with_reducible apply (G.o _ As0).mono);rintro p0 w2 ⟨rfl,rfl⟩))
     all_goals
      go_wp2
      go_roundw
      case rel=>exact ⟨k+1,_,Q,by go_num,rfl,rfl,j.o,(e0.o▸E:ah _ (_*whole w)).right,s.drew⟩
      case measure=>simp [intOf];omega
    .have b:(L.take (k+1)).foldl (lu t.sq l.length) (0,-1)=(H,C):=by rw [i.o];unfold lu;rw [if_neg (fun h=>N h.2)]
     have j:=ae b;clear b i
     go_wp2_with fail
     go_roundw
     case rel=>exact ⟨k+1,_,Q,by go_num,rfl,rfl,j.o,g.o.right,s⟩
     case measure=>simp [intOf];omega
   .have b:(L.take (k+1)).foldl (lu f l.length) (0,-1)=(H,C):=by rw [i.o];unfold lu;rw [if_neg (fun h=>y h.1.symm)]
    have j:=ae b;have u0:(t.sq == f)=Z':=by simpa using Ne.symm y
    clear b i
    go_wp2_with fail
    go_roundw
    case rel=>exact ⟨k+1,_,Q,by go_num,rfl,rfl,j.o,g.o.right,s⟩
    case measure=>simp [intOf];omega
  .obtain rfl:k=L.length:=Q
   rw [D9] at q
   go_wp2_with fail
   go_ret
   exact ⟨by unfold um;rw [q];rfl,n,d0⟩
def Qp (l:List Int) (a:Int) (P:Nat) (u7 u13:O):Prop:=
 ∃ (k:Nat) (n:Int),k<=l.length/\u13 = Z Y (k:Int)/\u7 = Z Y n/\0<=n/\n<=(P:Int)/\(l.take k).foldl (ng a P) 0=n
def Pv (w:T) (g:Nat) (K:Nat) (b:List Int) (c:Int) (r:Nat) (l:List Int) (F:ai) (h:ah w (pt g (W (ints b) 3 (0,0))*(bC r l*F))) (s:0<l.length) (y:l.length<=1048576) (hl:b.length<=1000000) :
  Calls S 199 #[R (U ⟨g,0,V⟩) b.length K,Z Y c,ax r] w (lB (BF b c l.length) w):=by
 have e0:(b.length:Int)<=1000000:=Q
 have d0:(l.length:Int)<=1048576:=Q
 have C:=nQ w r l _ h.right;have A:=fun a=>QY w r l a c _ h.right s y;have z:∀ i,i<b.length->w.cell? ⟨g,i,V⟩=U (Z Y (b.getD i 0)):=fun i L=>(h.cell i).trans (aY L);have J:=ae C;have I:=ae A;have H:=ae z;have v:=ae s;clear C A z h s y
 go_in
 go_wp2_with fail
 go_loop [7,13] (fun u7 u13=>Qp b c l.length u7 u13) (fun _ b0=>b.length-(intOf b0).toNat)
 case atStart=>exact ⟨0,0,B3 _,rfl,rfl,Int.le_refl _,Q,rfl⟩
 case round=>
  obtain ⟨k,n,hk,rfl,rfl,M,N,q⟩:=hrel
  by_cases D:k<b.length
  .have f0:(k:Int)<(b.length:Int):=Q
   have c0:=H.o k D;have u:=Bb (ng c l.length) 0 b 0 D;rw [q] at u;have d:=I.o (b.getD k 0);have g0:=D5 (c-b.getD k 0) (by have:=v.o;omega:(l.length:Int)≠0);have h0:=D4 (c-b.getD k 0) (by have:=v.o;omega:(0:Int)<l.length);clear q;have o:=ae u;clear u;generalize b.getD k 0=p at *
   by_cases E:p<0
   .have f:(b.take (k+1)).foldl (ng c l.length) 0=n:=by rw [o.o];unfold ng;rw [if_pos E]
    have j:=ae f;clear f d o
    go_wp2_with fail
    go_round
    case rel=>exact ⟨k+1,n,Q,by go_num,rfl,M,N,j.o⟩
    case measure=>simp [intOf];omega
   .have f:(b.take (k+1)).foldl (ng c l.length) 0=max n (if (c-p)%(l.length:Int)=0 then (l.length:Int) else (c-p)%(l.length:Int)):=by rw [o.o];unfold ng;rw [if_neg E]
    have j:=ae f;clear f o;generalize (c-p)%(l.length:Int)=m at *
    by_cases t:m=0
    .subst t
     go_wp2_with fail
     (with_reducible apply d.mono)
     rintro e G ⟨rfl,rfl⟩;clear d
     go_wp2_with fail
     (with_reducible apply J.o.mono)
     rintro e G ⟨rfl,rfl⟩
     go_wp2_with fail
     go_round
     case rel=>exact ⟨k+1,max n l.length,Q,by go_num,by rw [Tv],Q,Q,by rw [j.o];simp⟩
     case measure=>simp [intOf];omega
    .have i0:(m == 0)=Z':=by simpa using t
     go_wp2_with fail
     (with_reducible apply d.mono)
     rintro e G ⟨rfl,rfl⟩;clear d
     go_wp2_with fail
     go_round
     case rel=>exact ⟨k+1,max n m,Q,by go_num,by rw [Tv],Q,Q,by rw [j.o,if_neg t]⟩
     case measure=>simp [intOf];omega
  .obtain rfl:k=b.length:=Q
   rw [D9] at q
   go_wp2_with fail
   go_ret
   exact ⟨by unfold BF;rw [q];rfl,rfl⟩
end Go.Proofs.Nn
namespace Go.SL
open RowKit
def pG (l:List Int):Array O:=(l.map (Value.int X)).toArray
def Je (l:List Int):(pG l).size=l.length:=by simp [pG]
def MD (l:List Int) (i:Nat):(pG l)[i]?=l[i]?.map (Value.int X):=by simp [pG]
def PS (l:List Int) (i:Nat) (x:Int):(pG l).setIfInBounds i (Z X x)=pG (l.set i x):=by simp [pG,List.map_set]
def tx {l:List Int} {i:Nat} (h:i<l.length):(pG l)[i]?=U (Z X (l.getD i 0)):=by
 rw [MD,List.getD,E3 h];rfl
def I4 (n:Nat):madeCells (Value.int X 0).cells (n*1)=pG (A1 n 0):=by
 apply Array.ext
 .simp [size_madeCells,Je]
 .intro i a b
  simp [madeCells,pG,Value.cells,Nat.mod_one]
def fV (a:Int) (s:List Int × List Int) (x:dS):List Int × List Int:=
 if x.1.sq<=a/\s.2.getD x.1.id.toNat 0<x.1.sq then (s.1.set x.1.id.toNat (x.2:Int),s.2.set x.1.id.toNat x.1.sq) else s
def ft (B:Nat):List Int × List Int:=(A1 B (-1),A1 B 0)
def kx (L:List dS) (a:Int) (B:Nat):List Int:=(L.foldl (fV a) (ft B)).1
def y8 (a:Int) (L:List dS) (s:List Int × List Int):(L.foldl (fV a) s).1.length=s.1.length/\(L.foldl (fV a) s).2.length=s.2.length:=by
 induction L generalizing s with
 | nil=>exact ⟨rfl,rfl⟩
 | cons x L b=>
  have h:=b (fV a s x)
  have:(fV a s x).1.length=s.1.length/\(fV a s x).2.length=s.2.length:=by
   unfold fV;split
   .simp
   .exact ⟨rfl,rfl⟩
  exact ⟨h.1.trans this.1,h.2.trans this.2⟩
def kH (L:List dS) (a:Int) (B:Nat):(kx L a B).length=B:=by
 unfold kx;rw [(y8 a L _).1];simp [ft]
end Go.SL
namespace Go.Proofs.Nn
open RowKit SL
def Of:(prog.info? 171).map (fun i=>(i.zero,i.size,i.bytes))=U (U (Z X 0),1,8):=Kr0
def KU (n:Nat) (e:n<=1048576) (w:T):(Instr.makeSlice 333 (Z Y n) (Z Y n)).run S w =
  .ok (R (U ⟨w.heap.size,0,V⟩) n n) (w.alloc (W (pG (A1 n 0)) 171 (0,0))):=by
 obtain ⟨i,b,d,c,a⟩:=info_parts Of;have:=run_make (P:=S) w 333 171 i _ underlying333 b d Y Y n n Q Q (by rw [a];omega) Q;rw [this,c];simp only [D7];rw [I4]
def Us (l:List Int) (w:T) (e:Ending) (a:T):Prop:=∃ g,e = .returned (R (U ⟨g,0,V⟩) l.length l.length)/\ah a (pt g (W (ints l) 3 (0,0))*whole w)/\ak w a
def KQ (g B:Nat) (w:T) (u:O) (wr:T):Prop:=
 ∃ k:Nat,k<=B/\u = Z Y (k:Int)/\ah wr (pt g (W (ints (A1 k (-1)++A1 (B-k) 0)) 3 (0,0))*whole w)/\ak w wr
def Ks (b c:Nat) (L:List dS) (a:Int) (B:Nat) (w:T) (u:O) (wr:T):Prop:=
 ∃ k:Nat,k<=L.length/\u = Z Y (k:Int)/\ah wr (pt b (W (ints ((L.take k).foldl (fV a) (ft B)).1) 3 (0,0))*(pt c (W (pG ((L.take k).foldl (fV a) (ft B)).2) 171 (0,0))*whole w))/\ak w wr
def Lc (w:T) (v:O) (L:List dS) (b:Int) (B:Nat) (h:yo w v L) (hB:B<=3840) (A:∀ x ∈ L,x.1.ok=true/\x.1.id<(B:Int)) (hl:L.length<=1000000) :
  Calls S 197 #[v,Z X b,Z Y (B:Int)] w (Us (kx L b B) w):=by
 have W0:(L.length:Int)<=1000000:=Q
 have N0:(B:Int)<=3840:=Q
 have H0:=ae h;have o0:=ae A;obtain ⟨s0,c,rfl⟩:=h.shape;clear h A;have f0:=oD B Q w;have j:=(ah.whole w).alloc (W (ints (A1 B 0)) 3 (0,0));have d1:=(ak.refl w).alloc (W (ints (A1 B 0)) 3 (0,0))
 go_in
 go_wp2_with fail
 generalize w.alloc (W (ints (A1 B 0)) 3 (0,0))=w1 at j d1 ⊢;generalize w.heap.size=e at j ⊢;clear f0
 go_loopw [16] (fun u wr=>KQ e B w u wr) (fun u _=>B-(intOf u).toNat)
 case atStart=>exact ⟨0,B3 _,rfl,j,d1⟩
 case round=>
  clear j d1;obtain ⟨k,hk,rfl,a,C⟩:=hrel
  by_cases G:k<B
  .have u0:(k:Int)<(B:Int):=Q
   have hf:=a.frozen k;have hv:wr.cell? ⟨e,k,V⟩=U (Z Y ((A1 k (-1)++A1 (B-k) (0:Int)).getD k 0)):=(a.cell k).trans (aY (by simp;omega));generalize (A1 k (-1)++A1 (B-k) (0:Int)).getD k 0=Z0 at hv;have h4:=a.setCell k (Z Y (-1));rw [eS,sN B k (-1) G] at h4;have H4:=ae h4;clear a h4
   go_wp2
   go_roundw
   case rel=>exact ⟨k+1,Q,by go_num,H4.o,C.setCell _ _⟩
   case measure=>simp [intOf];omega
  .obtain rfl:k=B:=Q
   have i0:A1 k (-1:Int)++A1 (k-k) 0=(ft k).1:=by simp [ft]
   rw [i0] at a;have f0:=KU k Q wr;have l:=(a.alloc (W (pG (A1 k 0)) 171 (0,0))).aj;have d2:=C.alloc (W (pG (A1 k 0)) 171 (0,0));clear a C i0
   go_wp2_with fail
   generalize wr.alloc (W (pG (A1 k 0)) 171 (0,0))=w2 at l d2 ⊢;generalize wr.heap.size=q at l ⊢;clear f0
   go_loopw [27] (fun u wr=>Ks e q L b k w u wr) (fun u _=>L.length-(intOf u).toNat)
   case atStart=>exact ⟨0,B3 _,rfl,l,d2⟩
   case round=>
    clear l d2;generalize k=B at *;obtain ⟨k,hk,rfl,a,C⟩:=hrel;have hR:yo wr (R s0 L.length c) L:=H0.o.aH (a.t00 ((pt e _*pt q _)*whole w))
    by_cases G:k<L.length
    .have u0:(k:Int)<(L.length:Int):=Q
     obtain ⟨L0,Y0,c',hv,t,p,ht,c0,c1,c2,c3,c4,c5,I,c7⟩:=jV hR G;cases hv
     have K:=ie (fV b) (ft B) L G;obtain ⟨A,d0⟩:=o0.o _ (D8 G);rw [ht] at K A d0;have F:=y8 b (L.take k) (ft B);obtain ⟨-,-,-,-,-,-,-,-,-,k0,-⟩:=eh A;dsimp only at d0 k0;generalize (L.take k).foldl (fV b) (ft B)=x0 at a K F;obtain ⟨g,last⟩:=x0;simp only [ft,E5] at F;obtain ⟨T0,V0⟩:=F;dsimp only at a;obtain ⟨id,e0⟩:=E4 k0;rw [e0] at I d0;have S0:id<B:=Q
     have ca:wr.cell? ⟨e,id,V⟩=U (Z Y (g.getD id 0)):=(a.cell id).trans (aY Q);have E:wr.cell? ⟨q,id,V⟩=U (Z X (last.getD id 0)):=(a.aj.cell id).trans (tx Q)
     have n0:(L.take (k+1)).foldl (fV b) (ft B)=if t.sq<=b/\last.getD id 0<t.sq then (g.set id (p:Int),last.set id t.sq) else (g,last):=by
      rw [K];simp only [fV,e0,D7]
     have o:=ae n0;clear hR ht A K n0 e0;generalize last.getD id 0=ls at E o;have f:=a.alloc (W #[Z .u32 t.ep,Z X t.st,Z X t.sq,Z X t.fl,Z Y t.ix,Z Y t.ct,Z Y (id:Int),Z Y (p:Int)] 252 (0,0));have H:=C.alloc (W #[Z .u32 t.ep,Z X t.st,Z X t.sq,Z X t.fl,Z Y t.ix,Z Y t.ct,Z Y (id:Int),Z Y (p:Int)] 252 (0,0));have h0:=bF wr (W #[Z .u32 t.ep,Z X t.st,Z X t.sq,Z X t.fl,Z Y t.ix,Z Y t.ct,Z Y (id:Int),Z Y (p:Int)] 252 (0,0)) _ _ E;have l0:wr.heap.size<(wr.alloc (W #[Z .u32 t.ep,Z X t.st,Z X t.sq,Z X t.fl,Z Y t.ix,Z Y t.ct,Z Y (id:Int),Z Y (p:Int)] 252 (0,0))).heap.size:=Si0
     obtain ⟨M,g0⟩:=Nm (wr.alloc (W #[Z .u32 t.ep,Z X t.st,Z X t.sq,Z X t.fl,Z Y t.ix,Z Y t.ct,Z Y (id:Int),Z Y (p:Int)] 252 (0,0)))
     have b0:=ae g0;rw [g0] at f H h0 l0;have e2:M.cell? ⟨wr.heap.size,2,V⟩=U (Z X t.sq):=f.cell 2;have e6:M.cell? ⟨wr.heap.size,6,V⟩=U (Z Y (id:Int)):=f.cell 6;clear g0
     by_cases j:t.sq<=b
     .by_cases l:ls<t.sq
      .have m:(L.take (k+1)).foldl (fV b) (ft B)=(g.set id (p:Int),last.set id t.sq):=by rw [o.o,if_pos ⟨j,l⟩]
       have D:=ae m;clear o m
       go_wp2_with fail
       rw [b0.o];clear c0 c1 c2 c3 c4 c5 I c7 a ca E;generalize wr.heap.size=i at *
       go_quiet (fail)
       go_wp2_with fail
       have z:ah (M.drewN nq) (pt i (W #[Z .u32 t.ep,Z X t.st,Z X t.sq,Z X t.fl,Z Y t.ix,Z Y t.ct,Z Y (id:Int),Z Y (p:Int)] 252 (0,0))*(pt e (W (ints g) 3 (0,0))*(pt q (W (pG last) 171 (0,0))*whole w))):=f.drew;have m0:=H.drewN nq;clear f H h0 e2 e6 l0;generalize M.drewN nq=s at z m0 ⊢;obtain ⟨n,r⟩:=Mn0 (pt i (W #[Z .u32 t.ep,Z X t.st,Z X t.sq,Z X t.fl,Z Y t.ix,Z Y t.ct,Z Y (id:Int),Z Y (p:Int)] 252 (0,0)))
       have g2:∀ d,ah d n->d.cell? ⟨i,2,V⟩=U (Z X t.sq):=fun d h=>((r▸h:ah d (pt i (W #[Z .u32 t.ep,Z X t.st,Z X t.sq,Z X t.fl,Z Y t.ix,Z Y t.ct,Z Y (id:Int),Z Y (p:Int)] 252 (0,0)))).kp).cell 2;have g6:∀ d,ah d n->d.cell? ⟨i,6,V⟩=U (Z Y (id:Int)):=fun d h=>((r▸h:ah d (pt i (W #[Z .u32 t.ep,Z X t.st,Z X t.sq,Z X t.fl,Z Y t.ix,Z Y t.ct,Z Y (id:Int),Z Y (p:Int)] 252 (0,0)))).kp).cell 6;have g7:∀ d,ah d n->d.cell? ⟨i,7,V⟩=U (Z Y (p:Int)):=fun d h=>((r▸h:ah d (pt i (W #[Z .u32 t.ep,Z X t.st,Z X t.sq,Z X t.fl,Z Y t.ix,Z Y t.ct,Z Y (id:Int),Z Y (p:Int)] 252 (0,0)))).kp).cell 7;have D0:s.cell? ⟨e,id,V⟩=U (Z Y (g.getD id 0)):=(z.aj.cell id).trans (aY Q);have G0:s.frozen? ⟨e,id,V⟩=Z':=z.aj.frozen id;have y:=z.aj.setCell id (Z Y (p:Int));rw [eS] at y;have F0:(s.setCell ⟨e,id,V⟩ (Z Y (p:Int))).cell? ⟨q,id,V⟩=U (Z X (last.getD id 0)):=(y.au.cell id).trans (tx Q);have K0:(s.setCell ⟨e,id,V⟩ (Z Y (p:Int))).frozen? ⟨q,id,V⟩=Z':=y.au.frozen id;have J:=y.au.setCell id (Z X t.sq);rw [PS] at J;have K6:ah s n:=r▸z.left;have K7:ah (s.setCell ⟨e,id,V⟩ (Z Y (p:Int))) n:=r▸y.aj.left;have K8:ah ((s.setCell ⟨e,id,V⟩ (Z Y (p:Int))).setCell ⟨q,id,V⟩ (Z X t.sq)) n:=r▸J.au.left;have p0:=K6.drew;have q0:=K7.drew;have r0:=K8.drew;have H8:=ae (J.au.right.aj);clear z y J r
       go_region_held3 (fun d=>ah d n) (first|(with_reducible exact K6)|(with_reducible exact K7)|(with_reducible exact K8)|(with_reducible exact p0)|(with_reducible exact q0)|(with_reducible exact r0)) (fail)
       all_goals
        go_wp2
        go_roundw
        case rel=>exact ⟨k+1,Q,by go_num,by rw [D.o];exact H8.o.drew,((m0.setCell _ _).setCell _ _).drew⟩
        case measure=>simp [intOf];omega
      .have R0:decide (ls<t.sq)=Z':=by simpa using l
       have m:(L.take (k+1)).foldl (fV b) (ft B)=(g,last):=by rw [o.o,if_neg (fun h=>l h.2)]
       have D:=ae m;have N:=ae f;clear o m f
       go_wp2_with fail
       rw [b0.o];clear c0 c1 c2 c3 c4 c5 I c7 a ca E
       go_quiet (fail)
       go_wp2
       go_roundw
       case rel=>exact ⟨k+1,Q,by go_num,by rw [D.o];exact N.o.right.drew,H.drewN nq⟩
       case measure=>simp [intOf];omega
     .have xL:decide (t.sq<=b)=Z':=by simpa using j
      have m:(L.take (k+1)).foldl (fV b) (ft B)=(g,last):=by rw [o.o,if_neg (fun h=>j h.1)]
      have D:=ae m;have N:=ae f;clear o m f
      go_wp2_with fail
      rw [b0.o];clear c0 c1 c2 c3 c4 c5 I c7 a ca E
      go_quiet (fail)
      go_wp2
      go_roundw
      case rel=>exact ⟨k+1,Q,by go_num,by rw [D.o];exact N.o.right.drew,H.drewN nq⟩
      case measure=>simp [intOf];omega
    .obtain rfl:k=L.length:=Q
     rw [D9] at a;have F:(L.foldl (fV b) (ft B)).1.length=B:=kH L b B
     go_wp2_with fail
     go_ret
     exact ⟨e,by rw [show (kx L b B).length=B from F];rfl,a.fT,C⟩
end Go.Proofs.Nn
