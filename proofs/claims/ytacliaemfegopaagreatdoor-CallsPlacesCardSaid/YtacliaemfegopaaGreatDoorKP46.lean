/- Steps. -/
import Derived.Test.YtacliaemfegopaaGreatDoorKP38
import Derived.Test.YtacliaemfegopaaGreatDoorKP45
set_option linter.all false
set_option maxRecDepth 99999
set_option maxHeartbeats 0
open Go.SL
open Go.Value renaming int->Y,slice->V,pointer->T
open Go.Obj renaming cells->Z
open Go renaming World->Q,Value->Z'
open Go.Proofs.Tryz renaming prog->U
open Option renaming some->W,none->X
open Go.Proofs.Tryz
open Go.World renaming size_alloc->B3
open Int renaming le_refl->D3
open List renaming replicate->G3,length_replicate->J3,nil_append->K3
namespace Go.Proofs.Nn
open Go.RowKit Go.SL Go.Proofs.Su
def qY:Has:=fun _=>X
def Zero (P:Nat) (D:az):Prop:=∀ p:Nat,p<P->D.bV ((p:Int)+1)=(0,zs 512)
section
variable {n P B:Nat} {D E:az} {K:List Int}
theorem Cf (h:Zero P D):xr P D=fun _=>X:=by
 funext p;unfold xr
 split
 .rename_i a
  rw [h p a.1,BE];rfl
 .rfl
theorem Bs (b:1<=P) (a:n<=P):Dv n P (fun _=>X) 0 0 (fun _=>X):=
 ⟨by omega,a,D3 _,fun _=>rfl,fun p t _ h=>(by cases h),fun p t _ h=>(by cases h),fun c p h=>(by cases h),fun h=>absurd h (by decide),fun e=>⟨1,0,by decide,by decide,fun p t _ h=>(by cases h)⟩⟩
theorem Ln (q:Zero P D) (m:D.Ok) (j:D.Calm) (r:P+1<=D.sec.length) (b:1<=P) (i:P<=19999) (f:1<=n) (g:n<=3840) (l:n<=P):JT n (J0 P n) D qY:=by
 have h:=E8 (P:=P) (n:=n) b i f g;refine ⟨⟨h.ok,h.nums,m,h.br,j,by show (P:Int)+1<=_;omega,h.Gj,h.rm,h.win,fun a p c=>?_,h.PZ⟩,RG P n,?_⟩
 .rw [NX,(Tb.iu n P a).1] at c;cases c
 .have e:MD (J0 P n)=fun _=>X:=by
   funext a;unfold MD;rw [NX,(Tb.iu n P a).1];rfl
  show Rp n P (xr P D) 0 0 (MD (J0 P n)) 1 1
  rw [Cf q,e];exact (Bs b l).run fun p t _ h=>by cases h
theorem Na (g:Zero P D) (e:D.Ok) (b:D.Calm) (f:P+1<=D.sec.length) (c:l8 n P=true) (a:D.bV 0=(0,cR n P)):Sj n P 1 (cR n P) (J0 P n) D qY:=by
 have h:=eh.1 c;exact ⟨Ln g e b f (by omega) (by omega) (by omega) (by omega) (by omega),AH P n,rfl,by show (0:Int)<=_;omega,by show (1:Int)<=_;omega,a⟩
def F1 (D:az):az:={ D with cw:=bY (D.cw+1),wait:=D.wait++[((0:Int),zs 512)] }
def zW (k:Nat):List (Int × List UInt8):=(List.range k).map fun i:Nat=>((i:Int)+1,zs 512)
def FZ (D:az) (k:Nat):az:={ D with cw:=gZ D.cw k,wait:=zW k }
def FS (n P:Nat) (D:az):az:={ D with cw:=bY (D.cw+1),wait:=[((0:Int),cR n P)] }
theorem CO (k:Nat):zW (k+1)=zW k++[((k:Int)+1,zs 512)]:=by simp [zW,List.range_succ]
theorem oh (n:Nat):(zs n).length=n:=J3
theorem wi (a:Int) (k:Nat):dV (zW k) a=if 1<=a/\a<=(k:Int) then W (zs 512) else X:=by
 induction k with
 | zero=>rw [if_neg (by omega)];rfl
 | succ k c=>
  rw [CO,iF,c]
  by_cases h:(k:Int)+1=a
  .rw [if_pos h,if_pos (by omega)]
  .rw [if_neg h]
   by_cases b:1<=a/\a<=(k:Int)
   .rw [if_pos b,if_pos (by omega)]
   .rw [if_neg b,if_neg (by omega)]
theorem Nl (h:D.Ok) (b:D.wait.length<=1000) (c:1<=D.sec.length):(F1 D).Ok:=by
 refine ⟨h.n,fun x a=>?_,by show (D.wait++[((0:Int),zs 512)]).length<=_;rw [List.length_append];simp;omega,h.aZ⟩;rcases List.mem_append.1 a with a|a
 .exact h.wait x a
 .obtain rfl:x=((0:Int),zs 512):=by simpa using a
  exact ⟨D3 _,by show (0:Int)<(D.sec.length:Int);omega⟩
theorem CZ (h:D.Calm):(F1 D).Calm:=⟨h.down,h.eE⟩
theorem GS:(F1 D).bV 0=(0,zs 512):=by
 unfold az.bV;show (match dV (D.wait++[((0:Int),zs 512)]) 0 with|some l=>_|none=>_)=_
 rw [iF,if_pos rfl];show ((0:Int),bM 512 (zs 512))=_
 rw [jy (oh 512)]
theorem NJ (h:D.Ok) {k:Nat} (c:k+1<=D.sec.length):(FZ D k).Ok:=by
 have:=h.n;refine ⟨h.n,fun x b=>?_,by show (zW k).length<=_;simp [zW];omega,h.aZ⟩;obtain ⟨i,a,rfl⟩:=List.mem_map.1 (show x ∈ zW k from b);have:=List.mem_range.1 a;exact ⟨by show (0:Int)<=(i:Int)+1;omega,by show (i:Int)+1<(D.sec.length:Int);omega⟩
theorem wU (h:D.Calm) (k:Nat):(FZ D k).Calm:=⟨h.down,h.eE⟩
theorem M0 (D:az) (P:Nat):Zero P (FZ D P):=by
 intro p a;unfold az.bV;show (match dV (zW P) _ with|some l=>_|none=>_)=_
 rw [wi,if_pos (by omega)];show ((0:Int),bM 512 (zs 512))=_
 rw [jy (oh 512)]
theorem FQ (a:D.wait=[]) (k:Nat):(FZ D k).bV 0=D.bV 0:=by
 unfold az.bV;show (match dV (zW k) 0 with|some l=>_|none=>_)=match dV D.wait 0 with|some l=>_|none=>_
 rw [wi,if_neg (by omega),a]
 rfl
end
end Go.Proofs.Nn
namespace Go.Proofs.Su
open Go.RowKit Go.SL Go.Proofs.Nn Go.Proofs.Ba Go.Proofs.Fs
def rX (cd ca cb d:Nat) (a:Int) (bv:Z'):ai:=pt cd (Z #[ay d] 24 (0,0))*(pt ca (Z #[Y .i64 a] 3 (0,0))*pt cb (Z #[bv] 37 (0,0)))
theorem xb (w:Q) (S:Hp) (d:Nat) (D:az) (cd ca cb:Nat) (a:Int) (bv:Z') (l:List UInt8) (F:ai) (h:ag w (aL S d D*(ak S*(rX cd ca cb d a bv*F)))) (x:D.Ok) (f:∀ q D',ag q (aL S d D'*(ak S*(rX cd ca cb d a bv*F)))->Rd q bv l) (c:l.length=512) :
  Calls U 160 #[ay cd,ay ca,ay cb] w (gp S d (D.write a l).2 (Y .i64 (D.write a l).1) (rX cd ca cb d a bv*F) w):=by
 have g:=f w D h;have i:=mZ w S d D a bv l _ h x g f (by rw [c];decide);have b:=h;unfold rX at b;have u:w.cell? ⟨cd,0,X⟩=W (ay d):=(b.to (by ac_rfl:_=pt cd (Z #[ay d] 24 (0,0))*(pt ca (Z #[Y .i64 a] 3 (0,0))*(pt cb (Z #[bv] 37 (0,0))*(aL S d D*(ak S*F)))))).cell 0;have v:w.cell? ⟨ca,0,X⟩=W (Y .i64 a):=(b.to (by ac_rfl:_=pt ca (Z #[Y .i64 a] 3 (0,0))*(pt cd (Z #[ay d] 24 (0,0))*(pt cb (Z #[bv] 37 (0,0))*(aL S d D*(ak S*F)))))).cell 0;have j:w.cell? ⟨cb,0,X⟩=W bv:=(b.to (by ac_rfl:_=pt cb (Z #[bv] 37 (0,0))*(pt cd (Z #[ay d] 24 (0,0))*(pt ca (Z #[Y .i64 a] 3 (0,0))*(aL S d D*(ak S*F)))))).cell 0;obtain ⟨z,A,rfl⟩:=g.shape;clear h b f g;rw [c] at i j ⊢;clear c
 go_enter func160,ntmps160
 go_wp2_with fail
 (with_reducible refine i.mono ?_)
 rintro e C ⟨t,y,rfl,p,m⟩;have s:=ae p;have r:=ae m;clear i p m u v j
 go_wp2_with fail
 go_ret
 exact ⟨t,y,rfl,s.out,r.out⟩
def di (a:Nat->az->Int × az) (D:az):Nat->Int × az
 | 0=>(0,D)
 | k+1=>if (di a D k).1=0 then a k (di a D k).2 else di a D k
theorem FN (a:Nat->az->Int × az) (D:az) {k:Nat} (h:(di a D k).1≠0):∀ m,k<=m->di a D m=di a D k:=by
  intro m e
  induction m with
  | zero => obtain rfl : k = 0 := by omega
            rfl
  | succ m c=>
    by_cases b:k=m+1
    · rw [b]
    · have:=c (by omega)
      rw [di,this,if_neg h]
def Df (S:Hp) (d:Nat) (R:Int × az) (c:ai) (w:Q) (e:Ending) (b:Q):Prop:=
 (R.1=0/\e = .returned (.tuple #[])\/R.1≠0/\e = .panicked (R6 2))/\∃ a,Ext S a/\ag b (aL a d R.2*(ak a*c))/\aj w b
theorem tP (m:Nat) (f:Nat->FuncId × Array Z' × Array Z') (b:Nat->az->Int × az) (S:Hp) (d g:Nat) (D:az) (j:ai) (L:m<=10)
  (I:∀ c H k,ag c (H*j)->k<m->c.cell? ⟨g,k,X⟩=W (.func (.func (f k).1) (f k).2.1 (f k).2.2))
  (J:∀ k,k<m->∀ (x:Array Z') (w:Q),(callFunc (f k).1 x).run U w = .ok (.enter (f k).1 x) w)
  (N:∀ k,k<m->∀ c a D',Ext S a->D'.Ok->ag c (aL a d D'*(ak a*j))->Calls U (f k).1 ((f k).2.1++(f k).2.2) c (gp a d (b k D').2 (Y .i64 (b k D').1) j c))
  (M:∀ k,k<m->(di b D k).1=0->(di b D k).2.Ok) (w:Q) (h:ag w (aL S d D*(ak S*j))) :
  Calls U 112 #[V (W ⟨g,0,X⟩) m m] w (Df S d (di b D m) j w):=by
 refine (LC m f (fun k c=>(di b D k).1=0/\∃ a,Ext S a/\ag c (aL a d (di b D k).2*(ak a*j))/\aj w c) (fun c=>(di b D m).1≠0/\∃ a,Ext S a/\ag c (aL a d (di b D m).2*(ak a*j))/\aj w c) g L ?_ ?_ w ⟨rfl,S,Ext.refl S,h,aj.refl w⟩).mono ?_
 .rintro i k c hi ⟨_,a,_,s,_⟩ p
  exact I c _ k (s.to (by ac_rfl:_=(aL a d (di b D i).2*ak a)*j)) p
 .intro k p
  refine ⟨J k p,?_⟩;rintro c ⟨C,a,u,s,y⟩;refine (N k p c a _ u (M k p C) s).mono ?_;rintro e O ⟨v,F,rfl,l,z⟩;have q:di b D (k+1)=b k (di b D k).2:=by rw [di,if_pos C]
  refine ⟨_,rfl,?_⟩
  by_cases r:(b k (di b D k).2).1=0
  .exact .inl ⟨r,by rw [q];exact r,v,u.trans F,by rw [q];exact l,y.trans z⟩
  .have G:(di b D (k+1)).1≠0:=by rw [q];exact r
   have A:=FN b D G m (by omega);exact .inr ⟨r,by rw [A];exact G,v,u.trans F,by rw [A,q];exact l,y.trans z⟩
 .rintro e O (⟨rfl,t,l⟩|⟨rfl,t,l⟩)
  .exact ⟨.inl ⟨t,rfl⟩,l⟩
  .exact ⟨.inr ⟨t,rfl⟩,l⟩
def l7 (m k:Nat):List Int:=G3 k (-1)++G3 (m-k) 0
theorem E3 {m k:Nat} (h:k<=m):(l7 m k).length=m:=by simp [l7];omega
theorem EZ {m k:Nat} (h:k<m):(l7 m k).set k (-1)=l7 m (k+1):=by
 unfold l7;rw [List.set_append_right _ _ (by simp),J3,Nat.sub_self,show m-k=(m-(k+1))+1 by omega,List.replicate_succ,List.replicate_succ',List.append_assoc]
 rfl
def I0 (m b:Nat) (a:ai) (w:Q) (u:Z') (wr:Q):Prop:=
 ∃ k:Nat,k<=m/\u = Y .i64 (k:Int)/\ag wr (pt b (Z (ints (l7 m k)) 3 (0,0))*a)/\aj w wr
section
variable {D:az} {o:Ar} {n P k:Nat} {K:List Int}
def pU (k:Nat) (D:az):Int × az:=if k=0 then D.write 0 (zs 512) else D.flush
def LQ (a:Int) (_:Nat) (D:az):Int × az:=D.write a (zs 512)
def lW (n P k:Nat) (D:az):Int × az:=if k=1 then D.write 0 (cR n P) else D.flush
theorem kS (h:D.Calm) (f:nF o) {a:Int} (c:D.has a) {l:List UInt8} (e:l.length=512) :
  (¬ jm o/\(D.cU o).write a l=(0,({ D with cw:=bY (D.cw+1),wait:=D.wait++[(a,l)] }:az).cU (lE o)))\/(jm o/\(D.cU o).write a l=(2,D.fy (FK o))):=by
 by_cases b:jm o
 .exact .inr ⟨b,uP h b c e⟩
 .exact .inl ⟨b,xT h f b c e⟩
theorem lh (h:D.Calm) (b:nF o):(¬ jm o/\(D.cU o).flush=(0,D.aF.cU (lE o)))\/(jm o/\(D.cU o).flush=(2,D.fy (FK o))):=by
 by_cases a:jm o
 .exact .inr ⟨a,vg h a⟩
 .exact .inl ⟨a,xx h b a⟩
theorem uv (a:Nat->az->Int × az) (D:az):di a D 1=a 0 D:=by rw [di,di];rfl
theorem N6 (h:D.Calm) (m:D.Ok) (C:D.wait.length<=1000) (b:nF o) (r:D.has 0) :
  ((∃ a,o=W (0,a)/\di pU (D.cU o) 2=(2,D.fy (FK o)))\/(∃ a,o=W (1,a)/\di pU (D.cU o) 2=(2,(F1 D).fy (FK o)))\/(∃ o',lN o o'/\di pU (D.cU o) 2=(0,(F1 D).aF.cU o'))) /\
  (∀ k,k<2->(di pU (D.cU o) k).1=0->(di pU (D.cU o) k).2.Ok):=by
 have z:=Nl m C (by have:=r.2;omega);have c:di pU (D.cU o) 1=(D.cU o).write 0 (zs 512):=uv _ _;have q:di pU (D.cU o) 2=if (di pU (D.cU o) 1).1=0 then (di pU (D.cU o) 1).2.flush else di pU (D.cU o) 1:=rfl
 rcases kS h b r (oh 512) with ⟨l,g⟩|⟨l,g⟩
 .have y:({ D with cw:=bY (D.cw+1),wait:=D.wait++[((0:Int),zs 512)] }:az)=F1 D:=rfl
  rw [y] at g;rw [g] at c;refine ⟨?_,fun k A i=>?_⟩
  .rw [q,c,if_pos rfl]
   show _\/(∃ a,o=W (1,a)/\((F1 D).cU (lE o)).flush=_)\/∃ o',_/\((F1 D).cU (lE o)).flush=_
   rcases lh (CZ h) b.dec with ⟨s,j⟩|⟨s,j⟩
   .exact .inr (.inr ⟨_,(lN.dec b).trans (lN.dec b.dec),j⟩)
   .refine .inr (.inl ?_)
    rw [j,pC];obtain ⟨a,f⟩:=s
    cases o with
    | none=>cases f
    | some x=>
     obtain ⟨N,p⟩:=x;injection f with f;injection f with u v
     have:N≠0:=fun e=>l ⟨p,by rw [e]⟩;simp only at u v;exact ⟨p,by rw [show N=1 by omega],rfl⟩
  .cases k with
   | zero=>exact kn m b
   | succ k=>
    obtain rfl:k=0:=by omega
    rw [c];exact kn z b.dec
 .rw [g] at c
  have t:¬ (2:Int)=0:=by decide
  refine ⟨.inl ?_,fun k A i=>?_⟩
  .obtain ⟨a,f⟩:=l
   exact ⟨a,f,by rw [q,c,if_neg t]⟩
  .cases k with
   | zero=>exact kn m b
   | succ k=>
    obtain rfl:k=0:=by omega
    rw [c] at i;exact absurd i t
theorem N8 (h:D.Calm) (c:nF o) (e:k+1<D.sec.length) :
  (∃ o',lN o o'/\di (LQ ((k:Int)+1)) ((FZ D k).cU o) 1=(0,(FZ D (k+1)).cU o'))\/(jm o/\di (LQ ((k:Int)+1)) ((FZ D k).cU o) 1=(2,(FZ D k).fy (FK o))):=by
 rw [uv];show (∃ o',_/\((FZ D k).cU o).write ((k:Int)+1) (zs 512)=_)\/(_/\((FZ D k).cU o).write ((k:Int)+1) (zs 512)=_)
 rcases kS (wU h k) c (a:=(k:Int)+1) ⟨by omega,by show (k:Int)+1<(D.sec.length:Int);omega⟩ (oh 512) with ⟨b,a⟩|⟨b,a⟩
 .refine .inl ⟨_,lN.dec c,?_⟩
  have:({ FZ D k with cw:=bY ((FZ D k).cw+1),wait:=(FZ D k).wait++[((k:Int)+1,zs 512)] }:az)=FZ D (k+1):=by
   show ({ D with cw:=bY (gZ D.cw k+1),wait:=zW k++[((k:Int)+1,zs 512)] }:az)=_
   rw [<- CO];rfl
  rw [a,this]
 .exact .inr ⟨b,a⟩
theorem OR (h:D.Calm) (j:D.Ok) (a:nF o) (A:D.has 0) :
  ((∃ o',lN o o'/\di (lW n P) (D.cU o) 3=(0,(FS n P D.aF).aF.cU o'))\/(o≠X/\∃ E,(E=D\/E=D.aF\/E=FS n P D.aF)/\di (lW n P) (D.cU o) 3=(2,E.fy (FK o)))) /\
  (∀ k,k<3->(di (lW n P) (D.cU o) k).1=0->(di (lW n P) (D.cU o) k).2.Ok):=by
 have u:=az.gH j;rw [h.flush] at u;have m:D.aF.Ok:=u.ok j (by have:=j.many;omega);have s:D.aF.Calm:=gU h;have H:D.aF.sec.length=D.sec.length:=(aW D).2.2.2;have t:D.aF.has 0:=⟨D3 _,by rw [H];exact A.2⟩
 have G:∀ x ∈ (FS n P D.aF).wait,(FS n P D.aF).has x.1:=by
  intro x I;obtain rfl:x=((0:Int),cR n P):=by simpa [FS] using I
  exact t
 have F:(FS n P D.aF).Ok:=⟨m.n,G,by show [((0:Int),cR n P)].length<=_;simp,m.aZ⟩
 have f:di (lW n P) (D.cU o) 1=(D.cU o).flush:=uv _ _;have b:di (lW n P) (D.cU o) 2=if (di (lW n P) (D.cU o) 1).1=0 then (di (lW n P) (D.cU o) 1).2.write 0 (cR n P) else di (lW n P) (D.cU o) 1:=rfl
 have g:di (lW n P) (D.cU o) 3=if (di (lW n P) (D.cU o) 2).1=0 then (di (lW n P) (D.cU o) 2).2.flush else di (lW n P) (D.cU o) 2:=rfl
 have i:¬ (2:Int)=0:=by decide
 rcases lh h a with ⟨v,q⟩|⟨v,q⟩
 .rw [q] at f
  rw [f,if_pos rfl] at b;rcases kS s a.dec t (iA n P) with ⟨y,p⟩|⟨y,p⟩
  .have C:({ D.aF with cw:=bY (D.aF.cw+1),wait:=D.aF.wait++[((0:Int),cR n P)] }:az)=FS n P D.aF:=rfl
   rw [C] at p;rw [p] at b;rw [b,if_pos rfl] at g;refine ⟨?_,fun k l c=>?_⟩
   .rcases lh (D:=FS n P D.aF) ⟨s.down,s.eE⟩ a.dec.dec with ⟨z,r⟩|⟨z,r⟩
    .exact .inl ⟨_,((lN.dec a).trans (lN.dec a.dec)).trans (lN.dec a.dec.dec),g.trans r⟩
    .refine .inr ⟨fun e=>sG z (ld (ld e)),_,.inr (.inr rfl),g.trans (r.trans ?_)⟩
     rw [pC,pC]
   .match k,l with
    | 0,_=>exact kn j a
    | 1,_=>rw [f];exact kn m a.dec
    | 2,_=>rw [b];exact kn F a.dec.dec
  .rw [p] at b
   rw [b,if_neg i] at g;refine ⟨.inr ⟨fun e=>sG y (ld e),_,.inr (.inl rfl),g.trans (by rw [pC])⟩,fun k l c=>?_⟩
   match k,l with
   | 0,_=>exact kn j a
   | 1,_=>rw [f];exact kn m a.dec
   | 2,_=>rw [b] at c;exact absurd c i
 .rw [q] at f
  rw [f,if_neg i] at b;rw [b,if_neg i] at g;refine ⟨.inr ⟨sG v,_,.inl rfl,g⟩,fun k l c=>?_⟩
  match k,l with
  | 0,_=>exact kn j a
  | 1,_=>rw [f] at c;exact absurd c i
  | 2,_=>rw [b] at c;exact absurd c i
end
theorem Jk (w:Q) (c f:Addr) :
    CallsD U 107 #[T (W c),T (W f)] .returning w fun e u g=>e = .returned (.tuple #[])/\u = .returning/\w=g:=by
  refine callsD_of_wpS func107 rfl fun a h b=>?_;apply wpS_seq;apply wpS_region
  simp only [ntmps107,List.size_toArray,List.length_cons,List.length_nil,Nat.reduceAdd,Nat.reduceSub,Array.replicate_succ,
     Array.replicate_zero,List.push_toArray,List.append_toArray,K3,List.cons_append]
  simp [wpOpsS,go_sem,recoverD,b,Exit.thenS];refine wpS_of_wp ?_
  go_wp2
  cases a
  simp_all [bodyPostS,results,Tryz.results107]
theorem AR {w:Q} {c:Array Z'} {a b:Nat} {x e:Z'} (f:c[4]?=W (ay a)) (g:c[5]?=W (ay b)) (h:w.cell? ⟨a,0,X⟩=W x) (i:w.cell? ⟨b,0,X⟩=W e) :
  (results Tryz.f61 c).run U w = .ok (.tuple #[x,e]) w:=by
 simp [results,Tryz.results61,go_sem,f,g,h,i]
theorem E4 {w:Q} {c:Array Z'} {a b:Nat} {x z:Z'} {R:Ending->Q->Prop} (f:c[4]?=W (ay a)) (g:c[5]?=W (ay b))
  (i:w.cell? ⟨a,0,X⟩=W x) (j:w.cell? ⟨b,0,X⟩=W z) (h:R (.returned (.tuple #[x,z])) w) :
  bodyPostD U Tryz.f61 R Exit.ret { tmps:=c,defers:=[{ target:=.fn (.func 107) #[T (W ⟨a,0,X⟩),T (W ⟨b,0,X⟩)],args:=#[] }] } w:=by
 refine leaves_cons (f:=107) (args:=#[T (W ⟨a,0,X⟩),T (W ⟨b,0,X⟩)]) (by simp) (by simp [go_sem]) ?_;refine (Jk w ⟨a,0,X⟩ ⟨b,0,X⟩).mono ?_;rintro e u l ⟨rfl,rfl,rfl⟩;exact ⟨_,AR f g i j,h⟩
def vm (cd ca cb:Nat):Z':=.func (.func 160) #[] #[ay cd,ay ca,ay cb]
def vC (d:Nat):Z':=.func (.func 114) #[ay d] #[]
def jY (rb:Nat) (a:Array Z'):ai:=pt rb (Z a 112 (0,0))
section
variable (w:Q) (S:Hp) (d:Nat) (D:az) (cd ca cb rb:Nat) (bv:Z') (R:ai)
theorem IH (h:ag w (aL S d D*(ak S*(rX cd ca cb d 0 bv*(jY rb #[vm cd ca cb,vC d]*R))))) (r:∀ a f,ag a (f*R)->Rd a bv (zs 512)) (q:∀ k,k<2->(di pU D k).1=0->(di pU D k).2.Ok) :
  Calls U 112 #[V (W ⟨rb,0,X⟩) 2 2] w (Df S d (di pU D 2) (rX cd ca cb d 0 bv*(jY rb #[vm cd ca cb,vC d]*R)) w):=by
 refine tP 2 (fun k=>if k=0 then (160,#[],#[ay cd,ay ca,ay cb]) else (114,#[ay d],#[])) pU S d rb D _ (by decide) ?_ ?_ ?_ q w h
 .intro a f k s b
  have l:=(s.to (by ac_rfl:_=jY rb #[vm cd ca cb,vC d]*(f*(rX cd ca cb d 0 bv*R))))
  match k,b with
  | 0,_=>exact l.cell 0
  | 1,_=>exact l.cell 1
 .intro k b t w
  match k,b with
  | 0,_=>simp [go_sem]
  | 1,_=>simp [go_sem]
 .intro k b a c D' u j i
  match k,b with
  | 0,_=>exact xb a c d D' cd ca cb 0 bv (zs 512) _ i j (fun m p g=>r m _ (g.to (by ac_rfl:_=(aL c d p*(ak c*(rX cd ca cb d 0 bv*jY rb #[vm cd ca cb,vC d])))*R))) (oh 512)
  | 1,_=>exact (mR a c d D' _ i j).mono fun e m g=>gp.of g
theorem tR (a:Int) (h:ag w (aL S d D*(ak S*(rX cd ca cb d a bv*(jY rb #[vm cd ca cb]*R))))) (p:∀ b f,ag b (f*R)->Rd b bv (zs 512)) (m:D.Ok) :
  Calls U 112 #[V (W ⟨rb,0,X⟩) 1 1] w (Df S d (di (LQ a) D 1) (rX cd ca cb d a bv*(jY rb #[vm cd ca cb]*R)) w):=by
 refine tP 1 (fun k=>(160,#[],#[ay cd,ay ca,ay cb])) (LQ a) S d rb D _ (by decide) ?_ ?_ ?_ ?_ w h
 .intro b f k q c
  have r:=(q.to (by ac_rfl:_=jY rb #[vm cd ca cb]*(f*(rX cd ca cb d a bv*R))))
  match k,c with
  | 0,_=>exact r.cell 0
 .intro k c t w
  simp [go_sem]
 .intro k c b e D' u l i
  exact xb b e d D' cd ca cb a bv (zs 512) _ i l (fun s g j=>p s _ (j.to (by ac_rfl:_=(aL e d g*(ak e*(rX cd ca cb d a bv*jY rb #[vm cd ca cb])))*R))) (oh 512)
 .intro k c _
  obtain rfl:k=0:=by omega
  exact m
theorem Jp (n P:Nat) (h:ag w (aL S d D*(ak S*(rX cd ca cb d 0 bv*(jY rb #[vC d,vm cd ca cb,vC d]*R))))) (r:∀ a g,ag a (g*R)->Rd a bv (cR n P)) (q:∀ k,k<3->(di (lW n P) D k).1=0->(di (lW n P) D k).2.Ok) :
  Calls U 112 #[V (W ⟨rb,0,X⟩) 3 3] w (Df S d (di (lW n P) D 3) (rX cd ca cb d 0 bv*(jY rb #[vC d,vm cd ca cb,vC d]*R)) w):=by
 refine tP 3 (fun k=>if k=1 then (160,#[],#[ay cd,ay ca,ay cb]) else (114,#[ay d],#[])) (lW n P) S d rb D _ (by decide) ?_ ?_ ?_ q w h
 .intro a g k s f
  have l:=(s.to (by ac_rfl:_=jY rb #[vC d,vm cd ca cb,vC d]*(g*(rX cd ca cb d 0 bv*R))))
  match k,f with
  | 0,_=>exact l.cell 0
  | 1,_=>exact l.cell 1
  | 2,_=>exact l.cell 2
 .intro k f t w
  match k,f with
  | 0,_=>simp [go_sem]
  | 1,_=>simp [go_sem]
  | 2,_=>simp [go_sem]
 .intro k f a b D' u j i
  match k,f with
  | 0,_=>exact (mR a b d D' _ i j).mono fun e m c=>gp.of c
  | 1,_=>exact xb a b d D' cd ca cb 0 bv (cR n P) _ i j (fun m p c=>r m _ (c.to (by ac_rfl:_=(aL b d p*(ak b*(rX cd ca cb d 0 bv*jY rb #[vC d,vm cd ca cb,vC d])))*R))) (iA n P)
  | 2,_=>exact (mR a b d D' _ i j).mono fun e m c=>gp.of c
end
theorem Mg {n P:Nat} {D:az} (f:D.Ok) (c:D.Calm) (l:D.wait=[]) (j:D.sec.length=P+1) (r:Zero P D) (h:l8 n P=true) :
  Sj n P 1 (cR n P) (J0 P n) (FS n P D).aF qY/\(FS n P D).aF.sec.length=P+1/\(FS n P D).aF.cr=D.cr/\(FS n P D).aF.cw=bY (D.cw+1)/\(FS n P D).aF.cf=bY (D.cf+1):=by
 have m:∀ x ∈ (FS n P D).wait,(FS n P D).has x.1:=by
  intro x q;obtain rfl:x=((0:Int),cR n P):=by simpa [FS] using q
  exact ⟨D3 _,by show (0:Int)<(D.sec.length:Int);omega⟩
 have a:(FS n P D).Ok:=⟨f.n,m,by show [((0:Int),cR n P)].length<=_;simp,f.aZ⟩
 have b:(FS n P D).Calm:=⟨c.down,c.eE⟩
 have e:=az.gH a;rw [b.flush] at e;have g:(FS n P D).aF.sec.length=P+1:=by rw [(aW _).2.2.2];exact j
 refine ⟨Na (fun p i=>?_) (e.ok a (by have:=a.many;omega)) (gU b) (by rw [g];omega) h ?_,g,(aW _).1,(aW _).2.1,(aW _).2.2.1⟩
 .rw [fh a _ ⟨by omega,by show (p:Int)+1<(D.sec.length:Int);omega⟩,<- r p i]
  unfold az.bV
  have:dV [((0:Int),cR n P)] ((p:Int)+1)=X:=by
   have:=iF [] ((0:Int),cR n P) ((p:Int)+1);rw [K3,if_neg (by show ¬ ((0:Int)=(p:Int)+1);omega)] at this;exact this
  rw [show (FS n P D).wait=[((0:Int),cR n P)] from rfl,this,l]
  rfl
 .rw [fh a 0 ⟨D3 _,by show (0:Int)<(D.sec.length:Int);omega⟩]
  unfold az.bV
  have:dV [((0:Int),cR n P)] 0=W (cR n P):=by
   have:=iF [] ((0:Int),cR n P) 0;rw [K3,if_pos rfl] at this;exact this
  rw [show (FS n P D).wait=[((0:Int),cR n P)] from rfl,this];show ((0:Int),bM 512 (cR n P))=_
  rw [jy (iA n P)]
def PA (S:Hp) (d n P:Nat) (D:az) (o:Ar) (F:ai) (w:Q) (e:Ending) (a:Q):Prop:=∃ E:Nat,o≠X/\E=E
structure O5 (n P:Nat) (D:az) (o:Ar) (D':az) (o':Ar):Prop where
 sj:Sj n P 1 (cR n P) (J0 P n) D' qY
 SF:D'.wait=[]
 sec:D'.sec.length=D.sec.length
 cr:D'.cr=D.cr
 cw:D'.cw=gZ D.cw (P+2)
 cf:D'.cf=gZ D.cf 3
 ar:lN o o'
def Lw (S:Hp) (d n P:Nat) (D:az) (o:Ar) (F:ai) (w:Q) (e:Ending) (b:Q):Prop:=
 ∃ s j a D' o',Ext S a/\e = .returned (.tuple #[ay s,Y .i64 0])/\ag b (et s j d n P (J0 P n)*(aL a d (D'.cU o')*(ak a*F)))/\aj w b/\O5 n P D o D' o'
def Ms (S:Hp) (d n P:Nat) (D:az) (o:Ar) (F:ai) (w:Q) (e:Ending) (a:Q):Prop:=PA S d n P D o F w e a\/Lw S d n P D o F w e a
def Qo (S:Hp) (d P:Nat) (b:az) (o:Ar) (c:ai) (w:Q) (wr:Q):Prop:=
 ∃ a o',Ext S a/\ag wr (aL a d ((FZ b P).cU o')*(ak a*c))/\aj w wr/\lN o o'
def Qn (S:Hp) (d P:Nat) (b:az) (o:Ar) (c:ai) (w:Q) (u:Z') (wr:Q):Prop:=
 ∃ k a o',k<=P/\u = Y .i64 ((k:Nat):Int)/\Ext S a/\ag wr (aL a d ((FZ b k).cU o')*(ak a*c))/\aj w wr/\lN o o'
theorem CA (w:Q) (S:Hp) (d n P:Nat) (D:az) (o:Ar) (F:ai) (b2:ag w (aL S d (D.cU o)*(ak S*F))) (u2:D.Ok) (hc:D.Calm) (hm:D.wait.length<=1000) (hg:l8 n P=true) (hs:D.sec.length=P+1) (ho:nF o)
  (t2:o=X)
  (hh:∀ h b,ag h (b*F)->nZ h):Calls U 61 #[ay d,Y .i64 (n:Int)] w (Ms S d n P D o F w):=by
 have p3:=ot U;have o3:=eh.1 hg;have h1:=((b2.alloc (Z #[T X] 61 (0,0))).alloc (Z #[Y .i64 0] 28 (0,0)))
 have d1:=(((aj.refl w).alloc (Z #[T X] 61 (0,0))).alloc (Z #[Y .i64 0] 28 (0,0)))
 rw [B3] at h1;have V1:=ae u2;have Hc:=ae hc;have Hm:=ae hm;have Hg:=ae hg;have Hs:=ae hs;have Ho:=ae ho;have Hh:=ae hh;have K0:=ae t2;clear t2;clear b2 u2 hc hm hg hs ho hh
 go_enter_defers func61,ntmps61
 go_wp2_with fail
 generalize (w.alloc (Z #[T X] 61 (0,0))).alloc (Z #[Y .i64 0] 28 (0,0))=w1 at h1 d1 ⊢;generalize w.heap.size+1=A at h1 ⊢;generalize w.heap.size=z at h1 ⊢;have H1:=lZ w1 S d (D.cU o) _ (h1.to (by ac_rfl:_=aL S d (D.cU o)*(pt A (Z #[Y .i64 0] 28 (0,0))*(pt z (Z #[T X] 61 (0,0))*(ak S*F)))));rw [pQ,Hs.out] at H1;have r3:IntKind.i64.wrap (((P+1:Nat):Int)-1)=(P:Int):=by rw [IntKind.wrap_i64];omega
 (with_reducible refine H1.mono ?_)
 rintro e w2 ⟨rfl,rfl⟩;have h2:=h1.alloc (Z #[Y .i64 (n:Int),Y .i64 (P:Int)] 119 (0,0));have d2:=d1.alloc (Z #[Y .i64 (n:Int),Y .i64 (P:Int)] 119 (0,0));clear H1 h1 d1
 go_wp2_with fail
 have V0:=tM (w1.alloc (Z #[Y .i64 (n:Int),Y .i64 (P:Int)] 119 (0,0))) n P;unfold Dh KY at V0;rw [if_pos Hg.out] at V0
 (with_reducible refine V0.mono ?_)
 rintro e w3 ⟨rfl,h3,d3⟩;have f3:=fun w=>zx w;have H3:=h3.dU h2;have t:=d2.trans d3;generalize w1.heap.size=q at H3 ⊢;clear V0 h2 d2 h3 d3
 go_wp2_with fail
 (with_reducible refine (f3 _).mono ?_)
 rintro e w4 ⟨rfl,rfl⟩;have H4:=H3.alloc (Z (dG (zs 512)) 5 (0,0));have D4:=t.alloc (Z (dG (zs 512)) 5 (0,0));obtain ⟨y,hZ⟩:∃ y,y=dG (zs 512):=⟨_,rfl⟩
 have E1:∀ w,(Instr.makeSlice 37 (Y .i64 512) (Y .i64 512)).run U w = .ok (V (W ⟨w.heap.size,0,X⟩) 512 512) (w.alloc (Z y 5 (0,0))):=by
  rw [hZ];exact Go.Proofs.Nn.eL 512 (by decide)
 rw [<- hZ] at H4 D4;clear H3 t;have HZ:=ae hZ;clear hZ
 go_wp2_with fail
 generalize w3.alloc (Z y 5 (0,0))=i at H4 D4 ⊢;generalize w3.heap.size=f at H4 ⊢;obtain ⟨c,s1⟩:∃ b,b=pt f (Z y 5 (0,0))*(pt q (Z #[Y .i64 (n:Int),Y .i64 (P:Int)] 119 (0,0))*(pt A (Z #[Y .i64 0] 28 (0,0))*(pt z (Z #[T X] 61 (0,0))*F))):=⟨_,rfl⟩
 have H5:ag i (aL S d (D.cU o)*(ak S*c)):=H4.to (by rw [s1];ac_rfl);have i0:=ae s1
 have D0:∀ h b,ag h (b*c)->Rd h (V (W ⟨f,0,X⟩) 512 512) (zs 512):=by
  intro h b hx;have:=sm (c:=512) ((hx.to (by rw [i0.out,HZ.out];ac_rfl:_=pt f (Z (dG (zs 512)) 5 (0,0))*(b*(pt q (Z #[Y .i64 (n:Int),Y .i64 (P:Int)] 119 (0,0))*(pt A (Z #[Y .i64 0] 28 (0,0))*(pt z (Z #[T X] 61 (0,0))*F)))))).heap)
  rwa [oh] at this
 have D0:=ae D0;clear H4 s1
 -- the first two steps
 have O:=uj i d 0 (W ⟨f,0,X⟩) 512 512;have h6:=(((H5.alloc (Z #[ay d] 24 (0,0))).alloc (Z #[Y .i64 0] 3 (0,0))).alloc (Z #[V (W ⟨f,0,X⟩) 512 512] 37 (0,0))).alloc (Z #[.func (.func 160) #[] #[ay i.heap.size,ay (i.heap.size+1),ay (i.heap.size+1+1)],.func (.func 114) #[ay d] #[]] 112 (0,0));have D6:=(((D4.alloc (Z #[ay d] 24 (0,0))).alloc (Z #[Y .i64 0] 3 (0,0))).alloc (Z #[V (W ⟨f,0,X⟩) 512 512] 37 (0,0))).alloc (Z #[.func (.func 160) #[] #[ay i.heap.size,ay (i.heap.size+1),ay (i.heap.size+1+1)],.func (.func 114) #[ay d] #[]] 112 (0,0));rw [B3,B3,B3] at h6
 (with_reducible refine O.mono ?_)
 rintro e w6 ⟨rfl,rfl⟩;have H6:=ae h6;have f1:=ae D6;clear O h6 D6 D4 H5 E1
 go_wp2_with fail
 generalize (((i.alloc (Z #[ay d] 24 (0,0))).alloc (Z #[Y .i64 0] 3 (0,0))).alloc (Z #[V (W ⟨f,0,X⟩) 512 512] 37 (0,0))).alloc (Z #[.func (.func 160) #[] #[ay i.heap.size,ay (i.heap.size+1),ay (i.heap.size+1+1)],.func (.func 114) #[ay d] #[]] 112 (0,0))=w6 at H6 f1 ⊢;generalize i.heap.size+1+1+1=rb at H6 ⊢;generalize i.heap.size+1+1=cb at H6 ⊢;generalize i.heap.size+1=ca at H6 ⊢;generalize i.heap.size=cd at H6 ⊢;have h6:ag w6 (aL S d (D.cU o)*(ak S*(rX cd ca cb d 0 (V (W ⟨f,0,X⟩) 512 512)*(jY rb #[vm cd ca cb,vC d]*c)))):=H6.out.to (by unfold rX jY vm vC;ac_rfl);have s0:D.has 0:=⟨D3 _,by rw [Hs.out];omega⟩
 obtain ⟨hA,g2⟩:=N6 Hc.out V1.out Hm.out Ho.out s0;have N:=IH w6 S d (D.cU o) cd ca cb rb _ c h6 D0.out g2;clear H6 h6 g2
 (with_reducible refine N.mono ?_)
 rintro e w7 ⟨T0,S7,l2,h7,d7⟩;have D7:=f1.out.trans d7;clear N d7 f1;rcases hA with ⟨K',x0,r⟩|⟨K',x0,r⟩|⟨o1,f2,r⟩
 .rw [K0.out] at x0;cases x0
 .rw [K0.out] at x0;cases x0
 rw [r] at T0 h7;rcases T0 with ⟨_,rfl⟩|⟨T0,_⟩
 case inr=>exact absurd rfl T0
 -- the 0s
 have u0:=Nl V1.out Hm.out (by rw [Hs.out];omega);have p1:=CZ Hc.out;obtain ⟨a,H⟩:∃ b,b=(F1 D).aF:=⟨_,rfl⟩
 have e0:=az.gH u0;rw [p1.flush] at e0;have v2:a.Ok:=by rw [H];exact e0.ok u0 (by have:=u0.many;omega)
 have n2:a.Calm:=by rw [H];exact gU p1
 have L1:a.wait=[]:=by rw [H];rfl
 have z2:a.sec.length=P+1:=by rw [H,(aW _).2.2.2];exact Hs.out
 have E2:a.bV 0=(0,zs 512):=by rw [H,fh u0 0 s0];exact GS
 have q2:a.cr=D.cr:=by rw [H,(aW _).1];rfl
 have r2:a.cw=gZ D.cw 1:=by rw [H,(aW _).2.1];rfl
 have p2:a.cf=gZ D.cf 1:=by rw [H,(aW _).2.2.1];rfl
 rw [<- H] at h7;have m2:FZ a 0=a:=by unfold FZ zW;rw [List.range_zero,List.map_nil,<- L1];rfl
 have e2:ag w7 (aL S7 d ((FZ a 0).cU o1)*(ak S7*c)):=by
  rw [m2];exact (h7.to (by ac_rfl:_=(rX cd ca cb d 0 (V (W ⟨f,0,X⟩) 512 512)*jY rb #[vm cd ca cb,vC d])*(aL S7 d (a.cU o1)*(ak S7*c)))).right
 have H7:=ae e2;have i1:=ae D7;have c1:=ae f2;have k1:=ae l2;have W1:=ae v2;have l1:=ae n2;have Y2:=ae L1;have k0:=ae z2;have X2:=ae E2;have U2:=ae q2;have V2:=ae r2;have T2:=ae p2;clear h7 e2 D7 f2 r H e0 v2 n2 L1 z2 E2 q2 r2 p2 u0 p1 m2 l2
 have g1:w7.cell? ⟨q,1,X⟩=W (Y .i64 (P:Int)):=by
  have:=H7.out;rw [i0.out] at this;exact (this.to (by ac_rfl:_=pt q (Z #[Y .i64 (n:Int),Y .i64 (P:Int)] 119 (0,0))*(pt f (Z y 5 (0,0))*(pt A (Z #[Y .i64 0] 28 (0,0))*(pt z (Z #[T X] 61 (0,0))*(F*(aL S7 d ((FZ a 0).cU o1)*ak S7))))))).cell 1
 go_upto_block 0 with (fail)
 go_cut [] from 32 to 42 (fun wx=>Qo S d P a o c w wx)
 case first=>
  go_wp2_with fail
  go_loopw [32] (fun h0 wr=>Qn S d P a o c w h0 wr) (fun h0 _=>P-(intOf h0).toNat)
  case atStart=>exact ⟨0,S7,o1,Nat.zero_le _,rfl,k1.out,H7.out,i1.out,c1.out⟩
  case round=>
   clear H7 i1 c1 k1 g1;obtain ⟨k,m,M,hk,rfl,n0,G,D8,m0⟩:=hrel
   by_cases D1:k<P
   .have b3:(k:Int)<(P:Int):=by omega
    have q3:IntKind.i64.wrap ((k:Int)+1)=(k:Int)+1:=by rw [IntKind.wrap_i64];omega
    have O:=uj wr d ((k:Int)+1) (W ⟨f,0,X⟩) 512 512;have J:=(((G.alloc (Z #[ay d] 24 (0,0))).alloc (Z #[Y .i64 ((k:Int)+1)] 3 (0,0))).alloc (Z #[V (W ⟨f,0,X⟩) 512 512] 37 (0,0))).alloc (Z #[.func (.func 160) #[] #[ay wr.heap.size,ay (wr.heap.size+1),ay (wr.heap.size+1+1)]] 112 (0,0));have D9:=(((D8.alloc (Z #[ay d] 24 (0,0))).alloc (Z #[Y .i64 ((k:Int)+1)] 3 (0,0))).alloc (Z #[V (W ⟨f,0,X⟩) 512 512] 37 (0,0))).alloc (Z #[.func (.func 160) #[] #[ay wr.heap.size,ay (wr.heap.size+1),ay (wr.heap.size+1+1)]] 112 (0,0));rw [B3,B3,B3] at J;have p:=ae J;have j1:=ae D9;have H0:=ae n0;have x:=ae m0;clear G D8 J D9 n0 m0
    go_wp2_with fail
    (with_reducible refine O.mono ?_)
    rintro e g ⟨rfl,rfl⟩;clear O
    go_wp2_with fail
    generalize (((wr.alloc (Z #[ay d] 24 (0,0))).alloc (Z #[Y .i64 ((k:Int)+1)] 3 (0,0))).alloc (Z #[V (W ⟨f,0,X⟩) 512 512] 37 (0,0))).alloc (Z #[.func (.func 160) #[] #[ay wr.heap.size,ay (wr.heap.size+1),ay (wr.heap.size+1+1)]] 112 (0,0))=g at p j1 ⊢;generalize wr.heap.size+1+1+1=rb at p ⊢;generalize wr.heap.size+1+1=cb at p ⊢;generalize wr.heap.size+1=ca at p ⊢;generalize wr.heap.size=cd at p ⊢;have J:ag g (aL m d ((FZ a k).cU M)*(ak m*(rX cd ca cb d ((k:Int)+1) (V (W ⟨f,0,X⟩) 512 512)*(jY rb #[vm cd ca cb]*c)))):=p.out.to (by unfold rX jY vm;ac_rfl);have N:=tR g m d ((FZ a k).cU M) cd ca cb rb _ c _ J D0.out (kn (NJ W1.out (by rw [k0.out];omega)) x.out.ok);clear J p
    (with_reducible refine N.mono ?_)
    rintro e Z0 ⟨R0,L0,j2,C,Y1⟩;have o0:=j1.out.trans Y1;have hE:Ext S L0:=H0.out.trans j2;clear N Y1 j1 j2;rcases N8 (k:=k) l1.out x.out.ok (by rw [k0.out];omega) with ⟨s,r0,r⟩|⟨hh,r⟩
    .rw [r] at R0 C
     rcases R0 with ⟨_,rfl⟩|⟨R0,_⟩
     case inr=>exact absurd rfl R0
     have I:=ae ((C.to (by ac_rfl:_=(rX cd ca cb d ((k:Int)+1) (V (W ⟨f,0,X⟩) 512 512)*jY rb #[vm cd ca cb])*(aL L0 d ((FZ a (k+1)).cU s)*(ak L0*c)))).right);have p0:=ae o0;have N2:=ae hE;have L2:=ae (x.out.trans r0);clear C o0 hE r0 r x
     go_wp2_with fail
     go_roundw
     case rel=>exact ⟨k+1,L0,s,by omega,by go_num,N2.out,I.out,p0.out,L2.out⟩
     case measure=>simp [intOf];omega
    .obtain ⟨K',hK⟩:=hh
     rw [x.out.none K0.out] at hK;cases hK
   .obtain rfl:k=P:=by omega
    have H8:=ae G;have G0:=ae D8;clear G D8
    go_wp2_with fail
    go_meet
    exact ⟨m,M,n0,H8.out,G0.out,m0⟩
 case rest=>
  clear H7 i1 c1 k1 g1;obtain ⟨m,M,n0,G,D8,m0⟩:=hcut;have U0:∀ h b,ag h (b*c)->ag h (pt q (Z #[Y .i64 (n:Int),Y .i64 (P:Int)] 119 (0,0))*((pt f (Z y 5 (0,0))*(pt A (Z #[Y .i64 0] 28 (0,0))*(pt z (Z #[T X] 61 (0,0))*F)))*b)):=fun h b hx=>hx.to (by rw [i0.out];ac_rfl);have g0:wc.cell? ⟨q,0,X⟩=W (Y .i64 (n:Int)):=(U0 _ (aL m d ((FZ a P).cU M)*ak m) (G.to (by ac_rfl))).cell 0;have g1:wc.cell? ⟨q,1,X⟩=W (Y .i64 (P:Int)):=(U0 _ (aL m d ((FZ a P).cU M)*ak m) (G.to (by ac_rfl))).cell 1;have z1:∀ h b,ag h (b*c)->nZ h:=fun h b hx=>Hh.out h (b*(pt f (Z y 5 (0,0))*(pt q (Z #[Y .i64 (n:Int),Y .i64 (P:Int)] 119 (0,0))*(pt A (Z #[Y .i64 0] 28 (0,0))*pt z (Z #[T X] 61 (0,0)))))) (hx.to (by rw [i0.out];ac_rfl));have y1:=Aa wc n P Hg.out (z1 wc (aL m d ((FZ a P).cU M)*ak m) (G.to (by ac_rfl)));unfold KY at y1;have i3:=ae U0;have l3:=ae z1;have H8:=ae G;have G0:=ae D8;have H0:=ae n0;have x:=ae m0;clear U0 z1 G D8 n0 m0
  go_wp2_with fail
  (with_reducible refine y1.mono ?_)
  rintro e g ⟨ev,rfl,J,d9⟩;have p:=J.under H8.out;have D9:=G0.out.trans d9;obtain ⟨u,v,rfl⟩:=p.lC.shape;rw [iA] at p ⊢;clear y1 J d9 H8 G0 g0 g1;have O:=uj g d 0 u 512 v;have C:=(((p.alloc (Z #[ay d] 24 (0,0))).alloc (Z #[Y .i64 0] 3 (0,0))).alloc (Z #[V u 512 v] 37 (0,0))).alloc (Z #[.func (.func 114) #[ay d] #[],.func (.func 160) #[] #[ay g.heap.size,ay (g.heap.size+1),ay (g.heap.size+1+1)],.func (.func 114) #[ay d] #[]] 112 (0,0));have o0:=(((D9.alloc (Z #[ay d] 24 (0,0))).alloc (Z #[Y .i64 0] 3 (0,0))).alloc (Z #[V u 512 v] 37 (0,0))).alloc (Z #[.func (.func 114) #[ay d] #[],.func (.func 160) #[] #[ay g.heap.size,ay (g.heap.size+1),ay (g.heap.size+1+1)],.func (.func 114) #[ay d] #[]] 112 (0,0));rw [B3,B3,B3] at C;have I:=ae C;have p0:=ae o0;clear p D9 C o0
  go_wp2_with fail
  (with_reducible refine O.mono ?_)
  rintro e Z0 ⟨rfl,rfl⟩;clear O
  go_wp2_with fail
  generalize (((g.alloc (Z #[ay d] 24 (0,0))).alloc (Z #[Y .i64 0] 3 (0,0))).alloc (Z #[V u 512 v] 37 (0,0))).alloc (Z #[.func (.func 114) #[ay d] #[],.func (.func 160) #[] #[ay g.heap.size,ay (g.heap.size+1),ay (g.heap.size+1+1)],.func (.func 114) #[ay d] #[]] 112 (0,0))=Z0 at I p0 ⊢;generalize g.heap.size+1+1+1=rb at I ⊢;generalize g.heap.size+1+1=cb at I ⊢;generalize g.heap.size+1=ca at I ⊢;generalize g.heap.size=cd at I ⊢;have C:ag Z0 (aL m d ((FZ a P).cU M)*(ak m*(rX cd ca cb d 0 (V u 512 v)*(jY rb #[vC d,vm cd ca cb,vC d]*(bs 5 (V u 512 v) (cR n P)*c))))):=I.out.to (by unfold rX jY vm vC;ac_rfl);have s0:(FZ a P).has 0:=⟨D3 _,by show (0:Int)<(a.sec.length:Int);rw [k0.out];omega⟩
  have d0:=NJ W1.out (k:=P) (by rw [k0.out];omega);obtain ⟨hC,i2⟩:=OR (n:=n) (P:=P) (wU l1.out P) d0 x.out.ok s0;have N:=Jp Z0 m d ((FZ a P).cU M) cd ca cb rb (V u 512 v) (bs 5 (V u 512 v) (cR n P)*c) n P C (fun h b hx=>(hx.to (by ac_rfl:_=bs 5 (V u 512 v) (cR n P)*(b*c))).lC) i2;clear I C i2
  (with_reducible refine N.mono ?_)
  rintro e M1 ⟨S0,j,k2,N0,Z1⟩;have N1:=p0.out.trans Z1;have hE:Ext S j:=H0.out.trans k2;clear N Z1 p0 k2
  -- what the device is
  have q1:=wU l1.out P;have e0:=az.gH d0;rw [q1.flush] at e0;have x2:(FZ a P).aF.Ok:=e0.ok d0 (by have:=d0.many;omega);have o2:(FZ a P).aF.Calm:=gU q1;have D2:(FZ a P).aF.sec.length=P+1:=by rw [(aW _).2.2.2];exact k0.out
  have H2:Zero P (FZ a P).aF:=fun K2 hp=>by rw [fh d0 _ ⟨by omega,by show (K2:Int)+1<(a.sec.length:Int);rw [k0.out];omega⟩];exact M0 a P K2 hp
  have e3:(FZ a P).aF.bV 0=(0,zs 512):=by rw [fh d0 _ s0,FQ Y2.out];exact X2.out
  rcases hC with ⟨s,r0,r⟩|⟨s2,E,n3,r⟩
  case inr=>exact absurd (x.out.none K0.out) s2
  rw [r] at S0 N0;rcases S0 with ⟨_,rfl⟩|⟨S0,_⟩
  case inr=>exact absurd rfl S0
  obtain ⟨K1,W0,v1,x1,u1⟩:=Mg x2 o2 rfl D2 H2 Hg.out
  have r1:O5 n P D o (FS n P (FZ a P).aF).aF s:=by
   refine ⟨K1,rfl,by rw [W0,Hs.out],?_,?_,?_,x.out.trans r0⟩
   .rw [v1,(aW _).1];exact U2.out
   .rw [x1,(aW _).2.1]
    show bY (gZ a.cw P+1)=_
    rw [V2.out,Fp,show P+2=(1+P)+1 by omega];rfl
   .rw [u1,(aW _).2.2.1]
    show bY (bY (a.cf+1)+1)=_
    rw [T2.out];rfl
  generalize (FS n P (FZ a P).aF).aF=t at N0 K1 W0 v1 x1 u1 r1;have S1:ag M1 (aL j d (t.cU s)*(ak j*c)):=(N0.to (by ac_rfl:_=(rX cd ca cb d 0 (V u 512 v)*(jY rb #[vC d,vm cd ca cb,vC d]*bs 5 (V u 512 v) (cR n P)))*(aL j d (t.cU s)*(ak j*c)))).right;have R2:=ae r1;clear N0 r K1 v1 x1 u1 x2 o2 D2 H2 e3 e0 q1 d0 r1 r0 x H0 D0;obtain ⟨F0,n1⟩:∃ l,l=l7 n 0:=⟨_,rfl⟩
  have E1:∀ w,(Instr.makeSlice 22 (Y .i64 (n:Int)) (Y .i64 (n:Int))).run U w = .ok (V (W ⟨w.heap.size,0,X⟩) n n) (w.alloc (Z (ints F0) 3 (0,0))):=by
   rw [n1];exact qI n (by omega)
  have P2:=ae n1;have q0:=S1.alloc (Z (ints F0) 3 (0,0));have a1:=N1.alloc (Z (ints F0) 3 (0,0));clear n1 S1 N1
  go_upto_block 2 with (fail)
  generalize M1.alloc (Z (ints F0) 3 (0,0))=s3 at q0 a1 ⊢;generalize M1.heap.size=L at q0 ⊢;obtain ⟨Z2,t1⟩:∃ b,b=aL j d (t.cU s)*(ak j*c):=⟨_,rfl⟩
  rw [<- t1] at q0;have S2:=ae t1;have b1:=ae q0;have e1:=ae a1;have O2:=ae hE;have X1:=ae W0;clear t1 E1 q0 a1 hE W0
  go_cut [] from 57 to 63 (fun wx=>ag wx (pt L (Z (ints (G3 n (-1))) 3 (0,0))*Z2)/\aj w wx)
  case first=>
   go_wp2_with fail
   go_loopw [57] (fun h0 wr=>I0 n L Z2 w h0 wr) (fun h0 _=>n-(intOf h0).toNat)
   case atStart=>exact ⟨0,Nat.zero_le _,rfl,by rw [<- P2.out];exact b1.out,e1.out⟩
   case round=>
    clear b1 e1;obtain ⟨k,hk,rfl,f0,X0⟩:=hrel
    by_cases D1:k<n
    .have b3:(k:Int)<(n:Int):=by omega
     have ck:wr.cell? ⟨L,k,X⟩=W (Y .i64 ((l7 n k).getD k 0)):=(f0.cell k).trans (bD (by rw [E3 hk];exact D1));have fk:=f0.frozen k;have h2:=f0.setCell k (Y .i64 (-1));rw [fX,EZ D1] at h2;have c3:=ae h2;have W2:=ae X0;generalize (l7 n k).getD k 0=uo at ck;clear f0 X0 h2
     go_wp2
     go_roundw
     case rel=>exact ⟨k+1,by omega,by go_num,c3.out,W2.out.setCell _ _⟩
     case measure=>simp [intOf];omega
    .obtain rfl:k=n:=by omega
     have e:l7 k k=G3 k (-1):=by simp [l7]
     rw [e] at f0;have Hs:=ae f0;have Hd:=ae X0;clear f0 X0 e
     go_wp2_with fail
     go_meet
     exact ⟨Hs.out,Hd.out⟩
  case rest=>
   clear b1 e1;obtain ⟨l0,O1⟩:=hcut;rw [S2.out] at l0;have m1:ag wc (pt q (Z #[Y .i64 (n:Int),Y .i64 (P:Int)] 119 (0,0))*(pt f (Z y 5 (0,0))*(pt A (Z #[Y .i64 0] 28 (0,0))*(pt z (Z #[T X] 61 (0,0))*F))*(pt L (Z (ints (G3 n (-1))) 3 (0,0))*(aL j d (t.cU s)*ak j)))):=l0.to (by rw [i0.out];ac_rfl);have g0:wc.cell? ⟨q,0,X⟩=W (Y .i64 (n:Int)):=m1.cell 0;have g1:wc.cell? ⟨q,1,X⟩=W (Y .i64 (P:Int)):=m1.cell 1;have A1:(mr n).at_.length=n:=J3
   have y2:Calls U 116 #[ay d,.agg #[Y .i64 (n:Int),Y .i64 (P:Int)],.agg #[Y .u32 1,Y .u64 1,Y .u64 0,Y .i64 0,Y .i64 0,V (W ⟨L,0,X⟩) n n]] wc (ti d n P (J0 P n) wc):=by
    refine mf wc j d (t.cU s) _ (l0.to (by ac_rfl:_=aL j d (t.cU s)*(pt L (Z (ints (G3 n (-1))) 3 (0,0))*(ak j*c)))) n P (mr n) (V (W ⟨L,0,X⟩) n n) (.inr ⟨L,0,n,by rw [A1],by rw [A1];exact Nat.le_refl _,by unfold maxLen;omega,fun k hk=>?_⟩) (by omega) (by omega) (by rw [pQ,X1.out];omega) (by rw [pQ,X1.out];omega) (show (0:Int)<=0 by decide) (rD (by omega) (by omega) (by omega)) (by omega);rw [Nat.zero_add,l0.cell];exact bD hk
   have T1:=ae l0;have U1:=ae O1;clear l0 m1 O1 A1
   go_wp2_with fail
   (with_reducible refine y2.mono ?_)
   rintro e g3 ⟨Y0,J2,rfl,c2,a2⟩;have R1:=U1.out.trans a2;have c0:ag g3 (pt z (Z #[T X] 61 (0,0))*(pt A (Z #[Y .i64 0] 28 (0,0))*((pt L (Z (ints (G3 n (-1))) 3 (0,0))*(pt q (Z #[Y .i64 (n:Int),Y .i64 (P:Int)] 119 (0,0))*pt f (Z y 5 (0,0))))*(et Y0 J2 d n P (J0 P n)*(aL j d (t.cU s)*(ak j*F)))))):=(c2.under T1.out).to (by rw [i0.out];ac_rfl);have a0:=c0.cell 0;have b0:=c0.ah.cell 0;have fa:=c0.frozen 0;have m3:=c0.ah.frozen 0;have s2:z≠A:=ag.ne c0;have HK:=ae ((c0.setCell 0 (ay Y0)).ah.setCell 0 (Y .i64 0));have M2:=ae ((R1.setCell ⟨z,0,X⟩ (ay Y0)).setCell ⟨A,0,X⟩ (Y .i64 0));clear y2 c2 c0 a2 R1 T1 U1 g0 g1
   go_wp2_with fail
   exact E4 rfl rfl (HK.out.ah.cell 0) (HK.out.cell 0) (.inr ⟨Y0,J2,j,t,s,O2.out,rfl,HK.out.right.right.right,M2.out,R2.out⟩)
def lj (n:Int):Int:=if n<4\/3840<n then 0 else (5*n+241)/2
theorem Bt {n:Nat} (a:4<=n) (b:n<=3840):lj (n:Int)=(((5*n+241)/2:Nat):Int):=by
 unfold lj;rw [if_neg (by omega)];omega
theorem Ft (w:Q) (n:Int):Calls U 25 #[Y .i64 n] w fun e f=>e = .returned (Y .i64 (lj n))/\w=f:=by
 go_enter func25,ntmps25
 by_cases h:n<4
 .have e:lj n=0:=by unfold lj;rw [if_pos (.inl h)]
  rw [e]
  go_wp2
  go_ret
  exact ⟨rfl,rfl⟩
 .by_cases c:3840<n
  .have e:lj n=0:=by unfold lj;rw [if_pos (.inr c)]
   rw [e]
   go_wp2
   go_ret
   exact ⟨rfl,rfl⟩
  .have e:lj n=(5*n+241)/2:=by unfold lj;rw [if_neg (by omega)]
   have g:IntKind.i64.wrap ((IntKind.i64.wrap (IntKind.i64.wrap (IntKind.i64.wrap (IntKind.i64.wrap (5*n)+240)+2)-1)).tdiv 2)=(5*n+241)/2:=by
    have a:IntKind.i64.wrap (5*n)=5*n:=by rw [IntKind.wrap_i64];omega
    have b:IntKind.i64.wrap (5*n+240)=5*n+240:=by rw [IntKind.wrap_i64];omega
    have a3:IntKind.i64.wrap (5*n+240+2)=5*n+242:=by rw [IntKind.wrap_i64];omega
    have a4:IntKind.i64.wrap (5*n+242-1)=5*n+241:=by rw [IntKind.wrap_i64];omega
    rw [a,b,a3,a4,Int.tdiv_eq_ediv_of_nonneg (by omega),IntKind.wrap_i64];omega
   rw [e]
   go_wp2
   go_ret
   refine ⟨?_,rfl⟩;rw [show 5*n+240+2-1=5*n+241 by omega]
   rfl
end Go.Proofs.Su
