/- Steps. -/
import Derived.Test.YtebfaobobccikaaGreatDoorLP37
import Derived.Test.YtebfaobobccikaaGreatDoorLP44
set_option linter.all false
set_option maxRecDepth 99999
set_option maxHeartbeats 0
open Go.SL
open Go.Value renaming int->Y,slice->V,pointer->T
open Go.Obj renaming cells->Z
open Go renaming World->Q,Value->Z'
open Go.Proofs.Tryz renaming prog->U
open Option renaming some->W,none->X
open Go.Proofs.Tryz
open Go.World renaming size_alloc->A3
open Int renaming le_refl->B3
open List renaming replicate->D3,length_replicate->G3,nil_append->J3
namespace Go.Proofs.Nn
open RowKit SL Proofs.Su
def rP:Has:=fun _=>X
def Zero (P:Nat) (D:aC):Prop:=∀ p:Nat,p<P->D.cy ((p:Int)+1)=(0,zs 512)
section
variable {n P B:Nat} {D E:aC} {K:List Int}
theorem CO (h:Zero P D):zw P D=fun _=>X:=by
 funext p;unfold zw
 split
 .rename_i a
  rw [h p a.1,DT];rfl
 .rfl
theorem DN (b:1<=P) (a:n<=P):FI n P (fun _=>X) 0 0 (fun _=>X):=
 ⟨by omega,a,B3 _,fun _=>rfl,fun p t _ h=>(by cases h),fun p t _ h=>(by cases h),fun c p h=>(by cases h),fun h=>absurd h (by decide),fun e=>⟨1,0,by decide,by decide,fun p t _ h=>(by cases h)⟩⟩
theorem NR (q:Zero P D) (m:D.Ok) (j:D.Calm) (r:P+1<=D.sec.length) (b:1<=P) (i:P<=19999) (f:1<=n) (g:n<=3840) (l:n<=P):JT n (J0 P n) D rP:=by
 have h:=IB (P:=P) (n:=n) b i f g;refine ⟨⟨h.ok,h.nums,m,h.br,j,by show (P:Int)+1<=_;omega,h.Jh,h.rm,h.win,fun a p c=>?_,h.Ug⟩,UD P n,?_⟩
 .rw [Ro,(Tb.iQ n P a).1] at c;cases c
 .have e:O0 (J0 P n)=fun _=>X:=by
   funext a;unfold O0;rw [Ro,(Tb.iQ n P a).1];rfl
  show UC n P (zw P D) 0 0 (O0 (J0 P n)) 1 1
  rw [CO q,e];exact (DN b l).run fun p t _ h=>by cases h
theorem Pd (g:Zero P D) (e:D.Ok) (b:D.Calm) (f:P+1<=D.sec.length) (c:nO n P=true) (a:D.cy 0=(0,cY n P)):Sj n P 1 (cY n P) (J0 P n) D rP:=by
 have h:=eC.1 c;exact ⟨NR g e b f (by omega) (by omega) (by omega) (by omega) (by omega),Cd P n,rfl,by show (0:Int)<=_;omega,by show (1:Int)<=_;omega,a⟩
def F1 (D:aC):aC:={ D with cw:=cD (D.cw+1),wait:=D.wait++[((0:Int),zs 512)] }
def zW (k:Nat):List (Int × List UInt8):=(List.range k).map fun i:Nat=>((i:Int)+1,zs 512)
def FZ (D:aC) (k:Nat):aC:={ D with cw:=iI D.cw k,wait:=zW k }
def FS (n P:Nat) (D:aC):aC:={ D with cw:=cD (D.cw+1),wait:=[((0:Int),cY n P)] }
theorem Fl (k:Nat):zW (k+1)=zW k++[((k:Int)+1,zs 512)]:=by simp [zW,List.range_succ]
theorem oY (n:Nat):(zs n).length=n:=G3
theorem xn (a:Int) (k:Nat):eo (zW k) a=if 1<=a/\a<=(k:Int) then W (zs 512) else X:=by
 induction k with
 | zero=>rw [if_neg (by omega)];rfl
 | succ k c=>
  rw [Fl,jj,c]
  by_cases h:(k:Int)+1=a
  .rw [if_pos h,if_pos (by omega)]
  .rw [if_neg h]
   by_cases b:1<=a/\a<=(k:Int)
   .rw [if_pos b,if_pos (by omega)]
   .rw [if_neg b,if_neg (by omega)]
theorem PK (h:D.Ok) (b:D.wait.length<=1000) (c:1<=D.sec.length):(F1 D).Ok:=by
 refine ⟨h.n,fun x a=>?_,by show (D.wait++[((0:Int),zs 512)]).length<=_;rw [List.length_append];simp;omega,h.bB⟩;rcases List.mem_append.1 a with a|a
 .exact h.wait x a
 .obtain rfl:x=((0:Int),zs 512):=by simpa using a
  exact ⟨B3 _,by show (0:Int)<(D.sec.length:Int);omega⟩
theorem FK (h:D.Calm):(F1 D).Calm:=⟨h.down,h.eV⟩
theorem Ml:(F1 D).cy 0=(0,zs 512):=by
 unfold aC.cy;show (match eo (D.wait++[((0:Int),zs 512)]) 0 with|some l=>_|none=>_)=_
 rw [jj,if_pos rfl];show ((0:Int),bW 512 (zs 512))=_
 rw [jZ (oY 512)]
theorem PJ (h:D.Ok) {k:Nat} (c:k+1<=D.sec.length):(FZ D k).Ok:=by
 have:=h.n;refine ⟨h.n,fun x b=>?_,by show (zW k).length<=_;simp [zW];omega,h.bB⟩;obtain ⟨i,a,rfl⟩:=List.mem_map.1 (show x ∈ zW k from b);have:=List.mem_range.1 a;exact ⟨by show (0:Int)<=(i:Int)+1;omega,by show (i:Int)+1<(D.sec.length:Int);omega⟩
theorem y4 (h:D.Calm) (k:Nat):(FZ D k).Calm:=⟨h.down,h.eV⟩
theorem Po (D:aC) (P:Nat):Zero P (FZ D P):=by
 intro p a;unfold aC.cy;show (match eo (zW P) _ with|some l=>_|none=>_)=_
 rw [xn,if_pos (by omega)];show ((0:Int),bW 512 (zs 512))=_
 rw [jZ (oY 512)]
theorem IK (a:D.wait=[]) (k:Nat):(FZ D k).cy 0=D.cy 0:=by
 unfold aC.cy;show (match eo (zW k) 0 with|some l=>_|none=>_)=match eo D.wait 0 with|some l=>_|none=>_
 rw [xn,if_neg (by omega),a]
 rfl
end
end Go.Proofs.Nn
namespace Go.Proofs.Su
open RowKit SL Proofs.Nn Proofs.Ba Proofs.Fs
def tF (cd ca cb d:Nat) (a:Int) (bv:Z'):ai:=pt cd (Z #[az d] 24 (0,0))*(pt ca (Z #[Y .i64 a] 3 (0,0))*pt cb (Z #[bv] 22 (0,0)))
theorem zc (w:Q) (S:Hp) (d:Nat) (D:aC) (cd ca cb:Nat) (a:Int) (bv:Z') (l:List UInt8) (F:ai) (h:ag w (aS S d D*(aq S*(tF cd ca cb d a bv*F)))) (x:D.Ok) (f:∀ q D',ag q (aS S d D'*(aq S*(tF cd ca cb d a bv*F)))->Rd q bv l) (c:l.length=512) :
  Calls U 165 #[az cd,az ca,az cb] w (gS S d (D.write a l).2 (Y .i64 (D.write a l).1) (tF cd ca cb d a bv*F) w):=by
 have g:=f w D h;have i:=oE w S d D a bv l _ h x g f (by rw [c];decide);have b:=h;unfold tF at b;have u:w.cell? ⟨cd,0,X⟩=W (az d):=(b.to (by ac_rfl:_=pt cd (Z #[az d] 24 (0,0))*(pt ca (Z #[Y .i64 a] 3 (0,0))*(pt cb (Z #[bv] 22 (0,0))*(aS S d D*(aq S*F)))))).cell 0;have v:w.cell? ⟨ca,0,X⟩=W (Y .i64 a):=(b.to (by ac_rfl:_=pt ca (Z #[Y .i64 a] 3 (0,0))*(pt cd (Z #[az d] 24 (0,0))*(pt cb (Z #[bv] 22 (0,0))*(aS S d D*(aq S*F)))))).cell 0;have j:w.cell? ⟨cb,0,X⟩=W bv:=(b.to (by ac_rfl:_=pt cb (Z #[bv] 22 (0,0))*(pt cd (Z #[az d] 24 (0,0))*(pt ca (Z #[Y .i64 a] 3 (0,0))*(aS S d D*(aq S*F)))))).cell 0;obtain ⟨z,A,rfl⟩:=g.shape;clear h b f g;rw [c] at i j ⊢;clear c
 go_enter func165,ntmps165
 go_wp2_with fail
 (with_reducible refine i.mono ?_)
 rintro e C ⟨t,y,rfl,p,m⟩;have s:=ae p;have r:=ae m;clear i p m u v j
 go_wp2_with fail
 go_ret
 exact ⟨t,y,rfl,s.out,r.out⟩
def dD (a:Nat->aC->Int × aC) (D:aC):Nat->Int × aC
 | 0=>(0,D)
 | k+1=>if (dD a D k).1=0 then a k (dD a D k).2 else dD a D k
theorem I4 (a:Nat->aC->Int × aC) (D:aC) {k:Nat} (h:(dD a D k).1≠0):∀ m,k<=m->dD a D m=dD a D k:=by
  intro m e
  induction m with
  | zero => obtain rfl : k = 0 := by omega
            rfl
  | succ m c=>
    by_cases b:k=m+1
    · rw [b]
    · have:=c (by omega)
      rw [dD,this,if_neg h]
def FU (S:Hp) (d:Nat) (R:Int × aC) (c:ai) (w:Q) (e:Ending) (b:Q):Prop:=
 (R.1=0/\e = .returned (.tuple #[])\/R.1≠0/\e = .panicked (Vi 2))/\∃ a,Ext S a/\ag b (aS a d R.2*(aq a*c))/\aj w b
theorem ve (m:Nat) (f:Nat->FuncId × Array Z' × Array Z') (b:Nat->aC->Int × aC) (S:Hp) (d g:Nat) (D:aC) (j:ai) (L:m<=10)
  (I:∀ c H k,ag c (H*j)->k<m->c.cell? ⟨g,k,X⟩=W (.func (.func (f k).1) (f k).2.1 (f k).2.2))
  (J:∀ k,k<m->∀ (x:Array Z') (w:Q),(callFunc (f k).1 x).run U w = .ok (.enter (f k).1 x) w)
  (N:∀ k,k<m->∀ c a D',Ext S a->D'.Ok->ag c (aS a d D'*(aq a*j))->Calls U (f k).1 ((f k).2.1++(f k).2.2) c (gS a d (b k D').2 (Y .i64 (b k D').1) j c))
  (M:∀ k,k<m->(dD b D k).1=0->(dD b D k).2.Ok) (w:Q) (h:ag w (aS S d D*(aq S*j))) :
  Calls U 119 #[V (W ⟨g,0,X⟩) m m] w (FU S d (dD b D m) j w):=by
 refine (NM m f (fun k c=>(dD b D k).1=0/\∃ a,Ext S a/\ag c (aS a d (dD b D k).2*(aq a*j))/\aj w c) (fun c=>(dD b D m).1≠0/\∃ a,Ext S a/\ag c (aS a d (dD b D m).2*(aq a*j))/\aj w c) g L ?_ ?_ w ⟨rfl,S,Ext.refl S,h,aj.refl w⟩).mono ?_
 .rintro i k c hi ⟨_,a,_,s,_⟩ p
  exact I c _ k (s.to (by ac_rfl:_=(aS a d (dD b D i).2*aq a)*j)) p
 .intro k p
  refine ⟨J k p,?_⟩;rintro c ⟨C,a,u,s,y⟩;refine (N k p c a _ u (M k p C) s).mono ?_;rintro e O ⟨v,F,rfl,l,z⟩;have q:dD b D (k+1)=b k (dD b D k).2:=by rw [dD,if_pos C]
  refine ⟨_,rfl,?_⟩
  by_cases r:(b k (dD b D k).2).1=0
  .exact .inl ⟨r,by rw [q];exact r,v,u.trans F,by rw [q];exact l,y.trans z⟩
  .have G:(dD b D (k+1)).1≠0:=by rw [q];exact r
   have A:=I4 b D G m (by omega);exact .inr ⟨r,by rw [A];exact G,v,u.trans F,by rw [A,q];exact l,y.trans z⟩
 .rintro e O (⟨rfl,t,l⟩|⟨rfl,t,l⟩)
  .exact ⟨.inl ⟨t,rfl⟩,l⟩
  .exact ⟨.inr ⟨t,rfl⟩,l⟩
def ng (m k:Nat):List Int:=D3 k (-1)++D3 (m-k) 0
theorem I5 {m k:Nat} (h:k<=m):(ng m k).length=m:=by simp [ng];omega
theorem Ie {m k:Nat} (h:k<m):(ng m k).set k (-1)=ng m (k+1):=by
 unfold ng;rw [List.set_append_right _ _ (by simp),G3,Nat.sub_self,show m-k=(m-(k+1))+1 by omega,List.replicate_succ,List.replicate_succ',List.append_assoc]
 rfl
def LF (m b:Nat) (a:ai) (w:Q) (u:Z') (wr:Q):Prop:=
 ∃ k:Nat,k<=m/\u = Y .i64 (k:Int)/\ag wr (pt b (Z (ints (ng m k)) 3 (0,0))*a)/\aj w wr
section
variable {D:aC} {o:Ar} {n P k:Nat} {K:List Int}
def qd (k:Nat) (D:aC):Int × aC:=if k=0 then D.write 0 (zs 512) else D.flush
def NU (a:Int) (_:Nat) (D:aC):Int × aC:=D.write a (zs 512)
def nz (n P k:Nat) (D:aC):Int × aC:=if k=1 then D.write 0 (cY n P) else D.flush
theorem lS (h:D.Calm) (f:oH o) {a:Int} (c:D.has a) {l:List UInt8} (e:l.length=512) :
  (¬ ke o/\(D.df o).write a l=(0,({ D with cw:=cD (D.cw+1),wait:=D.wait++[(a,l)] }:aC).df (mC o)))\/(ke o/\(D.df o).write a l=(2,D.fP (Ir o))):=by
 by_cases b:ke o
 .exact .inr ⟨b,wR h b c e⟩
 .exact .inl ⟨b,zL h f b c e⟩
theorem lM (h:D.Calm) (b:oH o):(¬ ke o/\(D.df o).flush=(0,D.aI.df (mC o)))\/(ke o/\(D.df o).flush=(2,D.fP (Ir o))):=by
 by_cases a:ke o
 .exact .inr ⟨a,wY h a⟩
 .exact .inl ⟨a,yD h b a⟩
theorem uO (a:Nat->aC->Int × aC) (D:aC):dD a D 1=a 0 D:=by rw [dD,dD];rfl
theorem Qz (h:D.Calm) (m:D.Ok) (C:D.wait.length<=1000) (b:oH o) (r:D.has 0) :
  ((∃ a,o=W (0,a)/\dD qd (D.df o) 2=(2,D.fP (Ir o)))\/(∃ a,o=W (1,a)/\dD qd (D.df o) 2=(2,(F1 D).fP (Ir o)))\/(∃ o',mM o o'/\dD qd (D.df o) 2=(0,(F1 D).aI.df o'))) /\
  (∀ k,k<2->(dD qd (D.df o) k).1=0->(dD qd (D.df o) k).2.Ok):=by
 have z:=PK m C (by have:=r.2;omega);have c:dD qd (D.df o) 1=(D.df o).write 0 (zs 512):=uO _ _;have q:dD qd (D.df o) 2=if (dD qd (D.df o) 1).1=0 then (dD qd (D.df o) 1).2.flush else dD qd (D.df o) 1:=rfl
 rcases lS h b r (oY 512) with ⟨l,g⟩|⟨l,g⟩
 .have y:({ D with cw:=cD (D.cw+1),wait:=D.wait++[((0:Int),zs 512)] }:aC)=F1 D:=rfl
  rw [y] at g;rw [g] at c;refine ⟨?_,fun k A i=>?_⟩
  .rw [q,c,if_pos rfl]
   show _\/(∃ a,o=W (1,a)/\((F1 D).df (mC o)).flush=_)\/∃ o',_/\((F1 D).df (mC o)).flush=_
   rcases lM (FK h) b.dec with ⟨s,j⟩|⟨s,j⟩
   .exact .inr (.inr ⟨_,(mM.dec b).trans (mM.dec b.dec),j⟩)
   .refine .inr (.inl ?_)
    rw [j,qJ];obtain ⟨a,f⟩:=s
    cases o with
    | none=>cases f
    | some x=>
     obtain ⟨N,p⟩:=x;injection f with f;injection f with u v
     have:N≠0:=fun e=>l ⟨p,by rw [e]⟩;simp only at u v;exact ⟨p,by rw [show N=1 by omega],rfl⟩
  .cases k with
   | zero=>exact kY m b
   | succ k=>
    obtain rfl:k=0:=by omega
    rw [c];exact kY z b.dec
 .rw [g] at c
  have t:¬ (2:Int)=0:=by decide
  refine ⟨.inl ?_,fun k A i=>?_⟩
  .obtain ⟨a,f⟩:=l
   exact ⟨a,f,by rw [q,c,if_neg t]⟩
  .cases k with
   | zero=>exact kY m b
   | succ k=>
    obtain rfl:k=0:=by omega
    rw [c] at i;exact absurd i t
theorem Rg (h:D.Calm) (c:oH o) (e:k+1<D.sec.length) :
  (∃ o',mM o o'/\dD (NU ((k:Int)+1)) ((FZ D k).df o) 1=(0,(FZ D (k+1)).df o'))\/(ke o/\dD (NU ((k:Int)+1)) ((FZ D k).df o) 1=(2,(FZ D k).fP (Ir o))):=by
 rw [uO];show (∃ o',_/\((FZ D k).df o).write ((k:Int)+1) (zs 512)=_)\/(_/\((FZ D k).df o).write ((k:Int)+1) (zs 512)=_)
 rcases lS (y4 h k) c (a:=(k:Int)+1) ⟨by omega,by show (k:Int)+1<(D.sec.length:Int);omega⟩ (oY 512) with ⟨b,a⟩|⟨b,a⟩
 .refine .inl ⟨_,mM.dec c,?_⟩
  have:({ FZ D k with cw:=cD ((FZ D k).cw+1),wait:=(FZ D k).wait++[((k:Int)+1,zs 512)] }:aC)=FZ D (k+1):=by
   show ({ D with cw:=cD (iI D.cw k+1),wait:=zW k++[((k:Int)+1,zs 512)] }:aC)=_
   rw [<- Fl];rfl
  rw [a,this]
 .exact .inr ⟨b,a⟩
theorem QR (h:D.Calm) (j:D.Ok) (a:oH o) (A:D.has 0) :
  ((∃ o',mM o o'/\dD (nz n P) (D.df o) 3=(0,(FS n P D.aI).aI.df o'))\/(o≠X/\∃ E,(E=D\/E=D.aI\/E=FS n P D.aI)/\dD (nz n P) (D.df o) 3=(2,E.fP (Ir o)))) /\
  (∀ k,k<3->(dD (nz n P) (D.df o) k).1=0->(dD (nz n P) (D.df o) k).2.Ok):=by
 have u:=aC.ig j;rw [h.flush] at u;have m:D.aI.Ok:=u.ok j (by have:=j.many;omega);have s:D.aI.Calm:=iu h;have H:D.aI.sec.length=D.sec.length:=(bq D).2.2.2;have t:D.aI.has 0:=⟨B3 _,by rw [H];exact A.2⟩
 have G:∀ x ∈ (FS n P D.aI).wait,(FS n P D.aI).has x.1:=by
  intro x I;obtain rfl:x=((0:Int),cY n P):=by simpa [FS] using I
  exact t
 have F:(FS n P D.aI).Ok:=⟨m.n,G,by show [((0:Int),cY n P)].length<=_;simp,m.bB⟩
 have f:dD (nz n P) (D.df o) 1=(D.df o).flush:=uO _ _;have b:dD (nz n P) (D.df o) 2=if (dD (nz n P) (D.df o) 1).1=0 then (dD (nz n P) (D.df o) 1).2.write 0 (cY n P) else dD (nz n P) (D.df o) 1:=rfl
 have g:dD (nz n P) (D.df o) 3=if (dD (nz n P) (D.df o) 2).1=0 then (dD (nz n P) (D.df o) 2).2.flush else dD (nz n P) (D.df o) 2:=rfl
 have i:¬ (2:Int)=0:=by decide
 rcases lM h a with ⟨v,q⟩|⟨v,q⟩
 .rw [q] at f
  rw [f,if_pos rfl] at b;rcases lS s a.dec t (jc n P) with ⟨y,p⟩|⟨y,p⟩
  .have C:({ D.aI with cw:=cD (D.aI.cw+1),wait:=D.aI.wait++[((0:Int),cY n P)] }:aC)=FS n P D.aI:=rfl
   rw [C] at p;rw [p] at b;rw [b,if_pos rfl] at g;refine ⟨?_,fun k l c=>?_⟩
   .rcases lM (D:=FS n P D.aI) ⟨s.down,s.eV⟩ a.dec.dec with ⟨z,r⟩|⟨z,r⟩
    .exact .inl ⟨_,((mM.dec a).trans (mM.dec a.dec)).trans (mM.dec a.dec.dec),g.trans r⟩
    .refine .inr ⟨fun e=>vf z (l8 (l8 e)),_,.inr (.inr rfl),g.trans (r.trans ?_)⟩
     rw [qJ,qJ]
   .match k,l with
    | 0,_=>exact kY j a
    | 1,_=>rw [f];exact kY m a.dec
    | 2,_=>rw [b];exact kY F a.dec.dec
  .rw [p] at b
   rw [b,if_neg i] at g;refine ⟨.inr ⟨fun e=>vf y (l8 e),_,.inr (.inl rfl),g.trans (by rw [qJ])⟩,fun k l c=>?_⟩
   match k,l with
   | 0,_=>exact kY j a
   | 1,_=>rw [f];exact kY m a.dec
   | 2,_=>rw [b] at c;exact absurd c i
 .rw [q] at f
  rw [f,if_neg i] at b;rw [b,if_neg i] at g;refine ⟨.inr ⟨vf v,_,.inl rfl,g⟩,fun k l c=>?_⟩
  match k,l with
  | 0,_=>exact kY j a
  | 1,_=>rw [f] at c;exact absurd c i
  | 2,_=>rw [b] at c;exact absurd c i
end
theorem L9 (w:Q) (c f:Addr) :
    CallsD U 114 #[T (W c),T (W f)] .returning w fun e u g=>e = .returned (.tuple #[])/\u = .returning/\w=g:=by
  refine callsD_of_wpS func114 rfl fun a h b=>?_;apply wpS_seq;apply wpS_region
  simp only [ntmps114,List.size_toArray,List.length_cons,List.length_nil,Nat.reduceAdd,Nat.reduceSub,Array.replicate_succ,
     Array.replicate_zero,List.push_toArray,List.append_toArray,J3,List.cons_append]
  simp [wpOpsS,go_sem,recoverD,b,Exit.thenS];refine wpS_of_wp ?_
  go_wp2
  cases a
  simp_all [bodyPostS,results,Tryz.results114]
theorem BE {w:Q} {c:Array Z'} {a b:Nat} {x e:Z'} (f:c[4]?=W (az a)) (g:c[5]?=W (az b)) (h:w.cell? ⟨a,0,X⟩=W x) (i:w.cell? ⟨b,0,X⟩=W e) :
  (results Tryz.f64 c).run U w = .ok (.tuple #[x,e]) w:=by
 simp [results,Tryz.results64,go_sem,f,g,h,i]
theorem Ic {w:Q} {c:Array Z'} {a b:Nat} {x z:Z'} {R:Ending->Q->Prop} (f:c[4]?=W (az a)) (g:c[5]?=W (az b))
  (i:w.cell? ⟨a,0,X⟩=W x) (j:w.cell? ⟨b,0,X⟩=W z) (h:R (.returned (.tuple #[x,z])) w) :
  bodyPostD U Tryz.f64 R Exit.ret { tmps:=c,defers:=[{ target:=.fn (.func 114) #[T (W ⟨a,0,X⟩),T (W ⟨b,0,X⟩)],args:=#[] }] } w:=by
 refine leaves_cons (f:=114) (args:=#[T (W ⟨a,0,X⟩),T (W ⟨b,0,X⟩)]) (by simp) (by simp [go_sem]) ?_;refine (L9 w ⟨a,0,X⟩ ⟨b,0,X⟩).mono ?_;rintro e u l ⟨rfl,rfl,rfl⟩;exact ⟨_,BE f g i j,h⟩
def wW (cd ca cb:Nat):Z':=.func (.func 165) #[] #[az cd,az ca,az cb]
def xV (d:Nat):Z':=.func (.func 121) #[az d] #[]
def kV (rb:Nat) (a:Array Z'):ai:=pt rb (Z a 111 (0,0))
section
variable (w:Q) (S:Hp) (d:Nat) (D:aC) (cd ca cb rb:Nat) (bv:Z') (R:ai)
theorem Nc (h:ag w (aS S d D*(aq S*(tF cd ca cb d 0 bv*(kV rb #[wW cd ca cb,xV d]*R))))) (r:∀ a f,ag a (f*R)->Rd a bv (zs 512)) (q:∀ k,k<2->(dD qd D k).1=0->(dD qd D k).2.Ok) :
  Calls U 119 #[V (W ⟨rb,0,X⟩) 2 2] w (FU S d (dD qd D 2) (tF cd ca cb d 0 bv*(kV rb #[wW cd ca cb,xV d]*R)) w):=by
 refine ve 2 (fun k=>if k=0 then (165,#[],#[az cd,az ca,az cb]) else (121,#[az d],#[])) qd S d rb D _ (by decide) ?_ ?_ ?_ q w h
 .intro a f k s b
  have l:=(s.to (by ac_rfl:_=kV rb #[wW cd ca cb,xV d]*(f*(tF cd ca cb d 0 bv*R))))
  match k,b with
  | 0,_=>exact l.cell 0
  | 1,_=>exact l.cell 1
 .intro k b t w
  match k,b with
  | 0,_=>simp [go_sem]
  | 1,_=>simp [go_sem]
 .intro k b a c D' u j i
  match k,b with
  | 0,_=>exact zc a c d D' cd ca cb 0 bv (zs 512) _ i j (fun m p g=>r m _ (g.to (by ac_rfl:_=(aS c d p*(aq c*(tF cd ca cb d 0 bv*kV rb #[wW cd ca cb,xV d])))*R))) (oY 512)
  | 1,_=>exact (nY a c d D' _ i j).mono fun e m g=>gS.of g
theorem vZ (a:Int) (h:ag w (aS S d D*(aq S*(tF cd ca cb d a bv*(kV rb #[wW cd ca cb]*R))))) (p:∀ b f,ag b (f*R)->Rd b bv (zs 512)) (m:D.Ok) :
  Calls U 119 #[V (W ⟨rb,0,X⟩) 1 1] w (FU S d (dD (NU a) D 1) (tF cd ca cb d a bv*(kV rb #[wW cd ca cb]*R)) w):=by
 refine ve 1 (fun k=>(165,#[],#[az cd,az ca,az cb])) (NU a) S d rb D _ (by decide) ?_ ?_ ?_ ?_ w h
 .intro b f k q c
  have r:=(q.to (by ac_rfl:_=kV rb #[wW cd ca cb]*(f*(tF cd ca cb d a bv*R))))
  match k,c with
  | 0,_=>exact r.cell 0
 .intro k c t w
  simp [go_sem]
 .intro k c b e D' u l i
  exact zc b e d D' cd ca cb a bv (zs 512) _ i l (fun s g j=>p s _ (j.to (by ac_rfl:_=(aS e d g*(aq e*(tF cd ca cb d a bv*kV rb #[wW cd ca cb])))*R))) (oY 512)
 .intro k c _
  obtain rfl:k=0:=by omega
  exact m
theorem Jt (n P:Nat) (h:ag w (aS S d D*(aq S*(tF cd ca cb d 0 bv*(kV rb #[xV d,wW cd ca cb,xV d]*R))))) (r:∀ a g,ag a (g*R)->Rd a bv (cY n P)) (q:∀ k,k<3->(dD (nz n P) D k).1=0->(dD (nz n P) D k).2.Ok) :
  Calls U 119 #[V (W ⟨rb,0,X⟩) 3 3] w (FU S d (dD (nz n P) D 3) (tF cd ca cb d 0 bv*(kV rb #[xV d,wW cd ca cb,xV d]*R)) w):=by
 refine ve 3 (fun k=>if k=1 then (165,#[],#[az cd,az ca,az cb]) else (121,#[az d],#[])) (nz n P) S d rb D _ (by decide) ?_ ?_ ?_ q w h
 .intro a g k s f
  have l:=(s.to (by ac_rfl:_=kV rb #[xV d,wW cd ca cb,xV d]*(g*(tF cd ca cb d 0 bv*R))))
  match k,f with
  | 0,_=>exact l.cell 0
  | 1,_=>exact l.cell 1
  | 2,_=>exact l.cell 2
 .intro k f t w
  match k,f with
  | 0,_=>simp [go_sem]
  | 1,_=>simp [go_sem]
  | 2,_=>simp [go_sem]
 .intro k f a b D' u j i
  match k,f with
  | 0,_=>exact (nY a b d D' _ i j).mono fun e m c=>gS.of c
  | 1,_=>exact zc a b d D' cd ca cb 0 bv (cY n P) _ i j (fun m p c=>r m _ (c.to (by ac_rfl:_=(aS b d p*(aq b*(tF cd ca cb d 0 bv*kV rb #[xV d,wW cd ca cb,xV d])))*R))) (jc n P)
  | 2,_=>exact (nY a b d D' _ i j).mono fun e m c=>gS.of c
end
theorem Pp {n P:Nat} {D:aC} (f:D.Ok) (c:D.Calm) (l:D.wait=[]) (j:D.sec.length=P+1) (r:Zero P D) (h:nO n P=true) :
  Sj n P 1 (cY n P) (J0 P n) (FS n P D).aI rP/\(FS n P D).aI.sec.length=P+1/\(FS n P D).aI.cr=D.cr/\(FS n P D).aI.cw=cD (D.cw+1)/\(FS n P D).aI.cf=cD (D.cf+1):=by
 have m:∀ x ∈ (FS n P D).wait,(FS n P D).has x.1:=by
  intro x q;obtain rfl:x=((0:Int),cY n P):=by simpa [FS] using q
  exact ⟨B3 _,by show (0:Int)<(D.sec.length:Int);omega⟩
 have a:(FS n P D).Ok:=⟨f.n,m,by show [((0:Int),cY n P)].length<=_;simp,f.bB⟩
 have b:(FS n P D).Calm:=⟨c.down,c.eV⟩
 have e:=aC.ig a;rw [b.flush] at e;have g:(FS n P D).aI.sec.length=P+1:=by rw [(bq _).2.2.2];exact j
 refine ⟨Pd (fun p i=>?_) (e.ok a (by have:=a.many;omega)) (iu b) (by rw [g];omega) h ?_,g,(bq _).1,(bq _).2.1,(bq _).2.2.1⟩
 .rw [fG a _ ⟨by omega,by show (p:Int)+1<(D.sec.length:Int);omega⟩,<- r p i]
  unfold aC.cy
  have:eo [((0:Int),cY n P)] ((p:Int)+1)=X:=by
   have:=jj [] ((0:Int),cY n P) ((p:Int)+1);rw [J3,if_neg (by show ¬ ((0:Int)=(p:Int)+1);omega)] at this;exact this
  rw [show (FS n P D).wait=[((0:Int),cY n P)] from rfl,this,l]
  rfl
 .rw [fG a 0 ⟨B3 _,by show (0:Int)<(D.sec.length:Int);omega⟩]
  unfold aC.cy
  have:eo [((0:Int),cY n P)] 0=W (cY n P):=by
   have:=jj [] ((0:Int),cY n P) 0;rw [J3,if_pos rfl] at this;exact this
  rw [show (FS n P D).wait=[((0:Int),cY n P)] from rfl,this];show ((0:Int),bW 512 (cY n P))=_
  rw [jZ (jc n P)]
def RZ (S:Hp) (d n P:Nat) (D:aC) (o:Ar) (F:ai) (w:Q) (e:Ending) (a:Q):Prop:=∃ E:Nat,o≠X/\E=E
structure Q2 (n P:Nat) (D:aC) (o:Ar) (D':aC) (o':Ar):Prop where
 sj:Sj n P 1 (cY n P) (J0 P n) D' rP
 VQ:D'.wait=[]
 sec:D'.sec.length=D.sec.length
 cr:D'.cr=D.cr
 cw:D'.cw=iI D.cw (P+2)
 cf:D'.cf=iI D.cf 3
 ar:mM o o'
def OE (S:Hp) (d n P:Nat) (D:aC) (o:Ar) (F:ai) (w:Q) (e:Ending) (b:Q):Prop:=
 ∃ s j a D' o',Ext S a/\e = .returned (.tuple #[az s,Y .i64 0])/\ag b (eH s j d n P (J0 P n)*(aS a d (D'.df o')*(aq a*F)))/\aj w b/\Q2 n P D o D' o'
def Ot (S:Hp) (d n P:Nat) (D:aC) (o:Ar) (F:ai) (w:Q) (e:Ending) (a:Q):Prop:=RZ S d n P D o F w e a\/OE S d n P D o F w e a
def SP (S:Hp) (d P:Nat) (b:aC) (o:Ar) (c:ai) (w:Q) (wr:Q):Prop:=
 ∃ a o',Ext S a/\ag wr (aS a d ((FZ b P).df o')*(aq a*c))/\aj w wr/\mM o o'
def SX (S:Hp) (d P:Nat) (b:aC) (o:Ar) (c:ai) (w:Q) (u:Z') (wr:Q):Prop:=
 ∃ k a o',k<=P/\u = Y .i64 ((k:Nat):Int)/\Ext S a/\ag wr (aS a d ((FZ b k).df o')*(aq a*c))/\aj w wr/\mM o o'
theorem CW (w:Q) (S:Hp) (d n P:Nat) (D:aC) (o:Ar) (F:ai) (a2:ag w (aS S d (D.df o)*(aq S*F))) (t2:D.Ok) (hc:D.Calm) (hm:D.wait.length<=1000) (hg:nO n P=true) (hs:D.sec.length=P+1) (ho:oH o)
  (s2:o=X)
  (hh:∀ h b,ag h (b*F)->pM h):Calls U 64 #[az d,Y .i64 (n:Int)] w (Ot S d n P D o F w):=by
 have m3:=nr U;have l3:=eC.1 hg;have h1:=((a2.alloc (Z #[T X] 86 (0,0))).alloc (Z #[Y .i64 0] 28 (0,0)))
 have d1:=(((aj.refl w).alloc (Z #[T X] 86 (0,0))).alloc (Z #[Y .i64 0] 28 (0,0)))
 rw [A3] at h1;have U1:=ae t2;have Hc:=ae hc;have Hm:=ae hm;have Hg:=ae hg;have Hs:=ae hs;have Ho:=ae ho;have Hh:=ae hh;have H0:=ae s2;clear s2;clear a2 t2 hc hm hg hs ho hh
 go_enter_defers func64,ntmps64
 go_wp2_with fail
 generalize (w.alloc (Z #[T X] 86 (0,0))).alloc (Z #[Y .i64 0] 28 (0,0))=w1 at h1 d1 ⊢;generalize w.heap.size+1=A at h1 ⊢;generalize w.heap.size=z at h1 ⊢;have E1:=mZ w1 S d (D.df o) _ (h1.to (by ac_rfl:_=aS S d (D.df o)*(pt A (Z #[Y .i64 0] 28 (0,0))*(pt z (Z #[T X] 86 (0,0))*(aq S*F)))));rw [qV,Hs.out] at E1;have o3:IntKind.i64.wrap (((P+1:Nat):Int)-1)=(P:Int):=by rw [IntKind.wrap_i64];omega
 (with_reducible refine E1.mono ?_)
 rintro e w2 ⟨rfl,rfl⟩;have h2:=h1.alloc (Z #[Y .i64 (n:Int),Y .i64 (P:Int)] 118 (0,0));have d2:=d1.alloc (Z #[Y .i64 (n:Int),Y .i64 (P:Int)] 118 (0,0));clear E1 h1 d1
 go_wp2_with fail
 have V0:=ue (w1.alloc (Z #[Y .i64 (n:Int),Y .i64 (P:Int)] 118 (0,0))) n P;unfold Fc NA at V0;rw [if_pos Hg.out] at V0
 (with_reducible refine V0.mono ?_)
 rintro e w3 ⟨rfl,h3,d3⟩;have b3:=fun w=>B5 w;have H3:=h3.du h2;have t:=d2.trans d3;generalize w1.heap.size=q at H3 ⊢;clear V0 h2 d2 h3 d3
 go_wp2_with fail
 (with_reducible refine (b3 _).mono ?_)
 rintro e w4 ⟨rfl,rfl⟩;have H4:=H3.alloc (Z (dP (zs 512)) 5 (0,0));have D4:=t.alloc (Z (dP (zs 512)) 5 (0,0));obtain ⟨y,hZ⟩:∃ y,y=dP (zs 512):=⟨_,rfl⟩
 have D1:∀ w,(Instr.makeSlice 22 (Y .i64 512) (Y .i64 512)).run U w = .ok (V (W ⟨w.heap.size,0,X⟩) 512 512) (w.alloc (Z y 5 (0,0))):=by
  rw [hZ];exact Go.Proofs.Nn.fh 512 (by decide)
 rw [<- hZ] at H4 D4;clear H3 t;have HZ:=ae hZ;clear hZ
 go_wp2_with fail
 generalize w3.alloc (Z y 5 (0,0))=i at H4 D4 ⊢;generalize w3.heap.size=f at H4 ⊢;obtain ⟨c,s1⟩:∃ b,b=pt f (Z y 5 (0,0))*(pt q (Z #[Y .i64 (n:Int),Y .i64 (P:Int)] 118 (0,0))*(pt A (Z #[Y .i64 0] 28 (0,0))*(pt z (Z #[T X] 86 (0,0))*F))):=⟨_,rfl⟩
 have H5:ag i (aS S d (D.df o)*(aq S*c)):=H4.to (by rw [s1];ac_rfl);have i0:=ae s1
 have x0:∀ h b,ag h (b*c)->Rd h (V (W ⟨f,0,X⟩) 512 512) (zs 512):=by
  intro h b hx;have:=rn (c:=512) ((hx.to (by rw [i0.out,HZ.out];ac_rfl:_=pt f (Z (dP (zs 512)) 5 (0,0))*(b*(pt q (Z #[Y .i64 (n:Int),Y .i64 (P:Int)] 118 (0,0))*(pt A (Z #[Y .i64 0] 28 (0,0))*(pt z (Z #[T X] 86 (0,0))*F)))))).heap)
  rwa [oY] at this
 have x0:=ae x0;clear H4 s1
 have O:=wk i d 0 (W ⟨f,0,X⟩) 512 512;have h6:=(((H5.alloc (Z #[az d] 24 (0,0))).alloc (Z #[Y .i64 0] 3 (0,0))).alloc (Z #[V (W ⟨f,0,X⟩) 512 512] 22 (0,0))).alloc (Z #[.func (.func 165) #[] #[az i.heap.size,az (i.heap.size+1),az (i.heap.size+1+1)],.func (.func 121) #[az d] #[]] 111 (0,0));have D6:=(((D4.alloc (Z #[az d] 24 (0,0))).alloc (Z #[Y .i64 0] 3 (0,0))).alloc (Z #[V (W ⟨f,0,X⟩) 512 512] 22 (0,0))).alloc (Z #[.func (.func 165) #[] #[az i.heap.size,az (i.heap.size+1),az (i.heap.size+1+1)],.func (.func 121) #[az d] #[]] 111 (0,0));rw [A3,A3,A3] at h6
 (with_reducible refine O.mono ?_)
 rintro e w6 ⟨rfl,rfl⟩;have H6:=ae h6;have f1:=ae D6;clear O h6 D6 D4 H5 D1
 go_wp2_with fail
 generalize (((i.alloc (Z #[az d] 24 (0,0))).alloc (Z #[Y .i64 0] 3 (0,0))).alloc (Z #[V (W ⟨f,0,X⟩) 512 512] 22 (0,0))).alloc (Z #[.func (.func 165) #[] #[az i.heap.size,az (i.heap.size+1),az (i.heap.size+1+1)],.func (.func 121) #[az d] #[]] 111 (0,0))=w6 at H6 f1 ⊢;generalize i.heap.size+1+1+1=rb at H6 ⊢;generalize i.heap.size+1+1=cb at H6 ⊢;generalize i.heap.size+1=ca at H6 ⊢;generalize i.heap.size=cd at H6 ⊢;have h6:ag w6 (aS S d (D.df o)*(aq S*(tF cd ca cb d 0 (V (W ⟨f,0,X⟩) 512 512)*(kV rb #[wW cd ca cb,xV d]*c)))):=H6.out.to (by unfold tF kV wW xV;ac_rfl);have r0:D.has 0:=⟨B3 _,by rw [Hs.out];omega⟩
 obtain ⟨hA,f2⟩:=Qz Hc.out U1.out Hm.out Ho.out r0;have N:=Nc w6 S d (D.df o) cd ca cb rb _ c h6 x0.out f2;clear H6 h6 f2
 (with_reducible refine N.mono ?_)
 rintro e w7 ⟨S0,S7,k2,h7,d7⟩;have D7:=f1.out.trans d7;clear N d7 f1;rcases hA with ⟨K',u0,r⟩|⟨K',u0,r⟩|⟨o1,e2,r⟩
 .rw [H0.out] at u0;cases u0
 .rw [H0.out] at u0;cases u0
 rw [r] at S0 h7;rcases S0 with ⟨_,rfl⟩|⟨S0,_⟩
 case inr=>exact absurd rfl S0
 have s0:=PK U1.out Hm.out (by rw [Hs.out];omega);have p1:=FK Hc.out;obtain ⟨a,H⟩:∃ b,b=(F1 D).aI:=⟨_,rfl⟩
 have e0:=aC.ig s0;rw [p1.flush] at e0;have u2:a.Ok:=by rw [H];exact e0.ok s0 (by have:=s0.many;omega)
 have m2:a.Calm:=by rw [H];exact iu p1
 have K1:a.wait=[]:=by rw [H];rfl
 have y2:a.sec.length=P+1:=by rw [H,(bq _).2.2.2];exact Hs.out
 have A2:a.cy 0=(0,zs 512):=by rw [H,fG s0 0 r0];exact Ml
 have p2:a.cr=D.cr:=by rw [H,(bq _).1];rfl
 have q2:a.cw=iI D.cw 1:=by rw [H,(bq _).2.1];rfl
 have o2:a.cf=iI D.cf 1:=by rw [H,(bq _).2.2.1];rfl
 rw [<- H] at h7;have l2:FZ a 0=a:=by unfold FZ zW;rw [List.range_zero,List.map_nil,<- K1];rfl
 have c2:ag w7 (aS S7 d ((FZ a 0).df o1)*(aq S7*c)):=by
  rw [l2];exact (h7.to (by ac_rfl:_=(tF cd ca cb d 0 (V (W ⟨f,0,X⟩) 512 512)*kV rb #[wW cd ca cb,xV d])*(aS S7 d (a.df o1)*(aq S7*c)))).right
 have H7:=ae c2;have i1:=ae D7;have c1:=ae e2;have k1:=ae k2;have V1:=ae u2;have l1:=ae m2;have V2:=ae K1;have j0:=ae y2;have U2:=ae A2;have R2:=ae p2;have S2:=ae q2;have P2:=ae o2;clear h7 c2 D7 e2 r H e0 u2 m2 K1 y2 A2 p2 q2 o2 s0 p1 l2 k2
 have g1:w7.cell? ⟨q,1,X⟩=W (Y .i64 (P:Int)):=by
  have:=H7.out;rw [i0.out] at this;exact (this.to (by ac_rfl:_=pt q (Z #[Y .i64 (n:Int),Y .i64 (P:Int)] 118 (0,0))*(pt f (Z y 5 (0,0))*(pt A (Z #[Y .i64 0] 28 (0,0))*(pt z (Z #[T X] 86 (0,0))*(F*(aS S7 d ((FZ a 0).df o1)*aq S7))))))).cell 1
 go_upto_block 0 with (fail)
 go_cut [] from 32 to 42 (fun wx=>SP S d P a o c w wx)
 case first=>
  go_wp2_with fail
  go_loopw [32] (fun h0 wr=>SX S d P a o c w h0 wr) (fun h0 _=>P-(intOf h0).toNat)
  case atStart=>exact ⟨0,S7,o1,Nat.zero_le _,rfl,k1.out,H7.out,i1.out,c1.out⟩
  case round=>
   clear H7 i1 c1 k1 g1;obtain ⟨k,m,M,hk,rfl,m0,G,D8,l0⟩:=hrel
   by_cases B1:k<P
   .have W2:(k:Int)<(P:Int):=by omega
    have n3:IntKind.i64.wrap ((k:Int)+1)=(k:Int)+1:=by rw [IntKind.wrap_i64];omega
    have O:=wk wr d ((k:Int)+1) (W ⟨f,0,X⟩) 512 512;have J:=(((G.alloc (Z #[az d] 24 (0,0))).alloc (Z #[Y .i64 ((k:Int)+1)] 3 (0,0))).alloc (Z #[V (W ⟨f,0,X⟩) 512 512] 22 (0,0))).alloc (Z #[.func (.func 165) #[] #[az wr.heap.size,az (wr.heap.size+1),az (wr.heap.size+1+1)]] 111 (0,0));have D9:=(((D8.alloc (Z #[az d] 24 (0,0))).alloc (Z #[Y .i64 ((k:Int)+1)] 3 (0,0))).alloc (Z #[V (W ⟨f,0,X⟩) 512 512] 22 (0,0))).alloc (Z #[.func (.func 165) #[] #[az wr.heap.size,az (wr.heap.size+1),az (wr.heap.size+1+1)]] 111 (0,0));rw [A3,A3,A3] at J;have p:=ae J;have j1:=ae D9;have G0:=ae m0;have x:=ae l0;clear G D8 J D9 m0 l0
    go_wp2_with fail
    (with_reducible refine O.mono ?_)
    rintro e g ⟨rfl,rfl⟩;clear O
    go_wp2_with fail
    generalize (((wr.alloc (Z #[az d] 24 (0,0))).alloc (Z #[Y .i64 ((k:Int)+1)] 3 (0,0))).alloc (Z #[V (W ⟨f,0,X⟩) 512 512] 22 (0,0))).alloc (Z #[.func (.func 165) #[] #[az wr.heap.size,az (wr.heap.size+1),az (wr.heap.size+1+1)]] 111 (0,0))=g at p j1 ⊢;generalize wr.heap.size+1+1+1=rb at p ⊢;generalize wr.heap.size+1+1=cb at p ⊢;generalize wr.heap.size+1=ca at p ⊢;generalize wr.heap.size=cd at p ⊢;have J:ag g (aS m d ((FZ a k).df M)*(aq m*(tF cd ca cb d ((k:Int)+1) (V (W ⟨f,0,X⟩) 512 512)*(kV rb #[wW cd ca cb]*c)))):=p.out.to (by unfold tF kV wW;ac_rfl);have N:=vZ g m d ((FZ a k).df M) cd ca cb rb _ c _ J x0.out (kY (PJ V1.out (by rw [j0.out];omega)) x.out.ok);clear J p
    (with_reducible refine N.mono ?_)
    rintro e Z0 ⟨N0,K0,i2,C,X1⟩;have n0:=j1.out.trans X1;have hE:Ext S K0:=G0.out.trans i2;clear N X1 j1 i2;rcases Rg (k:=k) l1.out x.out.ok (by rw [j0.out];omega) with ⟨s,q0,r⟩|⟨hh,r⟩
    .rw [r] at N0 C
     rcases N0 with ⟨_,rfl⟩|⟨N0,_⟩
     case inr=>exact absurd rfl N0
     have I:=ae ((C.to (by ac_rfl:_=(tF cd ca cb d ((k:Int)+1) (V (W ⟨f,0,X⟩) 512 512)*kV rb #[wW cd ca cb])*(aS K0 d ((FZ a (k+1)).df s)*(aq K0*c)))).right);have o0:=ae n0;have K2:=ae hE;have H2:=ae (x.out.trans q0);clear C n0 hE q0 r x
     go_wp2_with fail
     go_roundw
     case rel=>exact ⟨k+1,K0,s,by omega,by go_num,K2.out,I.out,o0.out,H2.out⟩
     case measure=>simp [intOf];omega
    .obtain ⟨K',hK⟩:=hh
     rw [x.out.none H0.out] at hK;cases hK
   .obtain rfl:k=P:=by omega
    have H8:=ae G;have D0:=ae D8;clear G D8
    go_wp2_with fail
    go_meet
    exact ⟨m,M,m0,H8.out,D0.out,l0⟩
 case rest=>
  clear H7 i1 c1 k1 g1;obtain ⟨m,M,m0,G,D8,l0⟩:=hcut;have T0:∀ h b,ag h (b*c)->ag h (pt q (Z #[Y .i64 (n:Int),Y .i64 (P:Int)] 118 (0,0))*((pt f (Z y 5 (0,0))*(pt A (Z #[Y .i64 0] 28 (0,0))*(pt z (Z #[T X] 86 (0,0))*F)))*b)):=fun h b hx=>hx.to (by rw [i0.out];ac_rfl);have g0:wc.cell? ⟨q,0,X⟩=W (Y .i64 (n:Int)):=(T0 _ (aS m d ((FZ a P).df M)*aq m) (G.to (by ac_rfl))).cell 0;have g1:wc.cell? ⟨q,1,X⟩=W (Y .i64 (P:Int)):=(T0 _ (aS m d ((FZ a P).df M)*aq m) (G.to (by ac_rfl))).cell 1;have z1:∀ h b,ag h (b*c)->pM h:=fun h b hx=>Hh.out h (b*(pt f (Z y 5 (0,0))*(pt q (Z #[Y .i64 (n:Int),Y .i64 (P:Int)] 118 (0,0))*(pt A (Z #[Y .i64 0] 28 (0,0))*pt z (Z #[T X] 86 (0,0)))))) (hx.to (by rw [i0.out];ac_rfl));have y1:=BU wc n P Hg.out (z1 wc (aS m d ((FZ a P).df M)*aq m) (G.to (by ac_rfl)));unfold NA at y1;have e3:=ae T0;have f3:=ae z1;have H8:=ae G;have D0:=ae D8;have G0:=ae m0;have x:=ae l0;clear T0 z1 G D8 m0 l0
  go_wp2_with fail
  (with_reducible refine y1.mono ?_)
  rintro e g ⟨ev,rfl,J,d9⟩;have p:=J.under H8.out;have D9:=D0.out.trans d9;obtain ⟨u,v,rfl⟩:=p.ss.shape;rw [jc] at p ⊢;clear y1 J d9 H8 D0 g0 g1;have O:=wk g d 0 u 512 v;have C:=(((p.alloc (Z #[az d] 24 (0,0))).alloc (Z #[Y .i64 0] 3 (0,0))).alloc (Z #[V u 512 v] 22 (0,0))).alloc (Z #[.func (.func 121) #[az d] #[],.func (.func 165) #[] #[az g.heap.size,az (g.heap.size+1),az (g.heap.size+1+1)],.func (.func 121) #[az d] #[]] 111 (0,0));have n0:=(((D9.alloc (Z #[az d] 24 (0,0))).alloc (Z #[Y .i64 0] 3 (0,0))).alloc (Z #[V u 512 v] 22 (0,0))).alloc (Z #[.func (.func 121) #[az d] #[],.func (.func 165) #[] #[az g.heap.size,az (g.heap.size+1),az (g.heap.size+1+1)],.func (.func 121) #[az d] #[]] 111 (0,0));rw [A3,A3,A3] at C;have I:=ae C;have o0:=ae n0;clear p D9 C n0
  go_wp2_with fail
  (with_reducible refine O.mono ?_)
  rintro e Z0 ⟨rfl,rfl⟩;clear O
  go_wp2_with fail
  generalize (((g.alloc (Z #[az d] 24 (0,0))).alloc (Z #[Y .i64 0] 3 (0,0))).alloc (Z #[V u 512 v] 22 (0,0))).alloc (Z #[.func (.func 121) #[az d] #[],.func (.func 165) #[] #[az g.heap.size,az (g.heap.size+1),az (g.heap.size+1+1)],.func (.func 121) #[az d] #[]] 111 (0,0))=Z0 at I o0 ⊢;generalize g.heap.size+1+1+1=rb at I ⊢;generalize g.heap.size+1+1=cb at I ⊢;generalize g.heap.size+1=ca at I ⊢;generalize g.heap.size=cd at I ⊢;have C:ag Z0 (aS m d ((FZ a P).df M)*(aq m*(tF cd ca cb d 0 (V u 512 v)*(kV rb #[xV d,wW cd ca cb,xV d]*(bs 5 (V u 512 v) (cY n P)*c))))):=I.out.to (by unfold tF kV wW xV;ac_rfl);have r0:(FZ a P).has 0:=⟨B3 _,by show (0:Int)<(a.sec.length:Int);rw [j0.out];omega⟩
  have d0:=PJ V1.out (k:=P) (by rw [j0.out];omega);obtain ⟨hC,g2⟩:=QR (n:=n) (P:=P) (y4 l1.out P) d0 x.out.ok r0;have N:=Jt Z0 m d ((FZ a P).df M) cd ca cb rb (V u 512 v) (bs 5 (V u 512 v) (cY n P)*c) n P C (fun h b hx=>(hx.to (by ac_rfl:_=bs 5 (V u 512 v) (cY n P)*(b*c))).ss) g2;clear I C g2
  (with_reducible refine N.mono ?_)
  rintro e L1 ⟨R0,j,j2,L0,Y1⟩;have M1:=o0.out.trans Y1;have hE:Ext S j:=G0.out.trans j2;clear N Y1 o0 j2
  have q1:=y4 l1.out P;have e0:=aC.ig d0;rw [q1.flush] at e0;have v2:(FZ a P).aI.Ok:=e0.ok d0 (by have:=d0.many;omega);have n2:(FZ a P).aI.Calm:=iu q1;have z2:(FZ a P).aI.sec.length=P+1:=by rw [(bq _).2.2.2];exact j0.out
  have B2:Zero P (FZ a P).aI:=fun E2 hp=>by rw [fG d0 _ ⟨by omega,by show (E2:Int)+1<(a.sec.length:Int);rw [j0.out];omega⟩];exact Po a P E2 hp
  have Y2:(FZ a P).aI.cy 0=(0,zs 512):=by rw [fG d0 _ r0,IK V2.out];exact U2.out
  rcases hC with ⟨s,q0,r⟩|⟨r2,E,i3,r⟩
  case inr=>exact absurd (x.out.none H0.out) r2
  rw [r] at R0 L0;rcases R0 with ⟨_,rfl⟩|⟨R0,_⟩
  case inr=>exact absurd rfl R0
  obtain ⟨H1,W0,v1,x1,u1⟩:=Pp v2 n2 rfl z2 B2 Hg.out
  have r1:Q2 n P D o (FS n P (FZ a P).aI).aI s:=by
   refine ⟨H1,rfl,by rw [W0,Hs.out],?_,?_,?_,x.out.trans q0⟩
   .rw [v1,(bq _).1];exact R2.out
   .rw [x1,(bq _).2.1]
    show cD (iI a.cw P+1)=_
    rw [S2.out,Gw,show P+2=(1+P)+1 by omega];rfl
   .rw [u1,(bq _).2.2.1]
    show cD (cD (a.cf+1)+1)=_
    rw [P2.out];rfl
  generalize (FS n P (FZ a P).aI).aI=t at L0 H1 W0 v1 x1 u1 r1;have R1:ag L1 (aS j d (t.df s)*(aq j*c)):=(L0.to (by ac_rfl:_=(tF cd ca cb d 0 (V u 512 v)*(kV rb #[xV d,wW cd ca cb,xV d]*bs 5 (V u 512 v) (cY n P)))*(aS j d (t.df s)*(aq j*c)))).right;have N2:=ae r1;clear L0 r H1 v1 x1 u1 v2 n2 z2 B2 Y2 e0 q1 d0 r1 q0 x G0 x0;obtain ⟨F0,n1⟩:∃ l,l=ng n 0:=⟨_,rfl⟩
  have D1:∀ w,(Instr.makeSlice 104 (Y .i64 (n:Int)) (Y .i64 (n:Int))).run U w = .ok (V (W ⟨w.heap.size,0,X⟩) n n) (w.alloc (Z (ints F0) 3 (0,0))):=by
   rw [n1];exact rJ n (by omega)
  have M2:=ae n1;have p0:=R1.alloc (Z (ints F0) 3 (0,0));have a1:=M1.alloc (Z (ints F0) 3 (0,0));clear n1 R1 M1
  go_upto_block 2 with (fail)
  generalize L1.alloc (Z (ints F0) 3 (0,0))=p3 at p0 a1 ⊢;generalize L1.heap.size=L at p0 ⊢;obtain ⟨Z2,t1⟩:∃ b,b=aS j d (t.df s)*(aq j*c):=⟨_,rfl⟩
  rw [<- t1] at p0;have O2:=ae t1;have b1:=ae p0;have e1:=ae a1;have L2:=ae hE;have W1:=ae W0;clear t1 D1 p0 a1 hE W0
  go_cut [] from 57 to 63 (fun wx=>ag wx (pt L (Z (ints (D3 n (-1))) 3 (0,0))*Z2)/\aj w wx)
  case first=>
   go_wp2_with fail
   go_loopw [57] (fun h0 wr=>LF n L Z2 w h0 wr) (fun h0 _=>n-(intOf h0).toNat)
   case atStart=>exact ⟨0,Nat.zero_le _,rfl,by rw [<- M2.out];exact b1.out,e1.out⟩
   case round=>
    clear b1 e1;obtain ⟨k,hk,rfl,f0,X0⟩:=hrel
    by_cases B1:k<n
    .have W2:(k:Int)<(n:Int):=by omega
     have ck:wr.cell? ⟨L,k,X⟩=W (Y .i64 ((ng n k).getD k 0)):=(f0.cell k).trans (bG (by rw [I5 hk];exact B1));have fk:=f0.frozen k;have h2:=f0.setCell k (Y .i64 (-1));rw [gH,Ie B1] at h2;have X2:=ae h2;have T2:=ae X0;generalize (ng n k).getD k 0=uo at ck;clear f0 X0 h2
     go_wp2
     go_roundw
     case rel=>exact ⟨k+1,by omega,by go_num,X2.out,T2.out.setCell _ _⟩
     case measure=>simp [intOf];omega
    .obtain rfl:k=n:=by omega
     have e:ng k k=D3 k (-1):=by simp [ng]
     rw [e] at f0;have Hs:=ae f0;have Hd:=ae X0;clear f0 X0 e
     go_wp2_with fail
     go_meet
     exact ⟨Hs.out,Hd.out⟩
  case rest=>
   clear b1 e1;obtain ⟨k0,N1⟩:=hcut;rw [O2.out] at k0;have m1:ag wc (pt q (Z #[Y .i64 (n:Int),Y .i64 (P:Int)] 118 (0,0))*(pt f (Z y 5 (0,0))*(pt A (Z #[Y .i64 0] 28 (0,0))*(pt z (Z #[T X] 86 (0,0))*F))*(pt L (Z (ints (D3 n (-1))) 3 (0,0))*(aS j d (t.df s)*aq j)))):=k0.to (by rw [i0.out];ac_rfl);have g0:wc.cell? ⟨q,0,X⟩=W (Y .i64 (n:Int)):=m1.cell 0;have g1:wc.cell? ⟨q,1,X⟩=W (Y .i64 (P:Int)):=m1.cell 1;have A1:(na n).at_.length=n:=G3
   have x2:Calls U 123 #[az d,.agg #[Y .i64 (n:Int),Y .i64 (P:Int)],.agg #[Y .u32 1,Y .u64 1,Y .u64 0,Y .i64 0,Y .i64 0,V (W ⟨L,0,X⟩) n n]] wc (vD d n P (J0 P n) wc):=by
    refine nH wc j d (t.df s) _ (k0.to (by ac_rfl:_=aS j d (t.df s)*(pt L (Z (ints (D3 n (-1))) 3 (0,0))*(aq j*c)))) n P (na n) (V (W ⟨L,0,X⟩) n n) (.inr ⟨L,0,n,by rw [A1],by rw [A1];exact Nat.le_refl _,by unfold maxLen;omega,fun k hk=>?_⟩) (by omega) (by omega) (by rw [qV,W1.out];omega) (by rw [qV,W1.out];omega) (show (0:Int)<=0 by decide) (tC (by omega) (by omega) (by omega)) (by omega);rw [Nat.zero_add,k0.cell];exact bG hk
   have S1:=ae k0;have T1:=ae N1;clear k0 m1 N1 A1
   go_wp2_with fail
   (with_reducible refine x2.mono ?_)
   rintro e c3 ⟨Y0,D2,rfl,b2,Z1⟩;have O1:=T1.out.trans Z1;have c0:ag c3 (pt z (Z #[T X] 86 (0,0))*(pt A (Z #[Y .i64 0] 28 (0,0))*((pt L (Z (ints (D3 n (-1))) 3 (0,0))*(pt q (Z #[Y .i64 (n:Int),Y .i64 (P:Int)] 118 (0,0))*pt f (Z y 5 (0,0))))*(eH Y0 D2 d n P (J0 P n)*(aS j d (t.df s)*(aq j*F)))))):=(b2.under S1.out).to (by rw [i0.out];ac_rfl);have a0:=c0.cell 0;have b0:=c0.ah.cell 0;have fa:=c0.frozen 0;have g3:=c0.ah.frozen 0;have r2:z≠A:=ag.ne c0;have HK:=ae ((c0.setCell 0 (az Y0)).ah.setCell 0 (Y .i64 0));have J2:=ae ((O1.setCell ⟨z,0,X⟩ (az Y0)).setCell ⟨A,0,X⟩ (Y .i64 0));clear x2 b2 c0 Z1 O1 S1 T1 g0 g1
   go_wp2_with fail
   exact Ic rfl rfl (HK.out.ah.cell 0) (HK.out.cell 0) (.inr ⟨Y0,D2,j,t,s,L2.out,rfl,HK.out.right.right.right,J2.out,N2.out⟩)
def lR (n:Int):Int:=if n<4\/3840<n then 0 else (5*n+241)/2
theorem Et {n:Nat} (a:4<=n) (b:n<=3840):lR (n:Int)=(((5*n+241)/2:Nat):Int):=by
 unfold lR;rw [if_neg (by omega)];omega
theorem F3 (w:Q) (n:Int):Calls U 26 #[Y .i64 n] w fun e f=>e = .returned (Y .i64 (lR n))/\w=f:=by
 go_enter func26,ntmps26
 by_cases h:n<4
 .have e:lR n=0:=by unfold lR;rw [if_pos (.inl h)]
  rw [e]
  go_wp2
  go_ret
  exact ⟨rfl,rfl⟩
 .by_cases c:3840<n
  .have e:lR n=0:=by unfold lR;rw [if_pos (.inr c)]
   rw [e]
   go_wp2
   go_ret
   exact ⟨rfl,rfl⟩
  .have e:lR n=(5*n+241)/2:=by unfold lR;rw [if_neg (by omega)]
   have g:IntKind.i64.wrap ((IntKind.i64.wrap (IntKind.i64.wrap (IntKind.i64.wrap (IntKind.i64.wrap (5*n)+240)+2)-1)).tdiv 2)=(5*n+241)/2:=by
    have a:IntKind.i64.wrap (5*n)=5*n:=by rw [IntKind.wrap_i64];omega
    have b:IntKind.i64.wrap (5*n+240)=5*n+240:=by rw [IntKind.wrap_i64];omega
    have a3:IntKind.i64.wrap (5*n+240+2)=5*n+242:=by rw [IntKind.wrap_i64];omega
    have a4:IntKind.i64.wrap (5*n+242-1)=5*n+241:=by rw [IntKind.wrap_i64];omega
    rw [a,b,a3,a4,Int.tdiv_eq_ediv_of_nonneg (by omega),IntKind.wrap_i64];omega
   rw [e]
   go_wp2
   go_ret
   refine ⟨?_,rfl⟩;rw [show 5*n+240+2-1=5*n+241 by omega]
   rfl
end Go.Proofs.Su
