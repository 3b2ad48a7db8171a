/- Steps. -/
import Derived.Test.YtacliaemfegopaaGreatDoorOP38
import Derived.Test.YtacliaemfegopaaGreatDoorOP46
set_option linter.all false
set_option maxRecDepth 99999
set_option maxHeartbeats 0
open Go.SL
open Go.Value renaming int->Y,slice->V,pointer->T
open Go.Obj renaming cells->Z
open Go renaming World->Q,Value->Z'
open Go.Proofs.Tryz renaming prog->U
open Option renaming some->W,none->X
open Go.Proofs.Tryz
open Go.World renaming size_alloc->B3
open Int renaming le_refl->D3
open List renaming replicate->G3,length_replicate->J3,nil_append->K3
namespace Go.Proofs.Nn
open Go.RowKit Go.SL Go.Proofs.Su
def rW:Has:=fun _=>X
def Zero (P:Nat) (D:aB):Prop:=∀ p:Nat,p<P->D.cq ((p:Int)+1)=(0,zs 512)
section
variable {n P B:Nat} {D E:aB} {K:List Int}
theorem CS (h:Zero P D):zc P D=fun _=>X:=by
 funext p;unfold zc
 split
 .rename_i a
  rw [h p a.1,C6];rfl
 .rfl
theorem CW (b:1<=P) (a:n<=P):EC n P (fun _=>X) 0 0 (fun _=>X):=
 ⟨by omega,a,D3 _,fun _=>rfl,fun p t _ h=>(by cases h),fun p t _ h=>(by cases h),fun c p h=>(by cases h),fun h=>absurd h (by decide),fun e=>⟨1,0,by decide,by decide,fun p t _ h=>(by cases h)⟩⟩
theorem OM (q:Zero P D) (m:D.Ok) (j:D.Calm) (r:P+1<=D.sec.length) (b:1<=P) (i:P<=19999) (f:1<=n) (g:n<=3840) (l:n<=P):JT n (J0 P n) D rW:=by
 have h:=IW (P:=P) (n:=n) b i f g;refine ⟨⟨h.ok,h.nums,m,h.br,j,by show (P:Int)+1<=_;omega,h.Ja,h.rm,h.win,fun a p c=>?_,h.Tc⟩,Uq P n,?_⟩
 .rw [RD,(Tb.iV n P a).1] at c;cases c
 .have e:Og (J0 P n)=fun _=>X:=by
   funext a;unfold Og;rw [RD,(Tb.iV n P a).1];rfl
  show Ug n P (zc P D) 0 0 (Og (J0 P n)) 1 1
  rw [CS q,e];exact (CW b l).run fun p t _ h=>by cases h
theorem Oz (g:Zero P D) (e:D.Ok) (b:D.Calm) (f:P+1<=D.sec.length) (c:nE n P=true) (a:D.cq 0=(0,cY n P)):Sj n P 1 (cY n P) (J0 P n) D rW:=by
 have h:=eC.1 c;exact ⟨OM g e b f (by omega) (by omega) (by omega) (by omega) (by omega),Ci P n,rfl,by show (0:Int)<=_;omega,by show (1:Int)<=_;omega,a⟩
def F1 (D:aB):aB:={ D with cw:=cy (D.cw+1),wait:=D.wait++[((0:Int),zs 512)] }
def zW (k:Nat):List (Int × List UInt8):=(List.range k).map fun i:Nat=>((i:Int)+1,zs 512)
def FZ (D:aB) (k:Nat):aB:={ D with cw:=iC D.cw k,wait:=zW k }
def FS (n P:Nat) (D:aB):aB:={ D with cw:=cy (D.cw+1),wait:=[((0:Int),cY n P)] }
theorem Fc (k:Nat):zW (k+1)=zW k++[((k:Int)+1,zs 512)]:=by simp [zW,List.range_succ]
theorem pS (n:Nat):(zs n).length=n:=J3
theorem yo (a:Int) (k:Nat):er (zW k) a=if 1<=a/\a<=(k:Int) then W (zs 512) else X:=by
 induction k with
 | zero=>rw [if_neg (by omega)];rfl
 | succ k c=>
  rw [Fc,jk,c]
  by_cases h:(k:Int)+1=a
  .rw [if_pos h,if_pos (by omega)]
  .rw [if_neg h]
   by_cases b:1<=a/\a<=(k:Int)
   .rw [if_pos b,if_pos (by omega)]
   .rw [if_neg b,if_neg (by omega)]
theorem Px (h:D.Ok) (b:D.wait.length<=1000) (c:1<=D.sec.length):(F1 D).Ok:=by
 refine ⟨h.n,fun x a=>?_,by show (D.wait++[((0:Int),zs 512)]).length<=_;rw [List.length_append];simp;omega,h.bB⟩;rcases List.mem_append.1 a with a|a
 .exact h.wait x a
 .obtain rfl:x=((0:Int),zs 512):=by simpa using a
  exact ⟨D3 _,by show (0:Int)<(D.sec.length:Int);omega⟩
theorem Ff (h:D.Calm):(F1 D).Calm:=⟨h.down,h.eP⟩
theorem MN:(F1 D).cq 0=(0,zs 512):=by
 unfold aB.cq;show (match er (D.wait++[((0:Int),zs 512)]) 0 with|some l=>_|none=>_)=_
 rw [jk,if_pos rfl];show ((0:Int),bT 512 (zs 512))=_
 rw [j9 (pS 512)]
theorem PO (h:D.Ok) {k:Nat} (c:k+1<=D.sec.length):(FZ D k).Ok:=by
 have:=h.n;refine ⟨h.n,fun x b=>?_,by show (zW k).length<=_;simp [zW];omega,h.bB⟩;obtain ⟨i,a,rfl⟩:=List.mem_map.1 (show x ∈ zW k from b);have:=List.mem_range.1 a;exact ⟨by show (0:Int)<=(i:Int)+1;omega,by show (i:Int)+1<(D.sec.length:Int);omega⟩
theorem yS (h:D.Calm) (k:Nat):(FZ D k).Calm:=⟨h.down,h.eP⟩
theorem OB (D:aB) (P:Nat):Zero P (FZ D P):=by
 intro p a;unfold aB.cq;show (match er (zW P) _ with|some l=>_|none=>_)=_
 rw [yo,if_pos (by omega)];show ((0:Int),bT 512 (zs 512))=_
 rw [j9 (pS 512)]
theorem FQ (a:D.wait=[]) (k:Nat):(FZ D k).cq 0=D.cq 0:=by
 unfold aB.cq;show (match er (zW k) 0 with|some l=>_|none=>_)=match er D.wait 0 with|some l=>_|none=>_
 rw [yo,if_neg (by omega),a]
 rfl
end
end Go.Proofs.Nn
namespace Go.Proofs.Su
open Go.RowKit Go.SL Go.Proofs.Nn Go.Proofs.Ba Go.Proofs.Fs
def tK (cd ca cb d:Nat) (a:Int) (bv:Z'):ai:=pt cd (Z #[ay d] 24 (0,0))*(pt ca (Z #[Y .i64 a] 3 (0,0))*pt cb (Z #[bv] 37 (0,0)))
theorem yJ (w:Q) (S:Hp) (d:Nat) (D:aB) (cd ca cb:Nat) (a:Int) (bv:Z') (l:List UInt8) (F:ai) (h:ag w (aT S d D*(ak S*(tK cd ca cb d a bv*F)))) (x:D.Ok) (f:∀ q D',ag q (aT S d D'*(ak S*(tK cd ca cb d a bv*F)))->Rd q bv l) (c:l.length=512) :
  Calls U 160 #[ay cd,ay ca,ay cb] w (gK S d (D.write a l).2 (Y .i64 (D.write a l).1) (tK cd ca cb d a bv*F) w):=by
 have g:=f w D h;have i:=oa w S d D a bv l _ h x g f (by rw [c];decide);have b:=h;unfold tK at b;have u:w.cell? ⟨cd,0,X⟩=W (ay d):=(b.to (by ac_rfl:_=pt cd (Z #[ay d] 24 (0,0))*(pt ca (Z #[Y .i64 a] 3 (0,0))*(pt cb (Z #[bv] 37 (0,0))*(aT S d D*(ak S*F)))))).cell 0;have v:w.cell? ⟨ca,0,X⟩=W (Y .i64 a):=(b.to (by ac_rfl:_=pt ca (Z #[Y .i64 a] 3 (0,0))*(pt cd (Z #[ay d] 24 (0,0))*(pt cb (Z #[bv] 37 (0,0))*(aT S d D*(ak S*F)))))).cell 0;have j:w.cell? ⟨cb,0,X⟩=W bv:=(b.to (by ac_rfl:_=pt cb (Z #[bv] 37 (0,0))*(pt cd (Z #[ay d] 24 (0,0))*(pt ca (Z #[Y .i64 a] 3 (0,0))*(aT S d D*(ak S*F)))))).cell 0;obtain ⟨z,A,rfl⟩:=g.shape;clear h b f g;rw [c] at i j ⊢;clear c
 go_enter func160,ntmps160
 go_wp2_with fail
 (with_reducible refine i.mono ?_)
 rintro e C ⟨t,y,rfl,p,m⟩;have s:=ae p;have r:=ae m;clear i p m u v j
 go_wp2_with fail
 go_ret
 exact ⟨t,y,rfl,s.out,r.out⟩
def dD (a:Nat->aB->Int × aB) (D:aB):Nat->Int × aB
 | 0=>(0,D)
 | k+1=>if (dD a D k).1=0 then a k (dD a D k).2 else dD a D k
theorem G7 (a:Nat->aB->Int × aB) (D:aB) {k:Nat} (h:(dD a D k).1≠0):∀ m,k<=m->dD a D m=dD a D k:=by
  intro m e
  induction m with
  | zero => obtain rfl : k = 0 := by omega
            rfl
  | succ m c=>
    by_cases b:k=m+1
    · rw [b]
    · have:=c (by omega)
      rw [dD,this,if_neg h]
def FL (S:Hp) (d:Nat) (R:Int × aB) (c:ai) (w:Q) (e:Ending) (b:Q):Prop:=
 (R.1=0/\e = .returned (.tuple #[])\/R.1≠0/\e = .panicked (UJ 2))/\∃ a,Ext S a/\ag b (aT a d R.2*(ak a*c))/\aj w b
theorem vC (m:Nat) (f:Nat->FuncId × Array Z' × Array Z') (b:Nat->aB->Int × aB) (S:Hp) (d g:Nat) (D:aB) (j:ai) (L:m<=10)
  (I:∀ c H k,ag c (H*j)->k<m->c.cell? ⟨g,k,X⟩=W (.func (.func (f k).1) (f k).2.1 (f k).2.2))
  (J:∀ k,k<m->∀ (x:Array Z') (w:Q),(callFunc (f k).1 x).run U w = .ok (.enter (f k).1 x) w)
  (N:∀ k,k<m->∀ c a D',Ext S a->D'.Ok->ag c (aT a d D'*(ak a*j))->Calls U (f k).1 ((f k).2.1++(f k).2.2) c (gK a d (b k D').2 (Y .i64 (b k D').1) j c))
  (M:∀ k,k<m->(dD b D k).1=0->(dD b D k).2.Ok) (w:Q) (h:ag w (aT S d D*(ak S*j))) :
  Calls U 112 #[V (W ⟨g,0,X⟩) m m] w (FL S d (dD b D m) j w):=by
 refine (OK m f (fun k c=>(dD b D k).1=0/\∃ a,Ext S a/\ag c (aT a d (dD b D k).2*(ak a*j))/\aj w c) (fun c=>(dD b D m).1≠0/\∃ a,Ext S a/\ag c (aT a d (dD b D m).2*(ak a*j))/\aj w c) g L ?_ ?_ w ⟨rfl,S,Ext.refl S,h,aj.refl w⟩).mono ?_
 .rintro i k c hi ⟨_,a,_,s,_⟩ p
  exact I c _ k (s.to (by ac_rfl:_=(aT a d (dD b D i).2*ak a)*j)) p
 .intro k p
  refine ⟨J k p,?_⟩;rintro c ⟨C,a,u,s,y⟩;refine (N k p c a _ u (M k p C) s).mono ?_;rintro e O ⟨v,F,rfl,l,z⟩;have q:dD b D (k+1)=b k (dD b D k).2:=by rw [dD,if_pos C]
  refine ⟨_,rfl,?_⟩
  by_cases r:(b k (dD b D k).2).1=0
  .exact .inl ⟨r,by rw [q];exact r,v,u.trans F,by rw [q];exact l,y.trans z⟩
  .have G:(dD b D (k+1)).1≠0:=by rw [q];exact r
   have A:=G7 b D G m (by omega);exact .inr ⟨r,by rw [A];exact G,v,u.trans F,by rw [A,q];exact l,y.trans z⟩
 .rintro e O (⟨rfl,t,l⟩|⟨rfl,t,l⟩)
  .exact ⟨.inl ⟨t,rfl⟩,l⟩
  .exact ⟨.inr ⟨t,rfl⟩,l⟩
def nM (m k:Nat):List Int:=G3 k (-1)++G3 (m-k) 0
theorem IT {m k:Nat} (h:k<=m):(nM m k).length=m:=by simp [nM];omega
theorem Gd {m k:Nat} (h:k<m):(nM m k).set k (-1)=nM m (k+1):=by
 unfold nM;rw [List.set_append_right _ _ (by simp),J3,Nat.sub_self,show m-k=(m-(k+1))+1 by omega,List.replicate_succ,List.replicate_succ',List.append_assoc]
 rfl
def M6 (m b:Nat) (a:ai) (w:Q) (u:Z') (wr:Q):Prop:=
 ∃ k:Nat,k<=m/\u = Y .i64 (k:Int)/\ag wr (pt b (Z (ints (nM m k)) 3 (0,0))*a)/\aj w wr
section
variable {D:aB} {o:Ar} {n P k:Nat} {K:List Int}
def qT (k:Nat) (D:aB):Int × aB:=if k=0 then D.write 0 (zs 512) else D.flush
def Ov (a:Int) (_:Nat) (D:aB):Int × aB:=D.write a (zs 512)
def ng (n P k:Nat) (D:aB):Int × aB:=if k=1 then D.write 0 (cY n P) else D.flush
theorem lN (h:D.Calm) (f:oI o) {a:Int} (c:D.has a) {l:List UInt8} (e:l.length=512) :
  (¬ jM o/\(D.dm o).write a l=(0,({ D with cw:=cy (D.cw+1),wait:=D.wait++[(a,l)] }:aB).dm (mA o)))\/(jM o/\(D.dm o).write a l=(2,D.fN (GG o))):=by
 by_cases b:jM o
 .exact .inr ⟨b,wV h b c e⟩
 .exact .inl ⟨b,yy h f b c e⟩
theorem lQ (h:D.Calm) (b:oI o):(¬ jM o/\(D.dm o).flush=(0,D.aG.dm (mA o)))\/(jM o/\(D.dm o).flush=(2,D.fN (GG o))):=by
 by_cases a:jM o
 .exact .inr ⟨a,wQ h a⟩
 .exact .inl ⟨a,yv h b a⟩
theorem vJ (a:Nat->aB->Int × aB) (D:aB):dD a D 1=a 0 D:=by rw [dD,dD];rfl
theorem RP (h:D.Calm) (m:D.Ok) (C:D.wait.length<=1000) (b:oI o) (r:D.has 0) :
  ((∃ a,o=W (0,a)/\dD qT (D.dm o) 2=(2,D.fN (GG o)))\/(∃ a,o=W (1,a)/\dD qT (D.dm o) 2=(2,(F1 D).fN (GG o)))\/(∃ o',mL o o'/\dD qT (D.dm o) 2=(0,(F1 D).aG.dm o'))) /\
  (∀ k,k<2->(dD qT (D.dm o) k).1=0->(dD qT (D.dm o) k).2.Ok):=by
 have z:=Px m C (by have:=r.2;omega);have c:dD qT (D.dm o) 1=(D.dm o).write 0 (zs 512):=vJ _ _;have q:dD qT (D.dm o) 2=if (dD qT (D.dm o) 1).1=0 then (dD qT (D.dm o) 1).2.flush else dD qT (D.dm o) 1:=rfl
 rcases lN h b r (pS 512) with ⟨l,g⟩|⟨l,g⟩
 .have y:({ D with cw:=cy (D.cw+1),wait:=D.wait++[((0:Int),zs 512)] }:aB)=F1 D:=rfl
  rw [y] at g;rw [g] at c;refine ⟨?_,fun k A i=>?_⟩
  .rw [q,c,if_pos rfl]
   show _\/(∃ a,o=W (1,a)/\((F1 D).dm (mA o)).flush=_)\/∃ o',_/\((F1 D).dm (mA o)).flush=_
   rcases lQ (Ff h) b.dec with ⟨s,j⟩|⟨s,j⟩
   .exact .inr (.inr ⟨_,(mL.dec b).trans (mL.dec b.dec),j⟩)
   .refine .inr (.inl ?_)
    rw [j,qR];obtain ⟨a,f⟩:=s
    cases o with
    | none=>cases f
    | some x=>
     obtain ⟨N,p⟩:=x;injection f with f;injection f with u v
     have:N≠0:=fun e=>l ⟨p,by rw [e]⟩;simp only at u v;exact ⟨p,by rw [show N=1 by omega],rfl⟩
  .cases k with
   | zero=>exact kI m b
   | succ k=>
    obtain rfl:k=0:=by omega
    rw [c];exact kI z b.dec
 .rw [g] at c
  have t:¬ (2:Int)=0:=by decide
  refine ⟨.inl ?_,fun k A i=>?_⟩
  .obtain ⟨a,f⟩:=l
   exact ⟨a,f,by rw [q,c,if_neg t]⟩
  .cases k with
   | zero=>exact kI m b
   | succ k=>
    obtain rfl:k=0:=by omega
    rw [c] at i;exact absurd i t
theorem P7 (h:D.Calm) (c:oI o) (e:k+1<D.sec.length) :
  (∃ o',mL o o'/\dD (Ov ((k:Int)+1)) ((FZ D k).dm o) 1=(0,(FZ D (k+1)).dm o'))\/(jM o/\dD (Ov ((k:Int)+1)) ((FZ D k).dm o) 1=(2,(FZ D k).fN (GG o))):=by
 rw [vJ];show (∃ o',_/\((FZ D k).dm o).write ((k:Int)+1) (zs 512)=_)\/(_/\((FZ D k).dm o).write ((k:Int)+1) (zs 512)=_)
 rcases lN (yS h k) c (a:=(k:Int)+1) ⟨by omega,by show (k:Int)+1<(D.sec.length:Int);omega⟩ (pS 512) with ⟨b,a⟩|⟨b,a⟩
 .refine .inl ⟨_,mL.dec c,?_⟩
  have:({ FZ D k with cw:=cy ((FZ D k).cw+1),wait:=(FZ D k).wait++[((k:Int)+1,zs 512)] }:aB)=FZ D (k+1):=by
   show ({ D with cw:=cy (iC D.cw k+1),wait:=zW k++[((k:Int)+1,zs 512)] }:aB)=_
   rw [<- Fc];rfl
  rw [a,this]
 .exact .inr ⟨b,a⟩
theorem QR (h:D.Calm) (j:D.Ok) (a:oI o) (A:D.has 0) :
  ((∃ o',mL o o'/\dD (ng n P) (D.dm o) 3=(0,(FS n P D.aG).aG.dm o'))\/(o≠X/\∃ E,(E=D\/E=D.aG\/E=FS n P D.aG)/\dD (ng n P) (D.dm o) 3=(2,E.fN (GG o)))) /\
  (∀ k,k<3->(dD (ng n P) (D.dm o) k).1=0->(dD (ng n P) (D.dm o) k).2.Ok):=by
 have u:=aB.gS j;rw [h.flush] at u;have m:D.aG.Ok:=u.ok j (by have:=j.many;omega);have s:D.aG.Calm:=iw h;have H:D.aG.sec.length=D.sec.length:=(bq D).2.2.2;have t:D.aG.has 0:=⟨D3 _,by rw [H];exact A.2⟩
 have G:∀ x ∈ (FS n P D.aG).wait,(FS n P D.aG).has x.1:=by
  intro x I;obtain rfl:x=((0:Int),cY n P):=by simpa [FS] using I
  exact t
 have F:(FS n P D.aG).Ok:=⟨m.n,G,by show [((0:Int),cY n P)].length<=_;simp,m.bB⟩
 have f:dD (ng n P) (D.dm o) 1=(D.dm o).flush:=vJ _ _;have b:dD (ng n P) (D.dm o) 2=if (dD (ng n P) (D.dm o) 1).1=0 then (dD (ng n P) (D.dm o) 1).2.write 0 (cY n P) else dD (ng n P) (D.dm o) 1:=rfl
 have g:dD (ng n P) (D.dm o) 3=if (dD (ng n P) (D.dm o) 2).1=0 then (dD (ng n P) (D.dm o) 2).2.flush else dD (ng n P) (D.dm o) 2:=rfl
 have i:¬ (2:Int)=0:=by decide
 rcases lQ h a with ⟨v,q⟩|⟨v,q⟩
 .rw [q] at f
  rw [f,if_pos rfl] at b;rcases lN s a.dec t (iY n P) with ⟨y,p⟩|⟨y,p⟩
  .have C:({ D.aG with cw:=cy (D.aG.cw+1),wait:=D.aG.wait++[((0:Int),cY n P)] }:aB)=FS n P D.aG:=rfl
   rw [C] at p;rw [p] at b;rw [b,if_pos rfl] at g;refine ⟨?_,fun k l c=>?_⟩
   .rcases lQ (D:=FS n P D.aG) ⟨s.down,s.eP⟩ a.dec.dec with ⟨z,r⟩|⟨z,r⟩
    .exact .inl ⟨_,((mL.dec a).trans (mL.dec a.dec)).trans (mL.dec a.dec.dec),g.trans r⟩
    .refine .inr ⟨fun e=>vD z (lK (lK e)),_,.inr (.inr rfl),g.trans (r.trans ?_)⟩
     rw [qR,qR]
   .match k,l with
    | 0,_=>exact kI j a
    | 1,_=>rw [f];exact kI m a.dec
    | 2,_=>rw [b];exact kI F a.dec.dec
  .rw [p] at b
   rw [b,if_neg i] at g;refine ⟨.inr ⟨fun e=>vD y (lK e),_,.inr (.inl rfl),g.trans (by rw [qR])⟩,fun k l c=>?_⟩
   match k,l with
   | 0,_=>exact kI j a
   | 1,_=>rw [f];exact kI m a.dec
   | 2,_=>rw [b] at c;exact absurd c i
 .rw [q] at f
  rw [f,if_neg i] at b;rw [b,if_neg i] at g;refine ⟨.inr ⟨vD v,_,.inl rfl,g⟩,fun k l c=>?_⟩
  match k,l with
  | 0,_=>exact kI j a
  | 1,_=>rw [f] at c;exact absurd c i
  | 2,_=>rw [b] at c;exact absurd c i
end
theorem MG (w:Q) (c f:Addr) :
    CallsD U 107 #[T (W c),T (W f)] .returning w fun e u g=>e = .returned (.tuple #[])/\u = .returning/\w=g:=by
  refine callsD_of_wpS func107 rfl fun a h b=>?_;apply wpS_seq;apply wpS_region
  simp only [ntmps107,List.size_toArray,List.length_cons,List.length_nil,Nat.reduceAdd,Nat.reduceSub,Array.replicate_succ,
     Array.replicate_zero,List.push_toArray,List.append_toArray,K3,List.cons_append]
  simp [wpOpsS,go_sem,recoverD,b,Exit.thenS];refine wpS_of_wp ?_
  go_wp2
  cases a
  simp_all [bodyPostS,results,Tryz.results107]
theorem zX {w:Q} {c:Array Z'} {a b:Nat} {x e:Z'} (f:c[4]?=W (ay a)) (g:c[5]?=W (ay b)) (h:w.cell? ⟨a,0,X⟩=W x) (i:w.cell? ⟨b,0,X⟩=W e) :
  (results Tryz.f61 c).run U w = .ok (.tuple #[x,e]) w:=by
 simp [results,Tryz.results61,go_sem,f,g,h,i]
theorem II {w:Q} {c:Array Z'} {a b:Nat} {x z:Z'} {R:Ending->Q->Prop} (f:c[4]?=W (ay a)) (g:c[5]?=W (ay b))
  (i:w.cell? ⟨a,0,X⟩=W x) (j:w.cell? ⟨b,0,X⟩=W z) (h:R (.returned (.tuple #[x,z])) w) :
  bodyPostD U Tryz.f61 R Exit.ret { tmps:=c,defers:=[{ target:=.fn (.func 107) #[T (W ⟨a,0,X⟩),T (W ⟨b,0,X⟩)],args:=#[] }] } w:=by
 refine leaves_cons (f:=107) (args:=#[T (W ⟨a,0,X⟩),T (W ⟨b,0,X⟩)]) (by simp) (by simp [go_sem]) ?_;refine (MG w ⟨a,0,X⟩ ⟨b,0,X⟩).mono ?_;rintro e u l ⟨rfl,rfl,rfl⟩;exact ⟨_,zX f g i j,h⟩
def xb (cd ca cb:Nat):Z':=.func (.func 160) #[] #[ay cd,ay ca,ay cb]
def xR (d:Nat):Z':=.func (.func 114) #[ay d] #[]
def kR (rb:Nat) (a:Array Z'):ai:=pt rb (Z a 112 (0,0))
section
variable (w:Q) (S:Hp) (d:Nat) (D:aB) (cd ca cb rb:Nat) (bv:Z') (R:ai)
theorem MP (h:ag w (aT S d D*(ak S*(tK cd ca cb d 0 bv*(kR rb #[xb cd ca cb,xR d]*R))))) (r:∀ a f,ag a (f*R)->Rd a bv (zs 512)) (q:∀ k,k<2->(dD qT D k).1=0->(dD qT D k).2.Ok) :
  Calls U 112 #[V (W ⟨rb,0,X⟩) 2 2] w (FL S d (dD qT D 2) (tK cd ca cb d 0 bv*(kR rb #[xb cd ca cb,xR d]*R)) w):=by
 refine vC 2 (fun k=>if k=0 then (160,#[],#[ay cd,ay ca,ay cb]) else (114,#[ay d],#[])) qT S d rb D _ (by decide) ?_ ?_ ?_ q w h
 .intro a f k s b
  have l:=(s.to (by ac_rfl:_=kR rb #[xb cd ca cb,xR d]*(f*(tK cd ca cb d 0 bv*R))))
  match k,b with
  | 0,_=>exact l.cell 0
  | 1,_=>exact l.cell 1
 .intro k b t w
  match k,b with
  | 0,_=>simp [go_sem]
  | 1,_=>simp [go_sem]
 .intro k b a c D' u j i
  match k,b with
  | 0,_=>exact yJ a c d D' cd ca cb 0 bv (zs 512) _ i j (fun m p g=>r m _ (g.to (by ac_rfl:_=(aT c d p*(ak c*(tK cd ca cb d 0 bv*kR rb #[xb cd ca cb,xR d])))*R))) (pS 512)
  | 1,_=>exact (oC a c d D' _ i j).mono fun e m g=>gK.of g
theorem ur (a:Int) (h:ag w (aT S d D*(ak S*(tK cd ca cb d a bv*(kR rb #[xb cd ca cb]*R))))) (p:∀ b f,ag b (f*R)->Rd b bv (zs 512)) (m:D.Ok) :
  Calls U 112 #[V (W ⟨rb,0,X⟩) 1 1] w (FL S d (dD (Ov a) D 1) (tK cd ca cb d a bv*(kR rb #[xb cd ca cb]*R)) w):=by
 refine vC 1 (fun k=>(160,#[],#[ay cd,ay ca,ay cb])) (Ov a) S d rb D _ (by decide) ?_ ?_ ?_ ?_ w h
 .intro b f k q c
  have r:=(q.to (by ac_rfl:_=kR rb #[xb cd ca cb]*(f*(tK cd ca cb d a bv*R))))
  match k,c with
  | 0,_=>exact r.cell 0
 .intro k c t w
  simp [go_sem]
 .intro k c b e D' u l i
  exact yJ b e d D' cd ca cb a bv (zs 512) _ i l (fun s g j=>p s _ (j.to (by ac_rfl:_=(aT e d g*(ak e*(tK cd ca cb d a bv*kR rb #[xb cd ca cb])))*R))) (pS 512)
 .intro k c _
  obtain rfl:k=0:=by omega
  exact m
theorem M3 (n P:Nat) (h:ag w (aT S d D*(ak S*(tK cd ca cb d 0 bv*(kR rb #[xR d,xb cd ca cb,xR d]*R))))) (r:∀ a g,ag a (g*R)->Rd a bv (cY n P)) (q:∀ k,k<3->(dD (ng n P) D k).1=0->(dD (ng n P) D k).2.Ok) :
  Calls U 112 #[V (W ⟨rb,0,X⟩) 3 3] w (FL S d (dD (ng n P) D 3) (tK cd ca cb d 0 bv*(kR rb #[xR d,xb cd ca cb,xR d]*R)) w):=by
 refine vC 3 (fun k=>if k=1 then (160,#[],#[ay cd,ay ca,ay cb]) else (114,#[ay d],#[])) (ng n P) S d rb D _ (by decide) ?_ ?_ ?_ q w h
 .intro a g k s f
  have l:=(s.to (by ac_rfl:_=kR rb #[xR d,xb cd ca cb,xR d]*(g*(tK cd ca cb d 0 bv*R))))
  match k,f with
  | 0,_=>exact l.cell 0
  | 1,_=>exact l.cell 1
  | 2,_=>exact l.cell 2
 .intro k f t w
  match k,f with
  | 0,_=>simp [go_sem]
  | 1,_=>simp [go_sem]
  | 2,_=>simp [go_sem]
 .intro k f a b D' u j i
  match k,f with
  | 0,_=>exact (oC a b d D' _ i j).mono fun e m c=>gK.of c
  | 1,_=>exact yJ a b d D' cd ca cb 0 bv (cY n P) _ i j (fun m p c=>r m _ (c.to (by ac_rfl:_=(aT b d p*(ak b*(tK cd ca cb d 0 bv*kR rb #[xR d,xb cd ca cb,xR d])))*R))) (iY n P)
  | 2,_=>exact (oC a b d D' _ i j).mono fun e m c=>gK.of c
end
theorem Nz {n P:Nat} {D:aB} (f:D.Ok) (c:D.Calm) (l:D.wait=[]) (j:D.sec.length=P+1) (r:Zero P D) (h:nE n P=true) :
  Sj n P 1 (cY n P) (J0 P n) (FS n P D).aG rW/\(FS n P D).aG.sec.length=P+1/\(FS n P D).aG.cr=D.cr/\(FS n P D).aG.cw=cy (D.cw+1)/\(FS n P D).aG.cf=cy (D.cf+1):=by
 have m:∀ x ∈ (FS n P D).wait,(FS n P D).has x.1:=by
  intro x q;obtain rfl:x=((0:Int),cY n P):=by simpa [FS] using q
  exact ⟨D3 _,by show (0:Int)<(D.sec.length:Int);omega⟩
 have a:(FS n P D).Ok:=⟨f.n,m,by show [((0:Int),cY n P)].length<=_;simp,f.bB⟩
 have b:(FS n P D).Calm:=⟨c.down,c.eP⟩
 have e:=aB.gS a;rw [b.flush] at e;have g:(FS n P D).aG.sec.length=P+1:=by rw [(bq _).2.2.2];exact j
 refine ⟨Oz (fun p i=>?_) (e.ok a (by have:=a.many;omega)) (iw b) (by rw [g];omega) h ?_,g,(bq _).1,(bq _).2.1,(bq _).2.2.1⟩
 .rw [fI a _ ⟨by omega,by show (p:Int)+1<(D.sec.length:Int);omega⟩,<- r p i]
  unfold aB.cq
  have:er [((0:Int),cY n P)] ((p:Int)+1)=X:=by
   have:=jk [] ((0:Int),cY n P) ((p:Int)+1);rw [K3,if_neg (by show ¬ ((0:Int)=(p:Int)+1);omega)] at this;exact this
  rw [show (FS n P D).wait=[((0:Int),cY n P)] from rfl,this,l]
  rfl
 .rw [fI a 0 ⟨D3 _,by show (0:Int)<(D.sec.length:Int);omega⟩]
  unfold aB.cq
  have:er [((0:Int),cY n P)] 0=W (cY n P):=by
   have:=jk [] ((0:Int),cY n P) 0;rw [K3,if_pos rfl] at this;exact this
  rw [show (FS n P D).wait=[((0:Int),cY n P)] from rfl,this];show ((0:Int),bT 512 (cY n P))=_
  rw [j9 (iY n P)]
def Q4 (S:Hp) (d n P:Nat) (D:aB) (o:Ar) (F:ai) (w:Q) (e:Ending) (a:Q):Prop:=∃ E:Nat,o≠X/\E=E
structure Qb (n P:Nat) (D:aB) (o:Ar) (D':aB) (o':Ar):Prop where
 sj:Sj n P 1 (cY n P) (J0 P n) D' rW
 Vh:D'.wait=[]
 sec:D'.sec.length=D.sec.length
 cr:D'.cr=D.cr
 cw:D'.cw=iC D.cw (P+2)
 cf:D'.cf=iC D.cf 3
 ar:mL o o'
def Pd (S:Hp) (d n P:Nat) (D:aB) (o:Ar) (F:ai) (w:Q) (e:Ending) (b:Q):Prop:=
 ∃ s j a D' o',Ext S a/\e = .returned (.tuple #[ay s,Y .i64 0])/\ag b (eE s j d n P (J0 P n)*(aT a d (D'.dm o')*(ak a*F)))/\aj w b/\Qb n P D o D' o'
def Oe (S:Hp) (d n P:Nat) (D:aB) (o:Ar) (F:ai) (w:Q) (e:Ending) (a:Q):Prop:=Q4 S d n P D o F w e a\/Pd S d n P D o F w e a
def Sr (S:Hp) (d P:Nat) (b:aB) (o:Ar) (c:ai) (w:Q) (wr:Q):Prop:=
 ∃ a o',Ext S a/\ag wr (aT a d ((FZ b P).dm o')*(ak a*c))/\aj w wr/\mL o o'
def TJ (S:Hp) (d P:Nat) (b:aB) (o:Ar) (c:ai) (w:Q) (u:Z') (wr:Q):Prop:=
 ∃ k a o',k<=P/\u = Y .i64 ((k:Nat):Int)/\Ext S a/\ag wr (aT a d ((FZ b k).dm o')*(ak a*c))/\aj w wr/\mL o o'
theorem CX (w:Q) (S:Hp) (d n P:Nat) (D:aB) (o:Ar) (F:ai) (e2:ag w (aT S d (D.dm o)*(ak S*F))) (x2:D.Ok) (hc:D.Calm) (hm:D.wait.length<=1000) (hg:nE n P=true) (hs:D.sec.length=P+1) (ho:oI o)
  (v2:o=X)
  (hh:∀ h b,ag h (b*F)->oL h):Calls U 61 #[ay d,Y .i64 (n:Int)] w (Oe S d n P D o F w):=by
 have s3:=mK U;have r3:=eC.1 hg;have h1:=((e2.alloc (Z #[T X] 61 (0,0))).alloc (Z #[Y .i64 0] 28 (0,0)))
 have d1:=(((aj.refl w).alloc (Z #[T X] 61 (0,0))).alloc (Z #[Y .i64 0] 28 (0,0)))
 rw [B3] at h1;have X1:=ae x2;have Hc:=ae hc;have Hm:=ae hm;have Hg:=ae hg;have Hs:=ae hs;have Ho:=ae ho;have Hh:=ae hh;have K0:=ae v2;clear v2;clear e2 x2 hc hm hg hs ho hh
 go_enter_defers func61,ntmps61
 go_wp2_with fail
 generalize (w.alloc (Z #[T X] 61 (0,0))).alloc (Z #[Y .i64 0] 28 (0,0))=w1 at h1 d1 ⊢;generalize w.heap.size+1=A at h1 ⊢;generalize w.heap.size=z at h1 ⊢;have K1:=nx w1 S d (D.dm o) _ (h1.to (by ac_rfl:_=aT S d (D.dm o)*(pt A (Z #[Y .i64 0] 28 (0,0))*(pt z (Z #[T X] 61 (0,0))*(ak S*F)))));rw [qE,Hs.out] at K1;have x3:IntKind.i64.wrap (((P+1:Nat):Int)-1)=(P:Int):=by rw [IntKind.wrap_i64];omega
 (with_reducible refine K1.mono ?_)
 rintro e w2 ⟨rfl,rfl⟩;have h2:=h1.alloc (Z #[Y .i64 (n:Int),Y .i64 (P:Int)] 119 (0,0));have d2:=d1.alloc (Z #[Y .i64 (n:Int),Y .i64 (P:Int)] 119 (0,0));clear K1 h1 d1
 go_wp2_with fail
 have W0:=wb (w1.alloc (Z #[Y .i64 (n:Int),Y .i64 (P:Int)] 119 (0,0))) n P;unfold EG Nl at W0;rw [if_pos Hg.out] at W0
 (with_reducible refine W0.mono ?_)
 rintro e w3 ⟨rfl,h3,d3⟩;have l3:=fun w=>BU w;have H3:=h3.dN h2;have t:=d2.trans d3;generalize w1.heap.size=q at H3 ⊢;clear W0 h2 d2 h3 d3
 go_wp2_with fail
 (with_reducible refine (l3 _).mono ?_)
 rintro e w4 ⟨rfl,rfl⟩;have H4:=H3.alloc (Z (ea (zs 512)) 5 (0,0));have D4:=t.alloc (Z (ea (zs 512)) 5 (0,0));obtain ⟨y,hZ⟩:∃ y,y=ea (zs 512):=⟨_,rfl⟩
 have H1:∀ w,(Instr.makeSlice 37 (Y .i64 512) (Y .i64 512)).run U w = .ok (V (W ⟨w.heap.size,0,X⟩) 512 512) (w.alloc (Z y 5 (0,0))):=by
  rw [hZ];exact Go.Proofs.Nn.fp 512 (by decide)
 rw [<- hZ] at H4 D4;clear H3 t;have HZ:=ae hZ;clear hZ
 go_wp2_with fail
 generalize w3.alloc (Z y 5 (0,0))=i at H4 D4 ⊢;generalize w3.heap.size=f at H4 ⊢;obtain ⟨c,t1⟩:∃ b,b=pt f (Z y 5 (0,0))*(pt q (Z #[Y .i64 (n:Int),Y .i64 (P:Int)] 119 (0,0))*(pt A (Z #[Y .i64 0] 28 (0,0))*(pt z (Z #[T X] 61 (0,0))*F))):=⟨_,rfl⟩
 have H5:ag i (aT S d (D.dm o)*(ak S*c)):=H4.to (by rw [t1];ac_rfl);have i0:=ae t1
 have D0:∀ h b,ag h (b*c)->Rd h (V (W ⟨f,0,X⟩) 512 512) (zs 512):=by
  intro h b hx;have:=ze (c:=512) ((hx.to (by rw [i0.out,HZ.out];ac_rfl:_=pt f (Z (ea (zs 512)) 5 (0,0))*(b*(pt q (Z #[Y .i64 (n:Int),Y .i64 (P:Int)] 119 (0,0))*(pt A (Z #[Y .i64 0] 28 (0,0))*(pt z (Z #[T X] 61 (0,0))*F)))))).heap)
  rwa [pS] at this
 have D0:=ae D0;clear H4 t1
 -- the first two steps
 have O:=uN i d 0 (W ⟨f,0,X⟩) 512 512;have h6:=(((H5.alloc (Z #[ay d] 24 (0,0))).alloc (Z #[Y .i64 0] 3 (0,0))).alloc (Z #[V (W ⟨f,0,X⟩) 512 512] 37 (0,0))).alloc (Z #[.func (.func 160) #[] #[ay i.heap.size,ay (i.heap.size+1),ay (i.heap.size+1+1)],.func (.func 114) #[ay d] #[]] 112 (0,0));have D6:=(((D4.alloc (Z #[ay d] 24 (0,0))).alloc (Z #[Y .i64 0] 3 (0,0))).alloc (Z #[V (W ⟨f,0,X⟩) 512 512] 37 (0,0))).alloc (Z #[.func (.func 160) #[] #[ay i.heap.size,ay (i.heap.size+1),ay (i.heap.size+1+1)],.func (.func 114) #[ay d] #[]] 112 (0,0));rw [B3,B3,B3] at h6
 (with_reducible refine O.mono ?_)
 rintro e w6 ⟨rfl,rfl⟩;have H6:=ae h6;have i1:=ae D6;clear O h6 D6 D4 H5 H1
 go_wp2_with fail
 generalize (((i.alloc (Z #[ay d] 24 (0,0))).alloc (Z #[Y .i64 0] 3 (0,0))).alloc (Z #[V (W ⟨f,0,X⟩) 512 512] 37 (0,0))).alloc (Z #[.func (.func 160) #[] #[ay i.heap.size,ay (i.heap.size+1),ay (i.heap.size+1+1)],.func (.func 114) #[ay d] #[]] 112 (0,0))=w6 at H6 i1 ⊢;generalize i.heap.size+1+1+1=rb at H6 ⊢;generalize i.heap.size+1+1=cb at H6 ⊢;generalize i.heap.size+1=ca at H6 ⊢;generalize i.heap.size=cd at H6 ⊢;have h6:ag w6 (aT S d (D.dm o)*(ak S*(tK cd ca cb d 0 (V (W ⟨f,0,X⟩) 512 512)*(kR rb #[xb cd ca cb,xR d]*c)))):=H6.out.to (by unfold tK kR xb xR;ac_rfl);have s0:D.has 0:=⟨D3 _,by rw [Hs.out];omega⟩
 obtain ⟨hA,j2⟩:=RP Hc.out X1.out Hm.out Ho.out s0;have N:=MP w6 S d (D.dm o) cd ca cb rb _ c h6 D0.out j2;clear H6 h6 j2
 (with_reducible refine N.mono ?_)
 rintro e w7 ⟨T0,S7,n2,h7,d7⟩;have D7:=i1.out.trans d7;clear N d7 i1;rcases hA with ⟨K',x0,r⟩|⟨K',x0,r⟩|⟨o1,i2,r⟩
 .rw [K0.out] at x0;cases x0
 .rw [K0.out] at x0;cases x0
 rw [r] at T0 h7;rcases T0 with ⟨_,rfl⟩|⟨T0,_⟩
 case inr=>exact absurd rfl T0
 -- the 0s
 have u0:=Px X1.out Hm.out (by rw [Hs.out];omega);have q1:=Ff Hc.out;obtain ⟨a,H⟩:∃ b,b=(F1 D).aG:=⟨_,rfl⟩
 have e0:=aB.gS u0;rw [q1.flush] at e0;have y2:a.Ok:=by rw [H];exact e0.ok u0 (by have:=u0.many;omega)
 have p2:a.Calm:=by rw [H];exact iw q1
 have M1:a.wait=[]:=by rw [H];rfl
 have E2:a.sec.length=P+1:=by rw [H,(bq _).2.2.2];exact Hs.out
 have J2:a.cq 0=(0,zs 512):=by rw [H,fI u0 0 s0];exact MN
 have s2:a.cr=D.cr:=by rw [H,(bq _).1];rfl
 have t2:a.cw=iC D.cw 1:=by rw [H,(bq _).2.1];rfl
 have r2:a.cf=iC D.cf 1:=by rw [H,(bq _).2.2.1];rfl
 rw [<- H] at h7;have o2:FZ a 0=a:=by unfold FZ zW;rw [List.range_zero,List.map_nil,<- M1];rfl
 have g2:ag w7 (aT S7 d ((FZ a 0).dm o1)*(ak S7*c)):=by
  rw [o2];exact (h7.to (by ac_rfl:_=(tK cd ca cb d 0 (V (W ⟨f,0,X⟩) 512 512)*kR rb #[xb cd ca cb,xR d])*(aT S7 d (a.dm o1)*(ak S7*c)))).right
 have H7:=ae g2;have j1:=ae D7;have e1:=ae i2;have l1:=ae n2;have Y1:=ae y2;have m1:=ae p2;have e3:=ae M1;have k0:=ae E2;have c3:=ae J2;have X2:=ae s2;have Y2:=ae t2;have W2:=ae r2;clear h7 g2 D7 i2 r H e0 y2 p2 M1 E2 J2 s2 t2 r2 u0 q1 o2 n2
 have g1:w7.cell? ⟨q,1,X⟩=W (Y .i64 (P:Int)):=by
  have:=H7.out;rw [i0.out] at this;exact (this.to (by ac_rfl:_=pt q (Z #[Y .i64 (n:Int),Y .i64 (P:Int)] 119 (0,0))*(pt f (Z y 5 (0,0))*(pt A (Z #[Y .i64 0] 28 (0,0))*(pt z (Z #[T X] 61 (0,0))*(F*(aT S7 d ((FZ a 0).dm o1)*ak S7))))))).cell 1
 go_upto_block 0 with (fail)
 go_cut [] from 32 to 42 (fun wx=>Sr S d P a o c w wx)
 case first=>
  go_wp2_with fail
  go_loopw [32] (fun h0 wr=>TJ S d P a o c w h0 wr) (fun h0 _=>P-(intOf h0).toNat)
  case atStart=>exact ⟨0,S7,o1,Nat.zero_le _,rfl,l1.out,H7.out,j1.out,e1.out⟩
  case round=>
   clear H7 j1 e1 l1 g1;obtain ⟨k,m,M,hk,rfl,n0,G,D8,m0⟩:=hrel
   by_cases E1:k<P
   .have f3:(k:Int)<(P:Int):=by omega
    have u3:IntKind.i64.wrap ((k:Int)+1)=(k:Int)+1:=by rw [IntKind.wrap_i64];omega
    have O:=uN wr d ((k:Int)+1) (W ⟨f,0,X⟩) 512 512;have J:=(((G.alloc (Z #[ay d] 24 (0,0))).alloc (Z #[Y .i64 ((k:Int)+1)] 3 (0,0))).alloc (Z #[V (W ⟨f,0,X⟩) 512 512] 37 (0,0))).alloc (Z #[.func (.func 160) #[] #[ay wr.heap.size,ay (wr.heap.size+1),ay (wr.heap.size+1+1)]] 112 (0,0));have D9:=(((D8.alloc (Z #[ay d] 24 (0,0))).alloc (Z #[Y .i64 ((k:Int)+1)] 3 (0,0))).alloc (Z #[V (W ⟨f,0,X⟩) 512 512] 37 (0,0))).alloc (Z #[.func (.func 160) #[] #[ay wr.heap.size,ay (wr.heap.size+1),ay (wr.heap.size+1+1)]] 112 (0,0));rw [B3,B3,B3] at J;have p:=ae J;have k1:=ae D9;have H0:=ae n0;have x:=ae m0;clear G D8 J D9 n0 m0
    go_wp2_with fail
    (with_reducible refine O.mono ?_)
    rintro e g ⟨rfl,rfl⟩;clear O
    go_wp2_with fail
    generalize (((wr.alloc (Z #[ay d] 24 (0,0))).alloc (Z #[Y .i64 ((k:Int)+1)] 3 (0,0))).alloc (Z #[V (W ⟨f,0,X⟩) 512 512] 37 (0,0))).alloc (Z #[.func (.func 160) #[] #[ay wr.heap.size,ay (wr.heap.size+1),ay (wr.heap.size+1+1)]] 112 (0,0))=g at p k1 ⊢;generalize wr.heap.size+1+1+1=rb at p ⊢;generalize wr.heap.size+1+1=cb at p ⊢;generalize wr.heap.size+1=ca at p ⊢;generalize wr.heap.size=cd at p ⊢;have J:ag g (aT m d ((FZ a k).dm M)*(ak m*(tK cd ca cb d ((k:Int)+1) (V (W ⟨f,0,X⟩) 512 512)*(kR rb #[xb cd ca cb]*c)))):=p.out.to (by unfold tK kR xb;ac_rfl);have N:=ur g m d ((FZ a k).dm M) cd ca cb rb _ c _ J D0.out (kI (PO Y1.out (by rw [k0.out];omega)) x.out.ok);clear J p
    (with_reducible refine N.mono ?_)
    rintro e a1 ⟨R0,L0,l2,C,a2⟩;have o0:=k1.out.trans a2;have hE:Ext S L0:=H0.out.trans l2;clear N a2 k1 l2;rcases P7 (k:=k) m1.out x.out.ok (by rw [k0.out];omega) with ⟨s,r0,r⟩|⟨hh,r⟩
    .rw [r] at R0 C
     rcases R0 with ⟨_,rfl⟩|⟨R0,_⟩
     case inr=>exact absurd rfl R0
     have I:=ae ((C.to (by ac_rfl:_=(tK cd ca cb d ((k:Int)+1) (V (W ⟨f,0,X⟩) 512 512)*kR rb #[xb cd ca cb])*(aT L0 d ((FZ a (k+1)).dm s)*(ak L0*c)))).right);have p0:=ae o0;have P2:=ae hE;have N2:=ae (x.out.trans r0);clear C o0 hE r0 r x
     go_wp2_with fail
     go_roundw
     case rel=>exact ⟨k+1,L0,s,by omega,by go_num,P2.out,I.out,p0.out,N2.out⟩
     case measure=>simp [intOf];omega
    .obtain ⟨K',hK⟩:=hh
     rw [x.out.none K0.out] at hK;cases hK
   .obtain rfl:k=P:=by omega
    have H8:=ae G;have G0:=ae D8;clear G D8
    go_wp2_with fail
    go_meet
    exact ⟨m,M,n0,H8.out,G0.out,m0⟩
 case rest=>
  clear H7 j1 e1 l1 g1;obtain ⟨m,M,n0,G,D8,m0⟩:=hcut;have V0:∀ h b,ag h (b*c)->ag h (pt q (Z #[Y .i64 (n:Int),Y .i64 (P:Int)] 119 (0,0))*((pt f (Z y 5 (0,0))*(pt A (Z #[Y .i64 0] 28 (0,0))*(pt z (Z #[T X] 61 (0,0))*F)))*b)):=fun h b hx=>hx.to (by rw [i0.out];ac_rfl);have g0:wc.cell? ⟨q,0,X⟩=W (Y .i64 (n:Int)):=(V0 _ (aT m d ((FZ a P).dm M)*ak m) (G.to (by ac_rfl))).cell 0;have g1:wc.cell? ⟨q,1,X⟩=W (Y .i64 (P:Int)):=(V0 _ (aT m d ((FZ a P).dm M)*ak m) (G.to (by ac_rfl))).cell 1;have A1:∀ h b,ag h (b*c)->oL h:=fun h b hx=>Hh.out h (b*(pt f (Z y 5 (0,0))*(pt q (Z #[Y .i64 (n:Int),Y .i64 (P:Int)] 119 (0,0))*(pt A (Z #[Y .i64 0] 28 (0,0))*pt z (Z #[T X] 61 (0,0)))))) (hx.to (by rw [i0.out];ac_rfl));have z1:=B6 wc n P Hg.out (A1 wc (aT m d ((FZ a P).dm M)*ak m) (G.to (by ac_rfl)));unfold Nl at z1;have n3:=ae V0;have o3:=ae A1;have H8:=ae G;have G0:=ae D8;have H0:=ae n0;have x:=ae m0;clear V0 A1 G D8 n0 m0
  go_wp2_with fail
  (with_reducible refine z1.mono ?_)
  rintro e g ⟨ev,rfl,J,d9⟩;have p:=J.under H8.out;have D9:=G0.out.trans d9;obtain ⟨u,v,rfl⟩:=p.rI.shape;rw [iY] at p ⊢;clear z1 J d9 H8 G0 g0 g1;have O:=uN g d 0 u 512 v;have C:=(((p.alloc (Z #[ay d] 24 (0,0))).alloc (Z #[Y .i64 0] 3 (0,0))).alloc (Z #[V u 512 v] 37 (0,0))).alloc (Z #[.func (.func 114) #[ay d] #[],.func (.func 160) #[] #[ay g.heap.size,ay (g.heap.size+1),ay (g.heap.size+1+1)],.func (.func 114) #[ay d] #[]] 112 (0,0));have o0:=(((D9.alloc (Z #[ay d] 24 (0,0))).alloc (Z #[Y .i64 0] 3 (0,0))).alloc (Z #[V u 512 v] 37 (0,0))).alloc (Z #[.func (.func 114) #[ay d] #[],.func (.func 160) #[] #[ay g.heap.size,ay (g.heap.size+1),ay (g.heap.size+1+1)],.func (.func 114) #[ay d] #[]] 112 (0,0));rw [B3,B3,B3] at C;have I:=ae C;have p0:=ae o0;clear p D9 C o0
  go_wp2_with fail
  (with_reducible refine O.mono ?_)
  rintro e a1 ⟨rfl,rfl⟩;clear O
  go_wp2_with fail
  generalize (((g.alloc (Z #[ay d] 24 (0,0))).alloc (Z #[Y .i64 0] 3 (0,0))).alloc (Z #[V u 512 v] 37 (0,0))).alloc (Z #[.func (.func 114) #[ay d] #[],.func (.func 160) #[] #[ay g.heap.size,ay (g.heap.size+1),ay (g.heap.size+1+1)],.func (.func 114) #[ay d] #[]] 112 (0,0))=a1 at I p0 ⊢;generalize g.heap.size+1+1+1=rb at I ⊢;generalize g.heap.size+1+1=cb at I ⊢;generalize g.heap.size+1=ca at I ⊢;generalize g.heap.size=cd at I ⊢;have C:ag a1 (aT m d ((FZ a P).dm M)*(ak m*(tK cd ca cb d 0 (V u 512 v)*(kR rb #[xR d,xb cd ca cb,xR d]*(bs 5 (V u 512 v) (cY n P)*c))))):=I.out.to (by unfold tK kR xb xR;ac_rfl);have s0:(FZ a P).has 0:=⟨D3 _,by show (0:Int)<(a.sec.length:Int);rw [k0.out];omega⟩
  have d0:=PO Y1.out (k:=P) (by rw [k0.out];omega);obtain ⟨hC,k2⟩:=QR (n:=n) (P:=P) (yS m1.out P) d0 x.out.ok s0;have N:=M3 a1 m d ((FZ a P).dm M) cd ca cb rb (V u 512 v) (bs 5 (V u 512 v) (cY n P)*c) n P C (fun h b hx=>(hx.to (by ac_rfl:_=bs 5 (V u 512 v) (cY n P)*(b*c))).rI) k2;clear I C k2
  (with_reducible refine N.mono ?_)
  rintro e N1 ⟨S0,j,m2,N0,b2⟩;have O1:=p0.out.trans b2;have hE:Ext S j:=H0.out.trans m2;clear N b2 p0 m2
  -- what the device is
  have r1:=yS m1.out P;have e0:=aB.gS d0;rw [r1.flush] at e0;have z2:(FZ a P).aG.Ok:=e0.ok d0 (by have:=d0.many;omega);have q2:(FZ a P).aG.Calm:=iw r1;have H2:(FZ a P).aG.sec.length=P+1:=by rw [(bq _).2.2.2];exact k0.out
  have K2:Zero P (FZ a P).aG:=fun M2 hp=>by rw [fI d0 _ ⟨by omega,by show (M2:Int)+1<(a.sec.length:Int);rw [k0.out];omega⟩];exact OB a P M2 hp
  have i3:(FZ a P).aG.cq 0=(0,zs 512):=by rw [fI d0 _ s0,FQ e3.out];exact c3.out
  rcases hC with ⟨s,r0,r⟩|⟨u2,E,q3,r⟩
  case inr=>exact absurd (x.out.none K0.out) u2
  rw [r] at S0 N0;rcases S0 with ⟨_,rfl⟩|⟨S0,_⟩
  case inr=>exact absurd rfl S0
  obtain ⟨L1,X0,x1,y1,v1⟩:=Nz z2 q2 rfl H2 K2 Hg.out
  have s1:Qb n P D o (FS n P (FZ a P).aG).aG s:=by
   refine ⟨L1,rfl,by rw [X0,Hs.out],?_,?_,?_,x.out.trans r0⟩
   .rw [x1,(bq _).1];exact X2.out
   .rw [y1,(bq _).2.1]
    show cy (iC a.cw P+1)=_
    rw [Y2.out,GM,show P+2=(1+P)+1 by omega];rfl
   .rw [v1,(bq _).2.2.1]
    show cy (cy (a.cf+1)+1)=_
    rw [W2.out];rfl
  generalize (FS n P (FZ a P).aG).aG=t at N0 L1 X0 x1 y1 v1 s1;have T1:ag N1 (aT j d (t.dm s)*(ak j*c)):=(N0.to (by ac_rfl:_=(tK cd ca cb d 0 (V u 512 v)*(kR rb #[xR d,xb cd ca cb,xR d]*bs 5 (V u 512 v) (cY n P)))*(aT j d (t.dm s)*(ak j*c)))).right;have T2:=ae s1;clear N0 r L1 x1 y1 v1 z2 q2 H2 K2 i3 e0 r1 d0 s1 r0 x H0 D0;obtain ⟨F0,p1⟩:∃ l,l=nM n 0:=⟨_,rfl⟩
  have H1:∀ w,(Instr.makeSlice 22 (Y .i64 (n:Int)) (Y .i64 (n:Int))).run U w = .ok (V (W ⟨w.heap.size,0,X⟩) n n) (w.alloc (Z (ints F0) 3 (0,0))):=by
   rw [p1];exact rE n (by omega)
  have S2:=ae p1;have q0:=T1.alloc (Z (ints F0) 3 (0,0));have b1:=O1.alloc (Z (ints F0) 3 (0,0));clear p1 T1 O1
  go_upto_block 2 with (fail)
  generalize N1.alloc (Z (ints F0) 3 (0,0))=y3 at q0 b1 ⊢;generalize N1.heap.size=L at q0 ⊢;obtain ⟨Z2,u1⟩:∃ b,b=aT j d (t.dm s)*(ak j*c):=⟨_,rfl⟩
  rw [<- u1] at q0;have V2:=ae u1;have c1:=ae q0;have f1:=ae b1;have R2:=ae hE;have Z1:=ae X0;clear u1 H1 q0 b1 hE X0
  go_cut [] from 57 to 63 (fun wx=>ag wx (pt L (Z (ints (G3 n (-1))) 3 (0,0))*Z2)/\aj w wx)
  case first=>
   go_wp2_with fail
   go_loopw [57] (fun h0 wr=>M6 n L Z2 w h0 wr) (fun h0 _=>n-(intOf h0).toNat)
   case atStart=>exact ⟨0,Nat.zero_le _,rfl,by rw [<- S2.out];exact c1.out,f1.out⟩
   case round=>
    clear c1 f1;obtain ⟨k,hk,rfl,f0,Y0⟩:=hrel
    by_cases E1:k<n
    .have f3:(k:Int)<(n:Int):=by omega
     have ck:wr.cell? ⟨L,k,X⟩=W (Y .i64 ((nM n k).getD k 0)):=(f0.cell k).trans (bH (by rw [IT hk];exact E1));have fk:=f0.frozen k;have h2:=f0.setCell k (Y .i64 (-1));rw [gC,Gd E1] at h2;have g3:=ae h2;have b3:=ae Y0;generalize (nM n k).getD k 0=uo at ck;clear f0 Y0 h2
     go_wp2
     go_roundw
     case rel=>exact ⟨k+1,by omega,by go_num,g3.out,b3.out.setCell _ _⟩
     case measure=>simp [intOf];omega
    .obtain rfl:k=n:=by omega
     have e:nM k k=G3 k (-1):=by simp [nM]
     rw [e] at f0;have Hs:=ae f0;have Hd:=ae Y0;clear f0 Y0 e
     go_wp2_with fail
     go_meet
     exact ⟨Hs.out,Hd.out⟩
  case rest=>
   clear c1 f1;obtain ⟨l0,R1⟩:=hcut;rw [V2.out] at l0;have n1:ag wc (pt q (Z #[Y .i64 (n:Int),Y .i64 (P:Int)] 119 (0,0))*(pt f (Z y 5 (0,0))*(pt A (Z #[Y .i64 0] 28 (0,0))*(pt z (Z #[T X] 61 (0,0))*F))*(pt L (Z (ints (G3 n (-1))) 3 (0,0))*(aT j d (t.dm s)*ak j)))):=l0.to (by rw [i0.out];ac_rfl);have g0:wc.cell? ⟨q,0,X⟩=W (Y .i64 (n:Int)):=n1.cell 0;have g1:wc.cell? ⟨q,1,X⟩=W (Y .i64 (P:Int)):=n1.cell 1;have D1:(nk n).at_.length=n:=J3
   have D2:Calls U 116 #[ay d,.agg #[Y .i64 (n:Int),Y .i64 (P:Int)],.agg #[Y .u32 1,Y .u64 1,Y .u64 0,Y .i64 0,Y .i64 0,V (W ⟨L,0,X⟩) n n]] wc (vV d n P (J0 P n) wc):=by
    refine nO wc j d (t.dm s) _ (l0.to (by ac_rfl:_=aT j d (t.dm s)*(pt L (Z (ints (G3 n (-1))) 3 (0,0))*(ak j*c)))) n P (nk n) (V (W ⟨L,0,X⟩) n n) (.inr ⟨L,0,n,by rw [D1],by rw [D1];exact Nat.le_refl _,by unfold maxLen;omega,fun k hk=>?_⟩) (by omega) (by omega) (by rw [qE,Z1.out];omega) (by rw [qE,Z1.out];omega) (show (0:Int)<=0 by decide) (tp (by omega) (by omega) (by omega)) (by omega);rw [Nat.zero_add,l0.cell];exact bH hk
   have V1:=ae l0;have W1:=ae R1;clear l0 n1 R1 D1
   go_wp2_with fail
   (with_reducible refine D2.mono ?_)
   rintro e m3 ⟨Z0,L2,rfl,f2,c2⟩;have S1:=W1.out.trans c2;have c0:ag m3 (pt z (Z #[T X] 61 (0,0))*(pt A (Z #[Y .i64 0] 28 (0,0))*((pt L (Z (ints (G3 n (-1))) 3 (0,0))*(pt q (Z #[Y .i64 (n:Int),Y .i64 (P:Int)] 119 (0,0))*pt f (Z y 5 (0,0))))*(eE Z0 L2 d n P (J0 P n)*(aT j d (t.dm s)*(ak j*F)))))):=(f2.under V1.out).to (by rw [i0.out];ac_rfl);have a0:=c0.cell 0;have b0:=c0.ah.cell 0;have fa:=c0.frozen 0;have p3:=c0.ah.frozen 0;have u2:z≠A:=ag.ne c0;have HK:=ae ((c0.setCell 0 (ay Z0)).ah.setCell 0 (Y .i64 0));have O2:=ae ((S1.setCell ⟨z,0,X⟩ (ay Z0)).setCell ⟨A,0,X⟩ (Y .i64 0));clear D2 f2 c0 c2 S1 V1 W1 g0 g1
   go_wp2_with fail
   exact II rfl rfl (HK.out.ah.cell 0) (HK.out.cell 0) (.inr ⟨Z0,L2,j,t,s,R2.out,rfl,HK.out.right.right.right,O2.out,T2.out⟩)
def lY (n:Int):Int:=if n<4\/3840<n then 0 else (5*n+241)/2
theorem DI {n:Nat} (a:4<=n) (b:n<=3840):lY (n:Int)=(((5*n+241)/2:Nat):Int):=by
 unfold lY;rw [if_neg (by omega)];omega
theorem I1 (w:Q) (n:Int):Calls U 25 #[Y .i64 n] w fun e f=>e = .returned (Y .i64 (lY n))/\w=f:=by
 go_enter func25,ntmps25
 by_cases h:n<4
 .have e:lY n=0:=by unfold lY;rw [if_pos (.inl h)]
  rw [e]
  go_wp2
  go_ret
  exact ⟨rfl,rfl⟩
 .by_cases c:3840<n
  .have e:lY n=0:=by unfold lY;rw [if_pos (.inr c)]
   rw [e]
   go_wp2
   go_ret
   exact ⟨rfl,rfl⟩
  .have e:lY n=(5*n+241)/2:=by unfold lY;rw [if_neg (by omega)]
   have g:IntKind.i64.wrap ((IntKind.i64.wrap (IntKind.i64.wrap (IntKind.i64.wrap (IntKind.i64.wrap (5*n)+240)+2)-1)).tdiv 2)=(5*n+241)/2:=by
    have a:IntKind.i64.wrap (5*n)=5*n:=by rw [IntKind.wrap_i64];omega
    have b:IntKind.i64.wrap (5*n+240)=5*n+240:=by rw [IntKind.wrap_i64];omega
    have a3:IntKind.i64.wrap (5*n+240+2)=5*n+242:=by rw [IntKind.wrap_i64];omega
    have a4:IntKind.i64.wrap (5*n+242-1)=5*n+241:=by rw [IntKind.wrap_i64];omega
    rw [a,b,a3,a4,Int.tdiv_eq_ediv_of_nonneg (by omega),IntKind.wrap_i64];omega
   rw [e]
   go_wp2
   go_ret
   refine ⟨?_,rfl⟩;rw [show 5*n+240+2-1=5*n+241 by omega]
   rfl
end Go.Proofs.Su
