/- Steps. -/
import Derived.Test.YtebfaobobccikaaGreatDoorSP39
import Derived.Test.YtebfaobobccikaaGreatDoorSP46
set_option linter.all false
set_option maxRecDepth 99999
set_option maxHeartbeats 0
open Go.SL
open Go.Value renaming int->Y,slice->V,pointer->T
open Go.Obj renaming cells->Z
open Go renaming World->Q,Value->Z'
open Go.Proofs.Tryz renaming prog->U
open Option renaming some->W,none->X
open Go.Proofs.Tryz
open Go.World renaming size_alloc->B3
open Int renaming le_refl->D3
open List renaming replicate->G3,length_replicate->J3,nil_append->K3
namespace Go.Proofs.Nn
open RowKit SL Proofs.Su
def sQ:Has:=fun _=>X
def Zero (P:Nat) (D:aC):Prop:=∀ p:Nat,p<P->D.cE ((p:Int)+1)=(0,zs 512)
section
variable {n P B:Nat} {D E:aC} {K:List Int}
theorem EP (h:Zero P D):Ab P D=fun _=>X:=by
 funext p;unfold Ab
 split
 .rename_i a
  rw [h p a.1,Fm];rfl
 .rfl
theorem EH (b:1<=P) (a:n<=P):Gx n P (fun _=>X) 0 0 (fun _=>X):=
 ⟨by omega,a,D3 _,fun _=>rfl,fun p t _ h=>(by cases h),fun p t _ h=>(by cases h),fun c p h=>(by cases h),fun h=>absurd h (by decide),fun e=>⟨1,0,by decide,by decide,fun p t _ h=>(by cases h)⟩⟩
theorem PN (q:Zero P D) (m:D.Ok) (j:D.Calm) (r:P+1<=D.sec.length) (b:1<=P) (i:P<=19999) (f:1<=n) (g:n<=3840) (l:n<=P):JT n (J0 P n) D sQ:=by
 have h:=Ij (P:=P) (n:=n) b i f g;refine ⟨⟨h.ok,h.nums,m,h.br,j,by show (P:Int)+1<=_;omega,h.Kv,h.rm,h.win,fun a p c=>?_,h.Vg⟩,VZ P n,?_⟩
 .rw [Te,(Tb.jo n P a).1] at c;cases c
 .have e:Qd (J0 P n)=fun _=>X:=by
   funext a;unfold Qd;rw [Te,(Tb.jo n P a).1];rfl
  show Wx n P (Ab P D) 0 0 (Qd (J0 P n)) 1 1
  rw [EP q,e];exact (EH b l).run fun p t _ h=>by cases h
theorem Pk (g:Zero P D) (e:D.Ok) (b:D.Calm) (f:P+1<=D.sec.length) (c:nY n P=true) (a:D.cE 0=(0,dp n P)):Sj n P 1 (dp n P) (J0 P n) D sQ:=by
 have h:=eQ.1 c;exact ⟨PN g e b f (by omega) (by omega) (by omega) (by omega) (by omega),B6 P n,rfl,by show (0:Int)<=_;omega,by show (1:Int)<=_;omega,a⟩
def F1 (D:aC):aC:={ D with cw:=cG (D.cw+1),wait:=D.wait++[((0:Int),zs 512)] }
def zW (k:Nat):List (Int × List UInt8):=(List.range k).map fun i:Nat=>((i:Int)+1,zs 512)
def FZ (D:aC) (k:Nat):aC:={ D with cw:=iT D.cw k,wait:=zW k }
def FS (n P:Nat) (D:aC):aC:={ D with cw:=cG (D.cw+1),wait:=[((0:Int),dp n P)] }
theorem GW (k:Nat):zW (k+1)=zW k++[((k:Int)+1,zs 512)]:=by simp [zW,List.range_succ]
theorem qy (n:Nat):(zs n).length=n:=J3
theorem yV (a:Int) (k:Nat):eN (zW k) a=if 1<=a/\a<=(k:Int) then W (zs 512) else X:=by
 induction k with
 | zero=>rw [if_neg (by omega)];rfl
 | succ k c=>
  rw [GW,jH,c]
  by_cases h:(k:Int)+1=a
  .rw [if_pos h,if_pos (by omega)]
  .rw [if_neg h]
   by_cases b:1<=a/\a<=(k:Int)
   .rw [if_pos b,if_pos (by omega)]
   .rw [if_neg b,if_neg (by omega)]
theorem Re (h:D.Ok) (b:D.wait.length<=1000) (c:1<=D.sec.length):(F1 D).Ok:=by
 refine ⟨h.n,fun x a=>?_,by show (D.wait++[((0:Int),zs 512)]).length<=_;rw [List.length_append];simp;omega,h.bD⟩;rcases List.mem_append.1 a with a|a
 .exact h.wait x a
 .obtain rfl:x=((0:Int),zs 512):=by simpa using a
  exact ⟨D3 _,by show (0:Int)<(D.sec.length:Int);omega⟩
theorem Ga (h:D.Calm):(F1 D).Calm:=⟨h.down,h.fo⟩
theorem Ng:(F1 D).cE 0=(0,zs 512):=by
 unfold aC.cE;show (match eN (D.wait++[((0:Int),zs 512)]) 0 with|some l=>_|none=>_)=_
 rw [jH,if_pos rfl];show ((0:Int),bW 512 (zs 512))=_
 rw [kp (qy 512)]
theorem Rq (h:D.Ok) {k:Nat} (c:k+1<=D.sec.length):(FZ D k).Ok:=by
 have:=h.n;refine ⟨h.n,fun x b=>?_,by show (zW k).length<=_;simp [zW];omega,h.bD⟩;obtain ⟨i,a,rfl⟩:=List.mem_map.1 (show x ∈ zW k from b);have:=List.mem_range.1 a;exact ⟨by show (0:Int)<=(i:Int)+1;omega,by show (i:Int)+1<(D.sec.length:Int);omega⟩
theorem zq (h:D.Calm) (k:Nat):(FZ D k).Calm:=⟨h.down,h.fo⟩
theorem QA (D:aC) (P:Nat):Zero P (FZ D P):=by
 intro p a;unfold aC.cE;show (match eN (zW P) _ with|some l=>_|none=>_)=_
 rw [yV,if_pos (by omega)];show ((0:Int),bW 512 (zs 512))=_
 rw [kp (qy 512)]
theorem IL (a:D.wait=[]) (k:Nat):(FZ D k).cE 0=D.cE 0:=by
 unfold aC.cE;show (match eN (zW k) 0 with|some l=>_|none=>_)=match eN D.wait 0 with|some l=>_|none=>_
 rw [yV,if_neg (by omega),a]
 rfl
end
end Go.Proofs.Nn
namespace Go.Proofs.Su
open RowKit SL Proofs.Nn Proofs.Ba Proofs.Fs
def uB (cd ca cb d:Nat) (a:Int) (bv:Z'):ai:=pt cd (Z #[az d] 24 (0,0))*(pt ca (Z #[Y .i64 a] 3 (0,0))*pt cb (Z #[bv] 22 (0,0)))
theorem AV (w:Q) (S:Hp) (d:Nat) (D:aC) (cd ca cb:Nat) (a:Int) (bv:Z') (l:List UInt8) (F:ai) (h:ag w (aV S d D*(ak S*(uB cd ca cb d a bv*F)))) (x:D.Ok) (f:∀ q D',ag q (aV S d D'*(ak S*(uB cd ca cb d a bv*F)))->Rd q bv l) (c:l.length=512) :
  Calls U 165 #[az cd,az ca,az cb] w (ik S d (D.write a l).2 (Y .i64 (D.write a l).1) (uB cd ca cb d a bv*F) w):=by
 have g:=f w D h;have i:=pC w S d D a bv l _ h x g f (by rw [c];decide);have b:=h;unfold uB at b;have u:w.cell? ⟨cd,0,X⟩=W (az d):=(b.to (by ac_rfl:_=pt cd (Z #[az d] 24 (0,0))*(pt ca (Z #[Y .i64 a] 3 (0,0))*(pt cb (Z #[bv] 22 (0,0))*(aV S d D*(ak S*F)))))).cell 0;have v:w.cell? ⟨ca,0,X⟩=W (Y .i64 a):=(b.to (by ac_rfl:_=pt ca (Z #[Y .i64 a] 3 (0,0))*(pt cd (Z #[az d] 24 (0,0))*(pt cb (Z #[bv] 22 (0,0))*(aV S d D*(ak S*F)))))).cell 0;have j:w.cell? ⟨cb,0,X⟩=W bv:=(b.to (by ac_rfl:_=pt cb (Z #[bv] 22 (0,0))*(pt cd (Z #[az d] 24 (0,0))*(pt ca (Z #[Y .i64 a] 3 (0,0))*(aV S d D*(ak S*F)))))).cell 0;obtain ⟨z,A,rfl⟩:=g.shape;clear h b f g;rw [c] at i j ⊢;clear c
 go_enter func165,ntmps165
 go_wp2_with fail
 (with_reducible refine i.mono ?_)
 rintro e C ⟨t,y,rfl,p,m⟩;have s:=ae p;have r:=ae m;clear i p m u v j
 go_wp2_with fail
 go_ret
 exact ⟨t,y,rfl,s.out,r.out⟩
def dQ (a:Nat->aC->Int × aC) (D:aC):Nat->Int × aC
 | 0=>(0,D)
 | k+1=>if (dQ a D k).1=0 then a k (dQ a D k).2 else dQ a D k
theorem Im (a:Nat->aC->Int × aC) (D:aC) {k:Nat} (h:(dQ a D k).1≠0):∀ m,k<=m->dQ a D m=dQ a D k:=by
  intro m e
  induction m with
  | zero => obtain rfl : k = 0 := by omega
            rfl
  | succ m c=>
    by_cases b:k=m+1
    · rw [b]
    · have:=c (by omega)
      rw [dQ,this,if_neg h]
def F7 (S:Hp) (d:Nat) (R:Int × aC) (c:ai) (w:Q) (e:Ending) (b:Q):Prop:=
 (R.1=0/\e = .returned (.tuple #[])\/R.1≠0/\e = .panicked (WS 2))/\∃ a,Ext S a/\ag b (aV a d R.2*(ak a*c))/\aj w b
theorem vS (m:Nat) (f:Nat->FuncId × Array Z' × Array Z') (b:Nat->aC->Int × aC) (S:Hp) (d g:Nat) (D:aC) (j:ai) (L:m<=10)
  (I:∀ c H k,ag c (H*j)->k<m->c.cell? ⟨g,k,X⟩=W (.func (.func (f k).1) (f k).2.1 (f k).2.2))
  (J:∀ k,k<m->∀ (x:Array Z') (w:Q),(callFunc (f k).1 x).run U w = .ok (.enter (f k).1 x) w)
  (N:∀ k,k<m->∀ c a D',Ext S a->D'.Ok->ag c (aV a d D'*(ak a*j))->Calls U (f k).1 ((f k).2.1++(f k).2.2) c (ik a d (b k D').2 (Y .i64 (b k D').1) j c))
  (M:∀ k,k<m->(dQ b D k).1=0->(dQ b D k).2.Ok) (w:Q) (h:ag w (aV S d D*(ak S*j))) :
  Calls U 119 #[V (W ⟨g,0,X⟩) m m] w (F7 S d (dQ b D m) j w):=by
 refine (P7 m f (fun k c=>(dQ b D k).1=0/\∃ a,Ext S a/\ag c (aV a d (dQ b D k).2*(ak a*j))/\aj w c) (fun c=>(dQ b D m).1≠0/\∃ a,Ext S a/\ag c (aV a d (dQ b D m).2*(ak a*j))/\aj w c) g L ?_ ?_ w ⟨rfl,S,Ext.refl S,h,aj.refl w⟩).mono ?_
 .rintro i k c hi ⟨_,a,_,s,_⟩ p
  exact I c _ k (s.to (by ac_rfl:_=(aV a d (dQ b D i).2*ak a)*j)) p
 .intro k p
  refine ⟨J k p,?_⟩;rintro c ⟨C,a,u,s,y⟩;refine (N k p c a _ u (M k p C) s).mono ?_;rintro e O ⟨v,F,rfl,l,z⟩;have q:dQ b D (k+1)=b k (dQ b D k).2:=by rw [dQ,if_pos C]
  refine ⟨_,rfl,?_⟩
  by_cases r:(b k (dQ b D k).2).1=0
  .exact .inl ⟨r,by rw [q];exact r,v,u.trans F,by rw [q];exact l,y.trans z⟩
  .have G:(dQ b D (k+1)).1≠0:=by rw [q];exact r
   have A:=Im b D G m (by omega);exact .inr ⟨r,by rw [A];exact G,v,u.trans F,by rw [A,q];exact l,y.trans z⟩
 .rintro e O (⟨rfl,t,l⟩|⟨rfl,t,l⟩)
  .exact ⟨.inl ⟨t,rfl⟩,l⟩
  .exact ⟨.inr ⟨t,rfl⟩,l⟩
def nL (m k:Nat):List Int:=G3 k (-1)++G3 (m-k) 0
theorem I3 {m k:Nat} (h:k<=m):(nL m k).length=m:=by simp [nL];omega
theorem Jy {m k:Nat} (h:k<m):(nL m k).set k (-1)=nL m (k+1):=by
 unfold nL;rw [List.set_append_right _ _ (by simp),J3,Nat.sub_self,show m-k=(m-(k+1))+1 by omega,List.replicate_succ,List.replicate_succ',List.append_assoc]
 rfl
def Of (m b:Nat) (a:ai) (w:Q) (u:Z') (wr:Q):Prop:=
 ∃ k:Nat,k<=m/\u = Y .i64 (k:Int)/\ag wr (pt b (Z (ints (nL m k)) 3 (0,0))*a)/\aj w wr
section
variable {D:aC} {o:Ar} {n P k:Nat} {K:List Int}
def sk (k:Nat) (D:aC):Int × aC:=if k=0 then D.write 0 (zs 512) else D.flush
def Ph (a:Int) (_:Nat) (D:aC):Int × aC:=D.write a (zs 512)
def og (n P k:Nat) (D:aC):Int × aC:=if k=1 then D.write 0 (dp n P) else D.flush
theorem mO (h:D.Calm) (f:pS o) {a:Int} (c:D.has a) {l:List UInt8} (e:l.length=512) :
  (¬ kE o/\(D.dD o).write a l=(0,({ D with cw:=cG (D.cw+1),wait:=D.wait++[(a,l)] }:aC).dD (nn o)))\/(kE o/\(D.dD o).write a l=(2,D.gg (IK o))):=by
 by_cases b:kE o
 .exact .inr ⟨b,xN h b c e⟩
 .exact .inl ⟨b,Ai h f b c e⟩
theorem mK (h:D.Calm) (b:pS o):(¬ kE o/\(D.dD o).flush=(0,D.aK.dD (nn o)))\/(kE o/\(D.dD o).flush=(2,D.gg (IK o))):=by
 by_cases a:kE o
 .exact .inr ⟨a,xU h a⟩
 .exact .inl ⟨a,Ay h b a⟩
theorem xi (a:Nat->aC->Int × aC) (D:aC):dQ a D 1=a 0 D:=by rw [dQ,dQ];rfl
theorem SN (h:D.Calm) (m:D.Ok) (C:D.wait.length<=1000) (b:pS o) (r:D.has 0) :
  ((∃ a,o=W (0,a)/\dQ sk (D.dD o) 2=(2,D.gg (IK o)))\/(∃ a,o=W (1,a)/\dQ sk (D.dD o) 2=(2,(F1 D).gg (IK o)))\/(∃ o',nG o o'/\dQ sk (D.dD o) 2=(0,(F1 D).aK.dD o'))) /\
  (∀ k,k<2->(dQ sk (D.dD o) k).1=0->(dQ sk (D.dD o) k).2.Ok):=by
 have z:=Re m C (by have:=r.2;omega);have c:dQ sk (D.dD o) 1=(D.dD o).write 0 (zs 512):=xi _ _;have q:dQ sk (D.dD o) 2=if (dQ sk (D.dD o) 1).1=0 then (dQ sk (D.dD o) 1).2.flush else dQ sk (D.dD o) 1:=rfl
 rcases mO h b r (qy 512) with ⟨l,g⟩|⟨l,g⟩
 .have y:({ D with cw:=cG (D.cw+1),wait:=D.wait++[((0:Int),zs 512)] }:aC)=F1 D:=rfl
  rw [y] at g;rw [g] at c;refine ⟨?_,fun k A i=>?_⟩
  .rw [q,c,if_pos rfl]
   show _\/(∃ a,o=W (1,a)/\((F1 D).dD (nn o)).flush=_)\/∃ o',_/\((F1 D).dD (nn o)).flush=_
   rcases mK (Ga h) b.dec with ⟨s,j⟩|⟨s,j⟩
   .exact .inr (.inr ⟨_,(nG.dec b).trans (nG.dec b.dec),j⟩)
   .refine .inr (.inl ?_)
    rw [j,rW];obtain ⟨a,f⟩:=s
    cases o with
    | none=>cases f
    | some x=>
     obtain ⟨N,p⟩:=x;injection f with f;injection f with u v
     have:N≠0:=fun e=>l ⟨p,by rw [e]⟩;simp only at u v;exact ⟨p,by rw [show N=1 by omega],rfl⟩
  .cases k with
   | zero=>exact lF m b
   | succ k=>
    obtain rfl:k=0:=by omega
    rw [c];exact lF z b.dec
 .rw [g] at c
  have t:¬ (2:Int)=0:=by decide
  refine ⟨.inl ?_,fun k A i=>?_⟩
  .obtain ⟨a,f⟩:=l
   exact ⟨a,f,by rw [q,c,if_neg t]⟩
  .cases k with
   | zero=>exact lF m b
   | succ k=>
    obtain rfl:k=0:=by omega
    rw [c] at i;exact absurd i t
theorem Uf (h:D.Calm) (c:pS o) (e:k+1<D.sec.length) :
  (∃ o',nG o o'/\dQ (Ph ((k:Int)+1)) ((FZ D k).dD o) 1=(0,(FZ D (k+1)).dD o'))\/(kE o/\dQ (Ph ((k:Int)+1)) ((FZ D k).dD o) 1=(2,(FZ D k).gg (IK o))):=by
 rw [xi];show (∃ o',_/\((FZ D k).dD o).write ((k:Int)+1) (zs 512)=_)\/(_/\((FZ D k).dD o).write ((k:Int)+1) (zs 512)=_)
 rcases mO (zq h k) c (a:=(k:Int)+1) ⟨by omega,by show (k:Int)+1<(D.sec.length:Int);omega⟩ (qy 512) with ⟨b,a⟩|⟨b,a⟩
 .refine .inl ⟨_,nG.dec c,?_⟩
  have:({ FZ D k with cw:=cG ((FZ D k).cw+1),wait:=(FZ D k).wait++[((k:Int)+1,zs 512)] }:aC)=FZ D (k+1):=by
   show ({ D with cw:=cG (iT D.cw k+1),wait:=zW k++[((k:Int)+1,zs 512)] }:aC)=_
   rw [<- GW];rfl
  rw [a,this]
 .exact .inr ⟨b,a⟩
theorem Sx (h:D.Calm) (j:D.Ok) (a:pS o) (A:D.has 0) :
  ((∃ o',nG o o'/\dQ (og n P) (D.dD o) 3=(0,(FS n P D.aK).aK.dD o'))\/(o≠X/\∃ E,(E=D\/E=D.aK\/E=FS n P D.aK)/\dQ (og n P) (D.dD o) 3=(2,E.gg (IK o)))) /\
  (∀ k,k<3->(dQ (og n P) (D.dD o) k).1=0->(dQ (og n P) (D.dD o) k).2.Ok):=by
 have u:=aC.iE j;rw [h.flush] at u;have m:D.aK.Ok:=u.ok j (by have:=j.many;omega);have s:D.aK.Calm:=iP h;have H:D.aK.sec.length=D.sec.length:=(bB D).2.2.2;have t:D.aK.has 0:=⟨D3 _,by rw [H];exact A.2⟩
 have G:∀ x ∈ (FS n P D.aK).wait,(FS n P D.aK).has x.1:=by
  intro x I;obtain rfl:x=((0:Int),dp n P):=by simpa [FS] using I
  exact t
 have F:(FS n P D.aK).Ok:=⟨m.n,G,by show [((0:Int),dp n P)].length<=_;simp,m.bD⟩
 have f:dQ (og n P) (D.dD o) 1=(D.dD o).flush:=xi _ _;have b:dQ (og n P) (D.dD o) 2=if (dQ (og n P) (D.dD o) 1).1=0 then (dQ (og n P) (D.dD o) 1).2.write 0 (dp n P) else dQ (og n P) (D.dD o) 1:=rfl
 have g:dQ (og n P) (D.dD o) 3=if (dQ (og n P) (D.dD o) 2).1=0 then (dQ (og n P) (D.dD o) 2).2.flush else dQ (og n P) (D.dD o) 2:=rfl
 have i:¬ (2:Int)=0:=by decide
 rcases mK h a with ⟨v,q⟩|⟨v,q⟩
 .rw [q] at f
  rw [f,if_pos rfl] at b;rcases mO s a.dec t (jx n P) with ⟨y,p⟩|⟨y,p⟩
  .have C:({ D.aK with cw:=cG (D.aK.cw+1),wait:=D.aK.wait++[((0:Int),dp n P)] }:aC)=FS n P D.aK:=rfl
   rw [C] at p;rw [p] at b;rw [b,if_pos rfl] at g;refine ⟨?_,fun k l c=>?_⟩
   .rcases mK (D:=FS n P D.aK) ⟨s.down,s.fo⟩ a.dec.dec with ⟨z,r⟩|⟨z,r⟩
    .exact .inl ⟨_,((nG.dec a).trans (nG.dec a.dec)).trans (nG.dec a.dec.dec),g.trans r⟩
    .refine .inr ⟨fun e=>xe z (mS (mS e)),_,.inr (.inr rfl),g.trans (r.trans ?_)⟩
     rw [rW,rW]
   .match k,l with
    | 0,_=>exact lF j a
    | 1,_=>rw [f];exact lF m a.dec
    | 2,_=>rw [b];exact lF F a.dec.dec
  .rw [p] at b
   rw [b,if_neg i] at g;refine ⟨.inr ⟨fun e=>xe y (mS e),_,.inr (.inl rfl),g.trans (by rw [rW])⟩,fun k l c=>?_⟩
   match k,l with
   | 0,_=>exact lF j a
   | 1,_=>rw [f];exact lF m a.dec
   | 2,_=>rw [b] at c;exact absurd c i
 .rw [q] at f
  rw [f,if_neg i] at b;rw [b,if_neg i] at g;refine ⟨.inr ⟨xe v,_,.inl rfl,g⟩,fun k l c=>?_⟩
  match k,l with
  | 0,_=>exact lF j a
  | 1,_=>rw [f] at c;exact absurd c i
  | 2,_=>rw [b] at c;exact absurd c i
end
theorem KG (w:Q) (c f:Addr) :
    CallsD U 114 #[T (W c),T (W f)] .returning w fun e u g=>e = .returned (.tuple #[])/\u = .returning/\w=g:=by
  refine callsD_of_wpS func114 rfl fun a h b=>?_;apply wpS_seq;apply wpS_region
  simp only [ntmps114,List.size_toArray,List.length_cons,List.length_nil,Nat.reduceAdd,Nat.reduceSub,Array.replicate_succ,
     Array.replicate_zero,List.push_toArray,List.append_toArray,K3,List.cons_append]
  simp [wpOpsS,go_sem,recoverD,b,Exit.thenS];refine wpS_of_wp ?_
  go_wp2
  cases a
  simp_all [bodyPostS,results,Tryz.results114]
theorem Bg {w:Q} {c:Array Z'} {a b:Nat} {x e:Z'} (f:c[4]?=W (az a)) (g:c[5]?=W (az b)) (h:w.cell? ⟨a,0,X⟩=W x) (i:w.cell? ⟨b,0,X⟩=W e) :
  (results Tryz.f64 c).run U w = .ok (.tuple #[x,e]) w:=by
 simp [results,Tryz.results64,go_sem,f,g,h,i]
theorem Iw {w:Q} {c:Array Z'} {a b:Nat} {x z:Z'} {R:Ending->Q->Prop} (f:c[4]?=W (az a)) (g:c[5]?=W (az b))
  (i:w.cell? ⟨a,0,X⟩=W x) (j:w.cell? ⟨b,0,X⟩=W z) (h:R (.returned (.tuple #[x,z])) w) :
  bodyPostD U Tryz.f64 R Exit.ret { tmps:=c,defers:=[{ target:=.fn (.func 114) #[T (W ⟨a,0,X⟩),T (W ⟨b,0,X⟩)],args:=#[] }] } w:=by
 refine leaves_cons (f:=114) (args:=#[T (W ⟨a,0,X⟩),T (W ⟨b,0,X⟩)]) (by simp) (by simp [go_sem]) ?_;refine (KG w ⟨a,0,X⟩ ⟨b,0,X⟩).mono ?_;rintro e u l ⟨rfl,rfl,rfl⟩;exact ⟨_,Bg f g i j,h⟩
def xL (cd ca cb:Nat):Z':=.func (.func 165) #[] #[az cd,az ca,az cb]
def zf (d:Nat):Z':=.func (.func 121) #[az d] #[]
def lI (rb:Nat) (a:Array Z'):ai:=pt rb (Z a 111 (0,0))
section
variable (w:Q) (S:Hp) (d:Nat) (D:aC) (cd ca cb rb:Nat) (bv:Z') (R:ai)
theorem NB (h:ag w (aV S d D*(ak S*(uB cd ca cb d 0 bv*(lI rb #[xL cd ca cb,zf d]*R))))) (r:∀ a f,ag a (f*R)->Rd a bv (zs 512)) (q:∀ k,k<2->(dQ sk D k).1=0->(dQ sk D k).2.Ok) :
  Calls U 119 #[V (W ⟨rb,0,X⟩) 2 2] w (F7 S d (dQ sk D 2) (uB cd ca cb d 0 bv*(lI rb #[xL cd ca cb,zf d]*R)) w):=by
 refine vS 2 (fun k=>if k=0 then (165,#[],#[az cd,az ca,az cb]) else (121,#[az d],#[])) sk S d rb D _ (by decide) ?_ ?_ ?_ q w h
 .intro a f k s b
  have l:=(s.to (by ac_rfl:_=lI rb #[xL cd ca cb,zf d]*(f*(uB cd ca cb d 0 bv*R))))
  match k,b with
  | 0,_=>exact l.cell 0
  | 1,_=>exact l.cell 1
 .intro k b t w
  match k,b with
  | 0,_=>simp [go_sem]
  | 1,_=>simp [go_sem]
 .intro k b a c D' u j i
  match k,b with
  | 0,_=>exact AV a c d D' cd ca cb 0 bv (zs 512) _ i j (fun m p g=>r m _ (g.to (by ac_rfl:_=(aV c d p*(ak c*(uB cd ca cb d 0 bv*lI rb #[xL cd ca cb,zf d])))*R))) (qy 512)
  | 1,_=>exact (oU a c d D' _ i j).mono fun e m g=>ik.of g
theorem ve (a:Int) (h:ag w (aV S d D*(ak S*(uB cd ca cb d a bv*(lI rb #[xL cd ca cb]*R))))) (p:∀ b f,ag b (f*R)->Rd b bv (zs 512)) (m:D.Ok) :
  Calls U 119 #[V (W ⟨rb,0,X⟩) 1 1] w (F7 S d (dQ (Ph a) D 1) (uB cd ca cb d a bv*(lI rb #[xL cd ca cb]*R)) w):=by
 refine vS 1 (fun k=>(165,#[],#[az cd,az ca,az cb])) (Ph a) S d rb D _ (by decide) ?_ ?_ ?_ ?_ w h
 .intro b f k q c
  have r:=(q.to (by ac_rfl:_=lI rb #[xL cd ca cb]*(f*(uB cd ca cb d a bv*R))))
  match k,c with
  | 0,_=>exact r.cell 0
 .intro k c t w
  simp [go_sem]
 .intro k c b e D' u l i
  exact AV b e d D' cd ca cb a bv (zs 512) _ i l (fun s g j=>p s _ (j.to (by ac_rfl:_=(aV e d g*(ak e*(uB cd ca cb d a bv*lI rb #[xL cd ca cb])))*R))) (qy 512)
 .intro k c _
  obtain rfl:k=0:=by omega
  exact m
theorem NY (n P:Nat) (h:ag w (aV S d D*(ak S*(uB cd ca cb d 0 bv*(lI rb #[zf d,xL cd ca cb,zf d]*R))))) (r:∀ a g,ag a (g*R)->Rd a bv (dp n P)) (q:∀ k,k<3->(dQ (og n P) D k).1=0->(dQ (og n P) D k).2.Ok) :
  Calls U 119 #[V (W ⟨rb,0,X⟩) 3 3] w (F7 S d (dQ (og n P) D 3) (uB cd ca cb d 0 bv*(lI rb #[zf d,xL cd ca cb,zf d]*R)) w):=by
 refine vS 3 (fun k=>if k=1 then (165,#[],#[az cd,az ca,az cb]) else (121,#[az d],#[])) (og n P) S d rb D _ (by decide) ?_ ?_ ?_ q w h
 .intro a g k s f
  have l:=(s.to (by ac_rfl:_=lI rb #[zf d,xL cd ca cb,zf d]*(g*(uB cd ca cb d 0 bv*R))))
  match k,f with
  | 0,_=>exact l.cell 0
  | 1,_=>exact l.cell 1
  | 2,_=>exact l.cell 2
 .intro k f t w
  match k,f with
  | 0,_=>simp [go_sem]
  | 1,_=>simp [go_sem]
  | 2,_=>simp [go_sem]
 .intro k f a b D' u j i
  match k,f with
  | 0,_=>exact (oU a b d D' _ i j).mono fun e m c=>ik.of c
  | 1,_=>exact AV a b d D' cd ca cb 0 bv (dp n P) _ i j (fun m p c=>r m _ (c.to (by ac_rfl:_=(aV b d p*(ak b*(uB cd ca cb d 0 bv*lI rb #[zf d,xL cd ca cb,zf d])))*R))) (jx n P)
  | 2,_=>exact (oU a b d D' _ i j).mono fun e m c=>ik.of c
end
theorem O8 {n P:Nat} {D:aC} (f:D.Ok) (c:D.Calm) (l:D.wait=[]) (j:D.sec.length=P+1) (r:Zero P D) (h:nY n P=true) :
  Sj n P 1 (dp n P) (J0 P n) (FS n P D).aK sQ/\(FS n P D).aK.sec.length=P+1/\(FS n P D).aK.cr=D.cr/\(FS n P D).aK.cw=cG (D.cw+1)/\(FS n P D).aK.cf=cG (D.cf+1):=by
 have m:∀ x ∈ (FS n P D).wait,(FS n P D).has x.1:=by
  intro x q;obtain rfl:x=((0:Int),dp n P):=by simpa [FS] using q
  exact ⟨D3 _,by show (0:Int)<(D.sec.length:Int);omega⟩
 have a:(FS n P D).Ok:=⟨f.n,m,by show [((0:Int),dp n P)].length<=_;simp,f.bD⟩
 have b:(FS n P D).Calm:=⟨c.down,c.fo⟩
 have e:=aC.iE a;rw [b.flush] at e;have g:(FS n P D).aK.sec.length=P+1:=by rw [(bB _).2.2.2];exact j
 refine ⟨Pk (fun p i=>?_) (e.ok a (by have:=a.many;omega)) (iP b) (by rw [g];omega) h ?_,g,(bB _).1,(bB _).2.1,(bB _).2.2.1⟩
 .rw [fS a _ ⟨by omega,by show (p:Int)+1<(D.sec.length:Int);omega⟩,<- r p i]
  unfold aC.cE
  have:eN [((0:Int),dp n P)] ((p:Int)+1)=X:=by
   have:=jH [] ((0:Int),dp n P) ((p:Int)+1);rw [K3,if_neg (by show ¬ ((0:Int)=(p:Int)+1);omega)] at this;exact this
  rw [show (FS n P D).wait=[((0:Int),dp n P)] from rfl,this,l]
  rfl
 .rw [fS a 0 ⟨D3 _,by show (0:Int)<(D.sec.length:Int);omega⟩]
  unfold aC.cE
  have:eN [((0:Int),dp n P)] 0=W (dp n P):=by
   have:=jH [] ((0:Int),dp n P) 0;rw [K3,if_pos rfl] at this;exact this
  rw [show (FS n P D).wait=[((0:Int),dp n P)] from rfl,this];show ((0:Int),bW 512 (dp n P))=_
  rw [kp (jx n P)]
def TP (S:Hp) (d n P:Nat) (D:aC) (o:Ar) (F:ai) (w:Q) (e:Ending) (a:Q):Prop:=∃ E:Nat,o≠X/\E=E
structure TR (n P:Nat) (D:aC) (o:Ar) (D':aC) (o':Ar):Prop where
 sj:Sj n P 1 (dp n P) (J0 P n) D' sQ
 Xo:D'.wait=[]
 sec:D'.sec.length=D.sec.length
 cr:D'.cr=D.cr
 cw:D'.cw=iT D.cw (P+2)
 cf:D'.cf=iT D.cf 3
 ar:nG o o'
def PI (S:Hp) (d n P:Nat) (D:aC) (o:Ar) (F:ai) (w:Q) (e:Ending) (b:Q):Prop:=
 ∃ s j a D' o',Ext S a/\e = .returned (.tuple #[az s,Y .i64 0])/\ag b (eX s j d n P (J0 P n)*(aV a d (D'.dD o')*(ak a*F)))/\aj w b/\TR n P D o D' o'
def PF (S:Hp) (d n P:Nat) (D:aC) (o:Ar) (F:ai) (w:Q) (e:Ending) (a:Q):Prop:=TP S d n P D o F w e a\/PI S d n P D o F w e a
def VE (S:Hp) (d P:Nat) (b:aC) (o:Ar) (c:ai) (w:Q) (wr:Q):Prop:=
 ∃ a o',Ext S a/\ag wr (aV a d ((FZ b P).dD o')*(ak a*c))/\aj w wr/\nG o o'
def Vt (S:Hp) (d P:Nat) (b:aC) (o:Ar) (c:ai) (w:Q) (u:Z') (wr:Q):Prop:=
 ∃ k a o',k<=P/\u = Y .i64 ((k:Nat):Int)/\Ext S a/\ag wr (aV a d ((FZ b k).dD o')*(ak a*c))/\aj w wr/\nG o o'
theorem Eu (w:Q) (S:Hp) (d n P:Nat) (D:aC) (o:Ar) (F:ai) (c2:ag w (aV S d (D.dD o)*(ak S*F))) (v2:D.Ok) (hc:D.Calm) (hm:D.wait.length<=1000) (hg:nY n P=true) (hs:D.sec.length=P+1) (ho:pS o)
  (u2:o=X)
  (hh:∀ h b,ag h (b*F)->oe h):Calls U 64 #[az d,Y .i64 (n:Int)] w (PF S d n P D o F w):=by
 have s3:=nB U;have r3:=eQ.1 hg;have h1:=((c2.alloc (Z #[T X] 86 (0,0))).alloc (Z #[Y .i64 0] 28 (0,0)))
 have d1:=(((aj.refl w).alloc (Z #[T X] 86 (0,0))).alloc (Z #[Y .i64 0] 28 (0,0)))
 rw [B3] at h1;have W1:=ae v2;have Hc:=ae hc;have Hm:=ae hm;have Hg:=ae hg;have Hs:=ae hs;have Ho:=ae ho;have Hh:=ae hh;have K0:=ae u2;clear u2;clear c2 v2 hc hm hg hs ho hh
 go_enter_defers func64,ntmps64
 go_wp2_with fail
 generalize (w.alloc (Z #[T X] 86 (0,0))).alloc (Z #[Y .i64 0] 28 (0,0))=w1 at h1 d1 ⊢;generalize w.heap.size+1=A at h1 ⊢;generalize w.heap.size=z at h1 ⊢;have K1:=om w1 S d (D.dD o) _ (h1.to (by ac_rfl:_=aV S d (D.dD o)*(pt A (Z #[Y .i64 0] 28 (0,0))*(pt z (Z #[T X] 86 (0,0))*(ak S*F)))));rw [qY,Hs.out] at K1;have x3:IntKind.i64.wrap (((P+1:Nat):Int)-1)=(P:Int):=by rw [IntKind.wrap_i64];omega
 (with_reducible refine K1.mono ?_)
 rintro e w2 ⟨rfl,rfl⟩;have h2:=h1.alloc (Z #[Y .i64 (n:Int),Y .i64 (P:Int)] 118 (0,0));have d2:=d1.alloc (Z #[Y .i64 (n:Int),Y .i64 (P:Int)] 118 (0,0));clear K1 h1 d1
 go_wp2_with fail
 have W0:=uX (w1.alloc (Z #[Y .i64 (n:Int),Y .i64 (P:Int)] 118 (0,0))) n P;unfold GI OV at W0;rw [if_pos Hg.out] at W0
 (with_reducible refine W0.mono ?_)
 rintro e w3 ⟨rfl,h3,d3⟩;have l3:=fun w=>Dn w;have H3:=h3.ei h2;have t:=d2.trans d3;generalize w1.heap.size=q at H3 ⊢;clear W0 h2 d2 h3 d3
 go_wp2_with fail
 (with_reducible refine (l3 _).mono ?_)
 rintro e w4 ⟨rfl,rfl⟩;have H4:=H3.alloc (Z (eA (zs 512)) 5 (0,0));have D4:=t.alloc (Z (eA (zs 512)) 5 (0,0));obtain ⟨y,hZ⟩:∃ y,y=eA (zs 512):=⟨_,rfl⟩
 have H1:∀ w,(Instr.makeSlice 22 (Y .i64 512) (Y .i64 512)).run U w = .ok (V (W ⟨w.heap.size,0,X⟩) 512 512) (w.alloc (Z y 5 (0,0))):=by
  rw [hZ];exact Go.Proofs.Nn.fB 512 (by decide)
 rw [<- hZ] at H4 D4;clear H3 t;have HZ:=ae hZ;clear hZ
 go_wp2_with fail
 generalize w3.alloc (Z y 5 (0,0))=i at H4 D4 ⊢;generalize w3.heap.size=f at H4 ⊢;obtain ⟨c,t1⟩:∃ b,b=pt f (Z y 5 (0,0))*(pt q (Z #[Y .i64 (n:Int),Y .i64 (P:Int)] 118 (0,0))*(pt A (Z #[Y .i64 0] 28 (0,0))*(pt z (Z #[T X] 86 (0,0))*F))):=⟨_,rfl⟩
 have H5:ag i (aV S d (D.dD o)*(ak S*c)):=H4.to (by rw [t1];ac_rfl);have i0:=ae t1
 have D0:∀ h b,ag h (b*c)->Rd h (V (W ⟨f,0,X⟩) 512 512) (zs 512):=by
  intro h b hx;have:=uR (c:=512) ((hx.to (by rw [i0.out,HZ.out];ac_rfl:_=pt f (Z (eA (zs 512)) 5 (0,0))*(b*(pt q (Z #[Y .i64 (n:Int),Y .i64 (P:Int)] 118 (0,0))*(pt A (Z #[Y .i64 0] 28 (0,0))*(pt z (Z #[T X] 86 (0,0))*F)))))).heap)
  rwa [qy] at this
 have D0:=ae D0;clear H4 t1
 have O:=wE i d 0 (W ⟨f,0,X⟩) 512 512;have h6:=(((H5.alloc (Z #[az d] 24 (0,0))).alloc (Z #[Y .i64 0] 3 (0,0))).alloc (Z #[V (W ⟨f,0,X⟩) 512 512] 22 (0,0))).alloc (Z #[.func (.func 165) #[] #[az i.heap.size,az (i.heap.size+1),az (i.heap.size+1+1)],.func (.func 121) #[az d] #[]] 111 (0,0));have D6:=(((D4.alloc (Z #[az d] 24 (0,0))).alloc (Z #[Y .i64 0] 3 (0,0))).alloc (Z #[V (W ⟨f,0,X⟩) 512 512] 22 (0,0))).alloc (Z #[.func (.func 165) #[] #[az i.heap.size,az (i.heap.size+1),az (i.heap.size+1+1)],.func (.func 121) #[az d] #[]] 111 (0,0));rw [B3,B3,B3] at h6
 (with_reducible refine O.mono ?_)
 rintro e w6 ⟨rfl,rfl⟩;have H6:=ae h6;have i1:=ae D6;clear O h6 D6 D4 H5 H1
 go_wp2_with fail
 generalize (((i.alloc (Z #[az d] 24 (0,0))).alloc (Z #[Y .i64 0] 3 (0,0))).alloc (Z #[V (W ⟨f,0,X⟩) 512 512] 22 (0,0))).alloc (Z #[.func (.func 165) #[] #[az i.heap.size,az (i.heap.size+1),az (i.heap.size+1+1)],.func (.func 121) #[az d] #[]] 111 (0,0))=w6 at H6 i1 ⊢;generalize i.heap.size+1+1+1=rb at H6 ⊢;generalize i.heap.size+1+1=cb at H6 ⊢;generalize i.heap.size+1=ca at H6 ⊢;generalize i.heap.size=cd at H6 ⊢;have h6:ag w6 (aV S d (D.dD o)*(ak S*(uB cd ca cb d 0 (V (W ⟨f,0,X⟩) 512 512)*(lI rb #[xL cd ca cb,zf d]*c)))):=H6.out.to (by unfold uB lI xL zf;ac_rfl);have s0:D.has 0:=⟨D3 _,by rw [Hs.out];omega⟩
 obtain ⟨hA,i2⟩:=SN Hc.out W1.out Hm.out Ho.out s0;have N:=NB w6 S d (D.dD o) cd ca cb rb _ c h6 D0.out i2;clear H6 h6 i2
 (with_reducible refine N.mono ?_)
 rintro e w7 ⟨T0,S7,m2,h7,d7⟩;have D7:=i1.out.trans d7;clear N d7 i1;rcases hA with ⟨K',x0,r⟩|⟨K',x0,r⟩|⟨o1,g2,r⟩
 .rw [K0.out] at x0;cases x0
 .rw [K0.out] at x0;cases x0
 rw [r] at T0 h7;rcases T0 with ⟨_,rfl⟩|⟨T0,_⟩
 case inr=>exact absurd rfl T0
 have u0:=Re W1.out Hm.out (by rw [Hs.out];omega);have q1:=Ga Hc.out;obtain ⟨a,H⟩:∃ b,b=(F1 D).aK:=⟨_,rfl⟩
 have e0:=aC.iE u0;rw [q1.flush] at e0;have x2:a.Ok:=by rw [H];exact e0.ok u0 (by have:=u0.many;omega)
 have o2:a.Calm:=by rw [H];exact iP q1
 have M1:a.wait=[]:=by rw [H];rfl
 have D2:a.sec.length=P+1:=by rw [H,(bB _).2.2.2];exact Hs.out
 have H2:a.cE 0=(0,zs 512):=by rw [H,fS u0 0 s0];exact Ng
 have r2:a.cr=D.cr:=by rw [H,(bB _).1];rfl
 have s2:a.cw=iT D.cw 1:=by rw [H,(bB _).2.1];rfl
 have q2:a.cf=iT D.cf 1:=by rw [H,(bB _).2.2.1];rfl
 rw [<- H] at h7;have n2:FZ a 0=a:=by unfold FZ zW;rw [List.range_zero,List.map_nil,<- M1];rfl
 have f2:ag w7 (aV S7 d ((FZ a 0).dD o1)*(ak S7*c)):=by
  rw [n2];exact (h7.to (by ac_rfl:_=(uB cd ca cb d 0 (V (W ⟨f,0,X⟩) 512 512)*lI rb #[xL cd ca cb,zf d])*(aV S7 d (a.dD o1)*(ak S7*c)))).right
 have H7:=ae f2;have j1:=ae D7;have e1:=ae g2;have l1:=ae m2;have X1:=ae x2;have m1:=ae o2;have e3:=ae M1;have k0:=ae D2;have c3:=ae H2;have X2:=ae r2;have Y2:=ae s2;have W2:=ae q2;clear h7 f2 D7 g2 r H e0 x2 o2 M1 D2 H2 r2 s2 q2 u0 q1 n2 m2
 have g1:w7.cell? ⟨q,1,X⟩=W (Y .i64 (P:Int)):=by
  have:=H7.out;rw [i0.out] at this;exact (this.to (by ac_rfl:_=pt q (Z #[Y .i64 (n:Int),Y .i64 (P:Int)] 118 (0,0))*(pt f (Z y 5 (0,0))*(pt A (Z #[Y .i64 0] 28 (0,0))*(pt z (Z #[T X] 86 (0,0))*(F*(aV S7 d ((FZ a 0).dD o1)*ak S7))))))).cell 1
 go_upto_block 0 with (fail)
 go_cut [] from 32 to 42 (fun wx=>VE S d P a o c w wx)
 case first=>
  go_wp2_with fail
  go_loopw [32] (fun h0 wr=>Vt S d P a o c w h0 wr) (fun h0 _=>P-(intOf h0).toNat)
  case atStart=>exact ⟨0,S7,o1,Nat.zero_le _,rfl,l1.out,H7.out,j1.out,e1.out⟩
  case round=>
   clear H7 j1 e1 l1 g1;obtain ⟨k,m,M,hk,rfl,n0,G,D8,m0⟩:=hrel
   by_cases E1:k<P
   .have f3:(k:Int)<(P:Int):=by omega
    have u3:IntKind.i64.wrap ((k:Int)+1)=(k:Int)+1:=by rw [IntKind.wrap_i64];omega
    have O:=wE wr d ((k:Int)+1) (W ⟨f,0,X⟩) 512 512;have J:=(((G.alloc (Z #[az d] 24 (0,0))).alloc (Z #[Y .i64 ((k:Int)+1)] 3 (0,0))).alloc (Z #[V (W ⟨f,0,X⟩) 512 512] 22 (0,0))).alloc (Z #[.func (.func 165) #[] #[az wr.heap.size,az (wr.heap.size+1),az (wr.heap.size+1+1)]] 111 (0,0));have D9:=(((D8.alloc (Z #[az d] 24 (0,0))).alloc (Z #[Y .i64 ((k:Int)+1)] 3 (0,0))).alloc (Z #[V (W ⟨f,0,X⟩) 512 512] 22 (0,0))).alloc (Z #[.func (.func 165) #[] #[az wr.heap.size,az (wr.heap.size+1),az (wr.heap.size+1+1)]] 111 (0,0));rw [B3,B3,B3] at J;have p:=ae J;have k1:=ae D9;have H0:=ae n0;have x:=ae m0;clear G D8 J D9 n0 m0
    go_wp2_with fail
    (with_reducible refine O.mono ?_)
    rintro e g ⟨rfl,rfl⟩;clear O
    go_wp2_with fail
    generalize (((wr.alloc (Z #[az d] 24 (0,0))).alloc (Z #[Y .i64 ((k:Int)+1)] 3 (0,0))).alloc (Z #[V (W ⟨f,0,X⟩) 512 512] 22 (0,0))).alloc (Z #[.func (.func 165) #[] #[az wr.heap.size,az (wr.heap.size+1),az (wr.heap.size+1+1)]] 111 (0,0))=g at p k1 ⊢;generalize wr.heap.size+1+1+1=rb at p ⊢;generalize wr.heap.size+1+1=cb at p ⊢;generalize wr.heap.size+1=ca at p ⊢;generalize wr.heap.size=cd at p ⊢;have J:ag g (aV m d ((FZ a k).dD M)*(ak m*(uB cd ca cb d ((k:Int)+1) (V (W ⟨f,0,X⟩) 512 512)*(lI rb #[xL cd ca cb]*c)))):=p.out.to (by unfold uB lI xL;ac_rfl);have N:=ve g m d ((FZ a k).dD M) cd ca cb rb _ c _ J D0.out (lF (Rq X1.out (by rw [k0.out];omega)) x.out.ok);clear J p
    (with_reducible refine N.mono ?_)
    rintro e a1 ⟨R0,L0,k2,C,Z1⟩;have o0:=k1.out.trans Z1;have hE:Ext S L0:=H0.out.trans k2;clear N Z1 k1 k2;rcases Uf (k:=k) m1.out x.out.ok (by rw [k0.out];omega) with ⟨s,r0,r⟩|⟨hh,r⟩
    .rw [r] at R0 C
     rcases R0 with ⟨_,rfl⟩|⟨R0,_⟩
     case inr=>exact absurd rfl R0
     have I:=ae ((C.to (by ac_rfl:_=(uB cd ca cb d ((k:Int)+1) (V (W ⟨f,0,X⟩) 512 512)*lI rb #[xL cd ca cb])*(aV L0 d ((FZ a (k+1)).dD s)*(ak L0*c)))).right);have p0:=ae o0;have O2:=ae hE;have M2:=ae (x.out.trans r0);clear C o0 hE r0 r x
     go_wp2_with fail
     go_roundw
     case rel=>exact ⟨k+1,L0,s,by omega,by go_num,O2.out,I.out,p0.out,M2.out⟩
     case measure=>simp [intOf];omega
    .obtain ⟨K',hK⟩:=hh
     rw [x.out.none K0.out] at hK;cases hK
   .obtain rfl:k=P:=by omega
    have H8:=ae G;have G0:=ae D8;clear G D8
    go_wp2_with fail
    go_meet
    exact ⟨m,M,n0,H8.out,G0.out,m0⟩
 case rest=>
  clear H7 j1 e1 l1 g1;obtain ⟨m,M,n0,G,D8,m0⟩:=hcut;have V0:∀ h b,ag h (b*c)->ag h (pt q (Z #[Y .i64 (n:Int),Y .i64 (P:Int)] 118 (0,0))*((pt f (Z y 5 (0,0))*(pt A (Z #[Y .i64 0] 28 (0,0))*(pt z (Z #[T X] 86 (0,0))*F)))*b)):=fun h b hx=>hx.to (by rw [i0.out];ac_rfl);have g0:wc.cell? ⟨q,0,X⟩=W (Y .i64 (n:Int)):=(V0 _ (aV m d ((FZ a P).dD M)*ak m) (G.to (by ac_rfl))).cell 0;have g1:wc.cell? ⟨q,1,X⟩=W (Y .i64 (P:Int)):=(V0 _ (aV m d ((FZ a P).dD M)*ak m) (G.to (by ac_rfl))).cell 1;have A1:∀ h b,ag h (b*c)->oe h:=fun h b hx=>Hh.out h (b*(pt f (Z y 5 (0,0))*(pt q (Z #[Y .i64 (n:Int),Y .i64 (P:Int)] 118 (0,0))*(pt A (Z #[Y .i64 0] 28 (0,0))*pt z (Z #[T X] 86 (0,0)))))) (hx.to (by rw [i0.out];ac_rfl));have z1:=Dy wc n P Hg.out (A1 wc (aV m d ((FZ a P).dD M)*ak m) (G.to (by ac_rfl)));unfold OV at z1;have n3:=ae V0;have o3:=ae A1;have H8:=ae G;have G0:=ae D8;have H0:=ae n0;have x:=ae m0;clear V0 A1 G D8 n0 m0
  go_wp2_with fail
  (with_reducible refine z1.mono ?_)
  rintro e g ⟨ev,rfl,J,d9⟩;have p:=J.under H8.out;have D9:=G0.out.trans d9;obtain ⟨u,v,rfl⟩:=p.me.shape;rw [jx] at p ⊢;clear z1 J d9 H8 G0 g0 g1;have O:=wE g d 0 u 512 v;have C:=(((p.alloc (Z #[az d] 24 (0,0))).alloc (Z #[Y .i64 0] 3 (0,0))).alloc (Z #[V u 512 v] 22 (0,0))).alloc (Z #[.func (.func 121) #[az d] #[],.func (.func 165) #[] #[az g.heap.size,az (g.heap.size+1),az (g.heap.size+1+1)],.func (.func 121) #[az d] #[]] 111 (0,0));have o0:=(((D9.alloc (Z #[az d] 24 (0,0))).alloc (Z #[Y .i64 0] 3 (0,0))).alloc (Z #[V u 512 v] 22 (0,0))).alloc (Z #[.func (.func 121) #[az d] #[],.func (.func 165) #[] #[az g.heap.size,az (g.heap.size+1),az (g.heap.size+1+1)],.func (.func 121) #[az d] #[]] 111 (0,0));rw [B3,B3,B3] at C;have I:=ae C;have p0:=ae o0;clear p D9 C o0
  go_wp2_with fail
  (with_reducible refine O.mono ?_)
  rintro e a1 ⟨rfl,rfl⟩;clear O
  go_wp2_with fail
  generalize (((g.alloc (Z #[az d] 24 (0,0))).alloc (Z #[Y .i64 0] 3 (0,0))).alloc (Z #[V u 512 v] 22 (0,0))).alloc (Z #[.func (.func 121) #[az d] #[],.func (.func 165) #[] #[az g.heap.size,az (g.heap.size+1),az (g.heap.size+1+1)],.func (.func 121) #[az d] #[]] 111 (0,0))=a1 at I p0 ⊢;generalize g.heap.size+1+1+1=rb at I ⊢;generalize g.heap.size+1+1=cb at I ⊢;generalize g.heap.size+1=ca at I ⊢;generalize g.heap.size=cd at I ⊢;have C:ag a1 (aV m d ((FZ a P).dD M)*(ak m*(uB cd ca cb d 0 (V u 512 v)*(lI rb #[zf d,xL cd ca cb,zf d]*(bs 5 (V u 512 v) (dp n P)*c))))):=I.out.to (by unfold uB lI xL zf;ac_rfl);have s0:(FZ a P).has 0:=⟨D3 _,by show (0:Int)<(a.sec.length:Int);rw [k0.out];omega⟩
  have d0:=Rq X1.out (k:=P) (by rw [k0.out];omega);obtain ⟨hC,j2⟩:=Sx (n:=n) (P:=P) (zq m1.out P) d0 x.out.ok s0;have N:=NY a1 m d ((FZ a P).dD M) cd ca cb rb (V u 512 v) (bs 5 (V u 512 v) (dp n P)*c) n P C (fun h b hx=>(hx.to (by ac_rfl:_=bs 5 (V u 512 v) (dp n P)*(b*c))).me) j2;clear I C j2
  (with_reducible refine N.mono ?_)
  rintro e N1 ⟨S0,j,l2,N0,a2⟩;have O1:=p0.out.trans a2;have hE:Ext S j:=H0.out.trans l2;clear N a2 p0 l2
  have r1:=zq m1.out P;have e0:=aC.iE d0;rw [r1.flush] at e0;have y2:(FZ a P).aK.Ok:=e0.ok d0 (by have:=d0.many;omega);have p2:(FZ a P).aK.Calm:=iP r1;have E2:(FZ a P).aK.sec.length=P+1:=by rw [(bB _).2.2.2];exact k0.out
  have J2:Zero P (FZ a P).aK:=fun L2 hp=>by rw [fS d0 _ ⟨by omega,by show (L2:Int)+1<(a.sec.length:Int);rw [k0.out];omega⟩];exact QA a P L2 hp
  have i3:(FZ a P).aK.cE 0=(0,zs 512):=by rw [fS d0 _ s0,IL e3.out];exact c3.out
  rcases hC with ⟨s,r0,r⟩|⟨t2,E,q3,r⟩
  case inr=>exact absurd (x.out.none K0.out) t2
  rw [r] at S0 N0;rcases S0 with ⟨_,rfl⟩|⟨S0,_⟩
  case inr=>exact absurd rfl S0
  obtain ⟨L1,X0,x1,y1,v1⟩:=O8 y2 p2 rfl E2 J2 Hg.out
  have s1:TR n P D o (FS n P (FZ a P).aK).aK s:=by
   refine ⟨L1,rfl,by rw [X0,Hs.out],?_,?_,?_,x.out.trans r0⟩
   .rw [x1,(bB _).1];exact X2.out
   .rw [y1,(bB _).2.1]
    show cG (iT a.cw P+1)=_
    rw [Y2.out,IC,show P+2=(1+P)+1 by omega];rfl
   .rw [v1,(bB _).2.2.1]
    show cG (cG (a.cf+1)+1)=_
    rw [W2.out];rfl
  generalize (FS n P (FZ a P).aK).aK=t at N0 L1 X0 x1 y1 v1 s1;have T1:ag N1 (aV j d (t.dD s)*(ak j*c)):=(N0.to (by ac_rfl:_=(uB cd ca cb d 0 (V u 512 v)*(lI rb #[zf d,xL cd ca cb,zf d]*bs 5 (V u 512 v) (dp n P)))*(aV j d (t.dD s)*(ak j*c)))).right;have S2:=ae s1;clear N0 r L1 x1 y1 v1 y2 p2 E2 J2 i3 e0 r1 d0 s1 r0 x H0 D0;obtain ⟨F0,p1⟩:∃ l,l=nL n 0:=⟨_,rfl⟩
  have H1:∀ w,(Instr.makeSlice 104 (Y .i64 (n:Int)) (Y .i64 (n:Int))).run U w = .ok (V (W ⟨w.heap.size,0,X⟩) n n) (w.alloc (Z (ints F0) 3 (0,0))):=by
   rw [p1];exact sX n (by omega)
  have R2:=ae p1;have q0:=T1.alloc (Z (ints F0) 3 (0,0));have b1:=O1.alloc (Z (ints F0) 3 (0,0));clear p1 T1 O1
  go_upto_block 2 with (fail)
  generalize N1.alloc (Z (ints F0) 3 (0,0))=y3 at q0 b1 ⊢;generalize N1.heap.size=L at q0 ⊢;obtain ⟨Z2,u1⟩:∃ b,b=aV j d (t.dD s)*(ak j*c):=⟨_,rfl⟩
  rw [<- u1] at q0;have T2:=ae u1;have c1:=ae q0;have f1:=ae b1;have P2:=ae hE;have Y1:=ae X0;clear u1 H1 q0 b1 hE X0
  go_cut [] from 57 to 63 (fun wx=>ag wx (pt L (Z (ints (G3 n (-1))) 3 (0,0))*Z2)/\aj w wx)
  case first=>
   go_wp2_with fail
   go_loopw [57] (fun h0 wr=>Of n L Z2 w h0 wr) (fun h0 _=>n-(intOf h0).toNat)
   case atStart=>exact ⟨0,Nat.zero_le _,rfl,by rw [<- R2.out];exact c1.out,f1.out⟩
   case round=>
    clear c1 f1;obtain ⟨k,hk,rfl,f0,Y0⟩:=hrel
    by_cases E1:k<n
    .have f3:(k:Int)<(n:Int):=by omega
     have ck:wr.cell? ⟨L,k,X⟩=W (Y .i64 ((nL n k).getD k 0)):=(f0.cell k).trans (bL (by rw [I3 hk];exact E1));have fk:=f0.frozen k;have h2:=f0.setCell k (Y .i64 (-1));rw [gM,Jy E1] at h2;have g3:=ae h2;have b3:=ae Y0;generalize (nL n k).getD k 0=uo at ck;clear f0 Y0 h2
     go_wp2
     go_roundw
     case rel=>exact ⟨k+1,by omega,by go_num,g3.out,b3.out.setCell _ _⟩
     case measure=>simp [intOf];omega
    .obtain rfl:k=n:=by omega
     have e:nL k k=G3 k (-1):=by simp [nL]
     rw [e] at f0;have Hs:=ae f0;have Hd:=ae Y0;clear f0 Y0 e
     go_wp2_with fail
     go_meet
     exact ⟨Hs.out,Hd.out⟩
  case rest=>
   clear c1 f1;obtain ⟨l0,R1⟩:=hcut;rw [T2.out] at l0;have n1:ag wc (pt q (Z #[Y .i64 (n:Int),Y .i64 (P:Int)] 118 (0,0))*(pt f (Z y 5 (0,0))*(pt A (Z #[Y .i64 0] 28 (0,0))*(pt z (Z #[T X] 86 (0,0))*F))*(pt L (Z (ints (G3 n (-1))) 3 (0,0))*(aV j d (t.dD s)*ak j)))):=l0.to (by rw [i0.out];ac_rfl);have g0:wc.cell? ⟨q,0,X⟩=W (Y .i64 (n:Int)):=n1.cell 0;have g1:wc.cell? ⟨q,1,X⟩=W (Y .i64 (P:Int)):=n1.cell 1;have D1:(nN n).at_.length=n:=J3
   have z2:Calls U 123 #[az d,.agg #[Y .i64 (n:Int),Y .i64 (P:Int)],.agg #[Y .u32 1,Y .u64 1,Y .u64 0,Y .i64 0,Y .i64 0,V (W ⟨L,0,X⟩) n n]] wc (vm d n P (J0 P n) wc):=by
    refine od wc j d (t.dD s) _ (l0.to (by ac_rfl:_=aV j d (t.dD s)*(pt L (Z (ints (G3 n (-1))) 3 (0,0))*(ak j*c)))) n P (nN n) (V (W ⟨L,0,X⟩) n n) (.inr ⟨L,0,n,by rw [D1],by rw [D1];exact Nat.le_refl _,by unfold maxLen;omega,fun k hk=>?_⟩) (by omega) (by omega) (by rw [qY,Y1.out];omega) (by rw [qY,Y1.out];omega) (show (0:Int)<=0 by decide) (tQ (by omega) (by omega) (by omega)) (by omega);rw [Nat.zero_add,l0.cell];exact bL hk
   have U1:=ae l0;have V1:=ae R1;clear l0 n1 R1 D1
   go_wp2_with fail
   (with_reducible refine z2.mono ?_)
   rintro e m3 ⟨Z0,K2,rfl,e2,b2⟩;have S1:=V1.out.trans b2;have c0:ag m3 (pt z (Z #[T X] 86 (0,0))*(pt A (Z #[Y .i64 0] 28 (0,0))*((pt L (Z (ints (G3 n (-1))) 3 (0,0))*(pt q (Z #[Y .i64 (n:Int),Y .i64 (P:Int)] 118 (0,0))*pt f (Z y 5 (0,0))))*(eX Z0 K2 d n P (J0 P n)*(aV j d (t.dD s)*(ak j*F)))))):=(e2.under U1.out).to (by rw [i0.out];ac_rfl);have a0:=c0.cell 0;have b0:=c0.ah.cell 0;have fa:=c0.frozen 0;have p3:=c0.ah.frozen 0;have t2:z≠A:=ag.ne c0;have HK:=ae ((c0.setCell 0 (az Z0)).ah.setCell 0 (Y .i64 0));have N2:=ae ((S1.setCell ⟨z,0,X⟩ (az Z0)).setCell ⟨A,0,X⟩ (Y .i64 0));clear z2 e2 c0 b2 S1 U1 V1 g0 g1
   go_wp2_with fail
   exact Iw rfl rfl (HK.out.ah.cell 0) (HK.out.cell 0) (.inr ⟨Z0,K2,j,t,s,P2.out,rfl,HK.out.right.right.right,N2.out,S2.out⟩)
def mY (n:Int):Int:=if n<4\/3840<n then 0 else (5*n+241)/2
theorem EO {n:Nat} (a:4<=n) (b:n<=3840):mY (n:Int)=(((5*n+241)/2:Nat):Int):=by
 unfold mY;rw [if_neg (by omega)];omega
theorem Ia (w:Q) (n:Int):Calls U 26 #[Y .i64 n] w fun e f=>e = .returned (Y .i64 (mY n))/\w=f:=by
 go_enter func26,ntmps26
 by_cases h:n<4
 .have e:mY n=0:=by unfold mY;rw [if_pos (.inl h)]
  rw [e]
  go_wp2
  go_ret
  exact ⟨rfl,rfl⟩
 .by_cases c:3840<n
  .have e:mY n=0:=by unfold mY;rw [if_pos (.inr c)]
   rw [e]
   go_wp2
   go_ret
   exact ⟨rfl,rfl⟩
  .have e:mY n=(5*n+241)/2:=by unfold mY;rw [if_neg (by omega)]
   have g:IntKind.i64.wrap ((IntKind.i64.wrap (IntKind.i64.wrap (IntKind.i64.wrap (IntKind.i64.wrap (5*n)+240)+2)-1)).tdiv 2)=(5*n+241)/2:=by
    have a:IntKind.i64.wrap (5*n)=5*n:=by rw [IntKind.wrap_i64];omega
    have b:IntKind.i64.wrap (5*n+240)=5*n+240:=by rw [IntKind.wrap_i64];omega
    have a3:IntKind.i64.wrap (5*n+240+2)=5*n+242:=by rw [IntKind.wrap_i64];omega
    have a4:IntKind.i64.wrap (5*n+242-1)=5*n+241:=by rw [IntKind.wrap_i64];omega
    rw [a,b,a3,a4,Int.tdiv_eq_ediv_of_nonneg (by omega),IntKind.wrap_i64];omega
   rw [e]
   go_wp2
   go_ret
   refine ⟨?_,rfl⟩;rw [show 5*n+240+2-1=5*n+241 by omega]
   rfl
end Go.Proofs.Su
