/- Steps. -/
import Derived.Test.YtdickhgiahcnaaaGreatDoorNP39
import Derived.Test.YtdickhgiahcnaaaGreatDoorNP46
set_option linter.all false
set_option maxRecDepth 99999
set_option maxHeartbeats 0
open Go.SL
open Go.Value renaming int->Y,slice->U,pointer->Q
open Go.IntKind renaming i64->X
open Go.Obj renaming cells->Z
open Go renaming World->O,Value->Z'
open Go.Proofs.Tryz renaming prog->T
open Option renaming some->V,none->W
open Go.Proofs.Tryz
open Go.World renaming size_alloc->A3
open Int renaming le_refl->B3
open List renaming replicate->D5,length_replicate->D3,nil_append->E5
namespace Go.Proofs.Nn
open RowKit SL Proofs.Su
def sr:Has:=fun _=>W
def Zero (P:Nat) (D:aB):Prop:=∀ p:Nat,p<P->D.cD ((p:Int)+1)=(0,zs 512)
section
variable {n P B:Nat} {D E:aB} {K:List Int}
def Fl (h:Zero P D):zS P D=fun _=>W:=by
 funext p;unfold zS
 split
 .rename_i a
  rw [h p a.1,Eu];rfl
 .rfl
def Ff (b:1<=P) (a:n<=P):GF n P (fun _=>W) 0 0 (fun _=>W):=
 ⟨Om0,a,B3 _,fun _=>rfl,fun p t _ h=>(by cases h),fun p t _ h=>(by cases h),fun c p h=>(by cases h),fun h=>absurd h De0,fun e=>⟨1,0,De0,De0,fun p t _ h=>(by cases h)⟩⟩
def Qc (q:Zero P D) (m:D.Ok) (j:D.Calm) (r:P+1<=D.sec.length) (b:1<=P) (i:P<=19999) (f:1<=n) (g:n<=3840) (l:n<=P):JT n (J0 P n) D sr:=by
 have h:=JJ (P:=P) (n:=n) b i f g;refine ⟨⟨h.ok,h.nums,m,h.br,j,by show (P:Int)+1<=_;omega,h.Kh,h.rm,h.win,fun a p c=>?_,h.Ut⟩,Wd P n,?_⟩
 .rw [Sa,(Tb.iX n P a).1] at c;cases c
 .have e:PS (J0 P n)=fun _=>W:=by
   funext a;unfold PS;rw [Sa,(Tb.iX n P a).1];rfl
  show WD n P (zS P D) 0 0 (PS (J0 P n)) 1 1
  rw [Fl q,e];exact (Ff b l).run fun p t _ h=>by cases h
def PN (g:Zero P D) (e:D.Ok) (b:D.Calm) (f:P+1<=D.sec.length) (c:nN n P=true) (a:D.cD 0=(0,dg n P)):Sj n P 1 (dg n P) (J0 P n) D sr:=by
 have h:=eI.1 c;exact ⟨Qc g e b f Om0 Om0 Om0 Om0 Om0,Cc P n,rfl,by show (0:Int)<=_;omega,by show (1:Int)<=_;omega,a⟩
def F1 (D:aB):aB:={ D with cw:=cE (D.cw+1),wait:=D.wait++[((0:Int),zs 512)] }
def zW (k:Nat):List (Int × List UInt8):=(List.range k).map fun i:Nat=>((i:Int)+1,zs 512)
def FZ (D:aB) (k:Nat):aB:={ D with cw:=iK D.cw k,wait:=zW k }
def FS (n P:Nat) (D:aB):aB:={ D with cw:=cE (D.cw+1),wait:=[((0:Int),dg n P)] }
def FN (k:Nat):zW (k+1)=zW k++[((k:Int)+1,zs 512)]:=by simp [zW,List.range_succ]
def qg (n:Nat):(zs n).length=n:=D3
def xW (a:Int) (k:Nat):ew (zW k) a=if 1<=a/\a<=(k:Int) then V (zs 512) else W:=by
 induction k with
 | zero=>rw [if_neg Om0];rfl
 | succ k c=>
  rw [FN,js,c]
  by_cases h:(k:Int)+1=a
  .rw [if_pos h,if_pos Om0]
  .rw [if_neg h]
   by_cases b:1<=a/\a<=(k:Int)
   .rw [if_pos b,if_pos Om0]
   .rw [if_neg b,if_neg Om0]
def QZ (h:D.Ok) (b:D.wait.length<=1000) (c:1<=D.sec.length):(F1 D).Ok:=by
 refine ⟨h.n,fun x a=>?_,by show (D.wait++[((0:Int),zs 512)]).length<=_;rw [List.length_append];simp;omega,h.bF⟩;rcases List.mem_append.1 a with a|a
 .exact h.wait x a
 .obtain rfl:x=((0:Int),zs 512):=by simpa using a
  exact ⟨B3 _,by show (0:Int)<(D.sec.length:Int);omega⟩
def F3 (h:D.Calm):(F1 D).Calm:=⟨h.down,h.fi⟩
def Kv:(F1 D).cD 0=(0,zs 512):=by
 unfold aB.cD;show (match ew (D.wait++[((0:Int),zs 512)]) 0 with|some l=>_|none=>_)=_
 rw [js,if_pos rfl];show ((0:Int),bY 512 (zs 512))=_
 rw [kD (qg 512)]
def Rr (h:D.Ok) {k:Nat} (c:k+1<=D.sec.length):(FZ D k).Ok:=by
 have:=h.n;refine ⟨h.n,fun x b=>?_,by show (zW k).length<=_;simp [zW];omega,h.bF⟩;obtain ⟨i,a,rfl⟩:=List.mem_map.1 (show x ∈ zW k from b);have:=List.mem_range.1 a;exact ⟨by show (0:Int)<=(i:Int)+1;omega,by show (i:Int)+1<(D.sec.length:Int);omega⟩
def ze (h:D.Calm) (k:Nat):(FZ D k).Calm:=⟨h.down,h.fi⟩
def Pt (D:aB) (P:Nat):Zero P (FZ D P):=by
 intro p a;unfold aB.cD;show (match ew (zW P) _ with|some l=>_|none=>_)=_
 rw [xW,if_pos Om0];show ((0:Int),bY 512 (zs 512))=_
 rw [kD (qg 512)]
def Ie (a:D.wait=[]) (k:Nat):(FZ D k).cD 0=D.cD 0:=by
 unfold aB.cD;show (match ew (zW k) 0 with|some l=>_|none=>_)=match ew D.wait 0 with|some l=>_|none=>_
 rw [xW,if_neg Om0,a]
 rfl
end
end Go.Proofs.Nn
namespace Go.Proofs.Su
open RowKit SL Proofs.Nn Proofs.Ba Proofs.Fs
def uh (cd ca cb d:Nat) (a:Int) (bv:Z'):ai:=pt cd (Z #[az d] 27 (0,0))*(pt ca (Z #[Y X a] 3 (0,0))*pt cb (Z #[bv] 23 (0,0)))
def zA (w:O) (S:Hp) (d:Nat) (D:aB) (cd ca cb:Nat) (a:Int) (bv:Z') (l:List UInt8) (F:ai) (h:ag w (aR S d D*(al S*(uh cd ca cb d a bv*F)))) (x:D.Ok) (f:∀ q D',ag q (aR S d D'*(al S*(uh cd ca cb d a bv*F)))->Rd q bv l) (c:l.length=512) :
  Calls T 163 #[az cd,az ca,az cb] w (gE S d (D.write a l).2 (Y X (D.write a l).1) (uh cd ca cb d a bv*F) w):=by
 have g:=f w D h;have i:=pk w S d D a bv l _ h x g f (by rw [c];decide);have b:=h;unfold uh at b;have u:w.cell? ⟨cd,0,W⟩=V (az d):=(b.t00 (pt cd (Z #[az d] 27 (0,0))*(pt ca (Z #[Y X a] 3 (0,0))*(pt cb (Z #[bv] 23 (0,0))*(aR S d D*(al S*F)))))).cell 0;have v:w.cell? ⟨ca,0,W⟩=V (Y X a):=(b.t00 (pt ca (Z #[Y X a] 3 (0,0))*(pt cd (Z #[az d] 27 (0,0))*(pt cb (Z #[bv] 23 (0,0))*(aR S d D*(al S*F)))))).cell 0;have j:w.cell? ⟨cb,0,W⟩=V bv:=(b.t00 (pt cb (Z #[bv] 23 (0,0))*(pt cd (Z #[az d] 27 (0,0))*(pt ca (Z #[Y X a] 3 (0,0))*(aR S d D*(al S*F)))))).cell 0;obtain ⟨z,A,rfl⟩:=g.shape;clear h b f g;rw [c] at i j ⊢;clear c
 go_in
 go_wp2_with fail
 (with_reducible apply i.mono)
 rintro e C ⟨t,y,rfl,p,m⟩;have s:=ae p;have r:=ae m;clear i p m u v j
 go_wp2_with fail
 go_ret
 exact ⟨t,y,rfl,s.o,r.o⟩
def dH (a:Nat->aB->Int × aB) (D:aB):Nat->Int × aB
 | 0=>(0,D)
 | k+1=>if (dH a D k).1=0 then a k (dH a D k).2 else dH a D k
def G9 (a:Nat->aB->Int × aB) (D:aB) {k:Nat} (h:(dH a D k).1≠0):∀ m,k<=m->dH a D m=dH a D k:=by
  intro m e
  induction m with
  | zero => obtain rfl : k = 0 := Om0
            rfl
  | succ m c=>
    by_cases b:k=m+1
    · rw [b]
    · have:=c Om0
      rw [dH,this,if_neg h]
def Ge (S:Hp) (d:Nat) (R:Int × aB) (c:ai) (w:O) (e:Ending) (b:O):Prop:=
 (R.1=0/\e = .returned (.tuple #[])\/R.1≠0/\e = .panicked (WZ 2))/\∃ a,Ext S a/\ag b (aR a d R.2*(al a*c))/\aj w b
def vS (m:Nat) (f:Nat->FuncId × Array Z' × Array Z') (b:Nat->aB->Int × aB) (S:Hp) (d g:Nat) (D:aB) (j:ai) (L:m<=10)
  (I:∀ c H k,ag c (H*j)->k<m->c.cell? ⟨g,k,W⟩=V (.func (.func (f k).1) (f k).2.1 (f k).2.2))
  (J:∀ k,k<m->∀ (x:Array Z') (w:O),(callFunc (f k).1 x).run T w = .ok (.enter (f k).1 x) w)
  (N:∀ k,k<m->∀ c a D',Ext S a->D'.Ok->ag c (aR a d D'*(al a*j))->Calls T (f k).1 ((f k).2.1++(f k).2.2) c (gE a d (b k D').2 (Y X (b k D').1) j c))
  (M:∀ k,k<m->(dH b D k).1=0->(dH b D k).2.Ok) (w:O) (h:ag w (aR S d D*(al S*j))) :
  Calls T 113 #[U (V ⟨g,0,W⟩) m m] w (Ge S d (dH b D m) j w):=by
 refine (OV m f (fun k c=>(dH b D k).1=0/\∃ a,Ext S a/\ag c (aR a d (dH b D k).2*(al a*j))/\aj w c) (fun c=>(dH b D m).1≠0/\∃ a,Ext S a/\ag c (aR a d (dH b D m).2*(al a*j))/\aj w c) g L ?_ ?_ w ⟨rfl,S,Ext.refl S,h,aj.refl w⟩).mono ?_
 .rintro i k c hi ⟨_,a,_,s,_⟩ p
  exact I c _ k (s.t00 ((aR a d (dH b D i).2*al a)*j)) p
 .intro k p
  refine ⟨J k p,?_⟩;rintro c ⟨C,a,u,s,y⟩;apply (N k p c a _ u (M k p C) s).mono;rintro e w2 ⟨v,F,rfl,l,z⟩;have q:dH b D (k+1)=b k (dH b D k).2:=by rw [dH,if_pos C]
  refine ⟨_,rfl,?_⟩
  by_cases r:(b k (dH b D k).2).1=0
  .exact .inl ⟨r,by rw [q];exact r,v,u.trans F,by rw [q];exact l,y.trans z⟩
  .have G:(dH b D (k+1)).1≠0:=by rw [q];exact r
   have A:=G9 b D G m Om0;exact .inr ⟨r,by rw [A];exact G,v,u.trans F,by rw [A,q];exact l,y.trans z⟩
 .rintro e w2 (⟨rfl,t,l⟩|⟨rfl,t,l⟩)
  .exact ⟨.inl ⟨t,rfl⟩,l⟩
  .exact ⟨.inr ⟨t,rfl⟩,l⟩
def nX (m k:Nat):List Int:=D5 k (-1)++D5 (m-k) 0
def GI {m k:Nat} (h:k<=m):(nX m k).length=m:=by simp [nX];omega
def I8 {m k:Nat} (h:k<m):(nX m k).set k (-1)=nX m (k+1):=by
 unfold nX;rw [List.set_append_right _ _ Si0,D3,Nat.sub_self,show m-k=(m-(k+1))+1 by omega,List.replicate_succ,List.replicate_succ',List.append_assoc]
 rfl
def KJ (m b:Nat) (a:ai) (w:O) (u:Z') (wr:O):Prop:=
 ∃ k:Nat,k<=m/\u = Y X (k:Int)/\ag wr (pt b (Z (ints (nX m k)) 3 (0,0))*a)/\aj w wr
section
variable {D:aB} {o:Ar} {n P k:Nat} {K:List Int}
def qL (k:Nat) (D:aB):Int × aB:=if k=0 then D.write 0 (zs 512) else D.flush
def PE (a:Int) (_:Nat) (D:aB):Int × aB:=D.write a (zs 512)
def ou (n P k:Nat) (D:aB):Int × aB:=if k=1 then D.write 0 (dg n P) else D.flush
def mK (h:D.Calm) (f:pE o) {a:Int} (c:D.has a) {l:List UInt8} (e:l.length=512) :
  (¬ j8 o/\(D.dj o).write a l=(0,({ D with cw:=cE (D.cw+1),wait:=D.wait++[(a,l)] }:aB).dj (nf o)))\/(j8 o/\(D.dj o).write a l=(2,D.fU (Jq o))):=by
 by_cases b:j8 o
 .exact .inr ⟨b,xD h b c e⟩
 .exact .inl ⟨b,zD h f b c e⟩
def mU (h:D.Calm) (b:pE o):(¬ j8 o/\(D.dj o).flush=(0,D.aH.dj (nf o)))\/(j8 o/\(D.dj o).flush=(2,D.fU (Jq o))):=by
 by_cases a:j8 o
 .exact .inr ⟨a,xE h a⟩
 .exact .inl ⟨a,zH h b a⟩
def vi (a:Nat->aB->Int × aB) (D:aB):dH a D 1=a 0 D:=by rw [dH,dH];rfl
def TC (h:D.Calm) (m:D.Ok) (C:D.wait.length<=1000) (b:pE o) (r:D.has 0) :
  ((∃ a,o=V (0,a)/\dH qL (D.dj o) 2=(2,D.fU (Jq o)))\/(∃ a,o=V (1,a)/\dH qL (D.dj o) 2=(2,(F1 D).fU (Jq o)))\/(∃ o',nu o o'/\dH qL (D.dj o) 2=(0,(F1 D).aH.dj o'))) /\
  (∀ k,k<2->(dH qL (D.dj o) k).1=0->(dH qL (D.dj o) k).2.Ok):=by
 have z:=QZ m C (by have:=r.2;omega);have c:dH qL (D.dj o) 1=(D.dj o).write 0 (zs 512):=vi _ _;have q:dH qL (D.dj o) 2=if (dH qL (D.dj o) 1).1=0 then (dH qL (D.dj o) 1).2.flush else dH qL (D.dj o) 1:=rfl
 rcases mK h b r (qg 512) with ⟨l,g⟩|⟨l,g⟩
 .have y:({ D with cw:=cE (D.cw+1),wait:=D.wait++[((0:Int),zs 512)] }:aB)=F1 D:=rfl
  rw [y] at g;rw [g] at c;refine ⟨?_,fun k A i=>?_⟩
  .rw [q,c,if_pos rfl]
   show _\/(∃ a,o=V (1,a)/\((F1 D).dj (nf o)).flush=_)\/∃ o',_/\((F1 D).dj (nf o)).flush=_
   rcases mU (F3 h) b.dec with ⟨s,j⟩|⟨s,j⟩
   .exact .inr (.inr ⟨_,(nu.dec b).trans (nu.dec b.dec),j⟩)
   .refine .inr (.inl ?_)
    rw [j,rN];obtain ⟨a,f⟩:=s
    cases o with
    | none=>cases f
    | some x=>
     obtain ⟨N,p⟩:=x;injection f with f;injection f with u v
     have:N≠0:=fun e=>l ⟨p,by rw [e]⟩;simp only at u v;exact ⟨p,by rw [show N=1 by omega],rfl⟩
  .cases k with
   | zero=>exact lG m b
   | succ k=>
    obtain rfl:k=0:=Om0
    rw [c];exact lG z b.dec
 .rw [g] at c
  have t:¬ (2:Int)=0:=De0
  refine ⟨.inl ?_,fun k A i=>?_⟩
  .obtain ⟨a,f⟩:=l
   exact ⟨a,f,by rw [q,c,if_neg t]⟩
  .cases k with
   | zero=>exact lG m b
   | succ k=>
    obtain rfl:k=0:=Om0
    rw [c] at i;exact absurd i t
def Tc (h:D.Calm) (c:pE o) (e:k+1<D.sec.length) :
  (∃ o',nu o o'/\dH (PE ((k:Int)+1)) ((FZ D k).dj o) 1=(0,(FZ D (k+1)).dj o'))\/(j8 o/\dH (PE ((k:Int)+1)) ((FZ D k).dj o) 1=(2,(FZ D k).fU (Jq o))):=by
 rw [vi];show (∃ o',_/\((FZ D k).dj o).write ((k:Int)+1) (zs 512)=_)\/(_/\((FZ D k).dj o).write ((k:Int)+1) (zs 512)=_)
 rcases mK (ze h k) c (a:=(k:Int)+1) ⟨Om0,by show (k:Int)+1<(D.sec.length:Int);omega⟩ (qg 512) with ⟨b,a⟩|⟨b,a⟩
 .refine .inl ⟨_,nu.dec c,?_⟩
  have:({ FZ D k with cw:=cE ((FZ D k).cw+1),wait:=(FZ D k).wait++[((k:Int)+1,zs 512)] }:aB)=FZ D (k+1):=by
   show ({ D with cw:=cE (iK D.cw k+1),wait:=zW k++[((k:Int)+1,zs 512)] }:aB)=_
   rw [<- FN];rfl
  rw [a,this]
 .exact .inr ⟨b,a⟩
def Rz (h:D.Calm) (j:D.Ok) (a:pE o) (A:D.has 0) :
  ((∃ o',nu o o'/\dH (ou n P) (D.dj o) 3=(0,(FS n P D.aH).aH.dj o'))\/(o≠W/\∃ E,(E=D\/E=D.aH\/E=FS n P D.aH)/\dH (ou n P) (D.dj o) 3=(2,E.fU (Jq o)))) /\
  (∀ k,k<3->(dH (ou n P) (D.dj o) k).1=0->(dH (ou n P) (D.dj o) k).2.Ok):=by
 have u:=aB.ij j;rw [h.flush] at u;have m:D.aH.Ok:=u.ok j (by have:=j.many;omega);have s:D.aH.Calm:=iz h;have H:D.aH.sec.length=D.sec.length:=(bu D).2.2.2;have t:D.aH.has 0:=⟨B3 _,by rw [H];exact A.2⟩
 have G:∀ x ∈ (FS n P D.aH).wait,(FS n P D.aH).has x.1:=by
  intro x I;obtain rfl:x=((0:Int),dg n P):=by simpa [FS] using I
  exact t
 have F:(FS n P D.aH).Ok:=⟨m.n,G,by show [((0:Int),dg n P)].length<=_;simp,m.bF⟩
 have f:dH (ou n P) (D.dj o) 1=(D.dj o).flush:=vi _ _;have b:dH (ou n P) (D.dj o) 2=if (dH (ou n P) (D.dj o) 1).1=0 then (dH (ou n P) (D.dj o) 1).2.write 0 (dg n P) else dH (ou n P) (D.dj o) 1:=rfl
 have g:dH (ou n P) (D.dj o) 3=if (dH (ou n P) (D.dj o) 2).1=0 then (dH (ou n P) (D.dj o) 2).2.flush else dH (ou n P) (D.dj o) 2:=rfl
 have i:¬ (2:Int)=0:=De0
 rcases mU h a with ⟨v,q⟩|⟨v,q⟩
 .rw [q] at f
  rw [f,if_pos rfl] at b;rcases mK s a.dec t (jh n P) with ⟨y,p⟩|⟨y,p⟩
  .have C:({ D.aH with cw:=cE (D.aH.cw+1),wait:=D.aH.wait++[((0:Int),dg n P)] }:aB)=FS n P D.aH:=rfl
   rw [C] at p;rw [p] at b;rw [b,if_pos rfl] at g;refine ⟨?_,fun k l c=>?_⟩
   .rcases mU (D:=FS n P D.aH) ⟨s.down,s.fi⟩ a.dec.dec with ⟨z,r⟩|⟨z,r⟩
    .exact .inl ⟨_,((nu.dec a).trans (nu.dec a.dec)).trans (nu.dec a.dec.dec),g.trans r⟩
    .refine .inr ⟨fun e=>vV z (mq (mq e)),_,.inr (.inr rfl),g.trans (r.trans ?_)⟩
     rw [rN,rN]
   .match k,l with
    | 0,_=>exact lG j a
    | 1,_=>rw [f];exact lG m a.dec
    | 2,_=>rw [b];exact lG F a.dec.dec
  .rw [p] at b
   rw [b,if_neg i] at g;refine ⟨.inr ⟨fun e=>vV y (mq e),_,.inr (.inl rfl),g.trans (by rw [rN])⟩,fun k l c=>?_⟩
   match k,l with
   | 0,_=>exact lG j a
   | 1,_=>rw [f];exact lG m a.dec
   | 2,_=>rw [b] at c;exact absurd c i
 .rw [q] at f
  rw [f,if_neg i] at b;rw [b,if_neg i] at g;refine ⟨.inr ⟨vV v,_,.inl rfl,g⟩,fun k l c=>?_⟩
  match k,l with
  | 0,_=>exact lG j a
  | 1,_=>rw [f] at c;exact absurd c i
  | 2,_=>rw [b] at c;exact absurd c i
end
def Mh (w:O) (c f:Addr) :
    CallsD T 108 #[Q (V c),Q (V f)] .returning w fun e u g=>e = .returned (.tuple #[])/\u = .returning/\w=g:=by
  refine callsD_of_wpS func108 rfl fun a h b=>?_;apply wpS_seq;apply wpS_region
  simp only [ntmps108,List.size_toArray,List.length_cons,List.length_nil,Nat.reduceAdd,Nat.reduceSub,Array.replicate_succ,
     Array.replicate_zero,List.push_toArray,List.append_toArray,E5,List.cons_append]
  simp [wpOpsS,go_sem,recoverD,b,Exit.thenS];refine wpS_of_wp ?_
  go_wp2
  cases a
  simp_all [bodyPostS,results,Tryz.results108]
def Br {w:O} {c:Array Z'} {a b:Nat} {x e:Z'} (f:c[4]?=V (az a)) (g:c[5]?=V (az b)) (h:w.cell? ⟨a,0,W⟩=V x) (i:w.cell? ⟨b,0,W⟩=V e) :
  (results Tryz.f59 c).run T w = .ok (.tuple #[x,e]) w:=by
 simp [results,Tryz.results59,go_sem,f,g,h,i]
def Jt {w:O} {c:Array Z'} {a b:Nat} {x z:Z'} {R:Ending->O->Prop} (f:c[4]?=V (az a)) (g:c[5]?=V (az b))
  (i:w.cell? ⟨a,0,W⟩=V x) (j:w.cell? ⟨b,0,W⟩=V z) (h:R (.returned (.tuple #[x,z])) w) :
  bodyPostD T Tryz.f59 R Exit.ret { tmps:=c,defers:=[{ target:=.fn (.func 108) #[Q (V ⟨a,0,W⟩),Q (V ⟨b,0,W⟩)],args:=#[] }] } w:=by
 refine leaves_cons (f:=108) (args:=#[Q (V ⟨a,0,W⟩),Q (V ⟨b,0,W⟩)]) Si0 (by simp [go_sem]) ?_;apply (Mh w ⟨a,0,W⟩ ⟨b,0,W⟩).mono;rintro e u l ⟨rfl,rfl,rfl⟩;exact ⟨_,Br f g i j,h⟩
def xJ (cd ca cb:Nat):Z':=.func (.func 163) #[] #[az cd,az ca,az cb]
def ym (d:Nat):Z':=.func (.func 115) #[az d] #[]
def lH (rb:Nat) (a:Array Z'):ai:=pt rb (Z a 112 (0,0))
section
variable (w:O) (S:Hp) (d:Nat) (D:aB) (cd ca cb rb:Nat) (bv:Z') (R:ai)
def NZ (h:ag w (aR S d D*(al S*(uh cd ca cb d 0 bv*(lH rb #[xJ cd ca cb,ym d]*R))))) (r:∀ a f,ag a (f*R)->Rd a bv (zs 512)) (q:∀ k,k<2->(dH qL D k).1=0->(dH qL D k).2.Ok) :
  Calls T 113 #[U (V ⟨rb,0,W⟩) 2 2] w (Ge S d (dH qL D 2) (uh cd ca cb d 0 bv*(lH rb #[xJ cd ca cb,ym d]*R)) w):=by
 refine vS 2 (fun k=>if k=0 then (163,#[],#[az cd,az ca,az cb]) else (115,#[az d],#[])) qL S d rb D _ De0 ?_ ?_ ?_ q w h
 .intro a f k s b
  have l:=(s.t00 (lH rb #[xJ cd ca cb,ym d]*(f*(uh cd ca cb d 0 bv*R))))
  match k,b with
  | 0,_=>exact l.cell 0
  | 1,_=>exact l.cell 1
 .intro k b t w
  match k,b with
  | 0,_=>simp [go_sem]
  | 1,_=>simp [go_sem]
 .intro k b a c D' u j i
  match k,b with
  | 0,_=>exact zA a c d D' cd ca cb 0 bv (zs 512) _ i j (fun m p g=>r m _ (g.t00 ((aR c d p*(al c*(uh cd ca cb d 0 bv*lH rb #[xJ cd ca cb,ym d])))*R))) (qg 512)
  | 1,_=>exact (ov a c d D' _ i j).mono fun e m g=>gE.of g
def vf (a:Int) (h:ag w (aR S d D*(al S*(uh cd ca cb d a bv*(lH rb #[xJ cd ca cb]*R))))) (p:∀ b f,ag b (f*R)->Rd b bv (zs 512)) (m:D.Ok) :
  Calls T 113 #[U (V ⟨rb,0,W⟩) 1 1] w (Ge S d (dH (PE a) D 1) (uh cd ca cb d a bv*(lH rb #[xJ cd ca cb]*R)) w):=by
 refine vS 1 (fun k=>(163,#[],#[az cd,az ca,az cb])) (PE a) S d rb D _ De0 ?_ ?_ ?_ ?_ w h
 .intro b f k q c
  have r:=(q.t00 (lH rb #[xJ cd ca cb]*(f*(uh cd ca cb d a bv*R))))
  match k,c with
  | 0,_=>exact r.cell 0
 .intro k c t w
  simp [go_sem]
 .intro k c b e D' u l i
  exact zA b e d D' cd ca cb a bv (zs 512) _ i l (fun s g j=>p s _ (j.t00 ((aR e d g*(al e*(uh cd ca cb d a bv*lH rb #[xJ cd ca cb])))*R))) (qg 512)
 .intro k c _
  obtain rfl:k=0:=Om0
  exact m
def OJ (n P:Nat) (h:ag w (aR S d D*(al S*(uh cd ca cb d 0 bv*(lH rb #[ym d,xJ cd ca cb,ym d]*R))))) (r:∀ a g,ag a (g*R)->Rd a bv (dg n P)) (q:∀ k,k<3->(dH (ou n P) D k).1=0->(dH (ou n P) D k).2.Ok) :
  Calls T 113 #[U (V ⟨rb,0,W⟩) 3 3] w (Ge S d (dH (ou n P) D 3) (uh cd ca cb d 0 bv*(lH rb #[ym d,xJ cd ca cb,ym d]*R)) w):=by
 refine vS 3 (fun k=>if k=1 then (163,#[],#[az cd,az ca,az cb]) else (115,#[az d],#[])) (ou n P) S d rb D _ De0 ?_ ?_ ?_ q w h
 .intro a g k s f
  have l:=(s.t00 (lH rb #[ym d,xJ cd ca cb,ym d]*(g*(uh cd ca cb d 0 bv*R))))
  match k,f with
  | 0,_=>exact l.cell 0
  | 1,_=>exact l.cell 1
  | 2,_=>exact l.cell 2
 .intro k f t w
  match k,f with
  | 0,_=>simp [go_sem]
  | 1,_=>simp [go_sem]
  | 2,_=>simp [go_sem]
 .intro k f a b D' u j i
  match k,f with
  | 0,_=>exact (ov a b d D' _ i j).mono fun e m c=>gE.of c
  | 1,_=>exact zA a b d D' cd ca cb 0 bv (dg n P) _ i j (fun m p c=>r m _ (c.t00 ((aR b d p*(al b*(uh cd ca cb d 0 bv*lH rb #[ym d,xJ cd ca cb,ym d])))*R))) (jh n P)
  | 2,_=>exact (ov a b d D' _ i j).mono fun e m c=>gE.of c
end
def OW {n P:Nat} {D:aB} (f:D.Ok) (c:D.Calm) (l:D.wait=[]) (j:D.sec.length=P+1) (r:Zero P D) (h:nN n P=true) :
  Sj n P 1 (dg n P) (J0 P n) (FS n P D).aH sr/\(FS n P D).aH.sec.length=P+1/\(FS n P D).aH.cr=D.cr/\(FS n P D).aH.cw=cE (D.cw+1)/\(FS n P D).aH.cf=cE (D.cf+1):=by
 have m:∀ x ∈ (FS n P D).wait,(FS n P D).has x.1:=by
  intro x q;obtain rfl:x=((0:Int),dg n P):=by simpa [FS] using q
  exact ⟨B3 _,by show (0:Int)<(D.sec.length:Int);omega⟩
 have a:(FS n P D).Ok:=⟨f.n,m,by show [((0:Int),dg n P)].length<=_;simp,f.bF⟩
 have b:(FS n P D).Calm:=⟨c.down,c.fi⟩
 have e:=aB.ij a;rw [b.flush] at e;have g:(FS n P D).aH.sec.length=P+1:=by rw [(bu _).2.2.2];exact j
 refine ⟨PN (fun p i=>?_) (e.ok a (by have:=a.many;omega)) (iz b) (by rw [g];omega) h ?_,g,(bu _).1,(bu _).2.1,(bu _).2.2.1⟩
 .rw [fJ a _ ⟨Om0,by show (p:Int)+1<(D.sec.length:Int);omega⟩,<- r p i]
  unfold aB.cD
  have:ew [((0:Int),dg n P)] ((p:Int)+1)=W:=by
   have:=js [] ((0:Int),dg n P) ((p:Int)+1);rw [E5,if_neg (by show ¬ ((0:Int)=(p:Int)+1);omega)] at this;exact this
  rw [show (FS n P D).wait=[((0:Int),dg n P)] from rfl,this,l]
  rfl
 .rw [fJ a 0 ⟨B3 _,by show (0:Int)<(D.sec.length:Int);omega⟩]
  unfold aB.cD
  have:ew [((0:Int),dg n P)] 0=V (dg n P):=by
   have:=js [] ((0:Int),dg n P) 0;rw [E5,if_pos rfl] at this;exact this
  rw [show (FS n P D).wait=[((0:Int),dg n P)] from rfl,this];show ((0:Int),bY 512 (dg n P))=_
  rw [kD (jh n P)]
def Sy (S:Hp) (d n P:Nat) (D:aB) (o:Ar) (F:ai) (w:O) (e:Ending) (a:O):Prop:=∃ E:Nat,o≠W/\E=E
structure Sc (n P:Nat) (D:aB) (o:Ar) (D':aB) (o':Ar):Prop where
 sj:Sj n P 1 (dg n P) (J0 P n) D' sr
 XE:D'.wait=[]
 sec:D'.sec.length=D.sec.length
 cr:D'.cr=D.cr
 cw:D'.cw=iK D.cw (P+2)
 cf:D'.cf=iK D.cf 3
 ar:nu o o'
def Qy (S:Hp) (d n P:Nat) (D:aB) (o:Ar) (F:ai) (w:O) (e:Ending) (b:O):Prop:=
 ∃ s j a D' o',Ext S a/\e = .returned (.tuple #[az s,Y X 0])/\ag b (eN s j d n P (J0 P n)*(aR a d (D'.dj o')*(al a*F)))/\aj w b/\Sc n P D o D' o'
def QM (S:Hp) (d n P:Nat) (D:aB) (o:Ar) (F:ai) (w:O) (e:Ending) (a:O):Prop:=Sy S d n P D o F w e a\/Qy S d n P D o F w e a
def Vk (S:Hp) (d P:Nat) (b:aB) (o:Ar) (c:ai) (w:O) (wr:O):Prop:=
 ∃ a o',Ext S a/\ag wr (aR a d ((FZ b P).dj o')*(al a*c))/\aj w wr/\nu o o'
def VL (S:Hp) (d P:Nat) (b:aB) (o:Ar) (c:ai) (w:O) (u:Z') (wr:O):Prop:=
 ∃ k a o',k<=P/\u = Y X ((k:Nat):Int)/\Ext S a/\ag wr (aR a d ((FZ b k).dj o')*(al a*c))/\aj w wr/\nu o o'
def EK (w:O) (S:Hp) (d n P:Nat) (D:aB) (o:Ar) (F:ai) (b2:ag w (aR S d (D.dj o)*(al S*F))) (u2:D.Ok) (hc:D.Calm) (hm:D.wait.length<=1000) (hg:nN n P=true) (hs:D.sec.length=P+1) (ho:pE o)
  (t2:o=W)
  (hh:∀ h b,ag h (b*F)->pV h):Calls T 59 #[az d,Y X (n:Int)] w (QM S d n P D o F w):=by
 have n3:=nH T;have m3:=eI.1 hg;have h1:=((b2.alloc (Z #[Q W] 92 (0,0))).alloc (Z #[Y X 0] 31 (0,0)))
 have d1:=(((aj.refl w).alloc (Z #[Q W] 92 (0,0))).alloc (Z #[Y X 0] 31 (0,0)))
 rw [A3] at h1;have V1:=ae u2;have Hc:=ae hc;have Hm:=ae hm;have Hg:=ae hg;have Hs:=ae hs;have Ho:=ae ho;have Hh:=ae hh;have K0:=ae t2;clear t2;clear b2 u2 hc hm hg hs ho hh
 go_enter_defers func59,ntmps59
 go_wp2_with fail
 generalize (w.alloc (Z #[Q W] 92 (0,0))).alloc (Z #[Y X 0] 31 (0,0))=w1 at h1 d1 ⊢;generalize w.heap.size+1=A at h1 ⊢;generalize w.heap.size=z at h1 ⊢;have H1:=nZ w1 S d (D.dj o) _ (h1.to (by ac_rfl:_=aR S d (D.dj o)*(pt A (Z #[Y X 0] 31 (0,0))*(pt z (Z #[Q W] 92 (0,0))*(al S*F)))));rw [qE,Hs.o] at H1;have p3:IntKind.i64.wrap (((P+1:Nat):Int)-1)=(P:Int):=by rw [IntKind.wrap_i64];omega
 (with_reducible refine H1.mono ?_)
 rintro e w2 ⟨rfl,rfl⟩;have h2:=h1.alloc (Z #[Y X (n:Int),Y X (P:Int)] 117 (0,0));have d2:=d1.alloc (Z #[Y X (n:Int),Y X (P:Int)] 117 (0,0));clear H1 h1 d1
 go_wp2_with fail
 have W0:=xl (w1.alloc (Z #[Y X (n:Int),Y X (P:Int)] 117 (0,0))) n P;unfold Gx OO at W0;rw [if_pos Hg.o] at W0
 (with_reducible refine W0.mono ?_)
 rintro e w3 ⟨rfl,h3,d3⟩;have c3:=fun w=>CZ w;have H3:=h3.cM h2;have t:=d2.trans d3;generalize w1.heap.size=q at H3 ⊢;clear W0 h2 d2 h3 d3
 go_wp2_with fail
 (with_reducible refine (c3 _).mono ?_)
 rintro e w4 ⟨rfl,rfl⟩;have H4:=H3.alloc (Z (ed (zs 512)) 5 (0,0));have D4:=t.alloc (Z (ed (zs 512)) 5 (0,0));obtain ⟨y,hZ⟩:∃ y,y=ed (zs 512):=⟨_,rfl⟩
 have E1:∀ w,(Instr.makeSlice 23 (Y X 512) (Y X 512)).run T w = .ok (U (V ⟨w.heap.size,0,W⟩) 512 512) (w.alloc (Z y 5 (0,0))):=by
  rw [hZ];exact Go.Proofs.Nn.fq 512 De0
 rw [<- hZ] at H4 D4;clear H3 t;have HZ:=ae hZ;clear hZ
 go_wp2_with fail
 generalize w3.alloc (Z y 5 (0,0))=i at H4 D4 ⊢;generalize w3.heap.size=f at H4 ⊢;obtain ⟨c,t1⟩:∃ b,b=pt f (Z y 5 (0,0))*(pt q (Z #[Y X (n:Int),Y X (P:Int)] 117 (0,0))*(pt A (Z #[Y X 0] 31 (0,0))*(pt z (Z #[Q W] 92 (0,0))*F))):=⟨_,rfl⟩
 have H5:ag i (aR S d (D.dj o)*(al S*c)):=H4.to (by rw [t1];ac_rfl);have j0:=ae t1
 have D0:∀ h b,ag h (b*c)->Rd h (U (V ⟨f,0,W⟩) 512 512) (zs 512):=by
  intro h b hx;have:=zU (c:=512) ((hx.to (by rw [j0.o,HZ.o];ac_rfl:_=pt f (Z (ed (zs 512)) 5 (0,0))*(b*(pt q (Z #[Y X (n:Int),Y X (P:Int)] 117 (0,0))*(pt A (Z #[Y X 0] 31 (0,0))*(pt z (Z #[Q W] 92 (0,0))*F)))))).heap)
  rwa [qg] at this
 have D0:=ae D0;clear H4 t1
 have c0:=uT i d 0 (V ⟨f,0,W⟩) 512 512;have h6:=(((H5.alloc (Z #[az d] 27 (0,0))).alloc (Z #[Y X 0] 3 (0,0))).alloc (Z #[U (V ⟨f,0,W⟩) 512 512] 23 (0,0))).alloc (Z #[.func (.func 163) #[] #[az i.heap.size,az (i.heap.size+1),az (i.heap.size+1+1)],.func (.func 115) #[az d] #[]] 112 (0,0));have D6:=(((D4.alloc (Z #[az d] 27 (0,0))).alloc (Z #[Y X 0] 3 (0,0))).alloc (Z #[U (V ⟨f,0,W⟩) 512 512] 23 (0,0))).alloc (Z #[.func (.func 163) #[] #[az i.heap.size,az (i.heap.size+1),az (i.heap.size+1+1)],.func (.func 115) #[az d] #[]] 112 (0,0));rw [A3,A3,A3] at h6
 (with_reducible refine c0.mono ?_)
 rintro e w6 ⟨rfl,rfl⟩;have H6:=ae h6;have i1:=ae D6;clear c0 h6 D6 D4 H5 E1
 go_wp2_with fail
 generalize (((i.alloc (Z #[az d] 27 (0,0))).alloc (Z #[Y X 0] 3 (0,0))).alloc (Z #[U (V ⟨f,0,W⟩) 512 512] 23 (0,0))).alloc (Z #[.func (.func 163) #[] #[az i.heap.size,az (i.heap.size+1),az (i.heap.size+1+1)],.func (.func 115) #[az d] #[]] 112 (0,0))=w6 at H6 i1 ⊢;generalize i.heap.size+1+1+1=rb at H6 ⊢;generalize i.heap.size+1+1=cb at H6 ⊢;generalize i.heap.size+1=ca at H6 ⊢;generalize i.heap.size=cd at H6 ⊢;have h6:ag w6 (aR S d (D.dj o)*(al S*(uh cd ca cb d 0 (U (V ⟨f,0,W⟩) 512 512)*(lH rb #[xJ cd ca cb,ym d]*c)))):=H6.o.to (by unfold uh lH xJ ym;ac_rfl);have s0:D.has 0:=⟨B3 _,by rw [Hs.o];omega⟩
 obtain ⟨hA,g2⟩:=TC Hc.o V1.o Hm.o Ho.o s0;have N:=NZ w6 S d (D.dj o) cd ca cb rb _ c h6 D0.o g2;clear H6 h6 g2
 (with_reducible refine N.mono ?_)
 rintro e w7 ⟨T0,S7,l2,h7,d7⟩;have D7:=i1.o.trans d7;clear N d7 i1;rcases hA with ⟨K',x0,r⟩|⟨K',x0,r⟩|⟨o1,f2,r⟩
 .rw [K0.o] at x0;cases x0
 .rw [K0.o] at x0;cases x0
 rw [r] at T0 h7;rcases T0 with ⟨_,rfl⟩|⟨T0,_⟩
 case inr=>exact absurd rfl T0
 have u0:=QZ V1.o Hm.o (by rw [Hs.o];omega);have q1:=F3 Hc.o;obtain ⟨a,H⟩:∃ b,b=(F1 D).aH:=⟨_,rfl⟩
 have f0:=aB.ij u0;rw [q1.flush] at f0;have v2:a.Ok:=by rw [H];exact f0.ok u0 (by have:=u0.many;omega)
 have n2:a.Calm:=by rw [H];exact iz q1
 have L1:a.wait=[]:=by rw [H];rfl
 have z2:a.sec.length=P+1:=by rw [H,(bu _).2.2.2];exact Hs.o
 have B2:a.cD 0=(0,zs 512):=by rw [H,fJ u0 0 s0];exact Kv
 have q2:a.cr=D.cr:=by rw [H,(bu _).1];rfl
 have r2:a.cw=iK D.cw 1:=by rw [H,(bu _).2.1];rfl
 have p2:a.cf=iK D.cf 1:=by rw [H,(bu _).2.2.1];rfl
 rw [<- H] at h7;have m2:FZ a 0=a:=by unfold FZ zW;rw [List.range_zero,List.map_nil,<- L1];rfl
 have e2:ag w7 (aR S7 d ((FZ a 0).dj o1)*(al S7*c)):=by
  rw [m2];exact (h7.to (by ac_rfl:_=(uh cd ca cb d 0 (U (V ⟨f,0,W⟩) 512 512)*lH rb #[xJ cd ca cb,ym d])*(aR S7 d (a.dj o1)*(al S7*c)))).right
 have H7:=ae e2;have j1:=ae D7;have e1:=ae f2;have l1:=ae l2;have W1:=ae v2;have m1:=ae n2;have W2:=ae L1;have k0:=ae z2;have V2:=ae B2;have S2:=ae q2;have T2:=ae r2;have R2:=ae p2;clear h7 e2 D7 f2 r H f0 v2 n2 L1 z2 B2 q2 r2 p2 u0 q1 m2 l2
 have g1:w7.cell? ⟨q,1,W⟩=V (Y X (P:Int)):=by
  have:=H7.o;rw [j0.o] at this;exact (this.to (by ac_rfl:_=pt q (Z #[Y X (n:Int),Y X (P:Int)] 117 (0,0))*(pt f (Z y 5 (0,0))*(pt A (Z #[Y X 0] 31 (0,0))*(pt z (Z #[Q W] 92 (0,0))*(F*(aR S7 d ((FZ a 0).dj o1)*al S7))))))).cell 1
 go_upto_block 0 with (fail)
 go_cut [] from 32 to 42 (fun wx=>Vk S d P a o c w wx)
 case first=>
  go_wp2_with fail
  go_loopw [32] (fun i0 wr=>VL S d P a o c w i0 wr) (fun i0 _=>P-(intOf i0).toNat)
  case atStart=>exact ⟨0,S7,o1,Nat.zero_le _,rfl,l1.o,H7.o,j1.o,e1.o⟩
  case round=>
   clear H7 j1 e1 l1 g1;obtain ⟨k,m,M,hk,rfl,n0,G,D8,m0⟩:=hrel
   by_cases D1:k<P
   .have X2:(k:Int)<(P:Int):=Om0
    have o3:IntKind.i64.wrap ((k:Int)+1)=(k:Int)+1:=by rw [IntKind.wrap_i64];omega
    have c0:=uT wr d ((k:Int)+1) (V ⟨f,0,W⟩) 512 512;have J:=(((G.alloc (Z #[az d] 27 (0,0))).alloc (Z #[Y X ((k:Int)+1)] 3 (0,0))).alloc (Z #[U (V ⟨f,0,W⟩) 512 512] 23 (0,0))).alloc (Z #[.func (.func 163) #[] #[az wr.heap.size,az (wr.heap.size+1),az (wr.heap.size+1+1)]] 112 (0,0));have D9:=(((D8.alloc (Z #[az d] 27 (0,0))).alloc (Z #[Y X ((k:Int)+1)] 3 (0,0))).alloc (Z #[U (V ⟨f,0,W⟩) 512 512] 23 (0,0))).alloc (Z #[.func (.func 163) #[] #[az wr.heap.size,az (wr.heap.size+1),az (wr.heap.size+1+1)]] 112 (0,0));rw [A3,A3,A3] at J;have p:=ae J;have k1:=ae D9;have H0:=ae n0;have x:=ae m0;clear G D8 J D9 n0 m0
    go_wp2_with fail
    (with_reducible refine c0.mono ?_)
    rintro e g ⟨rfl,rfl⟩;clear c0
    go_wp2_with fail
    generalize (((wr.alloc (Z #[az d] 27 (0,0))).alloc (Z #[Y X ((k:Int)+1)] 3 (0,0))).alloc (Z #[U (V ⟨f,0,W⟩) 512 512] 23 (0,0))).alloc (Z #[.func (.func 163) #[] #[az wr.heap.size,az (wr.heap.size+1),az (wr.heap.size+1+1)]] 112 (0,0))=g at p k1 ⊢;generalize wr.heap.size+1+1+1=rb at p ⊢;generalize wr.heap.size+1+1=cb at p ⊢;generalize wr.heap.size+1=ca at p ⊢;generalize wr.heap.size=cd at p ⊢;have J:ag g (aR m d ((FZ a k).dj M)*(al m*(uh cd ca cb d ((k:Int)+1) (U (V ⟨f,0,W⟩) 512 512)*(lH rb #[xJ cd ca cb]*c)))):=p.o.to (by unfold uh lH xJ;ac_rfl);have N:=vf g m d ((FZ a k).dj M) cd ca cb rb _ c _ J D0.o (lG (Rr W1.o (by rw [k0.o];omega)) x.o.ok);clear J p
    (with_reducible refine N.mono ?_)
    rintro e a1 ⟨R0,L0,j2,C,Y1⟩;have o0:=k1.o.trans Y1;have hE:Ext S L0:=H0.o.trans j2;clear N Y1 k1 j2;rcases Tc (k:=k) m1.o x.o.ok (by rw [k0.o];omega) with ⟨s,r0,r⟩|⟨hh,r⟩
    .rw [r] at R0 C
     rcases R0 with ⟨_,rfl⟩|⟨R0,_⟩
     case inr=>exact absurd rfl R0
     have I:=ae ((C.to (by ac_rfl:_=(uh cd ca cb d ((k:Int)+1) (U (V ⟨f,0,W⟩) 512 512)*lH rb #[xJ cd ca cb])*(aR L0 d ((FZ a (k+1)).dj s)*(al L0*c)))).right);have p0:=ae o0;have L2:=ae hE;have J2:=ae (x.o.trans r0);clear C o0 hE r0 r x
     go_wp2_with fail
     go_roundw
     case rel=>exact ⟨k+1,L0,s,Om0,by go_num,L2.o,I.o,p0.o,J2.o⟩
     case measure=>simp [intOf];omega
    .obtain ⟨K',hK⟩:=hh
     rw [x.o.none K0.o] at hK;cases hK
   .obtain rfl:k=P:=Om0
    have H8:=ae G;have G0:=ae D8;clear G D8
    go_wp2_with fail
    go_meet
    exact ⟨m,M,n0,H8.o,G0.o,m0⟩
 case rest=>
  clear H7 j1 e1 l1 g1;obtain ⟨m,M,n0,G,D8,m0⟩:=hcut;have V0:∀ h b,ag h (b*c)->ag h (pt q (Z #[Y X (n:Int),Y X (P:Int)] 117 (0,0))*((pt f (Z y 5 (0,0))*(pt A (Z #[Y X 0] 31 (0,0))*(pt z (Z #[Q W] 92 (0,0))*F)))*b)):=fun h b hx=>hx.to (by rw [j0.o];ac_rfl);have g0:wc.cell? ⟨q,0,W⟩=V (Y X (n:Int)):=(V0 _ (aR m d ((FZ a P).dj M)*al m) (G.to Ac0)).cell 0;have g1:wc.cell? ⟨q,1,W⟩=V (Y X (P:Int)):=(V0 _ (aR m d ((FZ a P).dj M)*al m) (G.to Ac0)).cell 1;have A1:∀ h b,ag h (b*c)->pV h:=fun h b hx=>Hh.o h (b*(pt f (Z y 5 (0,0))*(pt q (Z #[Y X (n:Int),Y X (P:Int)] 117 (0,0))*(pt A (Z #[Y X 0] 31 (0,0))*pt z (Z #[Q W] 92 (0,0)))))) (hx.to (by rw [j0.o];ac_rfl));have z1:=AY wc n P Hg.o (A1 wc (aR m d ((FZ a P).dj M)*al m) (G.to Ac0));unfold OO at z1;have f3:=ae V0;have g3:=ae A1;have H8:=ae G;have G0:=ae D8;have H0:=ae n0;have x:=ae m0;clear V0 A1 G D8 n0 m0
  go_wp2_with fail
  (with_reducible refine z1.mono ?_)
  rintro e g ⟨ev,rfl,J,d9⟩;have p:=J.under H8.o;have D9:=G0.o.trans d9;obtain ⟨u,v,rfl⟩:=p.pA.shape;rw [jh] at p ⊢;clear z1 J d9 H8 G0 g0 g1;have c0:=uT g d 0 u 512 v;have C:=(((p.alloc (Z #[az d] 27 (0,0))).alloc (Z #[Y X 0] 3 (0,0))).alloc (Z #[U u 512 v] 23 (0,0))).alloc (Z #[.func (.func 115) #[az d] #[],.func (.func 163) #[] #[az g.heap.size,az (g.heap.size+1),az (g.heap.size+1+1)],.func (.func 115) #[az d] #[]] 112 (0,0));have o0:=(((D9.alloc (Z #[az d] 27 (0,0))).alloc (Z #[Y X 0] 3 (0,0))).alloc (Z #[U u 512 v] 23 (0,0))).alloc (Z #[.func (.func 115) #[az d] #[],.func (.func 163) #[] #[az g.heap.size,az (g.heap.size+1),az (g.heap.size+1+1)],.func (.func 115) #[az d] #[]] 112 (0,0));rw [A3,A3,A3] at C;have I:=ae C;have p0:=ae o0;clear p D9 C o0
  go_wp2_with fail
  (with_reducible refine c0.mono ?_)
  rintro e a1 ⟨rfl,rfl⟩;clear c0
  go_wp2_with fail
  generalize (((g.alloc (Z #[az d] 27 (0,0))).alloc (Z #[Y X 0] 3 (0,0))).alloc (Z #[U u 512 v] 23 (0,0))).alloc (Z #[.func (.func 115) #[az d] #[],.func (.func 163) #[] #[az g.heap.size,az (g.heap.size+1),az (g.heap.size+1+1)],.func (.func 115) #[az d] #[]] 112 (0,0))=a1 at I p0 ⊢;generalize g.heap.size+1+1+1=rb at I ⊢;generalize g.heap.size+1+1=cb at I ⊢;generalize g.heap.size+1=ca at I ⊢;generalize g.heap.size=cd at I ⊢;have C:ag a1 (aR m d ((FZ a P).dj M)*(al m*(uh cd ca cb d 0 (U u 512 v)*(lH rb #[ym d,xJ cd ca cb,ym d]*(bs 5 (U u 512 v) (dg n P)*c))))):=I.o.to (by unfold uh lH xJ ym;ac_rfl);have s0:(FZ a P).has 0:=⟨B3 _,by show (0:Int)<(a.sec.length:Int);rw [k0.o];omega⟩
  have e0:=Rr W1.o (k:=P) (by rw [k0.o];omega);obtain ⟨hC,i2⟩:=Rz (n:=n) (P:=P) (ze m1.o P) e0 x.o.ok s0;have N:=OJ a1 m d ((FZ a P).dj M) cd ca cb rb (U u 512 v) (bs 5 (U u 512 v) (dg n P)*c) n P C (fun h b hx=>(hx.to (by ac_rfl:_=bs 5 (U u 512 v) (dg n P)*(b*c))).pA) i2;clear I C i2
  (with_reducible refine N.mono ?_)
  rintro e M1 ⟨S0,j,k2,N0,Z1⟩;have N1:=p0.o.trans Z1;have hE:Ext S j:=H0.o.trans k2;clear N Z1 p0 k2
  have r1:=ze m1.o P;have f0:=aB.ij e0;rw [r1.flush] at f0;have x2:(FZ a P).aH.Ok:=f0.ok e0 (by have:=e0.many;omega);have o2:(FZ a P).aH.Calm:=iz r1;have A2:(FZ a P).aH.sec.length=P+1:=by rw [(bu _).2.2.2];exact k0.o
  have D2:Zero P (FZ a P).aH:=fun H2 hp=>by rw [fJ e0 _ ⟨Om0,by show (H2:Int)+1<(a.sec.length:Int);rw [k0.o];omega⟩];exact Pt a P H2 hp
  have b3:(FZ a P).aH.cD 0=(0,zs 512):=by rw [fJ e0 _ s0,Ie W2.o];exact V2.o
  rcases hC with ⟨s,r0,r⟩|⟨s2,E,l3,r⟩
  case inr=>exact absurd (x.o.none K0.o) s2
  rw [r] at S0 N0;rcases S0 with ⟨_,rfl⟩|⟨S0,_⟩
  case inr=>exact absurd rfl S0
  obtain ⟨K1,X0,x1,y1,v1⟩:=OW x2 o2 rfl A2 D2 Hg.o
  have s1:Sc n P D o (FS n P (FZ a P).aH).aH s:=by
   refine ⟨K1,rfl,by rw [X0,Hs.o],?_,?_,?_,x.o.trans r0⟩
   .rw [x1,(bu _).1];exact S2.o
   .rw [y1,(bu _).2.1]
    show cE (iK a.cw P+1)=_
    rw [T2.o,IU,show P+2=(1+P)+1 by omega];rfl
   .rw [v1,(bu _).2.2.1]
    show cE (cE (a.cf+1)+1)=_
    rw [R2.o];rfl
  generalize (FS n P (FZ a P).aH).aH=t at N0 K1 X0 x1 y1 v1 s1;have S1:ag M1 (aR j d (t.dj s)*(al j*c)):=(N0.to (by ac_rfl:_=(uh cd ca cb d 0 (U u 512 v)*(lH rb #[ym d,xJ cd ca cb,ym d]*bs 5 (U u 512 v) (dg n P)))*(aR j d (t.dj s)*(al j*c)))).right;have O2:=ae s1;clear N0 r K1 x1 y1 v1 x2 o2 A2 D2 b3 f0 r1 e0 s1 r0 x H0 D0;obtain ⟨F0,p1⟩:∃ l,l=nX n 0:=⟨_,rfl⟩
  have E1:∀ w,(Instr.makeSlice 88 (Y X (n:Int)) (Y X (n:Int))).run T w = .ok (U (V ⟨w.heap.size,0,W⟩) n n) (w.alloc (Z (ints F0) 3 (0,0))):=by
   rw [p1];exact sw n Om0
  have N2:=ae p1;have q0:=S1.alloc (Z (ints F0) 3 (0,0));have b1:=N1.alloc (Z (ints F0) 3 (0,0));clear p1 S1 N1
  go_upto_block 2 with (fail)
  generalize M1.alloc (Z (ints F0) 3 (0,0))=q3 at q0 b1 ⊢;generalize M1.heap.size=L at q0 ⊢;obtain ⟨Z2,u1⟩:∃ b,b=aR j d (t.dj s)*(al j*c):=⟨_,rfl⟩
  rw [<- u1] at q0;have P2:=ae u1;have c1:=ae q0;have f1:=ae b1;have M2:=ae hE;have X1:=ae X0;clear u1 E1 q0 b1 hE X0
  go_cut [] from 57 to 63 (fun wx=>ag wx (pt L (Z (ints (D5 n (-1))) 3 (0,0))*Z2)/\aj w wx)
  case first=>
   go_wp2_with fail
   go_loopw [57] (fun i0 wr=>KJ n L Z2 w i0 wr) (fun i0 _=>n-(intOf i0).toNat)
   case atStart=>exact ⟨0,Nat.zero_le _,rfl,by rw [<- N2.o];exact c1.o,f1.o⟩
   case round=>
    clear c1 f1;obtain ⟨k,hk,rfl,h0,Y0⟩:=hrel
    by_cases D1:k<n
    .have X2:(k:Int)<(n:Int):=Om0
     have ck:wr.cell? ⟨L,k,W⟩=V (Y X ((nX n k).getD k 0)):=(h0.cell k).trans (bK (by rw [GI hk];exact D1));have fk:=h0.frozen k;have h2:=h0.setCell k (Y X (-1));rw [gM,I8 D1] at h2;have Y2:=ae h2;have U2:=ae Y0;generalize (nX n k).getD k 0=uo at ck;clear h0 Y0 h2
     go_wp2
     go_roundw
     case rel=>exact ⟨k+1,Om0,by go_num,Y2.o,U2.o.setCell _ _⟩
     case measure=>simp [intOf];omega
    .obtain rfl:k=n:=Om0
     have e:nX k k=D5 k (-1):=by simp [nX]
     rw [e] at h0;have Hs:=ae h0;have Hd:=ae Y0;clear h0 Y0 e
     go_wp2_with fail
     go_meet
     exact ⟨Hs.o,Hd.o⟩
  case rest=>
   clear c1 f1;obtain ⟨l0,O1⟩:=hcut;rw [P2.o] at l0;have n1:ag wc (pt q (Z #[Y X (n:Int),Y X (P:Int)] 117 (0,0))*(pt f (Z y 5 (0,0))*(pt A (Z #[Y X 0] 31 (0,0))*(pt z (Z #[Q W] 92 (0,0))*F))*(pt L (Z (ints (D5 n (-1))) 3 (0,0))*(aR j d (t.dj s)*al j)))):=l0.to (by rw [j0.o];ac_rfl);have g0:wc.cell? ⟨q,0,W⟩=V (Y X (n:Int)):=n1.cell 0;have g1:wc.cell? ⟨q,1,W⟩=V (Y X (P:Int)):=n1.cell 1;have B1:(od n).at_.length=n:=D3
   have y2:Calls T 117 #[az d,.agg #[Y X (n:Int),Y X (P:Int)],.agg #[Y .u32 1,Y .u64 1,Y .u64 0,Y X 0,Y X 0,U (V ⟨L,0,W⟩) n n]] wc (tZ d n P (J0 P n) wc):=by
    refine lY wc j d (t.dj s) _ (l0.to (by ac_rfl:_=aR j d (t.dj s)*(pt L (Z (ints (D5 n (-1))) 3 (0,0))*(al j*c)))) n P (od n) (U (V ⟨L,0,W⟩) n n) (.inr ⟨L,0,n,by rw [B1],by rw [B1];exact Nat.le_refl _,by unfold maxLen;omega,fun k hk=>?_⟩) Om0 Om0 (by rw [qE,X1.o];omega) (by rw [qE,X1.o];omega) (show (0:Int)<=0 by decide) (tW Om0 Om0 Om0) Om0;rw [Nat.zero_add,l0.cell];exact bK hk
   have T1:=ae l0;have U1:=ae O1;clear l0 n1 O1 B1
   go_wp2_with fail
   (with_reducible refine y2.mono ?_)
   rintro e e3 ⟨Z0,E2,rfl,c2,a2⟩;have R1:=U1.o.trans a2;have d0:ag e3 (pt z (Z #[Q W] 92 (0,0))*(pt A (Z #[Y X 0] 31 (0,0))*((pt L (Z (ints (D5 n (-1))) 3 (0,0))*(pt q (Z #[Y X (n:Int),Y X (P:Int)] 117 (0,0))*pt f (Z y 5 (0,0))))*(eN Z0 E2 d n P (J0 P n)*(aR j d (t.dj s)*(al j*F)))))):=(c2.under T1.o).to (by rw [j0.o];ac_rfl);have a0:=d0.cell 0;have b0:=d0.ah.cell 0;have fa:=d0.frozen 0;have i3:=d0.ah.frozen 0;have s2:z≠A:=ag.ne d0;have HK:=ae ((d0.setCell 0 (az Z0)).ah.setCell 0 (Y X 0));have K2:=ae ((R1.setCell ⟨z,0,W⟩ (az Z0)).setCell ⟨A,0,W⟩ (Y X 0));clear y2 c2 d0 a2 R1 T1 U1 g0 g1
   go_wp2_with fail
   exact Jt rfl rfl (HK.o.ah.cell 0) (HK.o.cell 0) (.inr ⟨Z0,E2,j,t,s,M2.o,rfl,HK.o.right.right.right,K2.o,O2.o⟩)
def mw (n:Int):Int:=if n<4\/3840<n then 0 else (5*n+241)/2
def Fj {n:Nat} (a:4<=n) (b:n<=3840):mw (n:Int)=(((5*n+241)/2:Nat):Int):=by
 unfold mw;rw [if_neg Om0];omega
def GN (w:O) (n:Int):Calls T 22 #[Y X n] w fun e f=>e = .returned (Y X (mw n))/\w=f:=by
 go_in
 by_cases h:n<4
 .have e:mw n=0:=by unfold mw;rw [if_pos (.inl h)]
  rw [e]
  go_wp2
  go_ret
  exact ⟨rfl,rfl⟩
 .by_cases c:3840<n
  .have e:mw n=0:=by unfold mw;rw [if_pos (.inr c)]
   rw [e]
   go_wp2
   go_ret
   exact ⟨rfl,rfl⟩
  .have e:mw n=(5*n+241)/2:=by unfold mw;rw [if_neg Om0]
   have g:IntKind.i64.wrap ((IntKind.i64.wrap (IntKind.i64.wrap (IntKind.i64.wrap (IntKind.i64.wrap (5*n)+240)+2)-1)).tdiv 2)=(5*n+241)/2:=by
    have a:IntKind.i64.wrap (5*n)=5*n:=by rw [IntKind.wrap_i64];omega
    have b:IntKind.i64.wrap (5*n+240)=5*n+240:=by rw [IntKind.wrap_i64];omega
    have a3:IntKind.i64.wrap (5*n+240+2)=5*n+242:=by rw [IntKind.wrap_i64];omega
    have a4:IntKind.i64.wrap (5*n+242-1)=5*n+241:=by rw [IntKind.wrap_i64];omega
    rw [a,b,a3,a4,Int.tdiv_eq_ediv_of_nonneg Om0,IntKind.wrap_i64];omega
   rw [e]
   go_wp2
   go_ret
   refine ⟨?_,rfl⟩;rw [show 5*n+240+2-1=5*n+241 by omega]
   rfl
end Go.Proofs.Su
