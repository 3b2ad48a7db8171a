/- Steps. -/
import Derived.Test.YtebfaobobccikaaGreatDoorSP33
import Derived.Test.YtebfaobobccikaaGreatDoorSP52
set_option linter.all false
set_option maxRecDepth 99999
set_option maxHeartbeats 0
open Go.SL
open Option renaming some->Z'
namespace Go.SL
open RowKit Proofs.Nn Proofs.Ba Proofs.Cl
section
variable {T T':Tr} {a b k k' n:Nat} {d e x:List UInt8} {f:AF} {l p p1 p2:List UInt8} {z:Int} {ps:List (List UInt8)}
structure uA (T:Tr) (a b:Nat) (d x:List UInt8) (f:AF):Prop where
 a1:a≠1
 b1:b≠1
 ba:b≠a
 root:T 1=some (.dir [⟨a,d⟩])
 da:T a=some (.dir [⟨b,x⟩])
 fb:T b=some (.file f)
theorem AQ {y:Nat} (h:d≠e):gn [⟨y,d⟩] e=none:=FL fun z g c=>by rw [List.mem_singleton.1 g] at c;exact h c
theorem uA.dir (h:uA T a b d x f):aQ T 1 [d]=(0,a):=gS h.root (kS a _)
theorem uA.walk (h:uA T a b d x f):aQ T 1 [d,x]=(0,b):=Bj h.root (kS a _) h.da (kS b _)
theorem uA.Xk (h:uA T a b d x f) (g:d≠e):aQ T 1 (e :: ps)=(5,0):=by
 have c:dS (T 1) e=(5,0):=by rw [h.root,ij (AQ g)]
 rw [kK (by rw [c];decide),c]
theorem uA.Xg (h:uA T a b d x f) (i:x≠e):aQ T 1 [d,e]=(5,0):=by
 have c:dS (T 1) d=(0,a):=by rw [h.root,js (kS a _)];rfl
 have g:dS (T a) e=(5,0):=by rw [h.da,ij (AQ i)]
 rw [iz (by rw [c]),c,kK (by rw [g];decide),g]
theorem zS {u:aN}:jN [u] 0=[]:=by simp [jN]
theorem TF (h:uA T a b d x f) (g:aU p1=Z' [d]) (i:aU p2=Z' [e]) (o:d≠e):nA T k p1 p2=0:=by
 have j:dR T [e]=0:=mh (d:=1) (by simp) rfl h.root (AQ o);have c:aZ T [d]=1:=eV (d:=1) rfl;have r:aZ T [e]=1:=eV (d:=1) rfl;have m:iX T [d]=0:=by unfold iX;rw [c,h.root];show (gn [⟨a,d⟩] d).getD 0=0;rw [kS];rfl
 have q:dM (hU T 1 0 1)=[]:=by
  unfold hU;rw [h.root];show dM (ee T 1 (jN [⟨a,d⟩] 0) 1)=[]
  rw [zS];exact congrArg dM (aW _ _ _)
 unfold nA;rw [g,i];simp only;rw [if_neg (by simp),h.dir,if_neg (by simp),if_neg (by rintro ⟨h,_⟩;simp [iH] at h),j,if_neg (by simp),c,r,m,q];refine mL rfl (by decide) ?_;unfold nX;rw [h.root];show aJ 1<=k+aJ 1-aJ 0+aJ 0;have:aJ 0<=aJ 1:=by decide
 omega
theorem Q0 (h:uA T a b d x f) (o:aU p1=Z' [d]) (q:aU p2=Z' [e]) (w:d≠e) (t:JI T k p1 p2 z T' k') (v:z=0):uA T' a b e x f/\k'=k:=by
 obtain ⟨-,r⟩:=t;obtain ⟨ps,y,j,m,_,_,rfl,rfl⟩:=r v;obtain rfl:=Option.some.inj (o.symm.trans j);obtain rfl:=Option.some.inj (q.symm.trans m);have i:aZ T [d]=1:=eV (d:=1) rfl;have u:aZ T [e]=1:=eV (d:=1) rfl;have s:iX T [d]=0:=by unfold iX;rw [i,h.root];show (gn [⟨a,d⟩] d).getD 0=0;rw [kS];rfl
 rw [i,u,s,h.dir]
 have c:hU T 1 0=ee T 1 []:=by
  unfold hU;rw [h.root];show ee T 1 (jN [⟨a,d⟩] 0)=_
  rw [zS]
 have g:(ee T 1 []) 1=Z' (.dir []):=aW _ _ _;refine ⟨⟨h.a1,h.b1,h.ba,?_,?_,?_⟩,?_⟩
 .unfold FW
  rw [c,g];exact aW _ _ _
 .unfold FW
  rw [c];exact (aE _ _ h.a1).trans ((aE _ _ h.a1).trans h.da)
 .unfold FW
  rw [c];exact (aE _ _ h.b1).trans ((aE _ _ h.b1).trans h.fb)
 .unfold Uo nX
  rw [c,g,h.root];show k+aJ 1-aJ 0+aJ 0-aJ 1=k
  have:aJ 0<=aJ 1:=by decide
  omega
theorem SE (h:uA T a b d x f) (g:aU p1=Z' [d,x]) (i:aU p2=Z' [d,e]) (o:x≠e):nA T k p1 p2=0:=by
 have j:dR T [d,e]=0:=mh (d:=a) (by simp) h.dir h.da (AQ o);have c:aZ T [d,x]=a:=eV (d:=a) h.dir;have r:aZ T [d,e]=a:=eV (d:=a) h.dir;have m:iX T [d,x]=0:=by unfold iX;rw [c,h.da];show (gn [⟨b,x⟩] x).getD 0=0;rw [kS];rfl
 have q:dM (hU T a 0 a)=[]:=by
  unfold hU;rw [h.da];show dM (ee T a (jN [⟨b,x⟩] 0) a)=[]
  rw [zS];exact congrArg dM (aW _ _ _)
 unfold nA;rw [g,i];simp only;rw [if_neg (by simp),h.walk,if_neg (by simp),if_neg (by rintro ⟨h,_⟩;simp [iH] at h),j,if_neg (by simp),c,r,m,q];refine mL rfl (by decide) ?_;unfold nX;rw [h.da];show aJ 1<=k+aJ 1-aJ 0+aJ 0;have:aJ 0<=aJ 1:=by decide
 omega
theorem Pd (h:uA T a b d x f) (o:aU p1=Z' [d,x]) (q:aU p2=Z' [d,e]) (w:x≠e) (t:JI T k p1 p2 z T' k') (v:z=0):uA T' a b d e f/\k'=k:=by
 obtain ⟨-,r⟩:=t;obtain ⟨ps,y,j,m,_,_,rfl,rfl⟩:=r v;obtain rfl:=Option.some.inj (o.symm.trans j);obtain rfl:=Option.some.inj (q.symm.trans m);have i:aZ T [d,x]=a:=eV (d:=a) h.dir;have u:aZ T [d,e]=a:=eV (d:=a) h.dir;have s:iX T [d,x]=0:=by unfold iX;rw [i,h.da];show (gn [⟨b,x⟩] x).getD 0=0;rw [kS];rfl
 rw [i,u,s,h.walk]
 have c:hU T a 0=ee T a []:=by
  unfold hU;rw [h.da];show ee T a (jN [⟨b,x⟩] 0)=_
  rw [zS]
 have g:(ee T a []) a=Z' (.dir []):=aW _ _ _;refine ⟨⟨h.a1,h.b1,h.ba,?_,?_,?_⟩,?_⟩
 .unfold FW
  rw [c];exact (aE _ _ (Ne.symm h.a1)).trans ((aE _ _ (Ne.symm h.a1)).trans h.root)
 .unfold FW
  rw [c,g];exact aW _ _ _
 .unfold FW
  rw [c];exact (aE _ _ h.ba).trans ((aE _ _ h.ba).trans h.fb)
 .unfold Uo nX
  rw [c,g,h.da];show k+aJ 1-aJ 0+aJ 0-aJ 1=k
  have:aJ 0<=aJ 1:=by decide
  omega
def uG (u v:Nat):List UInt8:=[47,UInt8.ofNat u,47,UInt8.ofNat v]
theorem Ac:∀ u:Fin 26,aU (pU (97+u))=Z' [lU (97+u)]:=by decide +kernel
theorem vZ:∀ u v:Fin 26,aU (uG (97+u) (97+v))=Z' [lU (97+u),lU (97+v)]:=by decide +kernel
theorem uQ {u:Nat} (c:u<26):aU (pU (97+u))=Z' [lU (97+u)]:=Ac ⟨u,c⟩
theorem kB {u v:Nat} (c:u<26) (g:v<26):aU (uG (97+u) (97+v))=Z' [lU (97+u),lU (97+v)]:=vZ ⟨u,c⟩ ⟨v,g⟩
theorem TI (h:uA T a b d x f) (i:ic f []) (u:l.length<=3000) (t:8<=k) (r:fW T k b 0 f l z T' k') (s:z=0) :
  ∃ c,uA T' a b d x c/\ic c l/\c.kd=f.kd/\c.lk=f.lk:=by
 obtain ⟨-,o⟩:=r;rcases o s with ⟨e,g,m⟩|⟨_,g,m⟩
 .rw [g,e]
  exact ⟨f,h,i,rfl,rfl⟩
 .have q:=B4 i (m:=l) (by simp;omega)
  have j:f.wr 0 l=f.wr ([]:List UInt8).length l:=rfl;rw [g,j];exact ⟨_,⟨h.a1,h.b1,h.ba,(aE _ _ (Ne.symm h.b1)).trans h.root,(aE _ _ (Ne.symm h.ba)).trans h.da,aW _ _ _⟩,q,rfl,rfl⟩
theorem RD:gp eU 28 (pU 97)=0:=oJ (Ac 0) (by simp) (d:=1) (L:=[]) rfl rfl rfl (by simp) (by decide) (by decide)
theorem SA (h:lY n eU 28 2 (pU 97) z T' k') (g:z=0):(∃ a,a≠1/\T' 1=Z' (.dir [⟨a,lU 97⟩])/\T' a=Z' (.dir []))/\k'=26:=by
 obtain ⟨⟨a,m⟩,c⟩:=rY (d:=1) (L:=[]) (Ac 0) rfl rfl h g;have ne:a≠1:=by intro e;have:=m.no;rw [e] at this;cases this
 exact ⟨⟨a,ne,m.dir,m.new⟩,by rw [c];decide⟩
theorem RH (c:T 1=Z' (.dir [⟨a,lU 97⟩])) (g:T a=Z' (.dir [])):gp T 26 (uG 97 120)=0:=oJ (vZ 0 23) (by simp) (gS c (kS a _)) g rfl (by simp) (by decide) (by decide)
theorem R6 (g:a≠1) (c:T 1=Z' (.dir [⟨a,lU 97⟩])) (i:T a=Z' (.dir [])) (h:lY n T 26 1 (uG 97 120) z T' k') (o:z=0):(∃ b,uA T' a b (lU 97) (lU 120) (fh 1))/\k'=24:=by
 obtain ⟨⟨b,m⟩,j⟩:=rY (d:=a) (L:=[]) (vZ 0 23) (gS c (kS a _)) i h o;have ne:b≠1:=by intro e;have:=m.no;rw [e,c] at this;cases this
 have q:b≠a:=by intro e;have:=m.no;rw [e,i] at this;cases this
 exact ⟨⟨b,g,ne,q,by rw [m.qk 1 (Ne.symm g) (Ne.symm ne)];exact c,m.dir,m.new⟩,by rw [j];decide⟩
theorem rV {u v:Nat} (h:uA T a b (lU (97+u)) (lU (97+v)) f) (c:u<26) (g:v<26):bG T (uG (97+u) (97+v))=(0,b):=(dN (kB c g)).trans h.walk
theorem IH {u v c:Nat} (h:uA T a b (lU (97+c)) x f) (i:u<26) (j:v<26) (m:c<26) (g:c≠u):bG T (uG (97+u) (97+v))=(5,0):=
 (dN (kB i j)).trans (h.Xk fun e=>g (by have:=Ae (by omega) (by omega) e;omega))
theorem Jl {u v c:Nat} (h:uA T a b (lU (97+u)) (lU (97+c)) f) (i:u<26) (j:v<26) (m:c<26) (g:c≠v):bG T (uG (97+u) (97+v))=(5,0):=
 (dN (kB i j)).trans (h.Xg fun e=>g (by have:=Ae (by omega) (by omega) e;omega))
theorem MK {u v:Nat} (h:uA T a b (lU (97+u)) (lU (97+v)) f) (c:ic f l) (g:u<26) (i:v<26):(bG T (uG (97+u) (97+v))).1=0/\qd (T (bG T (uG (97+u) (97+v))).2)=(f.kd,f.lk,(l.length:Int)):=by
 rw [rV h g i];dsimp only;rw [h.fb];exact ⟨rfl,by show (f.kd,f.lk,(f.sz:Int))=_;rw [c.sz]⟩
theorem I8 {u v:Nat} (h:uA T a b (lU (97+u)) (lU (97+v)) f) (c:u<26) (g:v<26):fw T (uG (97+u) (97+v)) 0 4096=0:=by
 unfold fw;rw [if_pos (by decide),rV h c g,if_neg (by simp),h.fb]
theorem M8 {u v:Nat} (h:uA T a b (lU (97+u)) (lU (97+v)) f) (c:ic f l) (g:l.length<=4096) (i:u<26) (j:v<26):jM T (uG (97+u) (97+v)) 0 4096=l:=by
 unfold jM;rw [rV h i j];dsimp only;rw [h.fb];show f.sub 0 4096=l
 rw [te c,List.drop_zero,List.take_of_length_le g]
end
end Go.SL
