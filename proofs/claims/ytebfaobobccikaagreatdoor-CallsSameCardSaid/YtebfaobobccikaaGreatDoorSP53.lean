/- Steps. -/
import Derived.Test.YtebfaobobccikaaGreatDoorSP33
import Derived.Test.YtebfaobobccikaaGreatDoorSP52
set_option linter.all false
set_option maxRecDepth 99999
set_option maxHeartbeats 0
open Go.SL
namespace Go.SL
open RowKit Proofs.Nn Proofs.Ba Proofs.Cl
def wX (k:Nat):List UInt8:=[UInt8.ofNat (97+k)]
def wj (k:Nat):List UInt8:=[47,UInt8.ofNat (97+k)]
theorem zH {j k:Nat} (d:j<26) (g:k<26) (h:wX j=wX k):j=k:=by
 unfold wX at h;simp only [List.cons.injEq,and_true] at h;have a:=congrArg UInt8.toNat h;simp only [UInt8.toNat_ofNat'] at a;omega
theorem Jo:∀ k:Fin 26,aU (wj k)=some [wX k]:=by decide +kernel
theorem iM {k:Nat} (a:k<26):aU (wj k)=some [wX k]:=Jo ⟨k,a⟩
section
variable {T T':Tr} {b c i j k k' n:Nat} {R:List aN} {f:AF} {nm x:List UInt8} {l:List UInt8} {z:Int}
theorem wV {d:Type}:∀ {L:List d} {i:Nat} (h:i<L.length),(L[i] :: L.eraseIdx i).Perm L
 | a :: L,0,_=>List.Perm.refl _
 | a :: L,i+1,h=>(List.Perm.swap a (L[i]'(by simpa using h)) (L.eraseIdx i)).trans ((wV (by simpa using h)).cons a)
theorem QQ (a:i<R.length):(R[i] :: jN R i).Perm R:=((Ms a).cons _).trans (wV a)
theorem Ny (o:(R.map aN.nm).Nodup) (m:i<R.length) :
  ((jN R i).map aN.nm).Nodup/\R[i].nm ∉ (jN R i).map aN.nm/\(∀ x ∈ R.map aN.nm,x≠R[i].nm->x ∈ (jN R i).map aN.nm)/\∀ e ∈ jN R i,e ∈ R:=by
 have d:=QQ m;have p:=d.map aN.nm;rw [List.map_cons] at p;have h:=p.nodup_iff.2 o;rw [List.nodup_cons] at h;refine ⟨h.2,h.1,fun x r q=>?_,fun e g=>d.mem_iff.1 (List.mem_cons_of_mem _ g)⟩;rcases List.mem_cons.1 (p.mem_iff.2 r) with a|a
 .exact absurd a q
 .exact a
def nE (b c:Nat):List aN:=(List.range c).map fun j=>⟨b,wX j⟩
theorem mm:(nE b c).length=c:=by simp [nE]
theorem PU:nE b (c+1)=nE b c++[⟨b,wX c⟩]:=by simp [nE,List.range_succ]
theorem A2 (a:j<c):wX j ∈ (nE b c).map aN.nm:=by
 unfold nE;rw [List.map_map];exact List.mem_map.2 ⟨j,List.mem_range.2 a,rfl⟩
theorem RC (d:c<26):gn (nE b c) (wX c)=none:=FL fun e g a=>by
 obtain ⟨j,h,rfl⟩:=List.mem_map.1 g;have m:=List.mem_range.1 h;have:=zH (by omega) d a;omega
theorem RG (h:c<=26):((nE b c).map aN.nm).Nodup:=by
 unfold nE;rw [List.map_map,List.nodup_iff_pairwise_ne,List.pairwise_iff_getElem];intro i j d g o a;simp only [List.getElem_map,List.getElem_range,Function.comp] at a;have m:i<c:=by simpa using d
 have p:j<c:=by simpa using g
 have:=zH (by omega) (by omega) a;omega
structure yk (T:Tr) (b:Nat) (R:List aN) (f:AF):Prop where
 b1:b≠1
 root:T 1=some (.dir R)
 fb:T b=some (.file f)
 nd:(R.map aN.nm).Nodup
 all:∀ e ∈ R,e.nd=b
theorem yk.gn (h:yk T b R f) (m:nm ∈ R.map aN.nm):∃ i,Go.SL.gn R nm=some i/\R[i]?=some ⟨b,nm⟩:=by
 obtain ⟨e,a,rfl⟩:=List.mem_map.1 m;obtain ⟨i,d,g⟩:=R3 h.nd a;exact ⟨i,d,by rw [g,<- h.all e a]⟩
theorem yk.walk (h:yk T b R f) (g:nm ∈ R.map aN.nm):aQ T 1 [nm]=(0,b):=by
 obtain ⟨i,a,d⟩:=h.gn g;rw [gS h.root a,List.getD,d];rfl
theorem yk.path (h:yk T b R f) (a:k<26) (d:wX k ∈ R.map aN.nm):bG T (wj k)=(0,b):=(dN (iM a)).trans (h.walk d)
theorem I5 (h:T 1=some (.dir R)) (g:k<26) (m:wX k ∉ R.map aN.nm):bG T (wj k)=(5,0):=by
 have e:dS (T 1) (wX k)=(5,0):=by rw [h,ij (FL fun e d a=>m (List.mem_map.2 ⟨e,d,a⟩))]
 rw [dN (iM g),kK (by rw [e];decide),e]
theorem O3 (h:One n T b (wX 0) f):yk T b (nE b 1) f:=⟨h.b1,h.root,h.b,RG (by decide),fun e a=>by obtain ⟨j,_,rfl⟩:=List.mem_map.1 a;rfl⟩
def pQ (z:Int):AF:={ fh 1 with lk:=z }
theorem ED (h:yk T b (nE b c) (pQ (c:Int))) (d:0<c) (a:c<26) (m:aJ (c+1)<=k+aJ c):gI T k (wj 0) (wj c)=0:=by
 have g:dR T [wX c]=0:=mh (d:=1) (by simp) rfl h.root (RC a);unfold gI;rw [iM (by decide),iM a];simp only;rw [h.walk (A2 d),if_neg (by simp),h.fb];simp only;rw [g,if_neg (by simp),if_neg (by show ¬ (60000:Int)<=(c:Int);omega),eV (d:=1) rfl,h.root];exact mL (RC a) (by show (nE b c).length<_;rw [mm];omega) (by show aJ ((nE b c).length+1)<=k+aJ (nE b c).length;rw [mm];exact m)
theorem IZ (h:yk T b (nE b c) (pQ (c:Int))) (p:0<c) (r:c<26) (t:yx T k (wj 0) (wj c) z T' k') (u:z=0):yk T' b (nE b (c+1)) (pQ ((c+1:Nat):Int))/\k'=k+aJ c-aJ (c+1):=by
 obtain ⟨-,q⟩:=t;obtain ⟨y,A,v,f,L,m,o,g,a,d,w,rfl,rfl⟩:=q u;obtain rfl:=Option.some.inj ((iM (by decide)).symm.trans m);obtain rfl:=Option.some.inj ((iM r).symm.trans o);rw [h.walk (A2 p)] at g;obtain rfl:b=v:=(Prod.mk.inj g).2;rw [eV (d:=1) rfl,h.root] at d;obtain rfl:nE b c=L:=by injection d with d;injection d
 obtain rfl:pQ (c:Int)=f:=by rw [h.fb] at a;injection a with a;injection a
 rw [eV (d:=1) rfl,mm];refine ⟨⟨h.b1,(aE _ _ (Ne.symm h.b1)).trans ((aW _ _ _).trans ?_),(aW _ _ _).trans ?_,RG (by omega),fun e s=>?_⟩,rfl⟩
 .rw [PU];rfl
 .show some (tX.file { pQ (c:Int) with lk:=(c:Int)+1 })=_
  unfold pQ;rw [show ((c+1:Nat):Int)=(c:Int)+1 by omega]
 .obtain ⟨j,_,rfl⟩:=List.mem_map.1 s;rfl
theorem Cp (h:ic f l):ic { f with lk:=z } l:=⟨h.small,h.sz,h.pR⟩
theorem qq:ic (pQ z) []:=Cp yL
theorem Fc (h:yk T b R (pQ z)) (u:l.length<=3000) (t:8<=k) (s:fW T k b 0 (pQ z) l c T' k') (r:(c:Int)=0) :
  ∃ f,yk T' b R f/\ic f l/\f.kd=1/\f.lk=z/\k'+bh f.pr=k+1/\bh f.pr<=8:=by
 have a:bh (pQ z).pr=1:=by show bh (fh 1).pr=1;decide +kernel
 obtain ⟨-,p⟩:=s;rcases p r with ⟨e,d,g⟩|⟨_,d,g⟩
 .rw [d,g,e]
  exact ⟨pQ z,h,qq,rfl,rfl,by rw [a],by rw [a];decide⟩
 .have m:=B4 (qq (z:=z)) (m:=l) (by simp;omega)
  have q:=vK m.small;have o:(pQ z).wr 0 l=(pQ z).wr ([]:List UInt8).length l:=rfl;rw [d,g,a,o];refine ⟨_,⟨h.b1,(aE _ _ (Ne.symm h.b1)).trans h.root,aW _ _ _,h.nd,h.all⟩,m,rfl,rfl,by omega,q⟩
theorem zy (h:yk T b R f) (a:k<26) (d:wX k ∈ R.map aN.nm):gh T [] (wj k)=0:=by
 unfold gh;rw [iM a];simp only;rw [h.walk d,if_neg (by simp),h.fb];simp [MX]
theorem B7 (h:yk T b R f) (B:j<26) (D:wX j ∈ R.map aN.nm) (F:rL T k [] (wj j) z T' k') (G:z=0) :
  ∃ a,a.length+1=R.length/\(a.map aN.nm).Nodup/\wX j ∉ a.map aN.nm/\(∀ x ∈ R.map aN.nm,x≠wX j->x ∈ a.map aN.nm)/\T' 1=some (.dir a) /\
   ((1<f.lk/\yk T' b a { f with lk:=f.lk-1 }/\k'=k+aJ R.length-aJ a.length)\/(f.lk=1/\k'=k+aJ R.length-aJ a.length+bh f.pr)):=by
 obtain ⟨-,y⟩:=F;obtain ⟨J,H,w,L,i,u,I,s,m,g,v,o⟩:=y G;obtain rfl:=Option.some.inj ((iM B).symm.trans u);rw [h.walk D] at s;obtain rfl:b=H:=(Prod.mk.inj s).2;rw [eV (d:=1) rfl] at o g;rw [h.root] at g;obtain rfl:R=L:=by injection g with g;injection g
 obtain rfl:f=w:=by rw [h.fb] at m;injection m with m;injection m
 obtain ⟨e,d,E⟩:=Pf v
 have t:i<R.length:=by
  rcases Nat.lt_or_ge i R.length with h|h
  .exact h
  .rw [List.getElem?_eq_none h] at d;cases d
 rw [List.getElem?_eq_getElem t] at d;have A:R[i].nm=wX j:=by rw [Option.some.inj d];exact E
 obtain ⟨q,r,a3,a4⟩:=Ny h.nd t;rw [A] at r a3;have C:(jN R i).length+1=R.length:=by rw [gz];omega
 refine ⟨jN R i,C,q,r,a3,?_,?_⟩
 .rcases o with ⟨_,rfl,_⟩|⟨_,rfl,_⟩ <;> exact (aE _ _ (Ne.symm h.b1)).trans (aW _ _ _)
 .rcases o with ⟨p,rfl,rfl⟩|⟨p,rfl,rfl⟩
  .exact .inl ⟨p,⟨h.b1,(aE _ _ (Ne.symm h.b1)).trans (aW _ _ _),aW _ _ _,q,fun e d=>h.all e (a4 e d)⟩,by rw [gz]⟩
  .exact .inr ⟨p,by rw [gz]⟩
theorem Hu (h:yk T b R f) (a:ic f l) (d:k<26) (g:wX k ∈ R.map aN.nm):(bG T (wj k)).1=0/\qd (T (bG T (wj k)).2)=(f.kd,f.lk,(l.length:Int)):=by
 rw [h.path d g];dsimp only;rw [h.fb];exact ⟨rfl,by show (f.kd,f.lk,(f.sz:Int))=_;rw [a.sz]⟩
theorem Et (h:yk T b R f) (a:k<26) (d:wX k ∈ R.map aN.nm):fw T (wj k) 0 4096=0:=by
 unfold fw;rw [if_pos (by decide),h.path a d,if_neg (by simp),h.fb]
theorem Ko (h:yk T b R f) (a:ic f l) (g:l.length<=4096) (d:k<26) (m:wX k ∈ R.map aN.nm):jM T (wj k) 0 4096=l:=by
 unfold jM;rw [h.path d m];dsimp only;rw [h.fb];show f.sub 0 4096=l
 rw [te a,List.drop_zero,List.take_of_length_le g]
theorem zX {c:Nat} (h:c<=240):aJ c=1+(c+14)/15:=by unfold aJ;rw [if_neg (by omega),Nat.add_zero]
def Qy (n a i:Nat):Nat:=if a+i<n then a+i else a+i-n
theorem PL {n a i:Nat} (d:a<n) (g:i<n):(a+i)%n=Qy n a i:=by
 unfold Qy
 split
 .exact Nat.mod_eq_of_lt ‹_›
 .rw [Nat.mod_eq_sub_mod (by omega),Nat.mod_eq_of_lt (by omega)]
theorem DR {n a i:Nat} (d:a<n) (g:i<n):Qy n a i<n:=by unfold Qy;split <;> omega
theorem Pr {n a i j:Nat} (d:a<n) (g:i<n) (m:j<n) (h:Qy n a i=Qy n a j):i=j:=by unfold Qy at h;split at h <;> split at h <;> omega
end
end Go.SL
