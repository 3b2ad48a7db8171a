/- Steps. -/
import Derived.Test.YtdickhgiahcnaaaGreatDoorNP21
import Derived.Test.YtdickhgiahcnaaaGreatDoorNP49
set_option linter.all false
set_option maxRecDepth 99999
set_option maxHeartbeats 0
open Go.SL
open Go.Value renaming int->Z,slice->V,string->W
open Go.IntKind renaming i64->Y
open Go.Obj renaming cells->X
open Go.Ending renaming returned->U
open Go renaming World->S
open Go.Proofs.Tryz renaming prog->Q
open Option renaming some->Z',none->Y'
open Nat renaming le_succ->A3,zero_le->A2,le_trans->B3
namespace Go.Proofs.Cl
open RowKit SL Proofs.Nn Proofs.Ba Proofs.Su Proofs.Fs
attribute [local go_sem] Oper.semAt_some
variable {f:AF} {v:Value} {a:Option Addr}
def Vr (t:Pl) (q:Dk t.n) (m:Nat) (s:Ds) (O:jj) (F:ai) (w':S) (c:Int):Prop:=(c≠0/\∃ a,s.Rd a/\ag w' (cX t a m O*F)) \/
  (c=0/\∃ a d f b,kM t q a d f/\a.B<=s.B+1/\bN d b/\b.length<=O.length+1/\ag w' (cX t a m b*F))
def FW (t:Pl) (q:Dk t.n) (m:Nat) (s:Ds) (O:jj) (F:ai) (w:S) (e:Ending) (w':S):Prop:=
 aj w w'/\∃ c,e = U (Z Y c)/\Vr t q m s O F w' c
def VW (t:Pl) (q:Dk t.n) (m:Nat) (s:Ds) (O:jj) (F:ai) (w:S) (e:Ending) (w':S):Prop:=
 aj w w'/\∃ z c,e = U (.tuple #[Z Y z,Z Y c])/\Vr t q m s O F w' c
section
variable {t:Pl} {q:Dk t.n} {s:Ds} {T:Tr} {k m:Nat} {O:jj} {w w0:S} {F:ai} {e:Ending} {w':S} {R:Int->Tr->Nat->Prop} {p:List UInt8} {fd:Int}
def qe (h:OC t q m s O R F w e w') (j:∀ a f,R 0 a f->bN a O):FW t q m s O F w e w':=by
 obtain ⟨c,a,f,i,r,l,d,b,g⟩:=h;refine ⟨d,c,l,?_⟩;rcases b with ⟨b,u⟩|⟨rfl,n,o⟩
 .exact .inl ⟨b,i,u,g⟩
 .exact .inr ⟨rfl,i,a,f,O,n,kM.go o,j _ _ r,A3 _,g⟩
def lU (O:jj) (fd:Int) (o:Nat × Nat):(im O fd o).length<=O.length+1:=by
 unfold im;rw [vZ];split <;> omega
def Vr.drop {b:ai} {c:Int} (h:Vr t q m s O (b*F) w' c):Vr t q m s O F w' c:=by
 rcases h with ⟨l,a,n,d⟩|⟨rfl,a,g,o,f,d,i,j,h4,h5⟩
 .exact .inl ⟨l,a,n,(d.t00 (b*(cX t a m O*F))).right⟩
 .exact .inr ⟨rfl,a,g,o,f,d,i,j,h4,(h5.t00 (b*(cX t a m f*F))).right⟩
def FW.drop {b:ai} {a:S} (h:FW t q m s O (b*F) a e w') (d:aj w a):FW t q m s O F w e w':=by
 obtain ⟨f,c,g,h⟩:=h;exact ⟨d.trans f,c,g,h.drop⟩
def FW.to {G:ai} (h:FW t q m s O F w e w') (a:F=G):FW t q m s O G w e w':=a▸h
def Ox (n:kM t q s T k) (o:bN T O) (r:O.length<=100) (h:tZ t q m s T k O p F w e w'):VW t q m s O F w e w':=by
 obtain ⟨i,d,g,⟨a,rfl,b⟩|⟨a,fd,_,_,rfl,b⟩⟩:=h
 .exact ⟨d,0,_,rfl,.inl ⟨a,i,g,b⟩⟩
 .refine ⟨d,_,0,rfl,.inr ⟨rfl,i,T,k,_,n.rd g,by rw [g.B];omega,o.set ?_ (A2 _) (B3 (lU _ _ _) Om0),lU _ _ _,b⟩⟩
  unfold iq at a
  split at a
  .rename_i j;exact absurd a j
  .split at a
   .rename_i f l;exact ⟨f,l⟩
   .cases a
def MY {i l:Nat} {o v:Int} (r:kM t q s T k) (u:bN T O) (y:O.length<=100) (n:T i=Z' (.file f)) (h:Lw t s m O fd i f.sz l o v F w e w'):VW t q m s O F w e w':=by
 obtain ⟨j,d,g,⟨a,rfl,b⟩|⟨a,rfl,b⟩⟩:=h
 .exact ⟨d,0,_,rfl,.inl ⟨a,j,g,b⟩⟩
 .refine ⟨d,_,0,rfl,.inr ⟨rfl,j,T,k,_,r.rd g,by rw [g.B];omega,u.set ⟨f,n⟩ ?_ (B3 (lU _ _ _) Om0),lU _ _ _,b⟩⟩
  unfold kx at a
  split at a
  .rename_i x;dsimp only;omega
  .cases a
def JX {j b:Nat} {l:List UInt8} (D:kM t q s T k) (y:bN T O) (E:O.length<=100) (r:T j=Z' (.file f)) (C:b<=122880) (h:gE t q m s O fd (j,b+l.length) (fX T k j b f l) F w e w'):FW t q m s O F w e w':=by
 obtain ⟨c,o,A,n,i,rfl,d,⟨u,z,g⟩|⟨rfl,v,x,g⟩⟩:=h
 .exact ⟨d,c,rfl,.inl ⟨u,n,z,g⟩⟩
 .refine ⟨d,0,rfl,.inr ⟨rfl,n,o,A,_,v,kM.go x,(y.wrote i).set ?_ ?_ (B3 (lU _ _ _) Om0),lU _ _ _,g⟩⟩
  .rcases i.2 rfl with ⟨_,rfl,_⟩|⟨_,rfl,_⟩
   .exact ⟨f,r⟩
   .exact ⟨_,bA _ _ _⟩
  .have a:=i.1
   unfold sS at a
   split at a
   .cases a
   .split at a
    .cases a
    .dsimp only;omega
def EV {c:Int} (a:c≠0) (h:e = U (Z Y c)/\aj w w'/\ag w' (cX t s m O*F)):FW t q m s O F w e w':=
 ⟨h.2.1,c,h.1,.inl ⟨a,s,⟨rfl,⟨s.D.cr,rfl⟩,rfl,rfl⟩,h.2.2⟩⟩
def SA {c z:Int} (a:c≠0) (h:e = U (.tuple #[Z Y z,Z Y c])/\aj w w'/\ag w' (cX t s m O*F)):VW t q m s O F w e w':=
 ⟨h.2.1,z,c,h.1,.inl ⟨a,s,⟨rfl,⟨s.D.cr,rfl⟩,rfl,rfl⟩,h.2.2⟩⟩
def Ip (a:kM t q s T k) (b:bN T O) (h:e = U (Z Y (if (aM O fd).isSome then 0 else 5))/\aj w w'/\ag w' (cX t s m (if (aM O fd).isSome then zF O fd else O)*F)):FW t q m s O F w e w':=by
 split at h
 .exact ⟨h.2.1,0,h.1,.inr ⟨rfl,s,T,k,_,a,A3 _,b.shut,(by unfold del;exact B3 (List.length_filter_le _ _) (A3 _)),h.2.2⟩⟩
 .exact EV De0 h
def yj (g:kM t q s T k) (H:s.B<=1000000) (j:bN T O) (hl:O.length<=100) (x:nB) (hx:qY w0 x) (f0:ag w (cX t s m O*(whole w0*F))) :
  Calls Q 6 #[az t.f,.agg x.cells] w (FW t q m s O (whole w0*F) w):=by
 obtain ⟨r,fd,n,I,a,b,G,z,D,A,dz⟩:=x;obtain ⟨u,g0,h0⟩:=hx;dsimp only at u g0 h0;refine aF fun m0 HQ=>?_;unfold nB.cells;have hA:=f0.alloc (X #[Z Y r,Z Y fd,Z Y n,Z Y I,W (str a),W (str b),Z Y G,V z D A] 25 (0,0));have dA:=ae ((aj.refl w).alloc (X #[Z Y r,Z Y fd,Z Y n,Z Y I,W (str a),W (str b),Z Y G,V z D A] 25 (0,0)));obtain ⟨J,y⟩:∃ J,w.alloc (X #[Z Y r,Z Y fd,Z Y n,Z Y I,W (str a),W (str b),Z Y G,V z D A] 25 (0,0))=J:=⟨_,rfl⟩
 rw [y] at hA dA;have C:=hA.cell;have i:ag J (cX t s m O*(pt w.heap.size (X #[Z Y r,Z Y fd,Z Y n,Z Y I,W (str a),W (str b),Z Y G,V z D A] 25 (0,0))*(whole w0*F))):=hA.to Ac0;have l:=ae fun e w' (h:FW t q m s O (pt w.heap.size (X #[Z Y r,Z Y fd,Z Y n,Z Y I,W (str a),W (str b),Z Y G,V z D A] 25 (0,0))*(whole w0*F)) J e w')=>HQ.o e w' (h.drop dA.o);clear f0 hA dA HQ;obtain ⟨bx,v⟩:∃ b,w.heap.size=b:=⟨_,rfl⟩
 rw [v] at C i l
 by_cases e0:r=0
 .subst e0
  have K:=ae ((uH (p:=a) g H i).mono fun e w' h=>qe h fun N P f=>j.made f);clear i j g u
  go_in
  go_wp2_with fail
  refine K.o.mono ?_;rintro e L ⟨d,c,rfl,f⟩;have o:=ae (l.o _ _ ⟨d,c,rfl,f⟩);clear K f d C y v l
  go_wp2_with fail
  exact o.o
 by_cases e1:r=1
 .subst e1
  have K:=ae ((yM (p:=a) g H i).mono fun e w' h=>qe h fun N P f=>j.made f);clear i j g u
  go_in
  go_wp2_with fail
  refine K.o.mono ?_;rintro e L ⟨d,c,rfl,f⟩;have o:=ae (l.o _ _ ⟨d,c,rfl,f⟩);clear K f d C y v l
  go_wp2_with fail
  exact o.o
 by_cases e2:r=2
 .subst e2
  have K:=ae ((AL (p1:=a) (p2:=b) g H i).mono fun e w' h=>qe h fun N P f=>j.linked f);clear i j g u
  go_in
  go_wp2_with fail
  refine K.o.mono ?_;rintro e L ⟨d,c,rfl,f⟩;have o:=ae (l.o _ _ ⟨d,c,rfl,f⟩);clear K f d C y v l
  go_wp2_with fail
  exact o.o
 by_cases e3:r=3
 .subst e3
  have K:=ae ((vp (p:=a) g H i).mono fun e w' h=>qe h fun N P f=>j.Np f);clear i j g u
  go_in
  go_wp2_with fail
  refine K.o.mono ?_;rintro e L ⟨d,c,rfl,f⟩;have o:=ae (l.o _ _ ⟨d,c,rfl,f⟩);clear K f d C y v l
  go_wp2_with fail
  exact o.o
 by_cases e4:r=4
 .subst e4
  have K:=ae ((yT (p:=a) g H i).mono fun e w' h=>qe h fun N P f=>j.Qx f);clear i j g u
  go_in
  go_wp2_with fail
  refine K.o.mono ?_;rintro e L ⟨d,c,rfl,f⟩;have o:=ae (l.o _ _ ⟨d,c,rfl,f⟩);clear K f d C y v l
  go_wp2_with fail
  exact o.o
 by_cases e5:r=5
 .subst e5
  have K:=ae ((vq (p1:=a) (p2:=b) g H i).mono fun e w' h=>qe h fun N P f=>bN.renamed g.ty j f);clear i j g u
  go_in
  go_wp2_with fail
  refine K.o.mono ?_;rintro e L ⟨d,c,rfl,f⟩;have o:=ae (l.o _ _ ⟨d,c,rfl,f⟩);clear K f d C y v l
  go_wp2_with fail
  exact o.o
 by_cases e6:r=6
 .subst e6
  have K:=ae ((lY (p:=a) g H Om0 i).mono fun e w' h=>Ox g j hl h);clear i j g u
  go_in
  go_wp2_with fail
  refine K.o.mono ?_;rintro e L ⟨d,k0,c,rfl,f⟩;have o:=ae (l.o _ _ ⟨d,c,rfl,f⟩);clear K f d C y v l
  go_wp2_with fail
  exact o.o
 by_cases e7:r=7
 .subst e7
  have K:=ae ((Jf (fd:=fd) g i).mono fun e w' h=>Ip g j h);clear i j g u
  go_in
  go_wp2_with fail
  refine K.o.mono ?_;rintro e L ⟨d,c,rfl,f⟩;have o:=ae (l.o _ _ ⟨d,c,rfl,f⟩);clear K f d C y v l
  go_wp2_with fail
  exact o.o
 by_cases e9:r=9
 .subst e9
  have K:Hid (Calls Q 16 #[az t.f,Z Y fd,V z D A] J (FW t q m s O (pt bx (X #[Z Y 9,Z Y fd,Z Y n,Z Y I,W (str a),W (str b),Z Y G,V z D A] 25 (0,0))*(whole w0*F)) J)):=by
   refine ae ?_
   cases E:aM O fd with
   | none=>exact (MF ⟨_,_,_,rfl⟩ E i).mono fun e w' h=>EV De0 h
   | some b0=>
    obtain ⟨id,c0⟩:=b0;obtain ⟨⟨d0,M⟩,ha⟩:=j.fl fd _ E
    exact by
     obtain ⟨r1,r2,r3⟩:=TU u;have k1:=yg (va:=z) (vc:=A) (l:=dz) (D:=whole w0) g H E M ha Om0 Om0 (fun n0 l0 hs=>by rw [r1];exact (Uk u).carry fun a b0 hu=>(hs.to (eM _ _)).bV hu) (i.to (by ac_rfl:_=cX t s m O*(whole w0*(pt bx (X #[Z Y 9,Z Y fd,Z Y n,Z Y I,W (str a),W (str b),Z Y G,V z D A] 25 (0,0))*F))));have k2:=k1.mono fun e w' h=>(JX g j hl M ha h).to (by ac_rfl:_=pt bx (X #[Z Y 9,Z Y fd,Z Y n,Z Y I,W (str a),W (str b),Z Y G,V z D A] 25 (0,0))*(whole w0*F));rw [r1] at k2;exact k2
  clear i j g u
  go_in
  go_wp2_with fail
  refine K.o.mono ?_;rintro e L ⟨d,c,rfl,f⟩;have o:=ae (l.o _ _ ⟨d,c,rfl,f⟩);clear K f d C y v l
  go_wp2_with fail
  exact o.o
 by_cases i0:r=10
 .subst i0
  have K:Hid (Calls Q 25 #[az t.f,Z Y fd,Z Y G,Z Y n] J (VW t q m s O (pt bx (X #[Z Y 10,Z Y fd,Z Y n,Z Y I,W (str a),W (str b),Z Y G,V z D A] 25 (0,0))*(whole w0*F)) J)):=by
   refine ae ?_
   cases E:aM O fd with
   | none=>exact (Qe E i).mono fun e w' h=>SA De0 h
   | some b0=>
    obtain ⟨id,c0⟩:=b0;obtain ⟨⟨d0,M⟩,ha⟩:=j.fl fd _ E;exact (NS g H E M ha ⟨g0,h0⟩ i).mono fun e w' h=>MY g j hl M h
  clear i j g u
  go_in
  go_wp2_with fail
  refine K.o.mono ?_;rintro e L ⟨d,k0,c,rfl,f⟩;have o:=ae (l.o _ _ ⟨d,c,rfl,f⟩);clear K f d C y v l
  go_wp2_with fail
  exact o.o
 by_cases j0:r=11
 .subst j0
  have K:Hid (Calls Q 26 #[az t.f,Z Y fd,Z Y n] J (FW t q m s O (pt bx (X #[Z Y 11,Z Y fd,Z Y n,Z Y I,W (str a),W (str b),Z Y G,V z D A] 25 (0,0))*(whole w0*F)) J)):=by
   refine ae ?_
   cases E:aM O fd with
   | none=>exact (LU E i).mono fun e w' h=>EV De0 h
   | some b0=>
    obtain ⟨id,c0⟩:=b0;obtain ⟨⟨d0,M⟩,ha⟩:=j.fl fd _ E;exact (Kc g H E M i).mono fun e w' h=>qe h fun N P f=>j.cut f
  clear i j g u
  go_in
  go_wp2_with fail
  refine K.o.mono ?_;rintro e L ⟨d,c,rfl,f⟩;have o:=ae (l.o _ _ ⟨d,c,rfl,f⟩);clear K f d C y v l
  go_wp2_with fail
  exact o.o
 subst y;subst v;have o:=ae (l.o _ _ ⟨aj.refl _,0,rfl,.inr ⟨rfl,s,T,k,O,g,A3 _,j,A3 _,i⟩⟩);clear i j g u l
 go_in
 go_wp2_with fail
 exact o.o
end
def yh {w:S} {l:List (List UInt8)} (h:Go.SL.xz w v l):∃ a c,v = V a l.length c:=by
 rcases h with ⟨x,c,rfl,rfl⟩|⟨g,o,c,rfl,_⟩
 .exact ⟨_,_,rfl⟩
 .exact ⟨_,_,rfl⟩
def CL {w:S} {n c i:Nat} {l:List (List UInt8)} (h:Go.SL.xz w (V a n c) l) (j:i<n):∃ g o,a=Z' ⟨g,o,Y'⟩/\n<=c/\c<=maxLen/\w.cell? ⟨g,o+i,Y'⟩=Z' (W (str (l.getD i []))):=by
 rcases h with ⟨x,c,b,rfl⟩|⟨g,o,c,b,d,f,h4⟩
 .cases b;omega
 .cases b
  exact ⟨g,o,rfl,d,f,h4 i j⟩
def Ul (n:Nat) (w:S) (u:Value) (wr:S):Prop:=∃ i:Nat,i<=n/\u = Z Y (i:Int)/\aj w wr/\ag wr (whole w)
def JP (w:S) {u v:Value} {l:List (List UInt8)} (h:Go.SL.xz w u l) (hv:Go.SL.xz w v l) :
  Calls Q 12 #[u,v] w fun e w'=>e = U (.bool true)/\aj w w'/\ag w' (whole w):=by
 refine aF fun c0 r=>?_;obtain ⟨a1,x,rfl⟩:=yh h;obtain ⟨a2,y,rfl⟩:=yh hv;have f:=ae h;have g:=ae hv;obtain ⟨n,H⟩:=Nm l.length
 rw [H] at f g ⊢;clear h hv H
 go_in
 go_wp2_with fail
 go_loopw [5] (fun u wr=>Ul n w u wr) (fun u _=>n-(intOf u).toNat)
 case atStart=>exact ⟨0,A2 _,rfl,aj.refl w,ag.whole w⟩
 case round=>
  obtain ⟨i,hi,rfl,z,b⟩:=hrel;have d:=ae z;have a:=ae b;clear z b
  by_cases D:i<n
  .have b0:(i:Int)<(n:Int):=Om0
   obtain ⟨A,K,rfl,f0,E,j⟩:=CL f.o D;obtain ⟨C,L,rfl,h0,G,o⟩:=CL g.o D;have g0:(n:Int)<=(x:Int):=Om0
   have i0:(n:Int)<=(y:Int):=Om0
   have d0:(x:Int)<=9223372036854775807:=by unfold maxLen at E;omega
   have e0:(y:Int)<=9223372036854775807:=by unfold maxLen at G;omega
   obtain ⟨s,b⟩:=Nm (str (l.getD i []))
   rw [b] at j o;have I:wr.cell? ⟨A,K+i,Y'⟩=Z' (W s):=(a.o.to (cl _).symm).bV j;have J:wr.cell? ⟨C,L+i,Y'⟩=Z' (W s):=(a.o.to (cl _).symm).bV o;clear b j o E G
   go_wp2_with fail
   go_region_held (fun w'=>w'.cell? ⟨A,K+i,Y'⟩=Z' (W s)/\w'.cell? ⟨C,L+i,Y'⟩=Z' (W s)) (first|exact ⟨I,J⟩|go_keep) (fail)
   have M:=ae d.o.drew;have N:=ae a.o.drew;clear I J
   go_wp2_with fail
   refine ⟨⟨i+1,Om0,Si0,M.o,N.o⟩,?_⟩;simp [intOf];omega
  .obtain rfl:i=n:=Om0
   have b0:¬ (i:Int)<(i:Int):=Om0
   have P:=ae (r.o _ _ ⟨rfl,d.o,a.o⟩);clear f g d a r
   exact Zz P.o
section
variable {t:Pl} {q:Dk t.n} {s:Ds} {T:Tr} {k m B:Nat} {O:jj} {w w0:S} {F:ai} {e:Ending} {w':S}
def s6 (h:ag w (cX t s m O*F)):Calls Q 11 #[az t.d] w fun e w'=>e = U (.agg #[Z Y s.D.cr,Z Y s.D.cw,Z Y s.D.cf])/\aj w w'/\ag w' (cX t s m O*F):=by
 obtain ⟨a,d⟩:=uw (h.to (by unfold cX;ac_rfl:_=lI t s*(pt t.f (gS t (.map (Z' m)))*(mp m (lf O)*F))));refine (Eg w a t.d s.D _ (d.t00 (aR a t.d s.D*(eN t.s t.j t.d t.n t.P s.J*(al a*(pt t.f (gS t (.map (Z' m)))*(mp m (lf O)*F))))))).mono ?_;rintro e w' ⟨rfl,f,b⟩;exact ⟨rfl,b,((f.to (cl _).symm).under h).to (cl _)⟩
def QR {c:Int} {L:List aL} {f:ai} (h:UB c L f F w e w'):∃ u a,e = U (.tuple #[u,Z Y c])/\aj w w'/\ag w' (bR u a*(f*F))/\(c≠0->a=[])/\(c=0->∃ E,a=E.map aL.nm/\E.Perm L/\eJ jw E):=by
 obtain ⟨d,⟨g,rfl,b⟩|⟨rfl,u,a,i,j,rfl,b⟩⟩:=h
 .exact ⟨_,[],rfl,d,b.eU _ _,fun _=>rfl,fun h=>absurd h g⟩
 .exact ⟨u,a.map aL.nm,rfl,d,b,fun h=>absurd rfl h,fun _=>⟨a,rfl,i,j⟩⟩
def KQ {c:Int} {l:List UInt8} {a:ai} (h:SH c l a a F w e w'):∃ u,e = U (.tuple #[u,Z Y c])/\aj w w'/\ag w' (bs 5 u (if c=0 then l else [])*(a*F)):=by
 obtain ⟨d,⟨f,rfl,b⟩|⟨rfl,u,rfl,b⟩⟩:=h
 .rw [if_neg f];exact ⟨_,rfl,d,b.eU _ _⟩
 .exact ⟨u,rfl,d,by rw [if_pos rfl];exact b⟩
def UH (t:Pl) (q:Dk t.n) (m:Nat) (F:ai) (w:S) (u:Value) (wr:S):Prop:=
 ∃ (i k:Nat) (T:Tr) (O:jj),i<=40/\u = Z Y (i:Int)/\bN T O/\O.length<=i/\aj w wr/\ag wr (gm t q m T k (3+i) O*(whole w*F))
def Rj (t:Pl) (q:Dk t.n) (m:Nat) (F:ai) (w wr:S):Prop:=
 ∃ (k:Nat) (T:Tr) (O:jj),bN T O/\O.length<=40/\aj w wr/\ag wr (gm t q m T k 50 O*(whole w*F))
end
def GW {w:S} {n c i:Nat} {f:Nat->nB} (h:zC w a n c f) (l:i<n):∃ b d,a=Z' ⟨b,d,Y'⟩/\n<=c/\c<=9223372036854775807/\(∀ j,j<8->w.cell? ⟨b,d+i*8+j,Y'⟩=(f i).cells[j]?)/\qY w (f i):=by
 rcases h with rfl|⟨b,d,rfl,o,r,g⟩
 .omega
 .exact ⟨b,d,rfl,o,by unfold maxLen at r;omega,(g i l).1,(g i l).2⟩
section
variable {t:Pl} {q:Dk t.n} {s:Ds} {T:Tr} {k m B:Nat} {O:jj} {w w0:S} {F:ai} {e:Ending} {w':S} {p:List UInt8} {s1 s2 s3 c:Int}
def Qq (z:B<=1000000) (i:bN T O) (r:O.length<=100) (x:nB) (u:qY w0 x) (h:ag w (gm t q m T k B O*(whole w0*F))) :
  Calls Q 6 #[az t.f,.agg x.cells] w fun e w'=>∃ c b f a,e = U (Z Y c)/\aj w w'/\bN b a/\a.length<=O.length+1/\ag w' (gm t q m b f (B+1) a*(whole w0*F)):=by
 obtain ⟨s,g,y,l⟩:=eW h;apply (yj g Om0 i r x u l).mono;rintro e w' ⟨d,c,rfl,⟨C,v,j,h4⟩|⟨rfl,v,b,f,a,o,A,h5,n,h4⟩⟩
 .exact ⟨c,T,k,O,rfl,d,i,A3 _,eO (g.rd j) (by rw [j.B];omega) h4⟩
 .exact ⟨0,b,f,a,rfl,d,h5,n,eO o Om0 h4⟩
def WT (T:Tr) (p:List UInt8) (s1 s2 s3 c:Int):Prop:=(if (bO T p).1=0 then tY (T (bO T p).2) else (0,0,0))=(s1,s2,s3)/\(bO T p).1=c
def Mr (T:Tr) (p:List UInt8):∃ s1 s2 s3 c,WT T p s1 s2 s3 c:=⟨_,_,_,_,rfl,rfl⟩
def zG (hv:WT T p s1 s2 s3 c) (h:ag w (gm t q m T k 50 O*F)):Calls Q 7 #[az t.f,W (str p)] w (xz (gm t q m T k 50 O) (.tuple #[.agg #[Z Y s1,Z Y s2,Z Y s3],Z Y c]) F w):=by
 have:=LY (p:=p) De0 h;rw [hv.1,hv.2] at this;exact this
def Wg (T:Tr) (p:List UInt8) (c:Int) (a:List (List UInt8)):Prop:=c=nC T p/\(c≠0->a=[])/\(c=0->∃ E,a=E.map aL.nm/\E.Perm (dN (T (bO T p).2))/\eJ jw E)
def PL {b d:List (List UInt8)} {g:Int} {n:Nat} (z:Tidy n T) (h:Wg T p c b) (r:Wg T p g d):g=c/\d=b:=by
 obtain ⟨rfl,u,h4⟩:=h;obtain ⟨rfl,h5,v⟩:=r;refine ⟨rfl,?_⟩
 by_cases a:nC T p=0
 .obtain ⟨E,rfl,i,j⟩:=h4 a
  obtain ⟨A,rfl,l,o⟩:=v a
  have x:((dN (T (bO T p).2)).map aL.nm).Nodup:=by
   cases hy:T (bO T p).2 with
   | none=>exact List.nodup_nil
   | some y=>
    cases y with
    | file f=>exact List.nodup_nil
    | dir L=>exact (z.mz _ _ hy).nd
  rw [NR (l.trans i.symm) o j ((i.map aL.nm).nodup_iff.2 x)]
 .rw [u a,h5 a]
def yv (h:ag w (gm t q m T k 50 O*F)):Calls Q 8 #[az t.f,W (str p)] w fun e w'=>∃ u c a,e = U (.tuple #[u,Z Y c])/\aj w w'/\Wg T p c a/\ag w' (gm t q m T k 50 O*(bR u a*F)):=by
 obtain ⟨s,b,-,-⟩:=eW h
 have j:(dN (T (bO T p).2)).length<=zj:=by
  cases hy:T (bO T p).2 with
  | none=>exact A2 _
  | some y=>
   cases y with
   | file f=>exact A2 _
   | dir L=>exact (b.ty.mz _ _ hy).len
 apply (y4 (p:=p) De0 j h).mono;rintro e w' l;obtain ⟨u,a,rfl,d,g,i,h4⟩:=QR l;exact ⟨u,_,a,rfl,d,⟨rfl,i,h4⟩,g.to (aD _ _ _)⟩
def M9 (h:ag w (gm t q m T k 50 O*F)):Calls Q 9 #[az t.f,W (str p),Z Y 0,Z Y 4096] w fun e w'=>∃ u,e = U (.tuple #[u,Z Y (iB T p 0 4096)])/\aj w w'/\ag w' (gm t q m T k 50 O*(bs 5 u (if iB T p 0 4096=0 then lR T p 0 4096 else [])*F)):=by
 apply (Mf (p:=p) (a:=0) (c:=4096) De0 h).mono;rintro e w' b;obtain ⟨u,rfl,d,a⟩:=KQ b;exact ⟨u,rfl,d,a.to (aD _ _ _)⟩
end
def xo (w:S) (hh:pV w) (z0:Int) (a0:Option Addr) (f0 l0:Nat) (X0:Nat->nB) (x:nB) (pa pb:List UInt8) (hX:zC w a0 f0 l0 X0) (hx:qY w x) :
  Calls Q 3 #[Z Y z0,V a0 f0 l0,.agg x.cells,W (str pa),W (str pb)] w (WB w):=by
 refine aF fun Z1 HQ=>?_;have i1:=UE z0;obtain ⟨n,hn⟩:∃ n:Nat,4+z0%65536%37=(n:Int):=⟨(4+z0%65536%37).toNat,Om0⟩
 have j:(z0%65536).tmod 37=z0%65536%37:=Int.tmod_eq_emod_of_nonneg Om0;have n4:4<=n:=Om0
 have g1:n<=40:=Om0
 have HX:=ae hX;have HA:=ae hx;have N4:=ae n4;have L0:=ae g1;obtain ⟨C,fd,D,G,a,b,E,y,A,z,dz⟩:=x;obtain ⟨OA,N0⟩:=Mn0 (((X #[Z Y C,Z Y fd,Z Y D,Z Y G,W (str a),W (str b),Z Y E,V y A z] 25 (0,0)):Obj))
 have hA:=(ag.whole w).alloc OA;have dA:=ae ((aj.refl w).alloc OA);have j0:=hh.qz hA;rw [N0] at hA dA j0;have hm:=A7 _ j0;obtain ⟨H,R0⟩:=Nm w.heap.size
 obtain ⟨wA,f1⟩:=Nm (w.alloc (X #[Z Y C,Z Y fd,Z Y D,Z Y G,W (str a),W (str b),Z Y E,V y A z] 25 (0,0)))
 rw [f1] at hA dA j0 hm;rw [R0] at hA;have G0:=ae j0;have x0:=ae hA;clear hh hX hx n4 g1 hA j0 N0;unfold nB.cells
 go_in
 go_wp2_with fail
 apply hm.mono;rintro e w1 ⟨rfl,h1,d1⟩;have m0:=h1.to (cl _).symm;have W0:=Ck w1 (G0.o.qz m0) n N4.o L0.o;have H1:=ae (m0.under x0.o);have D1:=ae (dA.o.trans d1);clear hm h1 m0 d1 dA x0 G0 f1 R0 OA
 go_wp2_with fail
 apply W0.mono;rintro e w2 ⟨d,t,q,m,E1,rfl,rfl,d2,h2⟩;have h3:ag w2 (gm t q m gJ (n-2) 3 []*(whole w*pt H (X #[Z Y C,Z Y fd,Z Y D,Z Y G,W (str a),W (str b),Z Y E,V y A z] 25 (0,0)))):=(h2.under H1.o).to (by rw [cl];ac_rfl);have H3:=ae h3;have D2:=ae (D1.o.trans d2);clear W0 h2 h3 d2 D1 H1 E1 hn j i1 N4 L0
 go_upto_block 0 with (fail)
 go_cut [] from 56 to 71 (fun wx=>Rj t q m (pt H (X #[Z Y C,Z Y fd,Z Y D,Z Y G,W (str a),W (str b),Z Y E,V y A z] 25 (0,0))) w wx)
 case first=>
  go_wp2_with fail
  go_loopw [14] (fun o0 wr=>UH t q m (pt H (X #[Z Y C,Z Y fd,Z Y D,Z Y G,W (str a),W (str b),Z Y E,V y A z] 25 (0,0))) w o0 wr) (fun o0 _=>40-(intOf o0).toNat)
  case atStart=>exact ⟨0,n-2,gJ,[],A2 _,rfl,bN.nil _,A2 _,D2.o,H3.o⟩
  case round=>
   clear H3 D2;obtain ⟨i,k,T,O,hi,rfl,ho,hl,ds,hs⟩:=hrel;have DS:=ae ds;have HS:=ae hs;clear ds hs
   by_cases V0:i<f0/\i<40
   .obtain ⟨S0,q1⟩:=V0
    have g2:(i:Int)<(f0:Int):=Om0
    have b2:(i:Int)<40:=Om0
    obtain ⟨ab,ao,rfl,k0,r1,e0,Z0⟩:=GW HX.o S0;have i2:(f0:Int)<=(l0:Int):=Om0
    have f2:(l0:Int)<=9223372036854775807:=Om0
    have e0:∀ g0,g0<8->wr.cell? ⟨ab,ao+i*8+g0,Y'⟩=(X0 i).cells[g0]?:=fun g0 hj=>by
     have h2:=e0 g0 hj;obtain ⟨v,hv⟩:∃ v,(X0 i).cells[g0]?=Z' v:=⟨_,Array.getElem?_eq_getElem (by simpa [nB.cells] using hj)⟩
     rw [hv] at h2 ⊢;exact (HS.o.t00 ((gm t q m T k (3+i) O*pt H (X #[Z Y C,Z Y fd,Z Y D,Z Y G,W (str a),W (str b),Z Y E,V y A z] 25 (0,0)))*whole w)).bV h2
    have kp:=ae (Qq Om0 ho Om0 (X0 i) Z0 HS.o);generalize X0 i=O1 at *;obtain ⟨V1,U1,W1,Y1,ya,yb,X1,R1,T1,S1,p2⟩:=O1;have c0:wr.cell? ⟨ab,ao+i*8,Y'⟩=Z' (Z Y V1):=e0 0 De0;have c1:wr.cell? ⟨ab,ao+i*8+1,Y'⟩=Z' (Z Y U1):=e0 1 De0;have c2:wr.cell? ⟨ab,ao+i*8+2,Y'⟩=Z' (Z Y W1):=e0 2 De0;have c3:wr.cell? ⟨ab,ao+i*8+3,Y'⟩=Z' (Z Y Y1):=e0 3 De0;have c4:wr.cell? ⟨ab,ao+i*8+4,Y'⟩=Z' (W (str ya)):=e0 4 De0;have c5:wr.cell? ⟨ab,ao+i*8+5,Y'⟩=Z' (W (str yb)):=e0 5 De0;have c6:wr.cell? ⟨ab,ao+i*8+6,Y'⟩=Z' (Z Y X1):=e0 6 De0;have c7:wr.cell? ⟨ab,ao+i*8+7,Y'⟩=Z' (V R1 T1 S1):=e0 7 De0;have HL:=ae hl;clear e0 Z0 ho hl S0 q1 k0 r1 HS
    go_wp2_with fail
    apply kp.o.mono;rintro e w4 ⟨c,T4,k4,O4,rfl,d4,Y0,T0,h4⟩;have D4:=ae (DS.o.trans d4);have H4:=ae h4;have o1:=ae Y0;have k1:=ae T0;clear kp d4 h4 Y0 T0 DS c0 c1 c2 c3 c4 c5 c6 c7
    go_wp2_with fail
    refine ⟨⟨i+1,k4,T4,O4,Om0,Si0,o1.o,by have:=k1.o;have:=HL.o;omega,D4.o,FB Om0 H4.o⟩,?_⟩;simp [intOf];omega
   .have K1:(¬ (i:Int)<(f0:Int))\/((i:Int)<(f0:Int)/\¬ (i:Int)<40):=Om0
    have i0:=ae (show Rj t q m (pt H (X #[Z Y C,Z Y fd,Z Y D,Z Y G,W (str a),W (str b),Z Y E,V y A z] 25 (0,0))) w wr from ⟨k,T,O,ho,Om0,DS.o,FB Om0 HS.o⟩);clear V0 hi ho hl DS HS;rcases K1 with ho|⟨j2,k2⟩
    all_goals
     go_wp2_with fail
     go_meet
     exact i0.o
 case rest=>
  clear H3 D2 HX;obtain ⟨k,T,O,ho,hl,d3,h3⟩:=hcut;have HO:=ae ho;have HL:=ae hl;have D3:=ae d3;obtain ⟨s1,s2,s3,sc,a1⟩:=Mr T pa;obtain ⟨j,l,t3,tc,b1⟩:=Mr T pb;have H0:=ae a1;have K0:=ae b1;have f:=ae (zG H0.o h3);clear ho hl d3 h3 a1 b1
  go_wp2_with fail
  apply f.o.mono;rintro e ws ⟨rfl,d,h⟩;have h:=(h.alloc (X #[Z Y s1,Z Y s2,Z Y s3] 34 (0,0))).to (aD _ _ _);have Ds:=ae ((D3.o.trans d).alloc (X #[Z Y s1,Z Y s2,Z Y s3] 34 (0,0)));obtain ⟨K,y1⟩:=Nm ws.heap.size
  rw [y1] at h;have g:=ae (zG K0.o h);clear f d h D3;replace f:=g;clear g
  go_wp2_with fail
  apply f.o.mono;rintro e wt ⟨rfl,d,h⟩;have h:=(h.alloc (X #[Z Y j,Z Y l,Z Y t3] 34 (0,0))).to (aD _ _ _);have Dt:=ae ((Ds.o.trans d).alloc (X #[Z Y j,Z Y l,Z Y t3] 34 (0,0)));obtain ⟨L,z1⟩:=Nm wt.heap.size
  rw [z1] at h;have g:=ae (yv (p:=pa) h);clear f d h Ds;replace f:=g;clear g
  go_wp2_with fail
  apply f.o.mono;rintro e wr ⟨M,uc,u,rfl,d,h0,h⟩;have j1:=ae h0;have Dr:=ae (Dt.o.trans d);have g:=ae (M9 (p:=pb) h);clear f d h h0 Dt;replace f:=g;clear g;obtain ⟨lc,k0⟩:=Nm (iB T pb 0 4096)
  obtain ⟨o,n0⟩:=Nm ((if lc=0 then lR T pb 0 4096 else []))
  rw [k0,n0] at f;have n1:=ae k0;have l1:=ae n0;clear k0 n0
  go_wp2_with fail
  apply f.o.mono;rintro e wl ⟨I,rfl,d,h⟩;have Dl:=ae (Dr.o.trans d);have g:=ae (B5 De0 h);clear f d h Dr;replace f:=g;clear g
  go_wp2_with fail
  apply f.o.mono;rintro e wf ⟨rfl,d,h⟩;have Df:=ae (Dl.o.trans d);obtain ⟨s,hf,hB,h⟩:=eW h;have HF:=ae hf;have HB:=ae hB;have g:=ae (s6 h);clear f d h Dl hf hB;replace f:=g;clear g
  go_wp2_with fail
  apply f.o.mono;rintro e L1 ⟨rfl,d,h⟩;have h:=(h.alloc (X #[Z Y s.D.cr,Z Y s.D.cw,Z Y s.D.cf] 45 (0,0))).to (aD _ _ _);have Dc:=ae ((Df.o.trans d).alloc (X #[Z Y s.D.cr,Z Y s.D.cw,Z Y s.D.cf] 45 (0,0)));obtain ⟨J,u1⟩:=Nm L1.heap.size
  rw [u1] at h;have t1:=(h.t00 (pt H (X #[Z Y C,Z Y fd,Z Y D,Z Y G,W (str a),W (str b),Z Y E,V y A z] 25 (0,0))*(cX t s m O*(whole w*(pt J (X #[Z Y s.D.cr,Z Y s.D.cw,Z Y s.D.cf] 45 (0,0))*(bs 5 I o*(bR M u*(pt L (X #[Z Y j,Z Y l,Z Y t3] 34 (0,0))*pt K (X #[Z Y s1,Z Y s2,Z Y s3] 34 (0,0)))))))))).cell;have g:=ae (yj HF.o (by have:=HB.o;omega) HO.o (by have:=HL.o;omega) ⟨C,fd,D,G,a,b,E,y,A,z,dz⟩ HA.o (h.t00 (cX t s m O*(whole w*(pt H (X #[Z Y C,Z Y fd,Z Y D,Z Y G,W (str a),W (str b),Z Y E,V y A z] 25 (0,0))*(pt J (X #[Z Y s.D.cr,Z Y s.D.cw,Z Y s.D.cf] 45 (0,0))*(bs 5 I o*(bR M u*(pt L (X #[Z Y j,Z Y l,Z Y t3] 34 (0,0))*pt K (X #[Z Y s1,Z Y s2,Z Y s3] 34 (0,0)))))))))));clear f d h Df;replace f:=g;clear g;unfold nB.cells at f
  go_wp2_with fail
  apply f.o.mono;rintro e wp ⟨d,c,rfl,hr⟩;have Dp:=ae (Dc.o.trans d);have HR:=ae hr;clear f d hr Dc t1;rcases HR.o with ⟨hc,s',hr,h⟩|⟨rfl,s',T',k',O',-,-,-,-,h⟩
  .obtain ⟨r,hD⟩:=hr.D
   have g:=ae (s6 h);have F0:=ae (HF.o.rd hr);have D0:=ae (show s'.B<=50 by rw [hr.B];exact HB.o);have p1:=ae HF.o.ty;rw [hD] at g;clear hr hD h HR HF HB HO HL
   go_wp2_with fail
   apply g.o.mono;rintro e wq ⟨rfl,d,h⟩;have h:=((eO (B:=50) F0.o D0.o h).alloc (X #[Z Y r,Z Y s.D.cw,Z Y s.D.cf] 45 (0,0))).to (aD _ _ _);have Dq:=ae ((Dp.o.trans d).alloc (X #[Z Y r,Z Y s.D.cw,Z Y s.D.cf] 45 (0,0)));obtain ⟨P,x1⟩:=Nm wq.heap.size
   rw [x1] at h;have f:=ae (zG H0.o h);clear g d h Dp F0 D0
   go_wp2_with fail
   apply f.o.mono;rintro e M1 ⟨rfl,d,h⟩;have h:=(h.alloc (X #[Z Y s1,Z Y s2,Z Y s3] 34 (0,0))).to (aD _ _ _);have p0:=ae ((Dq.o.trans d).alloc (X #[Z Y s1,Z Y s2,Z Y s3] 34 (0,0)));obtain ⟨b0,A1⟩:=Nm M1.heap.size
   rw [A1] at h;have g:=ae (zG K0.o h);clear f d h Dq;replace f:=g;clear g
   go_wp2_with fail
   apply f.o.mono;rintro e N1 ⟨rfl,d,h⟩;have h:=(h.alloc (X #[Z Y j,Z Y l,Z Y t3] 34 (0,0))).to (aD _ _ _);have q0:=ae ((p0.o.trans d).alloc (X #[Z Y j,Z Y l,Z Y t3] 34 (0,0)));obtain ⟨d0,B1⟩:=Nm N1.heap.size
   rw [B1] at h;have g:=ae (yv (p:=pa) h);clear f d h p0;replace f:=g;clear g
   go_wp2_with fail
   apply f.o.mono;rintro e n2 ⟨ub,l2,a2,rfl,d,h0,h⟩;obtain ⟨e1,e2⟩:=PL p1.o j1.o h0;rw [e2] at h;subst e1;clear e2;have r0:=ae (q0.o.trans d);have g:=ae (M9 (p:=pb) h);clear f d h h0 q0;replace f:=g;clear g;rw [n1.o,l1.o] at f
   go_wp2_with fail
   apply f.o.mono;rintro e o2 ⟨N,rfl,d,h⟩;have s0:=ae (r0.o.trans d);have g:=ae (B5 De0 h);clear f d h r0;replace f:=g;clear g
   go_wp2_with fail
   apply f.o.mono;rintro e wz ⟨rfl,d,h⟩;have Dz:=ae (s0.o.trans d);have u0:=ae h;have ht:=ae (JP wz (eY wz _ (h.t00 (bR M u*(gm t q m T k 50 O*(bs 5 N o*(bR ub u*(pt d0 (X #[Z Y j,Z Y l,Z Y t3] 34 (0,0))*(pt b0 (X #[Z Y s1,Z Y s2,Z Y s3] 34 (0,0))*(pt P (X #[Z Y r,Z Y s.D.cw,Z Y s.D.cf] 45 (0,0))*(whole w*(pt H (X #[Z Y C,Z Y fd,Z Y D,Z Y G,W (str a),W (str b),Z Y E,V y A z] 25 (0,0))*(pt J (X #[Z Y s.D.cr,Z Y s.D.cw,Z Y s.D.cf] 45 (0,0))*(bs 5 I o*(pt L (X #[Z Y j,Z Y l,Z Y t3] 34 (0,0))*pt K (X #[Z Y s1,Z Y s2,Z Y s3] 34 (0,0)))))))))))))))) (eY wz _ (h.t00 (bR ub u*(gm t q m T k 50 O*(bs 5 N o*(pt d0 (X #[Z Y j,Z Y l,Z Y t3] 34 (0,0))*(pt b0 (X #[Z Y s1,Z Y s2,Z Y s3] 34 (0,0))*(pt P (X #[Z Y r,Z Y s.D.cw,Z Y s.D.cf] 45 (0,0))*(whole w*(pt H (X #[Z Y C,Z Y fd,Z Y D,Z Y G,W (str a),W (str b),Z Y E,V y A z] 25 (0,0))*(pt J (X #[Z Y s.D.cr,Z Y s.D.cw,Z Y s.D.cf] 45 (0,0))*(bs 5 I o*(bR M u*(pt L (X #[Z Y j,Z Y l,Z Y t3] 34 (0,0))*pt K (X #[Z Y s1,Z Y s2,Z Y s3] 34 (0,0)))))))))))))))));have m1:=(h.t00 (pt P (X #[Z Y r,Z Y s.D.cw,Z Y s.D.cf] 45 (0,0))*(gm t q m T k 50 O*(bs 5 N o*(bR ub u*(pt d0 (X #[Z Y j,Z Y l,Z Y t3] 34 (0,0))*(pt b0 (X #[Z Y s1,Z Y s2,Z Y s3] 34 (0,0))*(whole w*(pt H (X #[Z Y C,Z Y fd,Z Y D,Z Y G,W (str a),W (str b),Z Y E,V y A z] 25 (0,0))*(pt J (X #[Z Y s.D.cr,Z Y s.D.cw,Z Y s.D.cf] 45 (0,0))*(bs 5 I o*(bR M u*(pt L (X #[Z Y j,Z Y l,Z Y t3] 34 (0,0))*pt K (X #[Z Y s1,Z Y s2,Z Y s3] 34 (0,0))))))))))))))).cell 1;have m2:=(h.t00 (pt J (X #[Z Y s.D.cr,Z Y s.D.cw,Z Y s.D.cf] 45 (0,0))*(gm t q m T k 50 O*(bs 5 N o*(bR ub u*(pt d0 (X #[Z Y j,Z Y l,Z Y t3] 34 (0,0))*(pt b0 (X #[Z Y s1,Z Y s2,Z Y s3] 34 (0,0))*(pt P (X #[Z Y r,Z Y s.D.cw,Z Y s.D.cf] 45 (0,0))*(whole w*(pt H (X #[Z Y C,Z Y fd,Z Y D,Z Y G,W (str a),W (str b),Z Y E,V y A z] 25 (0,0))*(bs 5 I o*(bR M u*(pt L (X #[Z Y j,Z Y l,Z Y t3] 34 (0,0))*pt K (X #[Z Y s1,Z Y s2,Z Y s3] 34 (0,0))))))))))))))).cell 1;have m3:=(h.t00 (pt K (X #[Z Y s1,Z Y s2,Z Y s3] 34 (0,0))*(gm t q m T k 50 O*(bs 5 N o*(bR ub u*(pt d0 (X #[Z Y j,Z Y l,Z Y t3] 34 (0,0))*(pt b0 (X #[Z Y s1,Z Y s2,Z Y s3] 34 (0,0))*(pt P (X #[Z Y r,Z Y s.D.cw,Z Y s.D.cf] 45 (0,0))*(whole w*(pt H (X #[Z Y C,Z Y fd,Z Y D,Z Y G,W (str a),W (str b),Z Y E,V y A z] 25 (0,0))*(pt J (X #[Z Y s.D.cr,Z Y s.D.cw,Z Y s.D.cf] 45 (0,0))*(bs 5 I o*(bR M u*pt L (X #[Z Y j,Z Y l,Z Y t3] 34 (0,0))))))))))))))).cell
   have m4:=(h.t00 (pt b0 (X #[Z Y s1,Z Y s2,Z Y s3] 34 (0,0))*(gm t q m T k 50 O*(bs 5 N o*(bR ub u*(pt d0 (X #[Z Y j,Z Y l,Z Y t3] 34 (0,0))*(pt P (X #[Z Y r,Z Y s.D.cw,Z Y s.D.cf] 45 (0,0))*(whole w*(pt H (X #[Z Y C,Z Y fd,Z Y D,Z Y G,W (str a),W (str b),Z Y E,V y A z] 25 (0,0))*(pt J (X #[Z Y s.D.cr,Z Y s.D.cw,Z Y s.D.cf] 45 (0,0))*(bs 5 I o*(bR M u*(pt L (X #[Z Y j,Z Y l,Z Y t3] 34 (0,0))*pt K (X #[Z Y s1,Z Y s2,Z Y s3] 34 (0,0))))))))))))))).cell;have m5:=(h.t00 (pt L (X #[Z Y j,Z Y l,Z Y t3] 34 (0,0))*(gm t q m T k 50 O*(bs 5 N o*(bR ub u*(pt d0 (X #[Z Y j,Z Y l,Z Y t3] 34 (0,0))*(pt b0 (X #[Z Y s1,Z Y s2,Z Y s3] 34 (0,0))*(pt P (X #[Z Y r,Z Y s.D.cw,Z Y s.D.cf] 45 (0,0))*(whole w*(pt H (X #[Z Y C,Z Y fd,Z Y D,Z Y G,W (str a),W (str b),Z Y E,V y A z] 25 (0,0))*(pt J (X #[Z Y s.D.cr,Z Y s.D.cw,Z Y s.D.cf] 45 (0,0))*(bs 5 I o*(bR M u*pt K (X #[Z Y s1,Z Y s2,Z Y s3] 34 (0,0))))))))))))))).cell;have m6:=(h.t00 (pt d0 (X #[Z Y j,Z Y l,Z Y t3] 34 (0,0))*(gm t q m T k 50 O*(bs 5 N o*(bR ub u*(pt b0 (X #[Z Y s1,Z Y s2,Z Y s3] 34 (0,0))*(pt P (X #[Z Y r,Z Y s.D.cw,Z Y s.D.cf] 45 (0,0))*(whole w*(pt H (X #[Z Y C,Z Y fd,Z Y D,Z Y G,W (str a),W (str b),Z Y E,V y A z] 25 (0,0))*(pt J (X #[Z Y s.D.cr,Z Y s.D.cw,Z Y s.D.cf] 45 (0,0))*(bs 5 I o*(bR M u*(pt L (X #[Z Y j,Z Y l,Z Y t3] 34 (0,0))*pt K (X #[Z Y s1,Z Y s2,Z Y s3] 34 (0,0))))))))))))))).cell;clear f d h s0
   go_wp2_with fail
   apply ht.o.mono;rintro e wy ⟨rfl,d,h⟩;have h:=((h.to (cl _).symm).under u0.o).to (cl _);have v1:=wb wy I o (h.t00 (bs 5 I o*(gm t q m T k 50 O*(bs 5 N o*(bR ub u*(pt d0 (X #[Z Y j,Z Y l,Z Y t3] 34 (0,0))*(pt b0 (X #[Z Y s1,Z Y s2,Z Y s3] 34 (0,0))*(pt P (X #[Z Y r,Z Y s.D.cw,Z Y s.D.cf] 45 (0,0))*(whole w*(pt H (X #[Z Y C,Z Y fd,Z Y D,Z Y G,W (str a),W (str b),Z Y E,V y A z] 25 (0,0))*(pt J (X #[Z Y s.D.cr,Z Y s.D.cw,Z Y s.D.cf] 45 (0,0))*(bR M u*(pt L (X #[Z Y j,Z Y l,Z Y t3] 34 (0,0))*pt K (X #[Z Y s1,Z Y s2,Z Y s3] 34 (0,0))))))))))))))).pA;have v2:=wb wy N o (h.t00 (bs 5 N o*(gm t q m T k 50 O*(bR ub u*(pt d0 (X #[Z Y j,Z Y l,Z Y t3] 34 (0,0))*(pt b0 (X #[Z Y s1,Z Y s2,Z Y s3] 34 (0,0))*(pt P (X #[Z Y r,Z Y s.D.cw,Z Y s.D.cf] 45 (0,0))*(whole w*(pt H (X #[Z Y C,Z Y fd,Z Y D,Z Y G,W (str a),W (str b),Z Y E,V y A z] 25 (0,0))*(pt J (X #[Z Y s.D.cr,Z Y s.D.cw,Z Y s.D.cf] 45 (0,0))*(bs 5 I o*(bR M u*(pt L (X #[Z Y j,Z Y l,Z Y t3] 34 (0,0))*pt K (X #[Z Y s1,Z Y s2,Z Y s3] 34 (0,0))))))))))))))).pA;have i0:=ae (HQ.o _ _ ⟨rfl,(h.t00 (whole w*(gm t q m T k 50 O*(bs 5 N o*(bR ub u*(pt d0 (X #[Z Y j,Z Y l,Z Y t3] 34 (0,0))*(pt b0 (X #[Z Y s1,Z Y s2,Z Y s3] 34 (0,0))*(pt P (X #[Z Y r,Z Y s.D.cw,Z Y s.D.cf] 45 (0,0))*(pt H (X #[Z Y C,Z Y fd,Z Y D,Z Y G,W (str a),W (str b),Z Y E,V y A z] 25 (0,0))*(pt J (X #[Z Y s.D.cr,Z Y s.D.cw,Z Y s.D.cf] 45 (0,0))*(bs 5 I o*(bR M u*(pt L (X #[Z Y j,Z Y l,Z Y t3] 34 (0,0))*pt K (X #[Z Y s1,Z Y s2,Z Y s3] 34 (0,0))))))))))))))).left,Dz.o.trans d⟩);clear ht u0 d h Dz HQ m1 m2 m3 m4 m5 m6
   exact Zz i0.o
  .have g:=ae (s6 h)
   clear h HR HF HB HO HL
   go_wp2_with fail
   apply g.o.mono;rintro e wq ⟨rfl,d,h⟩;have i0:=ae (HQ.o _ _ ⟨rfl,(h.alloc (X #[Z Y s'.D.cr,Z Y s'.D.cw,Z Y s'.D.cf] 45 (0,0))).right.right.left,((Dp.o.trans d).alloc _)⟩);clear g d h Dp HQ
   exact Zz i0.o
end Go.Proofs.Cl
