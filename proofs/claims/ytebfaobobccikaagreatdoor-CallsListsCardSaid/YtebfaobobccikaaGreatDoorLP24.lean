/- Steps. -/
import Derived.Test.YtebfaobobccikaaGreatDoorLP23
import Derived.Laws.StructEq
import Derived.Lib.SliceRun
set_option linter.all false
set_option maxRecDepth 99999
set_option maxHeartbeats 0
open Go.SL
open Go.Value renaming int->X,slice->V,pointer->W
open Go renaming World->Z'
open Go.Proofs.Tryz renaming prog->U
open Option renaming some->Z,none->Y
open Bool renaming false->Y'
open Go.Proofs.Tryz
open List renaming getD->U1,length_map->V1,replicate->W1,length_append->Y1,length_take->Z1,getElem?_set->A2,getElem?_take->B2,getElem?_eq_getElem->H2,getElem?_append_left->K2,getElem?_append_right->L2
open Go.Value renaming int->X1
open Array renaming getElem?_toList->D2,length_toList->J2
open Nat renaming mul_one->E2
open Int renaming tmod_eq_emod_of_nonneg->M2,tdiv_eq_ediv_of_nonneg->N2
namespace Go.SL
open RowKit
variable {l:List UInt8}
def putAt (l:List UInt8) (o:Nat) (d:List UInt8):List UInt8:=l.take o++d++l.drop (o+d.length)
theorem gq {o:Nat} {d:List UInt8} (h:o+d.length<=l.length):(putAt l o d).length=l.length:=by
 simp only [putAt,Y1,Z1,List.length_drop];omega
theorem Ek {n o:Nat} {b a xs:List Value} (d:b.take n=xs) (h:o+a.length<=n) (e:n<=b.length) :
  (b.take o++a++b.drop (o+a.length)).take n=xs.take o++a++xs.drop (o+a.length):=by
 subst d;have c:(b.take o++a).length=o+a.length:=by rw [Y1,Z1];omega
 rw [List.take_append,List.take_of_length_le (by omega),c,List.take_take,Nat.min_eq_left (by omega),List.drop_take]
theorem zO (a:Array Value) (o:Nat) (b:List Value) (h:o+b.length<=a.size):fM a o b=(a.toList.take o++b++a.toList.drop (o+b.length)).toArray:=by
 apply Array.ext_getElem?;intro k;rw [iV _ _ _ _ h];have e:(a.toList.take o++b++a.toList.drop (o+b.length)).toArray[k]?=(a.toList.take o++b++a.toList.drop (o+b.length))[k]?:=by simp
 rw [e];have c:(a.toList.take o).length=o:=by rw [Z1,J2];omega
 rcases Nat.lt_or_ge k o with d|d
 .rw [if_neg (by omega),List.append_assoc,K2 (by omega),B2,if_pos d,D2]
 .rcases Nat.lt_or_ge k (o+b.length) with f|f
  .rw [if_pos ⟨d,f⟩,List.append_assoc,L2 (by omega),c,K2 (by omega)]
  .rw [if_neg (by omega),L2 (by rw [Y1,c];omega),Y1,c,List.getElem?_drop,D2]
   congr 1;omega
theorem nS {w:Z'} {T:TypeId} {v:Value} {F:ai} (h:ag w (bs T v l*F)) (B:0<l.length) :
  ∃ g c a,v = V (Z ⟨g,0,Y⟩) l.length c/\l.length<=c/\c<=maxLen/\a.size=c/\w.heap[g]?=Z (.cells a T (0,0))/\(∀ j,j<l.length->w.cell? ⟨g,j,Y⟩=Z (u8 (l.getD j 0))/\w.frozen? ⟨g,j,Y⟩=Y') /\
   ∀ o d,o+d.length<=l.length->ag (w.setRow g (a.toList.take o++d.map u8++a.toList.drop (o+(d.map u8).length)).toArray) (bs T v (putAt l o d)*F)/\ag (w.setCells g o (d.map u8)) (bs T v (putAt l o d)*F):=by
 rcases h.cW with ⟨_,C,_⟩|⟨g,f,a,rfl,r,s,m,p,b⟩
 .omega
 .rw [E2] at m p
  refine ⟨g,f,a,rfl,r,s,m,b.heap,fun j q=>⟨?_,b.frozen j⟩,fun o d u=>?_⟩
  .rw [b.cell]
   have e:=congrArg (·[j]?) p;simp only [B2,q,if_true,List.getElem?_map,D2] at e;rw [e,H2 q,U1,H2 q];rfl
  .have z:(a.toList.take o++d.map u8++a.toList.drop (o+(d.map u8).length)).take l.length=(putAt l o d).map u8:=by
    rw [Ek p (by rw [V1];exact u) (by have:=J2 (xs:=a);omega)];simp only [putAt,List.map_append,List.map_take,List.map_drop,V1]
   have A:(a.toList.take o++d.map u8++a.toList.drop (o+(d.map u8).length)).length=f:=by grind
   have x:∀ k,ag k (pt g (.cells (a.toList.take o++d.map u8++a.toList.drop (o+(d.map u8).length)).toArray T (0,0))*F)->ag k (bs T (V (Z ⟨g,0,Y⟩) l.length f) (putAt l o d)*F):=by
    intro k y;have:=ag.nj (sz:=1) (n:=l.length) (cap:=f) y r s (by rw [E2];simpa using A);refine this.to ?_;rw [bs,gq u];congr 2;rw [E2];exact z
   refine ⟨x _ (b.setRow (cs':=_)),x _ ?_⟩;have t:=ag.setCells (d.map u8) o b;rw [zO a o (d.map u8) (by rw [V1,m];omega)] at t;exact t
theorem oL:∀ (a b:List Int),a.length=b.length->((List.range a.length).all fun i=>a.getD i 0 == b.getD i 0)=(a == b)
 | [],[],_=>rfl
 | x :: a,y :: b,h=>by
  have c:=oL a b (by simpa using h);rw [List.length_cons,List.range_succ_eq_map,List.all_cons,List.all_map];simp only [List.getD_cons_zero,Function.comp_def,List.getD_cons_succ,c];simp [List.cons_beq_cons]
 | [],_ :: _,h=>by simp at h
 | _ :: _,[],h=>by simp at h
section
variable {P:Program} (w:Z')
theorem rN (d:Nat) (t e:TypeId) (n:Nat) (p:P.underlying t=Z (.array n e)) (c:P.underlying e=Z (.int .i64)) (o:∀ w,(sizeOf e).run P w = .ok 1 w)
  (a b:List Int) (k:a.length=n) (q:b.length=n) :
  (Op.equalIn (d+2) t (.agg (ints a)) (.agg (ints b))).run P w = .ok (a == b) w:=by
 rw [<- oL a b (k.trans q.symm),k,List.range_eq_range',Op.equalIn];simp only [Sem.run_bind,run_underlying p,Result.andThen_ok,o,Std.Legacy.Range.forIn_eq_forIn_range',Std.Legacy.Range.size,Nat.sub_zero,Nat.add_sub_cancel,Nat.div_one];have f:∀ i ∈ List.range' 0 n 1,i<n:=fun i g=>by simpa using (List.mem_range'_1.1 g).2
 generalize List.range' 0 n 1=l at f ⊢
 induction l with
 | nil=>simp
 | cons i l r=>
  have g:=f i (by simp)
  have u:(part e (ints a) (i*1)).run P w = .ok (X .i64 (a.getD i 0)) w:=by
   simp [part,isAgg,run_underlying c,bG (show i<a.length by omega)]
  have v:(part e (ints b) (i*1)).run P w = .ok (X .i64 (b.getD i 0)) w:=by
   simp [part,isAgg,run_underlying c,bG (show i<b.length by omega)]
  have s:(Op.equalIn (d+1) e (X .i64 (a.getD i 0)) (X .i64 (b.getD i 0))).run P w = .ok (a.getD i 0 == b.getD i 0) w:=run_equalIn_int w d e .i64 .i64 _ _ c;simp only [List.forIn_cons,Sem.run_bind,u,v,s,Result.andThen_ok,List.all_cons];cases x:(a.getD i 0 == b.getD i 0)
  .simp
  .simp only [Bool.not_true,Bool.false_eq_true,if_false,Sem.run_pure,Result.andThen_ok,Bool.true_and]
   exact r fun j m=>f j (by simp [m])
theorem yJ (t e:TypeId) (n:Nat) (f:P.underlying t=Z (.array n e)) (c:P.underlying e=Z (.int .i64)) (d:∀ w,(sizeOf e).run P w = .ok 1 w)
  (a b:List Int) (g:a.length=n) (j:b.length=n) :
  (binOp .eql t (.agg (ints a)) (.agg (ints b))).run P w = .ok (.bool (a == b)) w:=by
 rw [run_eql_struct,rN w 9998 t e n f c d a b g j]
 rfl
end
section
variable {σ:Type}
def JB (a:cO σ) (b:Int) (rest:Nat):WM σ Unit:=WM.bind (cU a b) fun L=>bP b (putAt L rest (zs (480-rest)))
def wN (b:cO σ) (h:Hd):WM σ Unit:=fun a=>
 if h.n.sz%480=0 then (.ok (),a) else if h.aN (h.n.sz/480).toNat=0 then (.ok (),a) else JB b (h.aN (h.n.sz/480).toNat) (h.n.sz%480).toNat a
end
end Go.SL
namespace Go.Proofs.Fs
open RowKit SL Proofs.Ba
section
variable {σ α:Type}
theorem Sa (n:Nat):(zs n).map u8=W1 n (X .u8 0):=by simp [zs,u8]
theorem O3 (w:Z'):(zeroValue 5).run U w = .ok (X .u8 0) w:=by kernel_rfl
theorem zI (x:Wk σ) (hc:x.c.Ok) (w:Z') (S:Hp) (a:eB σ) (g:Nat) (h:Hd) (F:ai) (g0:0<=h.n.sz) (G0:h.n.sz<=122880) (M:ag w (aO g h*(aF x S a*(aq S*F)))) :
  Calls U 112 #[W (Z ⟨x.k,0,Y⟩),W (Z ⟨g,0,Y⟩)] w (WQ x jo S (aO g h*F) w (wN x.c.ask h a)):=by
 refine aJ fun h0 Q=>?_;have j0:=(cV M (j:=3) (by decide)).1;have c0:h.l.getD 3 0=h.n.sz:=rfl;rw [c0] at j0;have f0:h.n.sz.tmod 480=((h.n.sz%480).toNat:Int):=by rw [M2 g0];omega
 have l0:h.n.sz.tdiv 480=((h.n.sz/480).toNat:Int):=by rw [N2 g0];omega
 have y:=ae (M.to (by ac_rfl:_=aF x S a*(aq S*(aO g h*F))));have hW:∀ T,wN x.c.ask h a=T->∀ e u,WQ x jo S (aO g h*F) w T e u->h0 e u:=fun T f e u hq=>Q.out e u (by rw [f];exact hq);have p:=ae hW;clear c0 hW Q
 by_cases J:h.n.sz%480=0
 .have b:=ae (p.out (.ok (),a) (if_pos J))
  have F0:h.n.sz.tmod 480=0:=by rw [f0,J];rfl
  go_enter func112,ntmps112
  go_wp2_with fail
  go_end0
  exact b.out _ _ ⟨S,_,Ext.refl S,aj.refl w,rfl,ag.au.2 ⟨rfl,y.out⟩⟩
 .have d0:(h.n.sz/480).toNat<256:=by omega
  have l:=nJ w g h _ M (h.n.sz/480).toNat d0;have e0:((h.n.sz%480).toNat:Int)≠0:=by omega
  have m0:(((h.n.sz%480).toNat:Int) == 0)=Y':=by simpa using e0
  have n0:(h.n.sz%480).toNat<480:=by omega
  have m:wN x.c.ask h a=if h.aN (h.n.sz/480).toNat=0 then (.ok (),a) else JB x.c.ask (h.aN (h.n.sz/480).toNat) (h.n.sz%480).toNat a:=if_neg J
  obtain ⟨r,o0⟩:∃ r,(h.n.sz%480).toNat=r:=⟨_,rfl⟩
  obtain ⟨q,k0⟩:∃ q,(h.n.sz/480).toNat=q:=⟨_,rfl⟩
  rw [o0] at f0 m0 n0 m e0;rw [k0] at l0 d0 l m;have D0:(q:Int)<256:=by omega
  have H:∀ T,JB x.c.ask (h.aN q) r a=T->h.aN q≠0->wN x.c.ask h a=T:=fun T f c=>by rw [m,if_neg c,f]
  by_cases c:h.aN q=0
  .have b:=ae (p.out (.ok (),a) (by rw [m,if_pos c]))
   rw [c] at l
   go_enter func112,ntmps112
   go_wp2_with fail
   (refine l.mono ?_)
   rintro e o ⟨rfl,rfl⟩
   go_wp2_with fail
   go_end0
   exact b.out _ _ ⟨S,_,Ext.refl S,aj.refl w,rfl,ag.au.2 ⟨rfl,y.out⟩⟩
  .have x0:(h.aN q == 0)=Y':=by simpa using c
   have K:=lh x hc w S a (h.aN q) _ y.out;obtain ⟨⟨r1,B⟩,k⟩:∃ q0,cU x.c.ask (h.aN q) a=q0:=⟨_,rfl⟩
   rw [k] at K
   cases r1 with
   | bad R=>
    have b:=ae (p.out (.bad R,B) (H _ (WM.bf k) c));clear c m H k
    go_enter func112,ntmps112
    go_wp2_with fail
    (refine l.mono ?_)
    rintro e o ⟨rfl,rfl⟩
    go_wp2_with fail
    (refine K.mono ?_)
    rintro e o ⟨z,t,C,rfl,E⟩
    go_wp2_with fail
    exact ⟨rfl,b.out _ _ ⟨z,t,C,rfl,E⟩⟩
   | ok L=>
    have hL:=iU k;obtain ⟨T,f⟩:∃ T,bP (h.aN q) (putAt L r (zs (480-r))) B=T:=⟨_,rfl⟩
    have b:=ae (p.out T (H _ ((WM.aX k).trans f) c));have d:=ae hL;generalize h.aN q=r0 at *
    go_enter func112,ntmps112
    go_wp2_with fail
    (refine l.mono ?_)
    rintro e o ⟨rfl,rfl⟩
    go_wp2_with fail
    (with_reducible refine K.mono ?_)
    rintro e o ⟨z,v,t,C,rfl,E⟩;obtain ⟨b0,i0,s0,rfl,k1,k2,k3,k4,k5,k6⟩:=nS E (by rw [d.out];decide);have p0:(zs (480-r)).length=480-r:=bh _;have s:=(k6 r (zs (480-r)) (by rw [p0,d.out];omega)).2;rw [Sa] at s;rw [d.out] at k1 ⊢
    have u0:=fun ty=>Lib.run_clear_slice (P:=U) o 22 5 ty (X .u8 0) underlying22 O3 rfl rfl b0 r (480-r) (i0-r) (by omega)
     (fun j hj=>by rw [(k5 (r+j) (by rw [d.out];omega)).1];rfl) (fun j hj=>(k5 (r+j) (by rw [d.out];omega)).2)
    rw [d.out] at s;have N:=mg x _ z B r0 _ (putAt L r (zs (480-r))) _ (s.right) s.oD;rw [f] at N;have O:=ae (aj.setCells (W1 (480-r) (X .u8 0)) r b0 C)
    go_wp2_with fail
    obtain ⟨r3,H0⟩:=T
    cases r3 with
    | bad R=>
     (with_reducible refine N.mono ?_)
     rintro e w4 ⟨A,I,D,rfl,G⟩
     go_wp2_with fail
     exact ⟨rfl,b.out _ _ ⟨A,t.trans I,O.out.trans D,rfl,G⟩⟩
    | ok K0=>
     (with_reducible refine N.mono ?_)
     rintro e w4 ⟨A,v4,I,D,rfl,G⟩;obtain ⟨rfl,h7⟩:=ag.au.1 G
     go_wp2_with fail
     go_end0
     exact b.out _ _ ⟨A,_,t.trans I,O.out.trans D,rfl,ag.au.2 ⟨rfl,h7⟩⟩
end
end Go.Proofs.Fs
namespace Go.SL
open RowKit
variable {size:Int}
section
variable {σ:Type}
def Hd.cK (h:Hd) (z:Int):Hd:={ h with n:={ h.n with sz:=z } }
def Hd.dy (h:Hd) (z:Int):Hd:={ h with n:={ h.n with rw:=z } }
theorem Hd.Fz {h:Hd} (a:h.fit) (z:Int):(h.dy z).l=h.l.set 20 z:=by
 have e:h.l=(h.id:Int) :: h.n.kd :: h.n.lk :: h.n.sz :: (h.n.dr++(h.n.rw :: h.row)):=by simp [Hd.l,Nd.l]
 have b:(h.dy z).l=(h.id:Int) :: h.n.kd :: h.n.lk :: h.n.sz :: (h.n.dr++(z :: h.row)):=by simp [Hd.l,Nd.l,Hd.dy]
 rw [e,b];simp only [List.set_cons_succ];rw [List.set_append,if_neg (by rw [a.1];decide),a.1]
 rfl
structure Hd.SQ (n:Nat) (h:Hd):Prop where
 fit:h.fit
 xN:0<=h.n.rw
 zV:h.n.rw<n
 pg:∀ i,i<256->0<=h.aN i/\h.aN i<n
theorem Hd.Sn.VF {n:Nat} {h:Hd} (a:h.Sn n):h.SQ n:=⟨a.fit,a.xN,a.zV,fun _ b=>a.aN b⟩
theorem Hd.jh {h:Hd} (e:h.fit) {i:Nat} (f:i<256) (b:Int) (k:Nat):(h.put i b).aN k=if k=i then b else h.aN k:=by
 unfold Hd.put Hd.aN
 by_cases d:i<16
 .rw [if_pos d]
  by_cases a:k<16
  .rw [if_pos a,if_pos a]
   by_cases c:k=i
   .subst c;simp [U1,A2,e.1,d]
   .rw [if_neg c];simp [U1,A2,Ne.symm c]
  .rw [if_neg a,if_neg a,if_neg (by omega)]
 .rw [if_neg d]
  by_cases a:k<16
  .rw [if_pos a,if_pos a,if_neg (by omega)]
  .rw [if_neg a,if_neg a]
   by_cases c:k=i
   .subst c;simp [U1,A2,e.2,show k-16<240 by omega]
   .rw [if_neg c];simp [U1,A2,show ¬ i-16=k-16 by omega]
theorem Hd.gQ (h:Hd) (i:Nat) (b:Int):(h.put i b).n.rw=h.n.rw:=by unfold Hd.put;split <;> rfl
theorem Hd.zq (h:Hd) (i:Nat) (b:Int):(h.put i b).n.sz=h.n.sz:=by unfold Hd.put;split <;> rfl
theorem Hd.Nf (h:Hd) (i:Nat) (b:Int):(h.put i b).id=h.id:=by unfold Hd.put;split <;> rfl
theorem Hd.SQ.put {n:Nat} {h:Hd} (a:h.SQ n) {i:Nat} (e:i<256) {b:Int} (c:0<=b) (d:b<n):(h.put i b).SQ n:=
 ⟨Hd.tM a.fit i b,by rw [Hd.gQ];exact a.xN,by rw [Hd.gQ];exact a.zV,fun k f=>by
  rw [Hd.jh a.fit e]
  split
  .exact ⟨c,d⟩
  .exact a.pg k f⟩
def A4 (a:cO σ) (h:Hd):WM σ Unit:=WM.bind (wN a h) fun _=>dK h
def Rz (a:cO σ) (b:Int) (h:Hd):WM σ Unit:=fun c=>
 if h.n.rw≠0/\h.row=W1 240 0 then (WM.bind (cJ a h.n.rw.toNat Y') fun _=>A4 a ((h.dy 0).cK b)) c else A4 a (h.cK b) c
def pJ (a:cO σ) (b:Int):Nat->Hd->WM σ Unit
 | 0,h=>Rz a b h
 | j+1,h=>fun c=>if h.aN (256-(j+1))=0 then pJ a b j h c else (WM.bind (cJ a (h.aN (256-(j+1))).toNat Y') fun _=>pJ a b j (h.put (256-(j+1)) 0)) c
def lV (b:cO σ) (n:Nat) (node a:Int):WM σ Unit:=WM.bind (fY b n node) fun h c=>if 0<=a/\a<=122880 then pJ b a (256-(aW a).toNat) h c else (.bad 1,c)
theorem Rc {a:cO σ} {h:Hd} {k:Nat} (f:k<256) (c:h.aN k=0) (b:eB σ):pJ a size (256-k) h b=pJ a size (256-(k+1)) h b:=by
 obtain ⟨j,d⟩:∃ j,256-k=j+1:=⟨255-k,by omega⟩
 have e:256-(j+1)=k:=by omega
 rw [d,show 256-(k+1)=j by omega];exact if_pos (by rw [e];exact c)
theorem QI {b:cO σ} {h:Hd} {k:Nat} (m:k<256) (f:h.aN k≠0) {d a:eB σ} {c:Int} (l:cJ b (h.aN k).toNat Y' d=(.bad c,a)):pJ b size (256-k) h d=(.bad c,a):=by
 obtain ⟨j,g⟩:∃ j,256-k=j+1:=⟨255-k,by omega⟩
 have e:256-(j+1)=k:=by omega
 rw [g];exact (if_neg (by rw [e];exact f)).trans (WM.bf (by rw [e];exact l))
theorem RO {a:cO σ} {h:Hd} {k:Nat} (l:k<256) (d:h.aN k≠0) {c b:eB σ} (g:cJ a (h.aN k).toNat Y' c=(.ok (),b)):pJ a size (256-k) h c=pJ a size (256-(k+1)) (h.put k 0) b:=by
 obtain ⟨j,f⟩:∃ j,256-k=j+1:=⟨255-k,by omega⟩
 have e:256-(j+1)=k:=by omega
 rw [f,show 256-(k+1)=j by omega];refine (if_neg (by rw [e];exact d)).trans ((WM.aX (by rw [e];exact g)).trans ?_);rw [e]
end
end Go.SL
namespace Go.Proofs.Fs
open RowKit SL Proofs.Ba
variable {o:Oper} {a:Act}
section
variable {σ α:Type}
theorem fC {P:Program} {b:Array Oper} {rest:List Oper} {w:Z'} {Q:Exit->Act->Z'->Prop} (d:Region.wanted o (yielded b a.tmps)=true)
  (h:∀ K:Act->Z'->Prop,(∀ a w,wpList P b Q rest a w->K a w)->o.wp P a w K Q):wpList P b Q (o :: rest) a w:=
 wpList_step fun K c=>by rw [if_pos d];exact h K c
theorem si:prog.built 134 []=Z (ints eN):=by
 obtain ⟨C,a⟩:=Option.isSome_iff_exists.1 Be;have:=xi;rw [a] at this;rw [a];exact congrArg Z this
theorem ns {P:Program} {w:Z'} {K:Act->Z'->Prop} {Q:Exit->Act->Z'->Prop} (t:TypeId) (parts:Array (Nat × Operand)) (d:o.op = .build t parts)
  (l:List (Nat × Value)) (c:parts.toList.map (fun p=>(p.1,a.eval p.2))=l) (C:Array Value) (b:P.built t l=Z C) (h:K (a.put o.dst (.agg C)) w):o.wp P a w K Q:=by
 have e:P.built t (parts.map fun (i,x)=>(i,a.eval x)).toList=Z C:=by rw [Array.toList_map];exact c▸b
 exact wp_build t parts d (by rw [e];rfl) (by rw [e];exact h)
def KK (x:Wk σ) (n:Nat) (e:Int) (d:Nat) (S:Hp) (F:ai) (w:Z') (T:Rs Unit × eB σ) (u5:Value) (wr:Z'):Prop:=
 ∃ (k:Nat) (b:Hd) (c:eB σ) (a:Hp),k<=256/\u5 = X .i64 (k:Int)/\b.SQ n/\pJ x.c.ask e (256-k) b c=T/\Ext S a/\aj w wr/\ag wr (aF x a c*(aq a*(aO d b*F)))
theorem Ia:∀ w,(sizeOf 3).run U w = .ok 1 w:=by intro w;kernel_rfl
theorem Gb {W0:Cx σ} (hc:W0.Ok) {n:Nat} (hn:n<=3840) (node b:Int) (nb sb:Nat):CL W0 n 109 #[W (Z ⟨nb,0,Y⟩),W (Z ⟨sb,0,Y⟩)] jo (bg nb node*bg sb b) (lV W0.ask n node b):=by
 intro x w G0 st K0 q1 s1 h;subst q1 s1;have cn:w.cell? ⟨nb,0,Y⟩=Z (X .i64 node):=(h.to (by ac_rfl:_=bg nb node*(bg sb b*(aF x G0 st*(aq G0*K0))))).cell 0;refine aJ fun x1 q=>?_;have hl:=jQ x hc w G0 st node _ h;obtain ⟨⟨u1,aR⟩,hp⟩:∃ p,fY x.c.ask x.n node st=p:=⟨_,rfl⟩
 rw [hp] at hl;clear h;obtain ⟨G,hG⟩:∃ G,G=bg nb node*bg sb b*K0:=⟨_,rfl⟩
 rw [<- hG] at hl q;have HG:=ae hG
 cases u1 with
 | bad O=>
  have o:=ae (show lV x.c.ask x.n node b st=(.bad O,aR) from WM.bf hp);clear hp hG
  go_enter func109,ntmps109
  go_wp2_with fail
  (with_reducible refine hl.mono ?_)
  rintro e w2 ⟨y,hS,d2,rfl,h2⟩
  go_wp2_with fail
  exact ⟨rfl,q.out _ _ (by rw [o.out];exact ⟨y,hS,d2,rfl,h2⟩)⟩
 | ok hh=>
  have hI:=(sn hp).VF;have HI:=ae hI;obtain ⟨d0,M⟩:∃ d0,(fun st=>if 0<=b/\b<=122880 then pJ x.c.ask b (256-(aW b).toNat) hh st else (.bad 1,st)) aR=d0:=⟨_,rfl⟩
  have o:=ae (show lV x.c.ask x.n node b st=d0 from (WM.aX hp).trans M);clear hp hI;have i1:=M;clear M hG
  have sG:∀ V0 P,ag V0 (P*G)->V0.cell? ⟨sb,0,Y⟩=Z (X .i64 b):=fun V0 P hW=>by
   rw [HG.out] at hW;exact (hW.to (by ac_rfl:_=bg sb b*(bg nb node*(K0*P)))).cell 0
  have SG:=ae sG;have R0:=ae i1;have X0:=fun w=>uD w b
  go_enter func109,ntmps109
  go_wp2_with fail
  (with_reducible refine hl.mono ?_)
  rintro e w2 ⟨y,v,hS,d2,rfl,h2⟩;obtain ⟨c,rfl,h3⟩:=ag.oP h2;have h4:ag w2 (aF x y aR*(aq y*(aO c hh*G))):=h3.to (by ac_rfl);have cs:=SG.out w2 (aF x y aR*(aq y*(aO c hh))) (h4.to (by ac_rfl));have H4:=ae h4;clear h2 h3 hl cn i1 h4 sG
  by_cases hz:0<=b/\b<=122880
  .obtain ⟨z0,z1⟩:=hz
   have M:=R0.out;rw [if_pos ⟨z0,z1⟩] at M;have e1:0<=aW b/\aW b<=256:=by unfold aW;omega
   have HT:=ae M;have L0:=ae e1;clear M e1;have Y0:=X0 w2;unfold mE at Y0;clear X0
   go_wp2_with fail
   (with_reducible refine (gE w2).mono ?_)
   rintro e w3 ⟨rfl,rfl⟩
   go_wp2_with fail
   (with_reducible refine Y0.mono ?_)
   rintro e w3 ⟨rfl,rfl⟩;clear Y0 cs
   go_wp2_with fail
   go_loopw [5] (fun u5 wr=>KK x x.n b c G0 G w d0 u5 wr) (fun u5 _=>256-(intOf u5).toNat)
   case atStart=>exact ⟨(aW b).toNat,hh,aR,y,by have:=L0.out;omega,by rw [Int.toNat_of_nonneg L0.out.1],HI.out,HT.out,hS,d2,H4.out⟩
   case round=>
    obtain ⟨k,a,m,B,D1,rfl,f1,j1,g1,dk,x0⟩:=hrel;have F0:=ae j1;have A:=ae g1;have c0:=ae f1;clear H4 HT j1 g1 f1 L0;have N:=x0.to (by ac_rfl:_=aO c a*(aF x B m*(aq B*G)))
    by_cases i0:k<256
    .have E1:(k:Int)<256:=by omega
     have n0:=nJ wr c a _ N k i0;unfold Kc at n0
     by_cases h0:a.aN k=0
     .have d:=ae ((Rc i0 h0 m).symm.trans F0.out)
      rw [h0] at n0;clear h0 N
      go_wp2_with fail
      (with_reducible refine n0.mono ?_)
      rintro e w3 ⟨rfl,rfl⟩
      go_wp2_with fail
      go_roundw
      case rel=>exact ⟨k+1,a,m,B,by omega,by go_num,c0.out,d.out,A.out,dk,x0⟩
      case measure=>simp [intOf];omega
     .have h1:(a.aN k != 0)=true:=by simpa using h0
      obtain ⟨p0,p1⟩:=c0.out.pg k i0;have S:=jI x hc wr B m (a.aN k) Y' _ p0 (by omega) x0;obtain ⟨⟨r2,T⟩,J⟩:∃ p,cJ x.c.ask (a.aN k).toNat Y' m=p:=⟨_,rfl⟩
      rw [J] at S
      cases r2 with
      | bad O=>
       have d:=ae ((QI i0 h0 J).symm.trans F0.out);clear h0 J N p0 p1;generalize a.aN k=b1 at *
       go_wp2_with fail
       (with_reducible refine n0.mono ?_)
       rintro e w3 ⟨rfl,rfl⟩
       go_wp2_with fail
       (with_reducible refine S.mono ?_)
       rintro e w4 ⟨j,m0,d4,rfl,Q⟩
       go_wp2_with fail
       exact ⟨rfl,q.out _ _ (by rw [o.out,<- d.out];exact ⟨j,A.out.trans m0,dk.trans d4,rfl,(Q.to (by ac_rfl:_=aO c a*(aF x j T*(aq j*G)))).right⟩)⟩
      | ok v1=>
       have d:=ae ((RO i0 h0 J).symm.trans F0.out);have m1:=ae (c0.out.put i0 (Int.le_refl 0) (by have:=c0.out.xN;have:=c0.out.zV;omega:(0:Int)<x.n));clear h0 J N p0 p1;generalize a.aN k=b1 at *
       go_wp2_with fail
       (with_reducible refine n0.mono ?_)
       rintro e w3 ⟨rfl,rfl⟩
       go_wp2_with fail
       (with_reducible refine S.mono ?_)
       rintro e w4 ⟨j,v4,m0,d4,rfl,Q⟩;obtain ⟨rfl,h7⟩:=ag.au.1 Q;have o1:=p9 w4 c a _ (h7.to (by ac_rfl:_=aO c a*(aF x j T*(aq j*G)))) k i0 0;clear S n0 Q
       go_wp2_with fail
       (with_reducible refine o1.mono ?_)
       rintro e w5 ⟨rfl,h8,l⟩
       go_wp2_with fail
       go_roundw
       case rel=>exact ⟨k+1,a.put k 0,T,j,by omega,by go_num,m1.out,d.out,A.out.trans m0,(dk.trans d4).trans l,h8.to (by ac_rfl)⟩
       case measure=>simp [intOf];omega
    .obtain rfl:k=256:=by omega
     have HR:=ae (show Rz x.c.ask b a m=d0 from F0.out);have hf:=c0.out.fit;have Hf:=ae hf;have c1:wr.cell? ⟨c,20,Y⟩=Z (X .i64 a.n.rw):=qi hf (ag.held.1 N).2;have T0:=ae (An hf (ag.held.1 N).2);have k1:(prog.info? 134).map (·.size)=Z (a.row.map (X1 .i64)).length:=by rw [V1,hf.2];exact kp
     have S0:=ae k1;clear k1 hf i0
     by_cases j0:a.n.rw=0
     .have q0:=ae (show A4 x.c.ask (a.cK b) m=d0 from (if_neg (by simp [j0])).symm.trans HR.out)
      rw [j0] at c1;clear j0;have I:=N;have d1:wr.cell? ⟨sb,0,Y⟩=Z (X .i64 b):=SG.out _ _ (I.to (by ac_rfl:_=(aO c (a)*(aF x B m*aq B))*G));have c3:=(cV I (j:=3) (by decide)).1;have f3:=(cV I (j:=3) (by decide)).2;have e0:=jU (h':=(a).cK b) I (j:=3) (z:=b) Hf.out rfl;have z:=ae ((dk).setCell ⟨c,3,Y⟩ (X .i64 b));have H:=zI x hc _ B m c ((a).cK b) _ z0 z1 e0;obtain ⟨⟨r5,u⟩,t⟩:∃ p,wN x.c.ask ((a).cK b) m=p:=⟨_,rfl⟩
      rw [t] at H;have b0:=ae H;generalize (a).l.getD 3 0=y3 at *;clear e0 H I
      go_wp2_with fail
      refine b0.out.mono ?_
      cases r5 with
      | bad O=>
       have d:=ae (q0.out.symm.trans (WM.bf t));rintro e l0 ⟨f,s,l,rfl,r⟩
       go_wp2_with fail
       exact ⟨rfl,q.out _ _ (by rw [o.out,d.out];exact ⟨f,A.out.trans s,z.out.trans l,rfl,(r.to (by ac_rfl:_=aO c ((a).cK b)*(aF x f u*(aq f*G)))).right⟩)⟩
      | ok u5=>
       have o0:=ae (q0.out.symm.trans (WM.aX t));rintro e l0 ⟨f,v5,s,l,rfl,r⟩;obtain ⟨rfl,f0⟩:=ag.au.1 r;have L:=jK x l0 f u c ((a).cK b) _ (f0.to (by ac_rfl:_=aO c ((a).cK b)*(aF x f u*(aq f*G))));obtain ⟨⟨r6,k0⟩,K⟩:∃ p,dK ((a).cK b) u=p:=⟨_,rfl⟩
       rw [K] at L;have d:=ae (o0.out.trans K);clear t K r f0 b0
       cases r6 with
       | bad O=>
        go_wp2_with fail
        (with_reducible refine L.mono ?_)
        rintro e D0 ⟨g,F,C,rfl,D⟩
        go_wp2_with fail
        exact ⟨rfl,q.out _ _ (by rw [o.out,d.out];exact ⟨g,(A.out.trans s).trans F,(z.out.trans l).trans C,rfl,(D.to (by ac_rfl:_=aO c ((a).cK b)*(aF x g k0*(aq g*G)))).right⟩)⟩
       | ok u6=>
        go_wp2_with fail
        (with_reducible refine L.mono ?_)
        rintro e D0 ⟨g,v6,F,C,rfl,D⟩;obtain ⟨rfl,u0⟩:=ag.au.1 D
        go_wp2_with fail
        go_end0
        exact q.out _ _ (by rw [o.out,d.out];exact ⟨g,_,(A.out.trans s).trans F,(z.out.trans l).trans C,rfl,ag.au.2 ⟨rfl,(u0.to (by ac_rfl:_=aO c ((a).cK b)*(aF x g k0*(aq g*G)))).right⟩⟩)
     .have H1:(a.n.rw != 0)=true:=by simpa using j0
      have Z0:=fun w=>yJ (P:=U) w 134 3 240 underlying134 underlying3 Ia a.row eN Hf.out.2 rfl;have n1:Value.agg (ints a.row) = .agg (a.row.map (X1 .i64)).toArray:=rfl;rw [n1] at Z0;have w1:True:=trivial
      cases g0:(a.row == eN) with
      | false=>
       have l1:¬ (a.row=W1 240 0):=by intro R;rw [R] at g0;simp [eN] at g0
       have q0:=ae (show A4 x.c.ask (a.cK b) m=d0 from (if_neg (fun R=>l1 R.2)).symm.trans HR.out);rw [g0] at Z0;clear j0 g0 l1;have I:=N;have d1:wr.cell? ⟨sb,0,Y⟩=Z (X .i64 b):=SG.out _ _ (I.to (by ac_rfl:_=(aO c (a)*(aF x B m*aq B))*G));have c3:=(cV I (j:=3) (by decide)).1;have f3:=(cV I (j:=3) (by decide)).2;have e0:=jU (h':=(a).cK b) I (j:=3) (z:=b) Hf.out rfl;have z:=ae ((dk).setCell ⟨c,3,Y⟩ (X .i64 b));have H:=zI x hc _ B m c ((a).cK b) _ z0 z1 e0;obtain ⟨⟨r5,u⟩,t⟩:∃ p,wN x.c.ask ((a).cK b) m=p:=⟨_,rfl⟩
       rw [t] at H;have b0:=ae H;generalize (a).l.getD 3 0=y3 at *;clear e0 H I
       go_wp2_with (first
        | (refine fC (by exact rfl) fun s0 E=>wp_load_mid 134 (.tmp 43) (by exact rfl) c 21 (by exact rfl) (a.row.map (X1 .i64)) _ (by with_reducible exact T0.out) underlying134 rfl (by with_reducible exact S0.out) (E _ _ ?_))
        | (refine fC (by exact rfl) fun s0 E=>ns 134 #[] (by exact rfl) [] (by exact rfl) (ints eN) (by exact si) (E _ _ ?_)))
       refine b0.out.mono ?_
       cases r5 with
       | bad O=>
        have d:=ae (q0.out.symm.trans (WM.bf t));rintro e l0 ⟨f,s,l,rfl,r⟩
        go_wp2_with fail
        exact ⟨rfl,q.out _ _ (by rw [o.out,d.out];exact ⟨f,A.out.trans s,z.out.trans l,rfl,(r.to (by ac_rfl:_=aO c ((a).cK b)*(aF x f u*(aq f*G)))).right⟩)⟩
       | ok u5=>
        have o0:=ae (q0.out.symm.trans (WM.aX t));rintro e l0 ⟨f,v5,s,l,rfl,r⟩;obtain ⟨rfl,f0⟩:=ag.au.1 r;have L:=jK x l0 f u c ((a).cK b) _ (f0.to (by ac_rfl:_=aO c ((a).cK b)*(aF x f u*(aq f*G))));obtain ⟨⟨r6,k0⟩,K⟩:∃ p,dK ((a).cK b) u=p:=⟨_,rfl⟩
        rw [K] at L;have d:=ae (o0.out.trans K);clear t K r f0 b0
        cases r6 with
        | bad O=>
         go_wp2_with fail
         (with_reducible refine L.mono ?_)
         rintro e D0 ⟨g,F,C,rfl,D⟩
         go_wp2_with fail
         exact ⟨rfl,q.out _ _ (by rw [o.out,d.out];exact ⟨g,(A.out.trans s).trans F,(z.out.trans l).trans C,rfl,(D.to (by ac_rfl:_=aO c ((a).cK b)*(aF x g k0*(aq g*G)))).right⟩)⟩
        | ok u6=>
         go_wp2_with fail
         (with_reducible refine L.mono ?_)
         rintro e D0 ⟨g,v6,F,C,rfl,D⟩;obtain ⟨rfl,u0⟩:=ag.au.1 D
         go_wp2_with fail
         go_end0
         exact q.out _ _ (by rw [o.out,d.out];exact ⟨g,_,(A.out.trans s).trans F,(z.out.trans l).trans C,rfl,ag.au.2 ⟨rfl,(u0.to (by ac_rfl:_=aO c ((a).cK b)*(aF x g k0*(aq g*G)))).right⟩⟩)
      | true=>
       have a1:a.row=W1 240 0:=by simpa [eN] using g0
       obtain ⟨r0,r1⟩:0<=a.n.rw/\a.n.rw<3840:=⟨c0.out.xN,by have:=c0.out.zV;omega⟩
       have S:=jI x hc wr B m a.n.rw Y' _ r0 r1 x0;obtain ⟨⟨r2,T⟩,J⟩:∃ p,cJ x.c.ask a.n.rw.toNat Y' m=p:=⟨_,rfl⟩
       rw [J] at S;have H0:a.n.rw≠0/\a.row=W1 240 0:=⟨j0,a1⟩
       rw [g0] at Z0
       cases r2 with
       | bad O=>
        have d:=ae (HR.out.symm.trans ((if_pos H0).trans (WM.bf J)));clear j0 g0 H0 a1 J N r0 r1;have y1:=c1;generalize a.n.rw=b1 at *
        go_wp2_with (first
        | (refine fC (by exact rfl) fun s0 E=>wp_load_mid 134 (.tmp 43) (by exact rfl) c 21 (by exact rfl) (a.row.map (X1 .i64)) _ (by with_reducible exact T0.out) underlying134 rfl (by with_reducible exact S0.out) (E _ _ ?_))
        | (refine fC (by exact rfl) fun s0 E=>ns 134 #[] (by exact rfl) [] (by exact rfl) (ints eN) (by exact si) (E _ _ ?_)))
        (with_reducible refine S.mono ?_)
        rintro e w4 ⟨j,m0,d4,rfl,Q⟩
        go_wp2_with fail
        exact ⟨rfl,q.out _ _ (by rw [o.out,d.out];exact ⟨j,A.out.trans m0,dk.trans d4,rfl,(Q.to (by ac_rfl:_=aO c a*(aF x j T*(aq j*G)))).right⟩)⟩
       | ok v1=>
        have d:=ae (HR.out.symm.trans ((if_pos H0).trans (WM.aX J)));clear j0 g0 H0 a1 J N r0 r1;generalize a.n.rw=b1 at *
        go_wp2_with (first
        | (refine fC (by exact rfl) fun s0 E=>wp_load_mid 134 (.tmp 43) (by exact rfl) c 21 (by exact rfl) (a.row.map (X1 .i64)) _ (by with_reducible exact T0.out) underlying134 rfl (by with_reducible exact S0.out) (E _ _ ?_))
        | (refine fC (by exact rfl) fun s0 E=>ns 134 #[] (by exact rfl) [] (by exact rfl) (ints eN) (by exact si) (E _ _ ?_)))
        (with_reducible refine S.mono ?_)
        rintro e w4 ⟨j,v4,m0,d4,rfl,Q⟩;obtain ⟨rfl,h7⟩:=ag.au.1 Q;have h8:=h7.to (by ac_rfl:_=aO c a*(aF x j T*(aq j*G)));have A1:=(cV h8 (j:=20) (by decide)).1;have B1:=(cV h8 (j:=20) (by decide)).2;generalize a.l.getD 20 0=L1 at *;have R:=jU (h':=a.dy 0) h8 (j:=20) (z:=0) Hf.out (Hd.Fz Hf.out 0);have D9:=(dk.trans d4).setCell ⟨c,20,Y⟩ (X .i64 0);have N0:=A.out.trans m0;clear Q h7 h8 S x0;have d1:=SG.out _ _ (R.to (by ac_rfl:_=(aO c (a.dy 0)*(aF x j T*aq j))*G));have c3:=(cV R (j:=3) (by decide)).1;have f3:=(cV R (j:=3) (by decide)).2;have e0:=jU (h':=(a.dy 0).cK b) R (j:=3) (z:=b) Hf.out rfl;have z:=ae ((D9).setCell ⟨c,3,Y⟩ (X .i64 b));have H:=zI x hc _ j T c ((a.dy 0).cK b) _ z0 z1 e0;obtain ⟨⟨r5,u⟩,t⟩:∃ p,wN x.c.ask ((a.dy 0).cK b) T=p:=⟨_,rfl⟩
        rw [t] at H;have b0:=ae H;clear e0 H R
        go_wp2_with fail
        refine b0.out.mono ?_
        cases r5 with
        | bad O=>
         have d:=ae (d.out.trans (WM.bf t));rintro e l0 ⟨f,s,l,rfl,r⟩
         go_wp2_with fail
         exact ⟨rfl,q.out _ _ (by rw [o.out,d.out];exact ⟨f,N0.trans s,z.out.trans l,rfl,(r.to (by ac_rfl:_=aO c ((a.dy 0).cK b)*(aF x f u*(aq f*G)))).right⟩)⟩
        | ok u5=>
         have o0:=ae (d.out.trans (WM.aX t));rintro e l0 ⟨f,v5,s,l,rfl,r⟩;obtain ⟨rfl,f0⟩:=ag.au.1 r;have L:=jK x l0 f u c ((a.dy 0).cK b) _ (f0.to (by ac_rfl:_=aO c ((a.dy 0).cK b)*(aF x f u*(aq f*G))));obtain ⟨⟨r6,k0⟩,K⟩:∃ p,dK ((a.dy 0).cK b) u=p:=⟨_,rfl⟩
         rw [K] at L;have d:=ae (o0.out.trans K);clear t K r f0 b0
         cases r6 with
         | bad O=>
          go_wp2_with fail
          (with_reducible refine L.mono ?_)
          rintro e D0 ⟨g,F,C,rfl,D⟩
          go_wp2_with fail
          exact ⟨rfl,q.out _ _ (by rw [o.out,d.out];exact ⟨g,(N0.trans s).trans F,(z.out.trans l).trans C,rfl,(D.to (by ac_rfl:_=aO c ((a.dy 0).cK b)*(aF x g k0*(aq g*G)))).right⟩)⟩
         | ok u6=>
          go_wp2_with fail
          (with_reducible refine L.mono ?_)
          rintro e D0 ⟨g,v6,F,C,rfl,D⟩;obtain ⟨rfl,u0⟩:=ag.au.1 D
          go_wp2_with fail
          go_end0
          exact q.out _ _ (by rw [o.out,d.out];exact ⟨g,_,(N0.trans s).trans F,(z.out.trans l).trans C,rfl,ag.au.2 ⟨rfl,(u0.to (by ac_rfl:_=aO c ((a.dy 0).cK b)*(aF x g k0*(aq g*G)))).right⟩⟩)
  .have M:d0=(.bad 1,aR):=by rw [<- R0.out];exact if_neg hz
   have HT:=ae M;clear M R0 X0
   by_cases K1:0<=b
   .have t1:decide (b<=122880)=Y':=decide_eq_false (by omega)
    clear hz
    go_wp2_with fail
    (with_reducible refine (gK w2).mono ?_)
    rintro e w4 ⟨rfl,rfl⟩
    go_wp2_with fail
    exact ⟨rfl,q.out _ _ (by rw [o.out,HT.out];exact ⟨y,hS,d2,rfl,(H4.out.to (by ac_rfl:_=aO c hh*(aF x y aR*(aq y*G)))).right⟩)⟩
   .have t1:b<0:=by omega
    clear hz
    go_wp2_with fail
    (with_reducible refine (gK w2).mono ?_)
    rintro e w4 ⟨rfl,rfl⟩
    go_wp2_with fail
    exact ⟨rfl,q.out _ _ (by rw [o.out,HT.out];exact ⟨y,hS,d2,rfl,(H4.out.to (by ac_rfl:_=aO c hh*(aF x y aR*(aq y*G)))).right⟩)⟩
end
end Go.Proofs.Fs
namespace Go.SL
open RowKit
variable {A:List UInt8}
section
variable {σ:Type}
def iH (m a:Nat):Nat:=min m (480-a%480)
def CG (ask:cO σ) (h:Hd) (off:Nat):Nat->Nat->List UInt8->WM σ (List UInt8)
  | 0,_,A=>WM.pure A
  | f+1,done,A=>fun a=>
    if done<A.length then
      (if h.aN ((off+done)/480)=0 then CG ask h off f (done+iH (A.length-done) (off+done)) A a
       else (WM.bind (cU ask (h.aN ((off+done)/480))) fun L=>CG ask h off f (done+iH (A.length-done) (off+done)) (putAt A done ((L.drop ((off+done)%480)).take (iH (A.length-done) (off+done))))) a)
    else (.ok A,a)
def JG (ask:cO σ) (off a:Int) (h:Hd):WM σ (List UInt8):=fun b=>
 if 0<=off/\0<=a then (if h.n.sz<=off then (.ok [],b) else CG ask h off.toNat (min a (h.n.sz-off)).toNat 0 (zs (min a (h.n.sz-off)).toNat) b) else (.bad 1,b)
def jD (ask:cO σ) (n:Nat) (node off a:Int):WM σ (List UInt8):=WM.bind (fY ask n node) (JG ask off a)
theorem OT {ask:cO σ} {h:Hd} {off f done:Nat} (b:A.length<=done) (a:eB σ):CG ask h off f done A a=(.ok A,a):=by
 cases f with
 | zero=>rfl
 | succ f=>exact if_neg (by omega)
theorem PO {ask:cO σ} {h:Hd} {off f done:Nat} (c:done<A.length) (b:h.aN ((off+done)/480)=0) (a:eB σ) :
  CG ask h off (f+1) done A a=CG ask h off f (done+iH (A.length-done) (off+done)) A a:=(if_pos c).trans (if_pos b)
theorem Tu {ask:cO σ} {h:Hd} {off f done:Nat} (e:done<A.length) (d:h.aN ((off+done)/480)≠0) {b a:eB σ} {c:Int} (g:cU ask (h.aN ((off+done)/480)) b=(.bad c,a)) :
  CG ask h off (f+1) done A b=(.bad c,a):=(if_pos e).trans ((if_neg d).trans (WM.bf g))
theorem Um {ask:cO σ} {h:Hd} {off f done:Nat} (d:done<A.length) (c:h.aN ((off+done)/480)≠0) {b a:eB σ} {L:List UInt8} (e:cU ask (h.aN ((off+done)/480)) b=(.ok L,a)) :
  CG ask h off (f+1) done A b=CG ask h off f (done+iH (A.length-done) (off+done)) (putAt A done ((L.drop ((off+done)%480)).take (iH (A.length-done) (off+done)))) a:=(if_pos d).trans ((if_neg c).trans (WM.aX e))
end
end Go.SL
namespace Go.Proofs.Fs
open RowKit SL Proofs.Ba
section
variable {σ α:Type}
theorem As:(prog.info? 5).map (·.size)=Z 1:=by kernel_rfl
def SA (x:Wk σ) (d:Nat) (b:Hd) (off m g:Nat) (S:Hp) (F:ai) (w:Z') (T:Rs (List UInt8) × eB σ) (e:Value) (wr:Z'):Prop:=
 ∃ (done f:Nat) (A:List UInt8) (c:eB σ) (a:Hp),done<=m/\A.length=m/\m-done<=f/\e = X .i64 (done:Int)/\CG x.c.ask b off f done A c=T/\Ext S a/\aj w wr /\
  ag wr (bs 5 (V (Z ⟨g,0,Y⟩) m m) A*(aF x a c*(aq a*(aO d b*F))))
theorem EC {r0:Cx σ} (hc:r0.Ok) {n:Nat} (hn:n<=3840) (node off d:Int) (B s y:Nat) :
  CL r0 n 164 #[W (Z ⟨B,0,Y⟩),W (Z ⟨s,0,Y⟩),W (Z ⟨y,0,Y⟩)] gi (bg B node*(bg s off*bg y d)) (jD r0.ask n node off d):=by
 intro x w k0 st h0 r1 t1 h;subst r1 t1;have cn:w.cell? ⟨B,0,Y⟩=Z (X .i64 node):=(h.to (by ac_rfl:_=bg B node*((bg s off*bg y d)*(aF x k0 st*(aq k0*h0))))).cell 0;show Calls U 164 #[W (Z ⟨x.k,0,Y⟩),W (Z ⟨B,0,Y⟩),W (Z ⟨s,0,Y⟩),W (Z ⟨y,0,Y⟩)] w _
 refine aJ fun w1 E=>?_;have k:=jQ x hc w k0 st node _ h;obtain ⟨⟨r,f⟩,hp⟩:∃ N0,fY x.c.ask x.n node st=N0:=⟨_,rfl⟩
 rw [hp] at k;clear h;obtain ⟨G,hG⟩:∃ G,G=bg B node*(bg s off*bg y d)*h0:=⟨_,rfl⟩
 rw [<- hG] at k E;have HG:=ae hG
 cases r with
 | bad cN=>
  have D:=ae (show jD x.c.ask x.n node off d st=(.bad cN,f) from WM.bf hp);clear hp hG
  go_enter func164,ntmps164
  go_wp2_with fail
  (with_reducible refine k.mono ?_)
  rintro e j ⟨b,S,J,rfl,h2⟩
  go_wp2_with fail
  exact ⟨rfl,E.out _ _ (by rw [D.out];exact ⟨b,S,J,rfl,h2⟩)⟩
 | ok a=>
  have L0:=Nd.qY (sn hp).ok;obtain ⟨s0,s1⟩:0<=a.n.sz/\a.n.sz<=122880:=⟨L0.2.2.2.1,L0.2.2.2.2.1⟩
  obtain ⟨T,hT⟩:∃ T,JG x.c.ask off d a f=T:=⟨_,rfl⟩
  have D:=ae (show jD x.c.ask x.n node off d st=T from (WM.aX hp).trans hT);have Q:=ae hT;clear hp hG L0 hT
  have sO:∀ I P,ag I (P*G)->I.cell? ⟨s,0,Y⟩=Z (X .i64 off):=fun I P hW=>by
   rw [HG.out] at hW;exact (hW.to (by ac_rfl:_=bg s off*(bg B node*(bg y d*(h0*P))))).cell 0
  have sC:∀ I P,ag I (P*G)->I.cell? ⟨y,0,Y⟩=Z (X .i64 d):=fun I P hW=>by
   rw [HG.out] at hW;exact (hW.to (by ac_rfl:_=bg y d*(bg B node*(bg s off*(h0*P))))).cell 0
  have SO:=ae sO;have SC:=ae sC;clear sO sC
  go_enter func164,ntmps164
  go_wp2_with fail
  (with_reducible refine k.mono ?_)
  rintro e j ⟨b,v,S,J,rfl,h2⟩;obtain ⟨c,rfl,h3⟩:=ag.oP h2;have h4:ag j (aF x b f*(aq b*(aO c a*G))):=h3.to (by ac_rfl);have co:=SO.out j (aF x b f*(aq b*(aO c a))) (h4.to (by ac_rfl));have cc:=SC.out j (aF x b f*(aq b*(aO c a))) (h4.to (by ac_rfl));have c3:=(cV h3 (j:=3) (by decide)).1;rw [show a.l.getD 3 0=a.n.sz from rfl] at c3;have O:=ae h4;clear h2 h3 k cn h4
  by_cases hz:0<=off/\0<=d
  .obtain ⟨z0,z1⟩:=hz
   by_cases m0:a.n.sz<=off
   .have e0:T=(.ok [],f):=by rw [<- Q.out];exact (if_pos ⟨z0,z1⟩).trans (if_pos m0)
    have F:=ae e0;clear e0 Q
    go_wp2_with fail
    (with_reducible refine (gE j).mono ?_)
    rintro e N ⟨rfl,rfl⟩
    go_wp2_with fail
    go_region_held3 (fun z=>z.cell? ⟨s,0,Y⟩=Z (X .i64 off)/\z.cell? ⟨c,3,Y⟩=Z (X .i64 a.n.sz)) (first|exact ⟨co,c3⟩|go_keep) (fail)
    all_goals
     clear co cc c3
     go_wp2_with fail
     refine E.out _ _ ?_;rw [D.out,F.out];have h9:ag j.drew (gi [] (V Y 0 0)*(aF x b f*(aq b*(aO c a*G)))):=(O.out.drew.eQ 5 1)
     exact ⟨b,_,S,J.drew,rfl,(h9.to (by ac_rfl:_=aO c a*(gi [] (V Y 0 0)*(aF x b f*(aq b*G))))).right⟩
   .have K0:off<a.n.sz:=by omega
    obtain ⟨m,hm⟩:∃ m,(min d (a.n.sz-off)).toNat=m:=⟨_,rfl⟩
    obtain ⟨o,ho⟩:∃ o:Nat,off=(o:Int):=⟨off.toNat,by omega⟩
    have e0:CG x.c.ask a o m 0 (zs m) f=T:=by
     rw [<- Q.out];refine Eq.symm ((if_pos ⟨z0,z1⟩).trans ((if_neg m0).trans ?_));rw [hm,ho,Int.toNat_natCast]
    have o1:min d (a.n.sz-off)=(m:Int):=by omega
    have K1:(o:Int)+m<=122880:=by omega
    have F:=ae e0;have d1:∀ w,(Instr.makeSlice 22 (X .i64 (m:Int)) (X .i64 (m:Int))).run U w = .ok (V (Z ⟨w.heap.size,0,Y⟩) m m) (w.alloc (.cells (dP (zs m)) 5 (0,0))):=fh m (by omega);have hB:=oA m (by omega) (O.out.drew.drew);have n1:¬ (a.n.sz<=off):=m0;subst ho;clear e0 Q hm m0;obtain ⟨ZB,Y0⟩:∃ j1,j1=dP (zs m):=⟨_,rfl⟩
    rw [<- Y0] at d1 hB;clear Y0
    go_wp2_with fail
    (with_reducible refine (gE j).mono ?_)
    rintro e N ⟨rfl,rfl⟩
    go_wp2_with fail
    go_region_held3 (fun z=>z.cell? ⟨s,0,Y⟩=Z (X .i64 (o:Int))/\z.cell? ⟨c,3,Y⟩=Z (X .i64 a.n.sz)) (first|exact ⟨co,c3⟩|go_keep) (fail)
    rename_i d0;have b1:decide (a.n.sz<=(o:Int))=Y':=decide_eq_false (by omega);have H5:=ae O.out.drew;have D5:=ae J.drew;have D0:=SO.out j.drew (aF x b f*(aq b*(aO c a))) (H5.out.to (by ac_rfl));have x0:=SC.out j.drew (aF x b f*(aq b*(aO c a))) (H5.out.to (by ac_rfl));have u0:j.drew.cell? ⟨c,3,Y⟩=Z (X .i64 a.n.sz):=d0.2;clear d0 co cc c3 O J;generalize j.drew=N at *;rw [b1];clear b1
    go_wp2_with fail
    have q1:(if IntKind.i64.wrap (a.n.sz-(o:Int))<d then IntKind.i64.wrap (a.n.sz-(o:Int)) else d)=(m:Int):=by
     have e:IntKind.i64.wrap (a.n.sz-(o:Int))=a.n.sz-(o:Int):=by rw [IntKind.wrap_i64];omega
     rw [e];split <;> omega
    refine wp_region_held_drew (S:=(fun z=>z.cell? ⟨s,0,Y⟩=Z (X .i64 (o:Int))/\z.cell? ⟨y,0,Y⟩=Z (X .i64 d)/\z.cell? ⟨c,3,Y⟩=Z (X .i64 a.n.sz))) (by kernel_rfl) ?_ (fun d0=>?_)
    ·(first|exact ⟨D0,x0,u0⟩|go_keep)
    refine tk 0 ?_;refine tk 1 ?_;refine tk 2 ?_;refine tk 3 ?_;refine tk 4 ?_;refine tk 5 ?_;refine tk 6 ?_;refine tk 7 ?_;refine wpAnyH_take (i:=8) (v:=X .i64 (m:Int)) rfl (by kernel_rfl) (by kernel_rfl) (by kernel_rfl) (fun _ _ _ h=>h) (Or.inl ⟨by kernel_rfl,?_⟩) (by assumption) ?_
    .intro w m1;(try dsimp only at m1);go_simp
    try simp only [List.getElem_toArray,List.getElem_cons_succ,List.getElem_cons_zero,Act.put,List.setIfInBounds_toArray,List.set_cons_zero,List.set_cons_succ]
    refine tr 9 fun i1 hK=>?_
    go_simp
    refine hK.out _ _ ?_ (fun d0=>?_)
    ·(first|exact ⟨D0,x0,u0⟩|go_keep)
    clear hK i1;refine tk 10 ?_;refine wpAnyH_done (by kernel_rfl) ?_ _;rename_i l1;rw [show IntKind.i64.wrap (a.n.sz-(o:Int))=a.n.sz-(o:Int) from by rw [IntKind.wrap_i64];omega];have D6:aj w (N.alloc (.cells ZB 5 (0,0))).drew:=D5.out.drew.alloc (.cells ZB 5 (0,0));have V0:ag (N.alloc (.cells ZB 5 (0,0))).drew (bs 5 (V (Z ⟨N.heap.size,0,Y⟩) m m) (zs m)*(aF x b f*(aq b*(aO c a*G)))):=hB;clear d0 l1 hB D0 x0 u0 d1 q1 H5 D5;generalize (N.alloc (.cells ZB 5 (0,0))).drew=w5 at *;generalize N.heap.size=g at *;have S0:=ae V0;have H1:(m:Int)<=122880:=by omega
    have M1:(o:Int)<=122880:=by omega
    have E1:0<=(m:Int):=by omega
    clear V0 SC o1 n1 K0 z1
    go_wp2_with fail
    go_loopw [8] (fun R0 wr=>SA x c a o m g k0 G w T R0 wr) (fun R0 _=>m-(intOf R0).toNat)
    case atStart=>exact ⟨0,m,zs m,f,b,Nat.zero_le _,bh m,Nat.le_refl _,rfl,F.out,S,D6,S0.out⟩
    case round=>
     obtain ⟨done,G0,A,t,p,y1,T0,hf,rfl,X0,W0,dk,f0⟩:=hrel;have j0:=ae X0;have i0:=ae W0;have C:=ae T0;clear S0 F X0 W0 T0 D6
     by_cases K0:done<m
     .have D1:(done:Int)<(m:Int):=by omega
      obtain ⟨f',rfl⟩:∃ f',G0=f'+1:=⟨G0-1,by omega⟩
      have M:done<A.length:=by rw [C.out];exact K0
      have co:=SO.out wr (bs 5 (V (Z ⟨g,0,Y⟩) m m) A*(aF x p t*(aq p*(aO c a)))) (f0.to (by ac_rfl));obtain ⟨l,k⟩:∃ l,iH (A.length-done) (o+done)=l:=⟨_,rfl⟩
      have n0:l=min (m-done) (480-(o+done)%480):=by rw [<- k,C.out];rfl
      obtain ⟨q,hq⟩:∃ q,(o+done)/480=q:=⟨_,rfl⟩
      obtain ⟨r,hr⟩:∃ r,(o+done)%480=r:=⟨_,rfl⟩
      have p1:q<256:=by omega
      have O1:r<480:=by omega
      rw [hr] at n0;have A1:1<=l:=by omega
      have c1:done+l<=m:=by omega
      have B1:r+l<=480:=by omega
      have N1:((o:Int)+(done:Int)).tdiv 480=(q:Int):=by rw [N2 (by omega)];omega
      have R1:((o:Int)+(done:Int)).tmod 480=(r:Int):=by rw [M2 (by omega)];omega
      have L1:(if (480:Int)-(r:Int)<((m-done:Nat):Int) then (480:Int)-(r:Int) else ((m-done:Nat):Int))=(l:Int):=by split <;> omega
      have S1:(m:Int)-(done:Int)=((m-done:Nat):Int):=by omega
      have c0:=nJ wr c a _ (f0.to (by ac_rfl:_=aO c a*(bs 5 (V (Z ⟨g,0,Y⟩) m m) A*(aF x p t*(aq p*G))))) q p1;unfold Kc at c0
      by_cases K:a.aN q=0
      .have u:=ae ((PO M (by rw [hq];exact K) t).symm.trans j0.out)
       rw [k] at u;rw [K] at c0;clear K n0 hq hr k
       go_wp2_with fail
       (with_reducible refine c0.mono ?_)
       rintro e w6 ⟨rfl,rfl⟩
       go_wp2_with fail
       go_roundw
       case rel=>exact ⟨done+l,f',A,t,p,c1,C.out,by omega,by go_num,u.out,i0.out,dk,f0⟩
       case measure=>simp [intOf];omega
      .have h1:(a.aN q != 0)=true:=by simpa using K
       have p0:=lh x hc wr p t (a.aN q) _ (f0.to (by ac_rfl:_=aF x p t*(aq p*(aO c a*(bs 5 (V (Z ⟨g,0,Y⟩) m m) A*G)))));obtain ⟨⟨r2,q0⟩,g0⟩:∃ N0,cU x.c.ask (a.aN q) t=N0:=⟨_,rfl⟩
       rw [g0] at p0;have o0:cU x.c.ask (a.aN ((o+done)/480)) t=(r2,q0):=by rw [hq];exact g0
       have l0:a.aN ((o+done)/480)≠0:=by rw [hq];exact K
       cases r2 with
       | bad cN=>
        have u:=ae ((Tu M l0 o0).symm.trans j0.out);clear K l0 g0 o0 n0 hq hr k;generalize a.aN q=v1 at *
        go_wp2_with fail
        (with_reducible refine c0.mono ?_)
        rintro e w6 ⟨rfl,rfl⟩
        go_wp2_with fail
        (with_reducible refine p0.mono ?_)
        rintro e w4 ⟨H,H0,d4,rfl,R⟩
        go_wp2_with fail
        exact ⟨rfl,E.out _ _ (by rw [D.out,<- u.out];exact ⟨H,i0.out.trans H0,dk.trans d4,rfl,(R.to (by ac_rfl:_=(aO c a*bs 5 (V (Z ⟨g,0,Y⟩) m m) A)*(aF x H q0*(aq H*G)))).right⟩)⟩
       | ok L=>
        have HL:=ae (iU g0);have u:=ae ((Um M l0 o0).symm.trans j0.out);rw [k,hr] at u;clear K l0 g0 o0 n0 hq hr k;generalize a.aN q=v1 at *
        go_wp2_with fail
        (with_reducible refine c0.mono ?_)
        rintro e w6 ⟨rfl,rfl⟩
        go_wp2_with fail
        (with_reducible refine p0.mono ?_)
        rintro e w4 ⟨H,v4,H0,d4,rfl,R⟩;unfold gi at R;obtain ⟨ga,ca,x1,rfl,a1,a2,a3,a4,a5,a6⟩:=nS R (by rw [HL.out];decide);obtain ⟨g',c',F0,e,k1,k2,k3,k4,k5,k6⟩:=nS (R.to (by ac_rfl:_=bs 5 (V (Z ⟨g,0,Y⟩) m m) A*(bs 5 (V (Z ⟨ga,0,Y⟩) L.length ca) L*(aF x H q0*(aq H*(aO c a*G)))))) (Nat.lt_of_le_of_lt (Nat.zero_le _) M);simp only [Value.slice.injEq,Option.some.injEq,Addr.mk.injEq] at e;obtain ⟨⟨rfl,-,-⟩,-,rfl⟩:=e;have b0:((L.drop r).take l).length=l:=by rw [Z1,List.length_drop,HL.out];omega
        have h7:=(k6 done ((L.drop r).take l) (by rw [b0,C.out];omega)).1
        have Z0:=fun ty=>run_copy_row (P:=U) w4 22 22 ty 5 g done l (m-done) ⟨ga,r,Y⟩ (480-r) (ca-r) F0 5 (((L.drop r).take l).map u8) underlying22 As k4
         (by rw [V1,b0];exact (Nat.min_eq_right (by omega)).symm)
         (fun e1 v hv=>by
          have hj:e1<l:=by rw [<- b0];simpa using (List.getElem?_eq_some_iff.1 hv).1
          rw [Addr.add_lit,(a5 (r+e1) (by rw [HL.out];omega)).1,<- hv,List.getElem?_map,B2,if_pos hj,List.getElem?_drop];rw [U1,H2 (by rw [HL.out];omega)];rfl)
         (by rw [V1,b0,k3];omega) (sJ _)
        generalize (F0.toList.take done++((L.drop r).take l).map u8++F0.toList.drop (done+(((L.drop r).take l).map u8).length)).toArray=RW at *;have f1:=ae Z0;have g1:=ae b0;have h8:=ae h7.ah.right;rw [HL.out] at a1 ⊢;clear p0 c0 R h7 Z0 b0 a2 a3 a4 a5 a6 k1 k2 k4 k5 k6
        go_wp2_with (refine fo (f1.out _) _ _ rfl rfl rfl rfl rfl ?_)
        go_roundw
        case rel=>exact ⟨done+l,f',putAt A done ((L.drop r).take l),q0,H,c1,by rw [gq (by rw [g1.out,C.out];omega)];exact C.out,by omega,by go_num,u.out,i0.out.trans H0,(dk.trans d4).setRow _ _,h8.out⟩
        case measure=>simp [intOf];omega
     .have M:A.length<=done:=by rw [C.out];omega
      have u:=ae ((OT (ask:=x.c.ask) (h:=a) (off:=o) (f:=G0) M t).symm.trans j0.out);clear M
      go_wp2_with fail
      refine E.out _ _ ?_;rw [D.out,<- u.out]
      exact ⟨p,_,i0.out,dk,rfl,by
       show ag wr (bs 5 _ A*_)
       exact (f0.to (by ac_rfl:_=aO c a*(bs 5 (V (Z ⟨g,0,Y⟩) m m) A*(aF x p t*(aq p*G))))).right⟩
  .have hT:T=(.bad 1,f):=by rw [<- Q.out];exact if_neg hz
   have F:=ae hT;clear hT Q
   by_cases T1:0<=off
   .have u1:decide (0<=d)=Y':=decide_eq_false (by omega)
    clear hz
    go_wp2_with fail
    (with_reducible refine (gK j).mono ?_)
    rintro e w4 ⟨rfl,rfl⟩
    go_wp2_with fail
    exact ⟨rfl,E.out _ _ (by rw [D.out,F.out];exact ⟨b,S,J,rfl,(O.out.to (by ac_rfl:_=aO c a*(aF x b f*(aq b*G)))).right⟩)⟩
   .have u1:off<0:=by omega
    clear hz
    go_wp2_with fail
    (with_reducible refine (gK j).mono ?_)
    rintro e w4 ⟨rfl,rfl⟩
    go_wp2_with fail
    exact ⟨rfl,E.out _ _ (by rw [D.out,F.out];exact ⟨b,S,J,rfl,(O.out.to (by ac_rfl:_=aO c a*(aF x b f*(aq b*G)))).right⟩)⟩
end
end Go.Proofs.Fs
