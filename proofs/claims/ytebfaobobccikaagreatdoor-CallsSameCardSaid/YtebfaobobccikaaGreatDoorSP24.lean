/- Steps. -/
import Derived.Test.YtebfaobobccikaaGreatDoorSP23
import Derived.Laws.StructEq
import Derived.Lib.SliceRun
set_option linter.all false
set_option maxRecDepth 99999
set_option maxHeartbeats 0
open Go.SL
open Go.Value renaming int->X,slice->V,pointer->W
open Go renaming World->Z'
open Go.Proofs.Tryz renaming prog->U
open Option renaming some->Z,none->Y
open Bool renaming false->Y'
open Go.Proofs.Tryz
open List renaming getD->W1,length_map->X1,replicate->Y1,length_append->D2,length_take->E2,getElem?_set->H2,getElem?_take->J2,getElem?_eq_getElem->M2,getElem?_append_left->O2,getElem?_append_right->P2
open Go.Value renaming int->Z1
open Array renaming getElem?_toList->K2,length_toList->N2
open Nat renaming mul_one->L2
open Int renaming tmod_eq_emod_of_nonneg->R2,tdiv_eq_ediv_of_nonneg->S2
namespace Go.SL
open RowKit
variable {l:List UInt8}
def putAt (l:List UInt8) (o:Nat) (d:List UInt8):List UInt8:=l.take o++d++l.drop (o+d.length)
theorem gF {o:Nat} {d:List UInt8} (h:o+d.length<=l.length):(putAt l o d).length=l.length:=by
 simp only [putAt,D2,E2,List.length_drop];omega
theorem Fj {n o:Nat} {b a xs:List Value} (d:b.take n=xs) (h:o+a.length<=n) (e:n<=b.length) :
  (b.take o++a++b.drop (o+a.length)).take n=xs.take o++a++xs.drop (o+a.length):=by
 subst d;have c:(b.take o++a).length=o+a.length:=by rw [D2,E2];omega
 rw [List.take_append,List.take_of_length_le (by omega),c,List.take_take,Nat.min_eq_left (by omega),List.drop_take]
theorem z7 (a:Array Value) (o:Nat) (b:List Value) (h:o+b.length<=a.size):gj a o b=(a.toList.take o++b++a.toList.drop (o+b.length)).toArray:=by
 apply Array.ext_getElem?;intro k;rw [jl _ _ _ _ h];have e:(a.toList.take o++b++a.toList.drop (o+b.length)).toArray[k]?=(a.toList.take o++b++a.toList.drop (o+b.length))[k]?:=by simp
 rw [e];have c:(a.toList.take o).length=o:=by rw [E2,N2];omega
 rcases Nat.lt_or_ge k o with d|d
 .rw [if_neg (by omega),List.append_assoc,O2 (by omega),J2,if_pos d,K2]
 .rcases Nat.lt_or_ge k (o+b.length) with f|f
  .rw [if_pos ⟨d,f⟩,List.append_assoc,P2 (by omega),c,O2 (by omega)]
  .rw [if_neg (by omega),P2 (by rw [D2,c];omega),D2,c,List.getElem?_drop,K2]
   congr 1;omega
theorem pG {w:Z'} {T:TypeId} {v:Value} {F:ai} (h:ag w (bs T v l*F)) (B:0<l.length) :
  ∃ g c a,v = V (Z ⟨g,0,Y⟩) l.length c/\l.length<=c/\c<=maxLen/\a.size=c/\w.heap[g]?=Z (.cells a T (0,0))/\(∀ j,j<l.length->w.cell? ⟨g,j,Y⟩=Z (u8 (l.getD j 0))/\w.frozen? ⟨g,j,Y⟩=Y') /\
   ∀ o d,o+d.length<=l.length->ag (w.setRow g (a.toList.take o++d.map u8++a.toList.drop (o+(d.map u8).length)).toArray) (bs T v (putAt l o d)*F)/\ag (w.setCells g o (d.map u8)) (bs T v (putAt l o d)*F):=by
 rcases h.dm with ⟨_,C,_⟩|⟨g,f,a,rfl,r,s,m,p,b⟩
 .omega
 .rw [L2] at m p
  refine ⟨g,f,a,rfl,r,s,m,b.heap,fun j q=>⟨?_,b.frozen j⟩,fun o d u=>?_⟩
  .rw [b.cell]
   have e:=congrArg (·[j]?) p;simp only [J2,q,if_true,List.getElem?_map,K2] at e;rw [e,M2 q,W1,M2 q];rfl
  .have z:(a.toList.take o++d.map u8++a.toList.drop (o+(d.map u8).length)).take l.length=(putAt l o d).map u8:=by
    rw [Fj p (by rw [X1];exact u) (by have:=N2 (xs:=a);omega)];simp only [putAt,List.map_append,List.map_take,List.map_drop,X1]
   have A:(a.toList.take o++d.map u8++a.toList.drop (o+(d.map u8).length)).length=f:=by grind
   have x:∀ k,ag k (pt g (.cells (a.toList.take o++d.map u8++a.toList.drop (o+(d.map u8).length)).toArray T (0,0))*F)->ag k (bs T (V (Z ⟨g,0,Y⟩) l.length f) (putAt l o d)*F):=by
    intro k y;have:=ag.oa (sz:=1) (n:=l.length) (cap:=f) y r s (by rw [L2];simpa using A);refine this.to ?_;rw [bs,gF u];congr 2;rw [L2];exact z
   refine ⟨x _ (b.setRow (cs':=_)),x _ ?_⟩;have t:=ag.setCells (d.map u8) o b;rw [z7 a o (d.map u8) (by rw [X1,m];omega)] at t;exact t
theorem qg:∀ (a b:List Int),a.length=b.length->((List.range a.length).all fun i=>a.getD i 0 == b.getD i 0)=(a == b)
 | [],[],_=>rfl
 | x :: a,y :: b,h=>by
  have c:=qg a b (by simpa using h);rw [List.length_cons,List.range_succ_eq_map,List.all_cons,List.all_map];simp only [List.getD_cons_zero,Function.comp_def,List.getD_cons_succ,c];simp [List.cons_beq_cons]
 | [],_ :: _,h=>by simp at h
 | _ :: _,[],h=>by simp at h
section
variable {P:Program} (w:Z')
theorem sD (d:Nat) (t e:TypeId) (n:Nat) (p:P.underlying t=Z (.array n e)) (c:P.underlying e=Z (.int .i64)) (o:∀ w,(sizeOf e).run P w = .ok 1 w)
  (a b:List Int) (k:a.length=n) (q:b.length=n) :
  (Op.equalIn (d+2) t (.agg (ints a)) (.agg (ints b))).run P w = .ok (a == b) w:=by
 rw [<- qg a b (k.trans q.symm),k,List.range_eq_range',Op.equalIn];simp only [Sem.run_bind,run_underlying p,Result.andThen_ok,o,Std.Legacy.Range.forIn_eq_forIn_range',Std.Legacy.Range.size,Nat.sub_zero,Nat.add_sub_cancel,Nat.div_one];have f:∀ i ∈ List.range' 0 n 1,i<n:=fun i g=>by simpa using (List.mem_range'_1.1 g).2
 generalize List.range' 0 n 1=l at f ⊢
 induction l with
 | nil=>simp
 | cons i l r=>
  have g:=f i (by simp)
  have u:(part e (ints a) (i*1)).run P w = .ok (X .i64 (a.getD i 0)) w:=by
   simp [part,isAgg,run_underlying c,bL (show i<a.length by omega)]
  have v:(part e (ints b) (i*1)).run P w = .ok (X .i64 (b.getD i 0)) w:=by
   simp [part,isAgg,run_underlying c,bL (show i<b.length by omega)]
  have s:(Op.equalIn (d+1) e (X .i64 (a.getD i 0)) (X .i64 (b.getD i 0))).run P w = .ok (a.getD i 0 == b.getD i 0) w:=run_equalIn_int w d e .i64 .i64 _ _ c;simp only [List.forIn_cons,Sem.run_bind,u,v,s,Result.andThen_ok,List.all_cons];cases x:(a.getD i 0 == b.getD i 0)
  .simp
  .simp only [Bool.not_true,Bool.false_eq_true,if_false,Sem.run_pure,Result.andThen_ok,Bool.true_and]
   exact r fun j m=>f j (by simp [m])
theorem zY (t e:TypeId) (n:Nat) (f:P.underlying t=Z (.array n e)) (c:P.underlying e=Z (.int .i64)) (d:∀ w,(sizeOf e).run P w = .ok 1 w)
  (a b:List Int) (g:a.length=n) (j:b.length=n) :
  (binOp .eql t (.agg (ints a)) (.agg (ints b))).run P w = .ok (.bool (a == b)) w:=by
 rw [run_eql_struct,sD w 9998 t e n f c d a b g j]
 rfl
end
section
variable {σ:Type}
def NQ (a:cO σ) (b:Int) (rest:Nat):WM σ Unit:=WM.bind (de a b) fun L=>bQ b (putAt L rest (zs (480-rest)))
def xP (b:cO σ) (h:Hd):WM σ Unit:=fun a=>
 if h.n.sz%480=0 then (.ok (),a) else if h.aO (h.n.sz/480).toNat=0 then (.ok (),a) else NQ b (h.aO (h.n.sz/480).toNat) (h.n.sz%480).toNat a
end
end Go.SL
namespace Go.Proofs.Fs
open RowKit SL Proofs.Ba
section
variable {σ α:Type}
theorem Sg (n:Nat):(zs n).map u8=Y1 n (X .u8 0):=by simp [zs,u8]
theorem PM (w:Z'):(zeroValue 5).run U w = .ok (X .u8 0) w:=by kernel_rfl
theorem AG (x:Wk σ) (hc:x.c.Ok) (w:Z') (S:Hp) (a:eP σ) (g:Nat) (h:Hd) (F:ai) (g0:0<=h.n.sz) (H0:h.n.sz<=122880) (M:ag w (aR g h*(aG x S a*(ak S*F)))) :
  Calls U 112 #[W (Z ⟨x.k,0,Y⟩),W (Z ⟨g,0,Y⟩)] w (WQ x jA S (aR g h*F) w (xP x.c.ask h a)):=by
 refine aH fun h0 Q=>?_;have k0:=(di M (j:=3) (by decide)).1;have c0:h.l.getD 3 0=h.n.sz:=rfl;rw [c0] at k0;have f0:h.n.sz.tmod 480=((h.n.sz%480).toNat:Int):=by rw [R2 g0];omega
 have m0:h.n.sz.tdiv 480=((h.n.sz/480).toNat:Int):=by rw [S2 g0];omega
 have y:=ae (M.to (by ac_rfl:_=aG x S a*(ak S*(aR g h*F))));have hW:∀ T,xP x.c.ask h a=T->∀ e u,WQ x jA S (aR g h*F) w T e u->h0 e u:=fun T f e u hq=>Q.out e u (by rw [f];exact hq);have p:=ae hW;clear c0 hW Q
 by_cases J:h.n.sz%480=0
 .have b:=ae (p.out (.ok (),a) (if_pos J))
  have G0:h.n.sz.tmod 480=0:=by rw [f0,J];rfl
  go_enter func112,ntmps112
  go_wp2_with fail
  go_end0
  exact b.out _ _ ⟨S,_,Ext.refl S,aj.refl w,rfl,ag.aq.2 ⟨rfl,y.out⟩⟩
 .have d0:(h.n.sz/480).toNat<256:=by omega
  have l:=oD w g h _ M (h.n.sz/480).toNat d0;have e0:((h.n.sz%480).toNat:Int)≠0:=by omega
  have n0:(((h.n.sz%480).toNat:Int) == 0)=Y':=by simpa using e0
  have o0:(h.n.sz%480).toNat<480:=by omega
  have m:xP x.c.ask h a=if h.aO (h.n.sz/480).toNat=0 then (.ok (),a) else NQ x.c.ask (h.aO (h.n.sz/480).toNat) (h.n.sz%480).toNat a:=if_neg J
  obtain ⟨r,p0⟩:∃ r,(h.n.sz%480).toNat=r:=⟨_,rfl⟩
  obtain ⟨q,l0⟩:∃ q,(h.n.sz/480).toNat=q:=⟨_,rfl⟩
  rw [p0] at f0 n0 o0 m e0;rw [l0] at m0 d0 l m;have F0:(q:Int)<256:=by omega
  have H:∀ T,NQ x.c.ask (h.aO q) r a=T->h.aO q≠0->xP x.c.ask h a=T:=fun T f c=>by rw [m,if_neg c,f]
  by_cases c:h.aO q=0
  .have b:=ae (p.out (.ok (),a) (by rw [m,if_pos c]))
   rw [c] at l
   go_enter func112,ntmps112
   go_wp2_with fail
   (refine l.mono ?_)
   rintro e o ⟨rfl,rfl⟩
   go_wp2_with fail
   go_end0
   exact b.out _ _ ⟨S,_,Ext.refl S,aj.refl w,rfl,ag.aq.2 ⟨rfl,y.out⟩⟩
  .have D0:(h.aO q == 0)=Y':=by simpa using c
   have K:=lT x hc w S a (h.aO q) _ y.out;obtain ⟨⟨r1,B⟩,k⟩:∃ r0,de x.c.ask (h.aO q) a=r0:=⟨_,rfl⟩
   rw [k] at K
   cases r1 with
   | bad R=>
    have b:=ae (p.out (.bad R,B) (H _ (WM.bk k) c));clear c m H k
    go_enter func112,ntmps112
    go_wp2_with fail
    (refine l.mono ?_)
    rintro e o ⟨rfl,rfl⟩
    go_wp2_with fail
    (refine K.mono ?_)
    rintro e o ⟨z,t,C,rfl,E⟩
    go_wp2_with fail
    exact ⟨rfl,b.out _ _ ⟨z,t,C,rfl,E⟩⟩
   | ok L=>
    have hL:=ji k;obtain ⟨T,f⟩:∃ T,bQ (h.aO q) (putAt L r (zs (480-r))) B=T:=⟨_,rfl⟩
    have b:=ae (p.out T (H _ ((WM.bd k).trans f) c));have d:=ae hL;generalize h.aO q=s0 at *
    go_enter func112,ntmps112
    go_wp2_with fail
    (refine l.mono ?_)
    rintro e o ⟨rfl,rfl⟩
    go_wp2_with fail
    (with_reducible refine K.mono ?_)
    rintro e o ⟨z,v,t,C,rfl,E⟩;obtain ⟨b0,i0,u0,rfl,k1,k2,k3,k4,k5,k6⟩:=pG E (by rw [d.out];decide);have q0:(zs (480-r)).length=480-r:=bq _;have s:=(k6 r (zs (480-r)) (by rw [q0,d.out];omega)).2;rw [Sg] at s;rw [d.out] at k1 ⊢
    have x0:=fun ty=>Lib.run_clear_slice (P:=U) o 22 5 ty (X .u8 0) underlying22 PM rfl rfl b0 r (480-r) (i0-r) (by omega)
     (fun j hj=>by rw [(k5 (r+j) (by rw [d.out];omega)).1];rfl) (fun j hj=>(k5 (r+j) (by rw [d.out];omega)).2)
    rw [d.out] at s;have N:=mE x _ z B s0 _ (putAt L r (zs (480-r))) _ (s.right) s.oI;rw [f] at N;have O:=ae (aj.setCells (Y1 (480-r) (X .u8 0)) r b0 C)
    go_wp2_with fail
    obtain ⟨r3,K0⟩:=T
    cases r3 with
    | bad R=>
     (with_reducible refine N.mono ?_)
     rintro e w4 ⟨A,I,D,rfl,G⟩
     go_wp2_with fail
     exact ⟨rfl,b.out _ _ ⟨A,t.trans I,O.out.trans D,rfl,G⟩⟩
    | ok L0=>
     (with_reducible refine N.mono ?_)
     rintro e w4 ⟨A,v4,I,D,rfl,G⟩;obtain ⟨rfl,h7⟩:=ag.aq.1 G
     go_wp2_with fail
     go_end0
     exact b.out _ _ ⟨A,_,t.trans I,O.out.trans D,rfl,ag.aq.2 ⟨rfl,h7⟩⟩
end
end Go.Proofs.Fs
namespace Go.SL
open RowKit
variable {size:Int}
section
variable {σ:Type}
def Hd.cR (h:Hd) (z:Int):Hd:={ h with n:={ h.n with sz:=z } }
def Hd.dK (h:Hd) (z:Int):Hd:={ h with n:={ h.n with rw:=z } }
theorem Hd.Gv {h:Hd} (a:h.fit) (z:Int):(h.dK z).l=h.l.set 20 z:=by
 have e:h.l=(h.id:Int) :: h.n.kd :: h.n.lk :: h.n.sz :: (h.n.dr++(h.n.rw :: h.row)):=by simp [Hd.l,Nd.l]
 have b:(h.dK z).l=(h.id:Int) :: h.n.kd :: h.n.lk :: h.n.sz :: (h.n.dr++(z :: h.row)):=by simp [Hd.l,Nd.l,Hd.dK]
 rw [e,b];simp only [List.set_cons_succ];rw [List.set_append,if_neg (by rw [a.1];decide),a.1]
 rfl
structure Hd.Vj (n:Nat) (h:Hd):Prop where
 fit:h.fit
 ze:0<=h.n.rw
 A6:h.n.rw<n
 pg:∀ i,i<256->0<=h.aO i/\h.aO i<n
theorem Hd.Ur.W5 {n:Nat} {h:Hd} (a:h.Ur n):h.Vj n:=⟨a.fit,a.ze,a.A6,fun _ b=>a.aO b⟩
theorem Hd.jE {h:Hd} (e:h.fit) {i:Nat} (f:i<256) (b:Int) (k:Nat):(h.put i b).aO k=if k=i then b else h.aO k:=by
 unfold Hd.put Hd.aO
 by_cases d:i<16
 .rw [if_pos d]
  by_cases a:k<16
  .rw [if_pos a,if_pos a]
   by_cases c:k=i
   .subst c;simp [W1,H2,e.1,d]
   .rw [if_neg c];simp [W1,H2,Ne.symm c]
  .rw [if_neg a,if_neg a,if_neg (by omega)]
 .rw [if_neg d]
  by_cases a:k<16
  .rw [if_pos a,if_pos a,if_neg (by omega)]
  .rw [if_neg a,if_neg a]
   by_cases c:k=i
   .subst c;simp [W1,H2,e.2,show k-16<240 by omega]
   .rw [if_neg c];simp [W1,H2,show ¬ i-16=k-16 by omega]
theorem Hd.ig (h:Hd) (i:Nat) (b:Int):(h.put i b).n.rw=h.n.rw:=by unfold Hd.put;split <;> rfl
theorem Hd.AY (h:Hd) (i:Nat) (b:Int):(h.put i b).n.sz=h.n.sz:=by unfold Hd.put;split <;> rfl
theorem Hd.OK (h:Hd) (i:Nat) (b:Int):(h.put i b).id=h.id:=by unfold Hd.put;split <;> rfl
theorem Hd.Vj.put {n:Nat} {h:Hd} (a:h.Vj n) {i:Nat} (e:i<256) {b:Int} (c:0<=b) (d:b<n):(h.put i b).Vj n:=
 ⟨Hd.uU a.fit i b,by rw [Hd.ig];exact a.ze,by rw [Hd.ig];exact a.A6,fun k f=>by
  rw [Hd.jE a.fit e]
  split
  .exact ⟨c,d⟩
  .exact a.pg k f⟩
def C9 (a:cO σ) (h:Hd):WM σ Unit:=WM.bind (xP a h) fun _=>ez h
def TL (a:cO σ) (b:Int) (h:Hd):WM σ Unit:=fun c=>
 if h.n.rw≠0/\h.row=Y1 240 0 then (WM.bind (cM a h.n.rw.toNat Y') fun _=>C9 a ((h.dK 0).cR b)) c else C9 a (h.cR b) c
def qE (a:cO σ) (b:Int):Nat->Hd->WM σ Unit
 | 0,h=>TL a b h
 | j+1,h=>fun c=>if h.aO (256-(j+1))=0 then qE a b j h c else (WM.bind (cM a (h.aO (256-(j+1))).toNat Y') fun _=>qE a b j (h.put (256-(j+1)) 0)) c
def mN (b:cO σ) (n:Nat) (node a:Int):WM σ Unit:=WM.bind (gv b n node) fun h c=>if 0<=a/\a<=122880 then qE b a (256-(bf a).toNat) h c else (.bad 1,c)
theorem Uh {a:cO σ} {h:Hd} {k:Nat} (f:k<256) (c:h.aO k=0) (b:eP σ):qE a size (256-k) h b=qE a size (256-(k+1)) h b:=by
 obtain ⟨j,d⟩:∃ j,256-k=j+1:=⟨255-k,by omega⟩
 have e:256-(j+1)=k:=by omega
 rw [d,show 256-(k+1)=j by omega];exact if_pos (by rw [e];exact c)
theorem Td {b:cO σ} {h:Hd} {k:Nat} (m:k<256) (f:h.aO k≠0) {d a:eP σ} {c:Int} (l:cM b (h.aO k).toNat Y' d=(.bad c,a)):qE b size (256-k) h d=(.bad c,a):=by
 obtain ⟨j,g⟩:∃ j,256-k=j+1:=⟨255-k,by omega⟩
 have e:256-(j+1)=k:=by omega
 rw [g];exact (if_neg (by rw [e];exact f)).trans (WM.bk (by rw [e];exact l))
theorem Sm {a:cO σ} {h:Hd} {k:Nat} (l:k<256) (d:h.aO k≠0) {c b:eP σ} (g:cM a (h.aO k).toNat Y' c=(.ok (),b)):qE a size (256-k) h c=qE a size (256-(k+1)) (h.put k 0) b:=by
 obtain ⟨j,f⟩:∃ j,256-k=j+1:=⟨255-k,by omega⟩
 have e:256-(j+1)=k:=by omega
 rw [f,show 256-(k+1)=j by omega];refine (if_neg (by rw [e];exact d)).trans ((WM.bd (by rw [e];exact g)).trans ?_);rw [e]
end
end Go.SL
namespace Go.Proofs.Fs
open RowKit SL Proofs.Ba
variable {o:Oper} {a:Act}
section
variable {σ α:Type}
theorem fR {P:Program} {b:Array Oper} {rest:List Oper} {w:Z'} {Q:Exit->Act->Z'->Prop} (d:Region.wanted o (yielded b a.tmps)=true)
  (h:∀ K:Act->Z'->Prop,(∀ a w,wpList P b Q rest a w->K a w)->o.wp P a w K Q):wpList P b Q (o :: rest) a w:=
 wpList_step fun K c=>by rw [if_pos d];exact h K c
theorem sK:prog.built 134 []=Z (ints eZ):=by
 obtain ⟨C,a⟩:=Option.isSome_iff_exists.1 CN;have:=yv;rw [a] at this;rw [a];exact congrArg Z this
theorem nQ {P:Program} {w:Z'} {K:Act->Z'->Prop} {Q:Exit->Act->Z'->Prop} (t:TypeId) (parts:Array (Nat × Operand)) (d:o.op = .build t parts)
  (l:List (Nat × Value)) (c:parts.toList.map (fun p=>(p.1,a.eval p.2))=l) (C:Array Value) (b:P.built t l=Z C) (h:K (a.put o.dst (.agg C)) w):o.wp P a w K Q:=by
 have e:P.built t (parts.map fun (i,x)=>(i,a.eval x)).toList=Z C:=by rw [Array.toList_map];exact c▸b
 exact wp_build t parts d (by rw [e];rfl) (by rw [e];exact h)
def NV (x:Wk σ) (n:Nat) (e:Int) (d:Nat) (S:Hp) (F:ai) (w:Z') (T:Rs Unit × eP σ) (u5:Value) (wr:Z'):Prop:=
 ∃ (k:Nat) (b:Hd) (c:eP σ) (a:Hp),k<=256/\u5 = X .i64 (k:Int)/\b.Vj n/\qE x.c.ask e (256-k) b c=T/\Ext S a/\aj w wr/\ag wr (aG x a c*(ak a*(aR d b*F)))
theorem Ja:∀ w,(sizeOf 3).run U w = .ok 1 w:=by intro w;kernel_rfl
theorem G8 {X0:Cx σ} (hc:X0.Ok) {n:Nat} (hn:n<=3840) (node b:Int) (nb sb:Nat):DE X0 n 109 #[W (Z ⟨nb,0,Y⟩),W (Z ⟨sb,0,Y⟩)] jA (bp nb node*bp sb b) (mN X0.ask n node b):=by
 intro x w H0 st L0 s1 t1 h;subst s1 t1;have cn:w.cell? ⟨nb,0,Y⟩=Z (X .i64 node):=(h.to (by ac_rfl:_=bp nb node*(bp sb b*(aG x H0 st*(ak H0*L0))))).cell 0;refine aH fun y1 q=>?_;have hl:=km x hc w H0 st node _ h;obtain ⟨⟨v1,aS⟩,hp⟩:∃ p,gv x.c.ask x.n node st=p:=⟨_,rfl⟩
 rw [hp] at hl;clear h;obtain ⟨G,hG⟩:∃ G,G=bp nb node*bp sb b*L0:=⟨_,rfl⟩
 rw [<- hG] at hl q;have HG:=ae hG
 cases v1 with
 | bad O=>
  have o:=ae (show mN x.c.ask x.n node b st=(.bad O,aS) from WM.bk hp);clear hp hG
  go_enter func109,ntmps109
  go_wp2_with fail
  (with_reducible refine hl.mono ?_)
  rintro e w2 ⟨y,hS,d2,rfl,h2⟩
  go_wp2_with fail
  exact ⟨rfl,q.out _ _ (by rw [o.out];exact ⟨y,hS,d2,rfl,h2⟩)⟩
 | ok hh=>
  have hI:=(tj hp).W5;have HI:=ae hI;obtain ⟨d0,M⟩:∃ d0,(fun st=>if 0<=b/\b<=122880 then qE x.c.ask b (256-(bf b).toNat) hh st else (.bad 1,st)) aS=d0:=⟨_,rfl⟩
  have o:=ae (show mN x.c.ask x.n node b st=d0 from (WM.bd hp).trans M);clear hp hI;have j1:=M;clear M hG
  have sG:∀ W0 P,ag W0 (P*G)->W0.cell? ⟨sb,0,Y⟩=Z (X .i64 b):=fun W0 P hW=>by
   rw [HG.out] at hW;exact (hW.to (by ac_rfl:_=bp sb b*(bp nb node*(L0*P)))).cell 0
  have SG:=ae sG;have S0:=ae j1;have Y0:=fun w=>xx w b
  go_enter func109,ntmps109
  go_wp2_with fail
  (with_reducible refine hl.mono ?_)
  rintro e w2 ⟨y,v,hS,d2,rfl,h2⟩;obtain ⟨c,rfl,h3⟩:=ag.qi h2;have h4:ag w2 (aG x y aS*(ak y*(aR c hh*G))):=h3.to (by ac_rfl);have cs:=SG.out w2 (aG x y aS*(ak y*(aR c hh))) (h4.to (by ac_rfl));have H4:=ae h4;clear h2 h3 hl cn j1 h4 sG
  by_cases hz:0<=b/\b<=122880
  .obtain ⟨z0,z1⟩:=hz
   have M:=S0.out;rw [if_pos ⟨z0,z1⟩] at M;have f1:0<=bf b/\bf b<=256:=by unfold bf;omega
   have HT:=ae M;have N0:=ae f1;clear M f1;have Z0:=Y0 w2;unfold nj at Z0;clear Y0
   go_wp2_with fail
   (with_reducible refine (gO w2).mono ?_)
   rintro e w3 ⟨rfl,rfl⟩
   go_wp2_with fail
   (with_reducible refine Z0.mono ?_)
   rintro e w3 ⟨rfl,rfl⟩;clear Z0 cs
   go_wp2_with fail
   go_loopw [5] (fun u5 wr=>NV x x.n b c H0 G w d0 u5 wr) (fun u5 _=>256-(intOf u5).toNat)
   case atStart=>exact ⟨(bf b).toNat,hh,aS,y,by have:=N0.out;omega,by rw [Int.toNat_of_nonneg N0.out.1],HI.out,HT.out,hS,d2,H4.out⟩
   case round=>
    obtain ⟨k,a,m,B,H1,rfl,g1,k1,i1,dk,D0⟩:=hrel;have G0:=ae k1;have A:=ae i1;have c0:=ae g1;clear H4 HT k1 i1 g1 N0;have N:=D0.to (by ac_rfl:_=aR c a*(aG x B m*(ak B*G)))
    by_cases i0:k<256
    .have K1:(k:Int)<256:=by omega
     have o0:=oD wr c a _ N k i0;unfold MI at o0
     by_cases h0:a.aO k=0
     .have d:=ae ((Uh i0 h0 m).symm.trans G0.out)
      rw [h0] at o0;clear h0 N
      go_wp2_with fail
      (with_reducible refine o0.mono ?_)
      rintro e w3 ⟨rfl,rfl⟩
      go_wp2_with fail
      go_roundw
      case rel=>exact ⟨k+1,a,m,B,by omega,by go_num,c0.out,d.out,A.out,dk,D0⟩
      case measure=>simp [intOf];omega
     .have h1:(a.aO k != 0)=true:=by simpa using h0
      obtain ⟨p0,p1⟩:=c0.out.pg k i0;have S:=j7 x hc wr B m (a.aO k) Y' _ p0 (by omega) D0;obtain ⟨⟨r2,T⟩,J⟩:∃ p,cM x.c.ask (a.aO k).toNat Y' m=p:=⟨_,rfl⟩
      rw [J] at S
      cases r2 with
      | bad O=>
       have d:=ae ((Td i0 h0 J).symm.trans G0.out);clear h0 J N p0 p1;generalize a.aO k=c1 at *
       go_wp2_with fail
       (with_reducible refine o0.mono ?_)
       rintro e w3 ⟨rfl,rfl⟩
       go_wp2_with fail
       (with_reducible refine S.mono ?_)
       rintro e w4 ⟨j,n0,d4,rfl,Q⟩
       go_wp2_with fail
       exact ⟨rfl,q.out _ _ (by rw [o.out,<- d.out];exact ⟨j,A.out.trans n0,dk.trans d4,rfl,(Q.to (by ac_rfl:_=aR c a*(aG x j T*(ak j*G)))).right⟩)⟩
      | ok w1=>
       have d:=ae ((Sm i0 h0 J).symm.trans G0.out);have n1:=ae (c0.out.put i0 (Int.le_refl 0) (by have:=c0.out.ze;have:=c0.out.A6;omega:(0:Int)<x.n));clear h0 J N p0 p1;generalize a.aO k=c1 at *
       go_wp2_with fail
       (with_reducible refine o0.mono ?_)
       rintro e w3 ⟨rfl,rfl⟩
       go_wp2_with fail
       (with_reducible refine S.mono ?_)
       rintro e w4 ⟨j,v4,n0,d4,rfl,Q⟩;obtain ⟨rfl,h7⟩:=ag.aq.1 Q;have q1:=rR w4 c a _ (h7.to (by ac_rfl:_=aR c a*(aG x j T*(ak j*G)))) k i0 0;clear S o0 Q
       go_wp2_with fail
       (with_reducible refine q1.mono ?_)
       rintro e w5 ⟨rfl,h8,l⟩
       go_wp2_with fail
       go_roundw
       case rel=>exact ⟨k+1,a.put k 0,T,j,by omega,by go_num,n1.out,d.out,A.out.trans n0,(dk.trans d4).trans l,h8.to (by ac_rfl)⟩
       case measure=>simp [intOf];omega
    .obtain rfl:k=256:=by omega
     have HR:=ae (show TL x.c.ask b a m=d0 from G0.out);have hf:=c0.out.fit;have Hf:=ae hf;have d1:wr.cell? ⟨c,20,Y⟩=Z (X .i64 a.n.rw):=si hf (ag.held.1 N).2;have V0:=ae (B0 hf (ag.held.1 N).2);have l1:(prog.info? 134).map (·.size)=Z (a.row.map (Z1 .i64)).length:=by rw [X1,hf.2];exact kQ
     have T0:=ae l1;clear l1 hf i0
     by_cases k0:a.n.rw=0
     .have s0:=ae (show C9 x.c.ask (a.cR b) m=d0 from (if_neg (by simp [k0])).symm.trans HR.out)
      rw [k0] at d1;clear k0;have I:=N;have e1:wr.cell? ⟨sb,0,Y⟩=Z (X .i64 b):=SG.out _ _ (I.to (by ac_rfl:_=(aR c (a)*(aG x B m*ak B))*G));have c3:=(di I (j:=3) (by decide)).1;have f3:=(di I (j:=3) (by decide)).2;have e0:=kM (h':=(a).cR b) I (j:=3) (z:=b) Hf.out rfl;have z:=ae ((dk).setCell ⟨c,3,Y⟩ (X .i64 b));have H:=AG x hc _ B m c ((a).cR b) _ z0 z1 e0;obtain ⟨⟨r5,u⟩,t⟩:∃ p,xP x.c.ask ((a).cR b) m=p:=⟨_,rfl⟩
      rw [t] at H;have b0:=ae H;generalize (a).l.getD 3 0=y3 at *;clear e0 H I
      go_wp2_with fail
      refine b0.out.mono ?_
      cases r5 with
      | bad O=>
       have d:=ae (s0.out.symm.trans (WM.bk t));rintro e m0 ⟨f,s,l,rfl,r⟩
       go_wp2_with fail
       exact ⟨rfl,q.out _ _ (by rw [o.out,d.out];exact ⟨f,A.out.trans s,z.out.trans l,rfl,(r.to (by ac_rfl:_=aR c ((a).cR b)*(aG x f u*(ak f*G)))).right⟩)⟩
      | ok u5=>
       have q0:=ae (s0.out.symm.trans (WM.bd t));rintro e m0 ⟨f,v5,s,l,rfl,r⟩;obtain ⟨rfl,f0⟩:=ag.aq.1 r;have L:=kn x m0 f u c ((a).cR b) _ (f0.to (by ac_rfl:_=aR c ((a).cR b)*(aG x f u*(ak f*G))));obtain ⟨⟨r6,l0⟩,K⟩:∃ p,ez ((a).cR b) u=p:=⟨_,rfl⟩
       rw [K] at L;have d:=ae (q0.out.trans K);clear t K r f0 b0
       cases r6 with
       | bad O=>
        go_wp2_with fail
        (with_reducible refine L.mono ?_)
        rintro e F0 ⟨g,F,C,rfl,D⟩
        go_wp2_with fail
        exact ⟨rfl,q.out _ _ (by rw [o.out,d.out];exact ⟨g,(A.out.trans s).trans F,(z.out.trans l).trans C,rfl,(D.to (by ac_rfl:_=aR c ((a).cR b)*(aG x g l0*(ak g*G)))).right⟩)⟩
       | ok u6=>
        go_wp2_with fail
        (with_reducible refine L.mono ?_)
        rintro e F0 ⟨g,v6,F,C,rfl,D⟩;obtain ⟨rfl,x0⟩:=ag.aq.1 D
        go_wp2_with fail
        go_end0
        exact q.out _ _ (by rw [o.out,d.out];exact ⟨g,_,(A.out.trans s).trans F,(z.out.trans l).trans C,rfl,ag.aq.2 ⟨rfl,(x0.to (by ac_rfl:_=aR c ((a).cR b)*(aG x g l0*(ak g*G)))).right⟩⟩)
     .have L1:(a.n.rw != 0)=true:=by simpa using k0
      have a1:=fun w=>zY (P:=U) w 134 3 240 underlying134 underlying3 Ja a.row eZ Hf.out.2 rfl;have o1:Value.agg (ints a.row) = .agg (a.row.map (Z1 .i64)).toArray:=rfl;rw [o1] at a1;have x1:True:=trivial
      cases g0:(a.row == eZ) with
      | false=>
       have m1:¬ (a.row=Y1 240 0):=by intro R;rw [R] at g0;simp [eZ] at g0
       have s0:=ae (show C9 x.c.ask (a.cR b) m=d0 from (if_neg (fun R=>m1 R.2)).symm.trans HR.out);rw [g0] at a1;clear k0 g0 m1;have I:=N;have e1:wr.cell? ⟨sb,0,Y⟩=Z (X .i64 b):=SG.out _ _ (I.to (by ac_rfl:_=(aR c (a)*(aG x B m*ak B))*G));have c3:=(di I (j:=3) (by decide)).1;have f3:=(di I (j:=3) (by decide)).2;have e0:=kM (h':=(a).cR b) I (j:=3) (z:=b) Hf.out rfl;have z:=ae ((dk).setCell ⟨c,3,Y⟩ (X .i64 b));have H:=AG x hc _ B m c ((a).cR b) _ z0 z1 e0;obtain ⟨⟨r5,u⟩,t⟩:∃ p,xP x.c.ask ((a).cR b) m=p:=⟨_,rfl⟩
       rw [t] at H;have b0:=ae H;generalize (a).l.getD 3 0=y3 at *;clear e0 H I
       go_wp2_with (first
        | (refine fR (by exact rfl) fun u0 E=>wp_load_mid 134 (.tmp 43) (by exact rfl) c 21 (by exact rfl) (a.row.map (Z1 .i64)) _ (by with_reducible exact V0.out) underlying134 rfl (by with_reducible exact T0.out) (E _ _ ?_))
        | (refine fR (by exact rfl) fun u0 E=>nQ 134 #[] (by exact rfl) [] (by exact rfl) (ints eZ) (by exact sK) (E _ _ ?_)))
       refine b0.out.mono ?_
       cases r5 with
       | bad O=>
        have d:=ae (s0.out.symm.trans (WM.bk t));rintro e m0 ⟨f,s,l,rfl,r⟩
        go_wp2_with fail
        exact ⟨rfl,q.out _ _ (by rw [o.out,d.out];exact ⟨f,A.out.trans s,z.out.trans l,rfl,(r.to (by ac_rfl:_=aR c ((a).cR b)*(aG x f u*(ak f*G)))).right⟩)⟩
       | ok u5=>
        have q0:=ae (s0.out.symm.trans (WM.bd t));rintro e m0 ⟨f,v5,s,l,rfl,r⟩;obtain ⟨rfl,f0⟩:=ag.aq.1 r;have L:=kn x m0 f u c ((a).cR b) _ (f0.to (by ac_rfl:_=aR c ((a).cR b)*(aG x f u*(ak f*G))));obtain ⟨⟨r6,l0⟩,K⟩:∃ p,ez ((a).cR b) u=p:=⟨_,rfl⟩
        rw [K] at L;have d:=ae (q0.out.trans K);clear t K r f0 b0
        cases r6 with
        | bad O=>
         go_wp2_with fail
         (with_reducible refine L.mono ?_)
         rintro e F0 ⟨g,F,C,rfl,D⟩
         go_wp2_with fail
         exact ⟨rfl,q.out _ _ (by rw [o.out,d.out];exact ⟨g,(A.out.trans s).trans F,(z.out.trans l).trans C,rfl,(D.to (by ac_rfl:_=aR c ((a).cR b)*(aG x g l0*(ak g*G)))).right⟩)⟩
        | ok u6=>
         go_wp2_with fail
         (with_reducible refine L.mono ?_)
         rintro e F0 ⟨g,v6,F,C,rfl,D⟩;obtain ⟨rfl,x0⟩:=ag.aq.1 D
         go_wp2_with fail
         go_end0
         exact q.out _ _ (by rw [o.out,d.out];exact ⟨g,_,(A.out.trans s).trans F,(z.out.trans l).trans C,rfl,ag.aq.2 ⟨rfl,(x0.to (by ac_rfl:_=aR c ((a).cR b)*(aG x g l0*(ak g*G)))).right⟩⟩)
      | true=>
       have b1:a.row=Y1 240 0:=by simpa [eZ] using g0
       obtain ⟨r0,r1⟩:0<=a.n.rw/\a.n.rw<3840:=⟨c0.out.ze,by have:=c0.out.A6;omega⟩
       have S:=j7 x hc wr B m a.n.rw Y' _ r0 r1 D0;obtain ⟨⟨r2,T⟩,J⟩:∃ p,cM x.c.ask a.n.rw.toNat Y' m=p:=⟨_,rfl⟩
       rw [J] at S;have K0:a.n.rw≠0/\a.row=Y1 240 0:=⟨k0,b1⟩
       rw [g0] at a1
       cases r2 with
       | bad O=>
        have d:=ae (HR.out.symm.trans ((if_pos K0).trans (WM.bk J)));clear k0 g0 K0 b1 J N r0 r1;have A1:=d1;generalize a.n.rw=c1 at *
        go_wp2_with (first
        | (refine fR (by exact rfl) fun u0 E=>wp_load_mid 134 (.tmp 43) (by exact rfl) c 21 (by exact rfl) (a.row.map (Z1 .i64)) _ (by with_reducible exact V0.out) underlying134 rfl (by with_reducible exact T0.out) (E _ _ ?_))
        | (refine fR (by exact rfl) fun u0 E=>nQ 134 #[] (by exact rfl) [] (by exact rfl) (ints eZ) (by exact sK) (E _ _ ?_)))
        (with_reducible refine S.mono ?_)
        rintro e w4 ⟨j,n0,d4,rfl,Q⟩
        go_wp2_with fail
        exact ⟨rfl,q.out _ _ (by rw [o.out,d.out];exact ⟨j,A.out.trans n0,dk.trans d4,rfl,(Q.to (by ac_rfl:_=aR c a*(aG x j T*(ak j*G)))).right⟩)⟩
       | ok w1=>
        have d:=ae (HR.out.symm.trans ((if_pos K0).trans (WM.bd J)));clear k0 g0 K0 b1 J N r0 r1;generalize a.n.rw=c1 at *
        go_wp2_with (first
        | (refine fR (by exact rfl) fun u0 E=>wp_load_mid 134 (.tmp 43) (by exact rfl) c 21 (by exact rfl) (a.row.map (Z1 .i64)) _ (by with_reducible exact V0.out) underlying134 rfl (by with_reducible exact T0.out) (E _ _ ?_))
        | (refine fR (by exact rfl) fun u0 E=>nQ 134 #[] (by exact rfl) [] (by exact rfl) (ints eZ) (by exact sK) (E _ _ ?_)))
        (with_reducible refine S.mono ?_)
        rintro e w4 ⟨j,v4,n0,d4,rfl,Q⟩;obtain ⟨rfl,h7⟩:=ag.aq.1 Q;have h8:=h7.to (by ac_rfl:_=aR c a*(aG x j T*(ak j*G)));have D1:=(di h8 (j:=20) (by decide)).1;have E1:=(di h8 (j:=20) (by decide)).2;generalize a.l.getD 20 0=N1 at *;have R:=kM (h':=a.dK 0) h8 (j:=20) (z:=0) Hf.out (Hd.Gv Hf.out 0);have D9:=(dk.trans d4).setCell ⟨c,20,Y⟩ (X .i64 0);have R0:=A.out.trans n0;clear Q h7 h8 S D0;have e1:=SG.out _ _ (R.to (by ac_rfl:_=(aR c (a.dK 0)*(aG x j T*ak j))*G));have c3:=(di R (j:=3) (by decide)).1;have f3:=(di R (j:=3) (by decide)).2;have e0:=kM (h':=(a.dK 0).cR b) R (j:=3) (z:=b) Hf.out rfl;have z:=ae ((D9).setCell ⟨c,3,Y⟩ (X .i64 b));have H:=AG x hc _ j T c ((a.dK 0).cR b) _ z0 z1 e0;obtain ⟨⟨r5,u⟩,t⟩:∃ p,xP x.c.ask ((a.dK 0).cR b) T=p:=⟨_,rfl⟩
        rw [t] at H;have b0:=ae H;clear e0 H R
        go_wp2_with fail
        refine b0.out.mono ?_
        cases r5 with
        | bad O=>
         have d:=ae (d.out.trans (WM.bk t));rintro e m0 ⟨f,s,l,rfl,r⟩
         go_wp2_with fail
         exact ⟨rfl,q.out _ _ (by rw [o.out,d.out];exact ⟨f,R0.trans s,z.out.trans l,rfl,(r.to (by ac_rfl:_=aR c ((a.dK 0).cR b)*(aG x f u*(ak f*G)))).right⟩)⟩
        | ok u5=>
         have q0:=ae (d.out.trans (WM.bd t));rintro e m0 ⟨f,v5,s,l,rfl,r⟩;obtain ⟨rfl,f0⟩:=ag.aq.1 r;have L:=kn x m0 f u c ((a.dK 0).cR b) _ (f0.to (by ac_rfl:_=aR c ((a.dK 0).cR b)*(aG x f u*(ak f*G))));obtain ⟨⟨r6,l0⟩,K⟩:∃ p,ez ((a.dK 0).cR b) u=p:=⟨_,rfl⟩
         rw [K] at L;have d:=ae (q0.out.trans K);clear t K r f0 b0
         cases r6 with
         | bad O=>
          go_wp2_with fail
          (with_reducible refine L.mono ?_)
          rintro e F0 ⟨g,F,C,rfl,D⟩
          go_wp2_with fail
          exact ⟨rfl,q.out _ _ (by rw [o.out,d.out];exact ⟨g,(R0.trans s).trans F,(z.out.trans l).trans C,rfl,(D.to (by ac_rfl:_=aR c ((a.dK 0).cR b)*(aG x g l0*(ak g*G)))).right⟩)⟩
         | ok u6=>
          go_wp2_with fail
          (with_reducible refine L.mono ?_)
          rintro e F0 ⟨g,v6,F,C,rfl,D⟩;obtain ⟨rfl,x0⟩:=ag.aq.1 D
          go_wp2_with fail
          go_end0
          exact q.out _ _ (by rw [o.out,d.out];exact ⟨g,_,(R0.trans s).trans F,(z.out.trans l).trans C,rfl,ag.aq.2 ⟨rfl,(x0.to (by ac_rfl:_=aR c ((a.dK 0).cR b)*(aG x g l0*(ak g*G)))).right⟩⟩)
  .have M:d0=(.bad 1,aS):=by rw [<- S0.out];exact if_neg hz
   have HT:=ae M;clear M S0 Y0
   by_cases M1:0<=b
   .have u1:decide (b<=122880)=Y':=decide_eq_false (by omega)
    clear hz
    go_wp2_with fail
    (with_reducible refine (gX w2).mono ?_)
    rintro e w4 ⟨rfl,rfl⟩
    go_wp2_with fail
    exact ⟨rfl,q.out _ _ (by rw [o.out,HT.out];exact ⟨y,hS,d2,rfl,(H4.out.to (by ac_rfl:_=aR c hh*(aG x y aS*(ak y*G)))).right⟩)⟩
   .have u1:b<0:=by omega
    clear hz
    go_wp2_with fail
    (with_reducible refine (gX w2).mono ?_)
    rintro e w4 ⟨rfl,rfl⟩
    go_wp2_with fail
    exact ⟨rfl,q.out _ _ (by rw [o.out,HT.out];exact ⟨y,hS,d2,rfl,(H4.out.to (by ac_rfl:_=aR c hh*(aG x y aS*(ak y*G)))).right⟩)⟩
end
end Go.Proofs.Fs
namespace Go.SL
open RowKit
variable {A:List UInt8}
section
variable {σ:Type}
def iU (m a:Nat):Nat:=min m (480-a%480)
def DH (ask:cO σ) (h:Hd) (off:Nat):Nat->Nat->List UInt8->WM σ (List UInt8)
  | 0,_,A=>WM.pure A
  | f+1,done,A=>fun a=>
    if done<A.length then
      (if h.aO ((off+done)/480)=0 then DH ask h off f (done+iU (A.length-done) (off+done)) A a
       else (WM.bind (de ask (h.aO ((off+done)/480))) fun L=>DH ask h off f (done+iU (A.length-done) (off+done)) (putAt A done ((L.drop ((off+done)%480)).take (iU (A.length-done) (off+done))))) a)
    else (.ok A,a)
def Ou (ask:cO σ) (off a:Int) (h:Hd):WM σ (List UInt8):=fun b=>
 if 0<=off/\0<=a then (if h.n.sz<=off then (.ok [],b) else DH ask h off.toNat (min a (h.n.sz-off)).toNat 0 (zs (min a (h.n.sz-off)).toNat) b) else (.bad 1,b)
def jZ (ask:cO σ) (n:Nat) (node off a:Int):WM σ (List UInt8):=WM.bind (gv ask n node) (Ou ask off a)
theorem QU {ask:cO σ} {h:Hd} {off f done:Nat} (b:A.length<=done) (a:eP σ):DH ask h off f done A a=(.ok A,a):=by
 cases f with
 | zero=>rfl
 | succ f=>exact if_neg (by omega)
theorem Rx {ask:cO σ} {h:Hd} {off f done:Nat} (c:done<A.length) (b:h.aO ((off+done)/480)=0) (a:eP σ) :
  DH ask h off (f+1) done A a=DH ask h off f (done+iU (A.length-done) (off+done)) A a:=(if_pos c).trans (if_pos b)
theorem VO {ask:cO σ} {h:Hd} {off f done:Nat} (e:done<A.length) (d:h.aO ((off+done)/480)≠0) {b a:eP σ} {c:Int} (g:de ask (h.aO ((off+done)/480)) b=(.bad c,a)) :
  DH ask h off (f+1) done A b=(.bad c,a):=(if_pos e).trans ((if_neg d).trans (WM.bk g))
theorem U9 {ask:cO σ} {h:Hd} {off f done:Nat} (d:done<A.length) (c:h.aO ((off+done)/480)≠0) {b a:eP σ} {L:List UInt8} (e:de ask (h.aO ((off+done)/480)) b=(.ok L,a)) :
  DH ask h off (f+1) done A b=DH ask h off f (done+iU (A.length-done) (off+done)) (putAt A done ((L.drop ((off+done)%480)).take (iU (A.length-done) (off+done)))) a:=(if_pos d).trans ((if_neg c).trans (WM.bd e))
end
end Go.SL
namespace Go.Proofs.Fs
open RowKit SL Proofs.Ba
section
variable {σ α:Type}
theorem Bp:(prog.info? 5).map (·.size)=Z 1:=by kernel_rfl
def Uu (x:Wk σ) (d:Nat) (b:Hd) (off m g:Nat) (S:Hp) (F:ai) (w:Z') (T:Rs (List UInt8) × eP σ) (e:Value) (wr:Z'):Prop:=
 ∃ (done f:Nat) (A:List UInt8) (c:eP σ) (a:Hp),done<=m/\A.length=m/\m-done<=f/\e = X .i64 (done:Int)/\DH x.c.ask b off f done A c=T/\Ext S a/\aj w wr /\
  ag wr (bs 5 (V (Z ⟨g,0,Y⟩) m m) A*(aG x a c*(ak a*(aR d b*F))))
theorem Eg {u0:Cx σ} (hc:u0.Ok) {n:Nat} (hn:n<=3840) (node off d:Int) (B s y:Nat) :
  DE u0 n 164 #[W (Z ⟨B,0,Y⟩),W (Z ⟨s,0,Y⟩),W (Z ⟨y,0,Y⟩)] gw (bp B node*(bp s off*bp y d)) (jZ u0.ask n node off d):=by
 intro x w l0 st h0 t1 u1 h;subst t1 u1;have cn:w.cell? ⟨B,0,Y⟩=Z (X .i64 node):=(h.to (by ac_rfl:_=bp B node*((bp s off*bp y d)*(aG x l0 st*(ak l0*h0))))).cell 0;show Calls U 164 #[W (Z ⟨x.k,0,Y⟩),W (Z ⟨B,0,Y⟩),W (Z ⟨s,0,Y⟩),W (Z ⟨y,0,Y⟩)] w _
 refine aH fun x1 E=>?_;have k:=km x hc w l0 st node _ h;obtain ⟨⟨r,f⟩,hp⟩:∃ R0,gv x.c.ask x.n node st=R0:=⟨_,rfl⟩
 rw [hp] at k;clear h;obtain ⟨G,hG⟩:∃ G,G=bp B node*(bp s off*bp y d)*h0:=⟨_,rfl⟩
 rw [<- hG] at k E;have HG:=ae hG
 cases r with
 | bad cN=>
  have D:=ae (show jZ x.c.ask x.n node off d st=(.bad cN,f) from WM.bk hp);clear hp hG
  go_enter func164,ntmps164
  go_wp2_with fail
  (with_reducible refine k.mono ?_)
  rintro e j ⟨b,S,J,rfl,h2⟩
  go_wp2_with fail
  exact ⟨rfl,E.out _ _ (by rw [D.out];exact ⟨b,S,J,rfl,h2⟩)⟩
 | ok a=>
  have N0:=Nd.rp (tj hp).ok;obtain ⟨s0,s1⟩:0<=a.n.sz/\a.n.sz<=122880:=⟨N0.2.2.2.1,N0.2.2.2.2.1⟩
  obtain ⟨T,hT⟩:∃ T,Ou x.c.ask off d a f=T:=⟨_,rfl⟩
  have D:=ae (show jZ x.c.ask x.n node off d st=T from (WM.bd hp).trans hT);have Q:=ae hT;clear hp hG N0 hT
  have sO:∀ I P,ag I (P*G)->I.cell? ⟨s,0,Y⟩=Z (X .i64 off):=fun I P hW=>by
   rw [HG.out] at hW;exact (hW.to (by ac_rfl:_=bp s off*(bp B node*(bp y d*(h0*P))))).cell 0
  have sC:∀ I P,ag I (P*G)->I.cell? ⟨y,0,Y⟩=Z (X .i64 d):=fun I P hW=>by
   rw [HG.out] at hW;exact (hW.to (by ac_rfl:_=bp y d*(bp B node*(bp s off*(h0*P))))).cell 0
  have SO:=ae sO;have SC:=ae sC;clear sO sC
  go_enter func164,ntmps164
  go_wp2_with fail
  (with_reducible refine k.mono ?_)
  rintro e j ⟨b,v,S,J,rfl,h2⟩;obtain ⟨c,rfl,h3⟩:=ag.qi h2;have h4:ag j (aG x b f*(ak b*(aR c a*G))):=h3.to (by ac_rfl);have co:=SO.out j (aG x b f*(ak b*(aR c a))) (h4.to (by ac_rfl));have cc:=SC.out j (aG x b f*(ak b*(aR c a))) (h4.to (by ac_rfl));have c3:=(di h3 (j:=3) (by decide)).1;rw [show a.l.getD 3 0=a.n.sz from rfl] at c3;have O:=ae h4;clear h2 h3 k cn h4
  by_cases hz:0<=off/\0<=d
  .obtain ⟨z0,z1⟩:=hz
   by_cases n0:a.n.sz<=off
   .have e0:T=(.ok [],f):=by rw [<- Q.out];exact (if_pos ⟨z0,z1⟩).trans (if_pos n0)
    have F:=ae e0;clear e0 Q
    go_wp2_with fail
    (with_reducible refine (gO j).mono ?_)
    rintro e N ⟨rfl,rfl⟩
    go_wp2_with fail
    go_region_held3 (fun z=>z.cell? ⟨s,0,Y⟩=Z (X .i64 off)/\z.cell? ⟨c,3,Y⟩=Z (X .i64 a.n.sz)) (first|exact ⟨co,c3⟩|go_keep) (fail)
    all_goals
     clear co cc c3
     go_wp2_with fail
     refine E.out _ _ ?_;rw [D.out,F.out];have h9:ag j.drew (gw [] (V Y 0 0)*(aG x b f*(ak b*(aR c a*G)))):=(O.out.drew.fq 5 1)
     exact ⟨b,_,S,J.drew,rfl,(h9.to (by ac_rfl:_=aR c a*(gw [] (V Y 0 0)*(aG x b f*(ak b*G))))).right⟩
   .have L0:off<a.n.sz:=by omega
    obtain ⟨m,hm⟩:∃ m,(min d (a.n.sz-off)).toNat=m:=⟨_,rfl⟩
    obtain ⟨o,ho⟩:∃ o:Nat,off=(o:Int):=⟨off.toNat,by omega⟩
    have e0:DH x.c.ask a o m 0 (zs m) f=T:=by
     rw [<- Q.out];refine Eq.symm ((if_pos ⟨z0,z1⟩).trans ((if_neg n0).trans ?_));rw [hm,ho,Int.toNat_natCast]
    have p1:min d (a.n.sz-off)=(m:Int):=by omega
    have M1:(o:Int)+m<=122880:=by omega
    have F:=ae e0;have e1:∀ w,(Instr.makeSlice 22 (X .i64 (m:Int)) (X .i64 (m:Int))).run U w = .ok (V (Z ⟨w.heap.size,0,Y⟩) m m) (w.alloc (.cells (eA (zs m)) 5 (0,0))):=fB m (by omega);have hB:=pH m (by omega) (O.out.drew.drew);have o1:¬ (a.n.sz<=off):=n0;subst ho;clear e0 Q hm n0;obtain ⟨ZB,Z0⟩:∃ l1,l1=eA (zs m):=⟨_,rfl⟩
    rw [<- Z0] at e1 hB;clear Z0
    go_wp2_with fail
    (with_reducible refine (gO j).mono ?_)
    rintro e N ⟨rfl,rfl⟩
    go_wp2_with fail
    go_region_held3 (fun z=>z.cell? ⟨s,0,Y⟩=Z (X .i64 (o:Int))/\z.cell? ⟨c,3,Y⟩=Z (X .i64 a.n.sz)) (first|exact ⟨co,c3⟩|go_keep) (fail)
    rename_i d0;have c1:decide (a.n.sz<=(o:Int))=Y':=decide_eq_false (by omega);have H5:=ae O.out.drew;have D5:=ae J.drew;have F0:=SO.out j.drew (aG x b f*(ak b*(aR c a))) (H5.out.to (by ac_rfl));have D0:=SC.out j.drew (aG x b f*(ak b*(aR c a))) (H5.out.to (by ac_rfl));have x0:j.drew.cell? ⟨c,3,Y⟩=Z (X .i64 a.n.sz):=d0.2;clear d0 co cc c3 O J;generalize j.drew=N at *;rw [c1];clear c1
    go_wp2_with fail
    have r1:(if IntKind.i64.wrap (a.n.sz-(o:Int))<d then IntKind.i64.wrap (a.n.sz-(o:Int)) else d)=(m:Int):=by
     have e:IntKind.i64.wrap (a.n.sz-(o:Int))=a.n.sz-(o:Int):=by rw [IntKind.wrap_i64];omega
     rw [e];split <;> omega
    refine wp_region_held_drew (S:=(fun z=>z.cell? ⟨s,0,Y⟩=Z (X .i64 (o:Int))/\z.cell? ⟨y,0,Y⟩=Z (X .i64 d)/\z.cell? ⟨c,3,Y⟩=Z (X .i64 a.n.sz))) (by kernel_rfl) ?_ (fun d0=>?_)
    ·(first|exact ⟨F0,D0,x0⟩|go_keep)
    refine tk 0 ?_;refine tk 1 ?_;refine tk 2 ?_;refine tk 3 ?_;refine tk 4 ?_;refine tk 5 ?_;refine tk 6 ?_;refine tk 7 ?_;refine wpAnyH_take (i:=8) (v:=X .i64 (m:Int)) rfl (by kernel_rfl) (by kernel_rfl) (by kernel_rfl) (fun _ _ _ h=>h) (Or.inl ⟨by kernel_rfl,?_⟩) (by assumption) ?_
    .intro w n1;(try dsimp only at n1);go_simp
    try simp only [List.getElem_toArray,List.getElem_cons_succ,List.getElem_cons_zero,Act.put,List.setIfInBounds_toArray,List.set_cons_zero,List.set_cons_succ]
    refine tr 9 fun j1 hK=>?_
    go_simp
    refine hK.out _ _ ?_ (fun d0=>?_)
    ·(first|exact ⟨F0,D0,x0⟩|go_keep)
    clear hK j1;refine tk 10 ?_;refine wpAnyH_done (by kernel_rfl) ?_ _;rename_i m1;rw [show IntKind.i64.wrap (a.n.sz-(o:Int))=a.n.sz-(o:Int) from by rw [IntKind.wrap_i64];omega];have D6:aj w (N.alloc (.cells ZB 5 (0,0))).drew:=D5.out.drew.alloc (.cells ZB 5 (0,0));have W0:ag (N.alloc (.cells ZB 5 (0,0))).drew (bs 5 (V (Z ⟨N.heap.size,0,Y⟩) m m) (zs m)*(aG x b f*(ak b*(aR c a*G)))):=hB;clear d0 m1 hB F0 D0 x0 e1 r1 H5 D5;generalize (N.alloc (.cells ZB 5 (0,0))).drew=w5 at *;generalize N.heap.size=g at *;have T0:=ae W0;have L1:(m:Int)<=122880:=by omega
    have O1:(o:Int)<=122880:=by omega
    have K1:0<=(m:Int):=by omega
    clear W0 SC p1 o1 L0 z1
    go_wp2_with fail
    go_loopw [8] (fun S0 wr=>Uu x c a o m g l0 G w T S0 wr) (fun S0 _=>m-(intOf S0).toNat)
    case atStart=>exact ⟨0,m,zs m,f,b,Nat.zero_le _,bq m,Nat.le_refl _,rfl,F.out,S,D6,T0.out⟩
    case round=>
     obtain ⟨done,H0,A,t,p,A1,V0,hf,rfl,Y0,X0,dk,f0⟩:=hrel;have k0:=ae Y0;have i0:=ae X0;have C:=ae V0;clear T0 F Y0 X0 V0 D6
     by_cases L0:done<m
     .have H1:(done:Int)<(m:Int):=by omega
      obtain ⟨f',rfl⟩:∃ f',H0=f'+1:=⟨H0-1,by omega⟩
      have M:done<A.length:=by rw [C.out];exact L0
      have co:=SO.out wr (bs 5 (V (Z ⟨g,0,Y⟩) m m) A*(aG x p t*(ak p*(aR c a)))) (f0.to (by ac_rfl));obtain ⟨l,k⟩:∃ l,iU (A.length-done) (o+done)=l:=⟨_,rfl⟩
      have o0:l=min (m-done) (480-(o+done)%480):=by rw [<- k,C.out];rfl
      obtain ⟨q,hq⟩:∃ q,(o+done)/480=q:=⟨_,rfl⟩
      obtain ⟨r,hr⟩:∃ r,(o+done)%480=r:=⟨_,rfl⟩
      have q1:q<256:=by omega
      have S1:r<480:=by omega
      rw [hr] at o0;have D1:1<=l:=by omega
      have d1:done+l<=m:=by omega
      have E1:r+l<=480:=by omega
      have R1:((o:Int)+(done:Int)).tdiv 480=(q:Int):=by rw [S2 (by omega)];omega
      have T1:((o:Int)+(done:Int)).tmod 480=(r:Int):=by rw [R2 (by omega)];omega
      have N1:(if (480:Int)-(r:Int)<((m-done:Nat):Int) then (480:Int)-(r:Int) else ((m-done:Nat):Int))=(l:Int):=by split <;> omega
      have U1:(m:Int)-(done:Int)=((m-done:Nat):Int):=by omega
      have c0:=oD wr c a _ (f0.to (by ac_rfl:_=aR c a*(bs 5 (V (Z ⟨g,0,Y⟩) m m) A*(aG x p t*(ak p*G))))) q q1;unfold MI at c0
      by_cases K:a.aO q=0
      .have u:=ae ((Rx M (by rw [hq];exact K) t).symm.trans k0.out)
       rw [k] at u;rw [K] at c0;clear K o0 hq hr k
       go_wp2_with fail
       (with_reducible refine c0.mono ?_)
       rintro e w6 ⟨rfl,rfl⟩
       go_wp2_with fail
       go_roundw
       case rel=>exact ⟨done+l,f',A,t,p,d1,C.out,by omega,by go_num,u.out,i0.out,dk,f0⟩
       case measure=>simp [intOf];omega
      .have h1:(a.aO q != 0)=true:=by simpa using K
       have q0:=lT x hc wr p t (a.aO q) _ (f0.to (by ac_rfl:_=aG x p t*(ak p*(aR c a*(bs 5 (V (Z ⟨g,0,Y⟩) m m) A*G)))));obtain ⟨⟨r2,r0⟩,g0⟩:∃ R0,de x.c.ask (a.aO q) t=R0:=⟨_,rfl⟩
       rw [g0] at q0;have p0:de x.c.ask (a.aO ((o+done)/480)) t=(r2,r0):=by rw [hq];exact g0
       have m0:a.aO ((o+done)/480)≠0:=by rw [hq];exact K
       cases r2 with
       | bad cN=>
        have u:=ae ((VO M m0 p0).symm.trans k0.out);clear K m0 g0 p0 o0 hq hr k;generalize a.aO q=w1 at *
        go_wp2_with fail
        (with_reducible refine c0.mono ?_)
        rintro e w6 ⟨rfl,rfl⟩
        go_wp2_with fail
        (with_reducible refine q0.mono ?_)
        rintro e w4 ⟨H,K0,d4,rfl,R⟩
        go_wp2_with fail
        exact ⟨rfl,E.out _ _ (by rw [D.out,<- u.out];exact ⟨H,i0.out.trans K0,dk.trans d4,rfl,(R.to (by ac_rfl:_=(aR c a*bs 5 (V (Z ⟨g,0,Y⟩) m m) A)*(aG x H r0*(ak H*G)))).right⟩)⟩
       | ok L=>
        have HL:=ae (ji g0);have u:=ae ((U9 M m0 p0).symm.trans k0.out);rw [k,hr] at u;clear K m0 g0 p0 o0 hq hr k;generalize a.aO q=w1 at *
        go_wp2_with fail
        (with_reducible refine c0.mono ?_)
        rintro e w6 ⟨rfl,rfl⟩
        go_wp2_with fail
        (with_reducible refine q0.mono ?_)
        rintro e w4 ⟨H,v4,K0,d4,rfl,R⟩;unfold gw at R;obtain ⟨ga,ca,y1,rfl,a1,a2,a3,a4,a5,a6⟩:=pG R (by rw [HL.out];decide);obtain ⟨g',c',G0,e,k1,k2,k3,k4,k5,k6⟩:=pG (R.to (by ac_rfl:_=bs 5 (V (Z ⟨g,0,Y⟩) m m) A*(bs 5 (V (Z ⟨ga,0,Y⟩) L.length ca) L*(aG x H r0*(ak H*(aR c a*G)))))) (Nat.lt_of_le_of_lt (Nat.zero_le _) M);simp only [Value.slice.injEq,Option.some.injEq,Addr.mk.injEq] at e;obtain ⟨⟨rfl,-,-⟩,-,rfl⟩:=e;have b0:((L.drop r).take l).length=l:=by rw [E2,List.length_drop,HL.out];omega
        have h7:=(k6 done ((L.drop r).take l) (by rw [b0,C.out];omega)).1
        have b1:=fun ty=>run_copy_row (P:=U) w4 22 22 ty 5 g done l (m-done) ⟨ga,r,Y⟩ (480-r) (ca-r) G0 5 (((L.drop r).take l).map u8) underlying22 Bp k4
         (by rw [X1,b0];exact (Nat.min_eq_right (by omega)).symm)
         (fun f1 v hv=>by
          have hj:f1<l:=by rw [<- b0];simpa using (List.getElem?_eq_some_iff.1 hv).1
          rw [Addr.add_lit,(a5 (r+f1) (by rw [HL.out];omega)).1,<- hv,List.getElem?_map,J2,if_pos hj,List.getElem?_drop];rw [W1,M2 (by rw [HL.out];omega)];rfl)
         (by rw [X1,b0,k3];omega) (s6 _)
        generalize (G0.toList.take done++((L.drop r).take l).map u8++G0.toList.drop (done+(((L.drop r).take l).map u8).length)).toArray=RW at *;have g1:=ae b1;have i1:=ae b0;have h8:=ae h7.ah.right;rw [HL.out] at a1 ⊢;clear q0 c0 R h7 b1 b0 a2 a3 a4 a5 a6 k1 k2 k4 k5 k6
        go_wp2_with (refine fH (g1.out _) _ _ rfl rfl rfl rfl rfl ?_)
        go_roundw
        case rel=>exact ⟨done+l,f',putAt A done ((L.drop r).take l),r0,H,d1,by rw [gF (by rw [i1.out,C.out];omega)];exact C.out,by omega,by go_num,u.out,i0.out.trans K0,(dk.trans d4).setRow _ _,h8.out⟩
        case measure=>simp [intOf];omega
     .have M:A.length<=done:=by rw [C.out];omega
      have u:=ae ((QU (ask:=x.c.ask) (h:=a) (off:=o) (f:=H0) M t).symm.trans k0.out);clear M
      go_wp2_with fail
      refine E.out _ _ ?_;rw [D.out,<- u.out]
      exact ⟨p,_,i0.out,dk,rfl,by
       show ag wr (bs 5 _ A*_)
       exact (f0.to (by ac_rfl:_=aR c a*(bs 5 (V (Z ⟨g,0,Y⟩) m m) A*(aG x p t*(ak p*G))))).right⟩
  .have hT:T=(.bad 1,f):=by rw [<- Q.out];exact if_neg hz
   have F:=ae hT;clear hT Q
   by_cases V1:0<=off
   .have v1:decide (0<=d)=Y':=decide_eq_false (by omega)
    clear hz
    go_wp2_with fail
    (with_reducible refine (gX j).mono ?_)
    rintro e w4 ⟨rfl,rfl⟩
    go_wp2_with fail
    exact ⟨rfl,E.out _ _ (by rw [D.out,F.out];exact ⟨b,S,J,rfl,(O.out.to (by ac_rfl:_=aR c a*(aG x b f*(ak b*G)))).right⟩)⟩
   .have v1:off<0:=by omega
    clear hz
    go_wp2_with fail
    (with_reducible refine (gX j).mono ?_)
    rintro e w4 ⟨rfl,rfl⟩
    go_wp2_with fail
    exact ⟨rfl,E.out _ _ (by rw [D.out,F.out];exact ⟨b,S,J,rfl,(O.out.to (by ac_rfl:_=aR c a*(aG x b f*(ak b*G)))).right⟩)⟩
end
end Go.Proofs.Fs
