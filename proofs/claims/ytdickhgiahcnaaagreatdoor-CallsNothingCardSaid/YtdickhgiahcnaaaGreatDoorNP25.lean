/- Steps. -/
import Derived.Test.YtdickhgiahcnaaaGreatDoorNP24
import Derived.Laws.StructEq
import Derived.Lib.SliceRun
set_option linter.all false
set_option maxRecDepth 99999
set_option maxHeartbeats 0
open Go.SL
open Go.Value renaming int->X,slice->U,pointer->V
open Go.IntKind renaming i64->W
open Go renaming World->Z'
open Go.Proofs.Tryz renaming prog->T
open Option renaming some->Z,none->Y
open Bool renaming false->Y'
open Go.Proofs.Tryz
open List renaming getD->A3,length_map->A2,replicate->B3,length_append->D8,length_take->D7,getElem?_set->D4,getElem?_take->D3,getElem?_eq_getElem->E2,getElem?_append_left->H9,getElem?_append_right->H8
open Go.Value renaming int->B2
open Array renaming getElem?_toList->D2,length_toList->G3
open Nat renaming mul_one->E5
open Int renaming tmod_eq_emod_of_nonneg->H7,tdiv_eq_ediv_of_nonneg->H6
namespace Go.SL
open RowKit
variable {l:List UInt8}
def putAt (l:List UInt8) (o:Nat) (d:List UInt8):List UInt8:=l.take o++d++l.drop (o+d.length)
def gv {o:Nat} {d:List UInt8} (h:o+d.length<=l.length):(putAt l o d).length=l.length:=by
 simp only [putAt,D8,D7,List.length_drop];omega
def EJ {n o:Nat} {b a xs:List Value} (d:b.take n=xs) (h:o+a.length<=n) (e:n<=b.length) :
  (b.take o++a++b.drop (o+a.length)).take n=xs.take o++a++xs.drop (o+a.length):=by
 subst d;have c:(b.take o++a).length=o+a.length:=by rw [D8,D7];omega
 rw [List.take_append,List.take_of_length_le Om0,c,List.take_take,Nat.min_eq_left Om0,List.drop_take]
def Av (a:Array Value) (o:Nat) (b:List Value) (h:o+b.length<=a.size):fT a o b=(a.toList.take o++b++a.toList.drop (o+b.length)).toArray:=by
 apply Array.ext_getElem?;intro k;rw [iS _ _ _ _ h];have e:(a.toList.take o++b++a.toList.drop (o+b.length)).toArray[k]?=(a.toList.take o++b++a.toList.drop (o+b.length))[k]?:=Si0
 rw [e];have c:(a.toList.take o).length=o:=by rw [D7,G3];omega
 rcases Nat.lt_or_ge k o with d|d
 .rw [if_neg Om0,List.append_assoc,H9 Om0,D3,if_pos d,D2]
 .rcases Nat.lt_or_ge k (o+b.length) with f|f
  .rw [if_pos ⟨d,f⟩,List.append_assoc,H8 Om0,c,H9 Om0]
  .rw [if_neg Om0,H8 (by rw [D8,c];omega),D8,c,List.getElem?_drop,D2]
   congr 1;omega
def oQ {w:Z'} {b:TypeId} {v:Value} {F:ai} (h:ag w (bs b v l*F)) (A:0<l.length) :
  ∃ g c a,v = U (Z ⟨g,0,Y⟩) l.length c/\l.length<=c/\c<=maxLen/\a.size=c/\w.heap[g]?=Z (.cells a b (0,0))/\(∀ j,j<l.length->w.cell? ⟨g,j,Y⟩=Z (u8 (l.getD j 0))/\w.frozen? ⟨g,j,Y⟩=Y') /\
   ∀ o d,o+d.length<=l.length->ag (w.setRow g (a.toList.take o++d.map u8++a.toList.drop (o+(d.map u8).length)).toArray) (bs b v (putAt l o d)*F)/\ag (w.setCells g o (d.map u8)) (bs b v (putAt l o d)*F):=by
 rcases h.dq with ⟨_,B,_⟩|⟨g,k,a,rfl,r,h4,h5,p,f⟩
 .omega
 .rw [E5] at h5 p
  refine ⟨g,k,a,rfl,r,h4,h5,f.heap,fun j q=>⟨?_,f.frozen j⟩,fun o d t=>?_⟩
  .rw [f.cell]
   have e:=congrArg (·[j]?) p;simp only [D3,q,if_true,List.getElem?_map,D2] at e;rw [e,E2 q,A3,E2 q];rfl
  .have y:(a.toList.take o++d.map u8++a.toList.drop (o+(d.map u8).length)).take l.length=(putAt l o d).map u8:=by
    rw [EJ p (by rw [A2];exact t) (by have:=G3 (xs:=a);omega)];simp only [putAt,List.map_append,List.map_take,List.map_drop,A2]
   have z:(a.toList.take o++d.map u8++a.toList.drop (o+(d.map u8).length)).length=k:=Gr0
   have u:∀ m,ag m (pt g (.cells (a.toList.take o++d.map u8++a.toList.drop (o+(d.map u8).length)).toArray b (0,0))*F)->ag m (bs b (U (Z ⟨g,0,Y⟩) l.length k) (putAt l o d)*F):=by
    intro m x;have:=ag.nM (sz:=1) (n:=l.length) (cap:=k) x r h4 (by rw [E5];simpa using z);refine this.to ?_;rw [bs,gv t];congr 2;rw [E5];exact y
   refine ⟨u _ (f.setRow (cs':=_)),u _ ?_⟩;have s:=ag.setCells (d.map u8) o f;rw [Av a o (d.map u8) (by rw [A2,h5];omega)] at s;exact s
def pG:∀ (a b:List Int),a.length=b.length->((List.range a.length).all fun i=>a.getD i 0 == b.getD i 0)=(a == b)
 | [],[],_=>rfl
 | x :: a,y :: b,h=>by
  have c:=pG a b (by simpa using h);rw [List.length_cons,List.range_succ_eq_map,List.all_cons,List.all_map];simp only [List.getD_cons_zero,Function.comp_def,List.getD_cons_succ,c];simp [List.cons_beq_cons]
 | [],_ :: _,h=>by simp at h
 | _ :: _,[],h=>by simp at h
section
variable {P:Program} (w:Z')
def rW (d:Nat) (t e:TypeId) (n:Nat) (p:P.underlying t=Z (.array n e)) (c:P.underlying e=Z (.int W)) (o:∀ w,(sizeOf e).run P w = .ok 1 w)
  (a b:List Int) (k:a.length=n) (hy:b.length=n) :
  (Op.equalIn (d+2) t (.agg (ints a)) (.agg (ints b))).run P w = .ok (a == b) w:=by
 rw [<- pG a b (k.trans hy.symm),k,List.range_eq_range',Op.equalIn];simp only [Sem.run_bind,run_underlying p,Result.andThen_ok,o,Std.Legacy.Range.forIn_eq_forIn_range',Std.Legacy.Range.size,Nat.sub_zero,Nat.add_sub_cancel,Nat.div_one];have f:∀ i ∈ List.range' 0 n 1,i<n:=fun i g=>by simpa using (List.mem_range'_1.1 g).2
 generalize List.range' 0 n 1=l at f ⊢
 induction l with
 | nil=>simp
 | cons i l q=>
  have g:=f i Si0
  have s:(part e (ints a) (i*1)).run P w = .ok (X W (a.getD i 0)) w:=by
   simp [part,isAgg,run_underlying c,bK (show i<a.length by omega)]
  have u:(part e (ints b) (i*1)).run P w = .ok (X W (b.getD i 0)) w:=by
   simp [part,isAgg,run_underlying c,bK (show i<b.length by omega)]
  have r:(Op.equalIn (d+1) e (X W (a.getD i 0)) (X W (b.getD i 0))).run P w = .ok (a.getD i 0 == b.getD i 0) w:=run_equalIn_int w d e W W _ _ c;simp only [List.forIn_cons,Sem.run_bind,s,u,r,Result.andThen_ok,List.all_cons];cases v:(a.getD i 0 == b.getD i 0)
  .simp
  .simp only [Bool.not_true,Bool.false_eq_true,if_false,Sem.run_pure,Result.andThen_ok,Bool.true_and]
   exact q fun j m=>f j (by simp [m])
def zR (t e:TypeId) (n:Nat) (f:P.underlying t=Z (.array n e)) (c:P.underlying e=Z (.int W)) (d:∀ w,(sizeOf e).run P w = .ok 1 w)
  (a b:List Int) (g:a.length=n) (hy:b.length=n) :
  (binOp .eql t (.agg (ints a)) (.agg (ints b))).run P w = .ok (.bool (a == b)) w:=by
 rw [run_eql_struct,rW w 9998 t e n f c d a b g hy]
 rfl
end
section
variable {σ:Type}
def Oz (a:cL σ) (b:Int) (rest:Nat):WM σ Unit:=WM.bind (cZ a b) fun L=>cS b (putAt L rest (zs (480-rest)))
def xI (b:cL σ) (h:Hd):WM σ Unit:=fun a=>
 if h.n.sz%480=0 then (.ok (),a) else if h.aN (h.n.sz/480).toNat=0 then (.ok (),a) else Oz b (h.aN (h.n.sz/480).toNat) (h.n.sz%480).toNat a
end
end Go.SL
namespace Go.Proofs.Fs
open RowKit SL Proofs.Ba
section
variable {σ α:Type}
def TN (n:Nat):(zs n).map u8=B3 n (X .u8 0):=by simp [zs,u8]
def PV (w:Z'):(zeroValue 5).run T w = .ok (X .u8 0) w:=Kr0
def y7 (x:Wk σ) (hc:x.c.Ok) (w:Z') (S:Hp) (a:eG σ) (k:Nat) (h:Hd) (F:ai) (g0:0<=h.n.sz) (G0:h.n.sz<=122880) (N:ag w (aP k h*(aG x S a*(al S*F)))) :
  Calls T 125 #[V (Z ⟨x.k,0,Y⟩),V (Z ⟨k,0,Y⟩)] w (WQ x jo S (aP k h*F) w (xI x.c.ask h a)):=by
 refine aF fun h0 R=>?_;have j0:=(de N (j:=3) De0).1;have c0:h.l.getD 3 0=h.n.sz:=rfl;rw [c0] at j0;have f0:h.n.sz.tmod 480=((h.n.sz%480).toNat:Int):=by rw [H7 g0];omega
 have l0:h.n.sz.tdiv 480=((h.n.sz/480).toNat:Int):=by rw [H6 g0];omega
 have z:=ae (N.t00 (aG x S a*(al S*(aP k h*F))));have hW:∀ b,xI x.c.ask h a=b->∀ e y,WQ x jo S (aP k h*F) w b e y->h0 e y:=fun b g e y hq=>R.o e y (by rw [g];exact hq);have s:=ae hW;clear c0 hW R
 by_cases K:h.n.sz%480=0
 .have c:=ae (s.o (.ok (),a) (if_pos K))
  have F0:h.n.sz.tmod 480=0:=by rw [f0,K];rfl
  go_in
  exact Zy (c.o _ _ ⟨S,_,Ext.refl S,aj.refl w,rfl,ag.aq.2 ⟨rfl,z.o⟩⟩)
 .have d0:(h.n.sz/480).toNat<256:=Om0
  have m:=nT w k h _ N (h.n.sz/480).toNat d0;have e0:((h.n.sz%480).toNat:Int)≠0:=Om0
  have m0:(((h.n.sz%480).toNat:Int) == 0)=Y':=by simpa using e0
  have n0:(h.n.sz%480).toNat<480:=Om0
  have o:xI x.c.ask h a=if h.aN (h.n.sz/480).toNat=0 then (.ok (),a) else Oz x.c.ask (h.aN (h.n.sz/480).toNat) (h.n.sz%480).toNat a:=if_neg K
  obtain ⟨r,o0⟩:=Nm ((h.n.sz%480).toNat)
  obtain ⟨q,k0⟩:=Nm ((h.n.sz/480).toNat)
  rw [o0] at f0 m0 n0 o e0;rw [k0] at l0 d0 m o;have D0:(q:Int)<256:=Om0
  have I:∀ b,Oz x.c.ask (h.aN q) r a=b->h.aN q≠0->xI x.c.ask h a=b:=fun b g d=>by rw [o,if_neg d,g]
  by_cases d:h.aN q=0
  .have c:=ae (s.o (.ok (),a) (by rw [o,if_pos d]))
   rw [d] at m
   go_in
   go_wp2_with fail
   (apply m.mono)
   rintro e p ⟨rfl,rfl⟩
   exact Zy (c.o _ _ ⟨S,_,Ext.refl S,aj.refl w,rfl,ag.aq.2 ⟨rfl,z.o⟩⟩)
  .have x0:(h.aN q == 0)=Y':=by simpa using d
   have M:=lT x hc w S a (h.aN q) _ z.o;obtain ⟨⟨r1,C⟩,l⟩:∃ q0,cZ x.c.ask (h.aN q) a=q0:=⟨_,rfl⟩
   rw [l] at M
   cases r1 with
   | bad cN=>
    have c:=ae (s.o (.bad cN,C) (I _ (WM.bd l) d));clear d o I l
    go_in
    go_wp2_with fail
    (apply m.mono)
    rintro e p ⟨rfl,rfl⟩
    go_wp2_with fail
    (apply M.mono)
    rintro e p ⟨A,u,D,rfl,G⟩
    go_wp2_with fail
    exact ⟨rfl,c.o _ _ ⟨A,u,D,rfl,G⟩⟩
   | ok L=>
    have hL:=iW l;obtain ⟨b,g⟩:=Nm (cS (h.aN q) (putAt L r (zs (480-r))) C)
    have c:=ae (s.o b (I _ ((WM.aW l).trans g) d));have f:=ae hL;generalize h.aN q=r0 at *
    go_in
    go_wp2_with fail
    (apply m.mono)
    rintro e p ⟨rfl,rfl⟩
    go_wp2_with fail
    (with_reducible apply M.mono)
    rintro e p ⟨A,v,u,D,rfl,G⟩;obtain ⟨b0,i0,s0,rfl,k1,k2,k3,k4,k5,k6⟩:=oQ G (by rw [f.o];decide);have p0:(zs (480-r)).length=480-r:=bg _;have t:=(k6 r (zs (480-r)) (by rw [p0,f.o];omega)).2;rw [TN] at t;rw [f.o] at k1 ⊢
    have u0:=fun ty=>Lib.run_clear_slice (P:=T) p 23 5 ty (X .u8 0) underlying23 PV rfl rfl b0 r (480-r) (i0-r) Om0
     (fun j hj=>by rw [(k5 (r+j) (by rw [f.o];omega)).1];rfl) (fun j hj=>(k5 (r+j) (by rw [f.o];omega)).2)
    rw [f.o] at t;have O:=mh x _ A C r0 _ (putAt L r (zs (480-r))) _ (t.right) t.oa;rw [g] at O;have Q:=ae (aj.setCells (B3 (480-r) (X .u8 0)) r b0 D)
    go_wp2_with fail
    obtain ⟨r3,H0⟩:=b
    cases r3 with
    | bad cN=>
     (with_reducible apply O.mono)
     rintro e w4 ⟨B,J,E,rfl,H⟩
     go_wp2_with fail
     exact ⟨rfl,c.o _ _ ⟨B,u.trans J,Q.o.trans E,rfl,H⟩⟩
    | ok K0=>
     (with_reducible apply O.mono)
     rintro e w4 ⟨B,v4,J,E,rfl,H⟩;obtain ⟨rfl,h7⟩:=ag.aq.1 H
     exact Zy (c.o _ _ ⟨B,_,u.trans J,Q.o.trans E,rfl,ag.aq.2 ⟨rfl,h7⟩⟩)
end
end Go.Proofs.Fs
namespace Go.SL
open RowKit
variable {size:Int}
section
variable {σ:Type}
def Hd.cP (h:Hd) (z:Int):Hd:={ h with n:={ h.n with sz:=z } }
def Hd.dF (h:Hd) (z:Int):Hd:={ h with n:={ h.n with rw:=z } }
def Hd.Gp {h:Hd} (a:h.fit) (z:Int):(h.dF z).l=h.l.set 20 z:=by
 have e:h.l=(h.id:Int) :: h.n.kd :: h.n.lk :: h.n.sz :: (h.n.dr++(h.n.rw :: h.row)):=by simp [Hd.l,Nd.l]
 have b:(h.dF z).l=(h.id:Int) :: h.n.kd :: h.n.lk :: h.n.sz :: (h.n.dr++(z :: h.row)):=by simp [Hd.l,Nd.l,Hd.dF]
 rw [e,b];simp only [List.set_cons_succ];rw [List.set_append,if_neg (by rw [a.1];decide),a.1]
 rfl
structure Hd.VF (n:Nat) (h:Hd):Prop where
 fit:h.fit
 yK:0<=h.n.rw
 AE:h.n.rw<n
 pg:∀ i,i<256->0<=h.aN i/\h.aN i<n
def Hd.T7.Xl {n:Nat} {h:Hd} (a:h.T7 n):h.VF n:=⟨a.fit,a.yK,a.AE,fun _ b=>a.aN b⟩
def Hd.jk {h:Hd} (e:h.fit) {i:Nat} (f:i<256) (b:Int) (k:Nat):(h.put i b).aN k=if k=i then b else h.aN k:=by
 unfold Hd.put Hd.aN
 by_cases d:i<16
 .rw [if_pos d]
  by_cases a:k<16
  .rw [if_pos a,if_pos a]
   by_cases c:k=i
   .subst c;simp [A3,D4,e.1,d]
   .rw [if_neg c];simp [A3,D4,Ne.symm c]
  .rw [if_neg a,if_neg a,if_neg Om0]
 .rw [if_neg d]
  by_cases a:k<16
  .rw [if_pos a,if_pos a,if_neg Om0]
  .rw [if_neg a,if_neg a]
   by_cases c:k=i
   .subst c;simp [A3,D4,e.2,show k-16<240 by omega]
   .rw [if_neg c];simp [A3,D4,show ¬ i-16=k-16 by omega]
def Hd.gV (h:Hd) (i:Nat) (b:Int):(h.put i b).n.rw=h.n.rw:=by unfold Hd.put;split <;> rfl
def Hd.As (h:Hd) (i:Nat) (b:Int):(h.put i b).n.sz=h.n.sz:=by unfold Hd.put;split <;> rfl
def Hd.KE (h:Hd) (i:Nat) (b:Int):(h.put i b).id=h.id:=by unfold Hd.put;split <;> rfl
def Hd.VF.put {n:Nat} {h:Hd} (a:h.VF n) {i:Nat} (e:i<256) {b:Int} (c:0<=b) (d:b<n):(h.put i b).VF n:=
 ⟨Hd.ux a.fit i b,by rw [Hd.gV];exact a.yK,by rw [Hd.gV];exact a.AE,fun k f=>by
  rw [Hd.jk a.fit e]
  split
  .exact ⟨c,d⟩
  .exact a.pg k f⟩
def AQ (a:cL σ) (h:Hd):WM σ Unit:=WM.bind (xI a h) fun _=>dR h
def RL (a:cL σ) (b:Int) (h:Hd):WM σ Unit:=fun c=>
 if h.n.rw≠0/\h.row=B3 240 0 then (WM.bind (cI a h.n.rw.toNat Y') fun _=>AQ a ((h.dF 0).cP b)) c else AQ a (h.cP b) c
def p9 (a:cL σ) (b:Int):Nat->Hd->WM σ Unit
 | 0,h=>RL a b h
 | j+1,h=>fun c=>if h.aN (256-(j+1))=0 then p9 a b j h c else (WM.bind (cI a (h.aN (256-(j+1))).toNat Y') fun _=>p9 a b j (h.put (256-(j+1)) 0)) c
def mQ (b:cL σ) (n:Nat) (node a:Int):WM σ Unit:=WM.bind (fZ b n node) fun h c=>if 0<=a/\a<=122880 then p9 b a (256-(aX a).toNat) h c else (.bad 1,c)
def Tw {a:cL σ} {h:Hd} {k:Nat} (f:k<256) (c:h.aN k=0) (b:eG σ):p9 a size (256-k) h b=p9 a size (256-(k+1)) h b:=by
 obtain ⟨j,d⟩:∃ j,256-k=j+1:=⟨255-k,Om0⟩
 have e:256-(j+1)=k:=Om0
 rw [d,show 256-(k+1)=j by omega];exact if_pos (by rw [e];exact c)
def R9 {a:cL σ} {h:Hd} {k:Nat} (m:k<256) (f:h.aN k≠0) {d b:eG σ} {c:Int} (l:cI a (h.aN k).toNat Y' d=(.bad c,b)):p9 a size (256-k) h d=(.bad c,b):=by
 obtain ⟨j,g⟩:∃ j,256-k=j+1:=⟨255-k,Om0⟩
 have e:256-(j+1)=k:=Om0
 rw [g];exact (if_neg (by rw [e];exact f)).trans (WM.bd (by rw [e];exact l))
def SN {a:cL σ} {h:Hd} {k:Nat} (l:k<256) (d:h.aN k≠0) {c b:eG σ} (g:cI a (h.aN k).toNat Y' c=(.ok (),b)):p9 a size (256-k) h c=p9 a size (256-(k+1)) (h.put k 0) b:=by
 obtain ⟨j,f⟩:∃ j,256-k=j+1:=⟨255-k,Om0⟩
 have e:256-(j+1)=k:=Om0
 rw [f,show 256-(k+1)=j by omega];refine (if_neg (by rw [e];exact d)).trans ((WM.aW (by rw [e];exact g)).trans ?_);rw [e]
end
end Go.SL
namespace Go.Proofs.Fs
open RowKit SL Proofs.Ba
variable {o:Oper} {a:Act}
section
variable {σ α:Type}
def fM {P:Program} {b:Array Oper} {rest:List Oper} {w:Z'} {Q:Exit->Act->Z'->Prop} (d:Region.wanted o (yielded b a.tmps)=true)
  (h:∀ K:Act->Z'->Prop,(∀ a w,wpList P b Q rest a w->K a w)->o.wp P a w K Q):wpList P b Q (o :: rest) a w:=
 wpList_step fun K c=>by rw [if_pos d];exact h K c
def tf:prog.built 151 []=Z (ints eX):=by
 obtain ⟨C,a⟩:=Option.isSome_iff_exists.1 BQ;have:=xV;rw [a] at this;rw [a];exact congrArg Z this
def n7 {P:Program} {w:Z'} {K:Act->Z'->Prop} {Q:Exit->Act->Z'->Prop} (t:TypeId) (parts:Array (Nat × Operand)) (d:o.op = .build t parts)
  (l:List (Nat × Value)) (c:parts.toList.map (fun p=>(p.1,a.eval p.2))=l) (C:Array Value) (b:P.built t l=Z C) (h:K (a.put o.dst (.agg C)) w):o.wp P a w K Q:=by
 have e:P.built t (parts.map fun (i,x)=>(i,a.eval x)).toList=Z C:=by rw [Array.toList_map];exact c▸b
 exact wp_build t parts d (by rw [e];rfl) (by rw [e];exact h)
def Lm (x:Wk σ) (n:Nat) (f:Int) (e:Nat) (S:Hp) (F:ai) (w:Z') (d:Rs Unit × eG σ) (u5:Value) (wr:Z'):Prop:=
 ∃ (k:Nat) (b:Hd) (c:eG σ) (a:Hp),k<=256/\u5 = X W (k:Int)/\b.VF n/\p9 x.c.ask f (256-k) b c=d/\Ext S a/\aj w wr/\ag wr (aG x a c*(al a*(aP e b*F)))
def JF:∀ w,(sizeOf 3).run T w = .ok 1 w:=by intro w;kernel_rfl
def IG {c:Cx σ} (hc:c.Ok) {n:Nat} (hn:n<=3840) (node b:Int) (nb sb:Nat):Cu c n 122 #[V (Z ⟨nb,0,Y⟩),V (Z ⟨sb,0,Y⟩)] jo (bf nb node*bf sb b) (mQ c.ask n node b):=by
 intro x w H0 st L0 q1 s1 h;subst q1 s1;have cn:w.cell? ⟨nb,0,Y⟩=Z (X W node):=(h.t00 (bf nb node*(bf sb b*(aG x H0 st*(al H0*L0))))).cell 0;refine aF fun x1 r=>?_;have hl:=jV x hc w H0 st node _ h;obtain ⟨⟨u1,bH⟩,hp⟩:∃ p,fZ x.c.ask x.n node st=p:=⟨_,rfl⟩
 rw [hp] at hl;clear h;obtain ⟨G,hG⟩:=Mn0 (bf nb node*bf sb b*L0)
 rw [<- hG] at hl r;have HG:=ae hG
 cases u1 with
 | bad Q=>
  have q:=ae (show mQ x.c.ask x.n node b st=(.bad Q,bH) from WM.bd hp);clear hp hG
  go_in
  go_wp2_with fail
  (with_reducible apply hl.mono)
  rintro e w2 ⟨z,hS,d2,rfl,h2⟩
  go_wp2_with fail
  exact ⟨rfl,r.o _ _ (by rw [q.o];exact ⟨z,hS,d2,rfl,h2⟩)⟩
 | ok hh=>
  have hI:=(sX hp).Xl;have HI:=ae hI;obtain ⟨n0,N⟩:=Nm ((fun st=>if 0<=b/\b<=122880 then p9 x.c.ask b (256-(aX b).toNat) hh st else (.bad 1,st)) bH)
  have q:=ae (show mQ x.c.ask x.n node b st=n0 from (WM.aW hp).trans N);clear hp hI;have i1:=N;clear N hG
  have sG:∀ W0 P,ag W0 (P*G)->W0.cell? ⟨sb,0,Y⟩=Z (X W b):=fun W0 P hW=>by
   rw [HG.o] at hW;exact (hW.t00 (bf sb b*(bf nb node*(L0*P)))).cell 0
  have SG:=ae sG;have S0:=ae i1;have X0:=fun w=>wW w b
  go_in
  go_wp2_with fail
  (with_reducible apply hl.mono)
  rintro e w2 ⟨z,v,hS,d2,rfl,h2⟩;obtain ⟨d,rfl,h3⟩:=ag.pK h2;have h4:ag w2 (aG x z bH*(al z*(aP d hh*G))):=h3.u00;have cs:=SG.o w2 (aG x z bH*(al z*(aP d hh))) (h4.u00);have H4:=ae h4;clear h2 h3 hl cn i1 h4 sG
  by_cases hz:0<=b/\b<=122880
  .obtain ⟨z0,z1⟩:=hz
   have N:=S0.o;rw [if_pos ⟨z0,z1⟩] at N;have e1:0<=aX b/\aX b<=256:=by unfold aX;omega
   have HT:=ae N;have N0:=ae e1;clear N e1;have Y0:=X0 w2;unfold nr at Y0;clear X0
   go_wp2_with fail
   (with_reducible apply (gH w2).mono)
   rintro e w3 ⟨rfl,rfl⟩
   go_wp2_with fail
   (with_reducible apply Y0.mono)
   rintro e w3 ⟨rfl,rfl⟩;clear Y0 cs
   go_wp2_with fail
   go_loopw [5] (fun u5 wr=>Lm x x.n b d H0 G w n0 u5 wr) (fun u5 _=>256-(intOf u5).toNat)
   case atStart=>exact ⟨(aX b).toNat,hh,bH,z,by have:=N0.o;omega,by rw [Int.toNat_of_nonneg N0.o.1],HI.o,HT.o,hS,d2,H4.o⟩
   case round=>
    obtain ⟨k,a,o,C,D1,rfl,f1,j1,g1,dk,D0⟩:=hrel;have G0:=ae j1;have B:=ae g1;have d0:=ae f1;clear H4 HT j1 g1 f1 N0;have O:=D0.t00 (aP d a*(aG x C o*(al C*G)))
    by_cases i0:k<256
    .have E1:(k:Int)<256:=Om0
     have o0:=nT wr d a _ O k i0;unfold MP at o0
     by_cases h0:a.aN k=0
     .have f:=ae ((Tw i0 h0 o).symm.trans G0.o)
      rw [h0] at o0;clear h0 O
      go_wp2_with fail
      (with_reducible apply o0.mono)
      rintro e w3 ⟨rfl,rfl⟩
      go_wp2_with fail
      go_roundw
      case rel=>exact ⟨k+1,a,o,C,Om0,by go_num,d0.o,f.o,B.o,dk,D0⟩
      case measure=>simp [intOf];omega
     .have h1:(a.aN k != 0)=true:=by simpa using h0
      obtain ⟨p0,p1⟩:=d0.o.pg k i0;have hm:=jY x hc wr C o (a.aN k) Y' _ p0 Om0 D0;obtain ⟨⟨r2,b0⟩,K⟩:∃ p,cI x.c.ask (a.aN k).toNat Y' o=p:=⟨_,rfl⟩
      rw [K] at hm
      cases r2 with
      | bad Q=>
       have f:=ae ((R9 i0 h0 K).symm.trans G0.o);clear h0 K O p0 p1;generalize a.aN k=b1 at *
       go_wp2_with fail
       (with_reducible apply o0.mono)
       rintro e w3 ⟨rfl,rfl⟩
       go_wp2_with fail
       (with_reducible apply hm.mono)
       rintro e w4 ⟨l,m0,d4,rfl,R⟩
       go_wp2_with fail
       exact ⟨rfl,r.o _ _ (by rw [q.o,<- f.o];exact ⟨l,B.o.trans m0,dk.trans d4,rfl,(R.t00 (aP d a*(aG x l b0*(al l*G)))).right⟩)⟩
      | ok v1=>
       have f:=ae ((SN i0 h0 K).symm.trans G0.o);have m1:=ae (d0.o.put i0 (Int.le_refl 0) (by have:=d0.o.yK;have:=d0.o.AE;omega:(0:Int)<x.n));clear h0 K O p0 p1;generalize a.aN k=b1 at *
       go_wp2_with fail
       (with_reducible apply o0.mono)
       rintro e w3 ⟨rfl,rfl⟩
       go_wp2_with fail
       (with_reducible apply hm.mono)
       rintro e w4 ⟨l,v4,m0,d4,rfl,R⟩;obtain ⟨rfl,h7⟩:=ag.aq.1 R;have o1:=ri w4 d a _ (h7.t00 (aP d a*(aG x l b0*(al l*G)))) k i0 0;clear hm o0 R
       go_wp2_with fail
       (with_reducible apply o1.mono)
       rintro e w5 ⟨rfl,h8,m⟩
       go_wp2_with fail
       go_roundw
       case rel=>exact ⟨k+1,a.put k 0,b0,l,Om0,by go_num,m1.o,f.o,B.o.trans m0,(dk.trans d4).trans m,h8.u00⟩
       case measure=>simp [intOf];omega
    .obtain rfl:k=256:=Om0
     have HR:=ae (show RL x.c.ask b a o=n0 from G0.o);have hf:=d0.o.fit;have Hf:=ae hf;have c1:wr.cell? ⟨d,20,Y⟩=Z (X W a.n.rw):=qM hf (ag.held.1 O).2;have V0:=ae (Bs hf (ag.held.1 O).2);have k1:(prog.info? 151).map (·.size)=Z (a.row.map (B2 W)).length:=by rw [A2,hf.2];exact ki
     have T0:=ae k1;clear k1 hf i0
     by_cases j0:a.n.rw=0
     .have s0:=ae (show AQ x.c.ask (a.cP b) o=n0 from (if_neg (by simp [j0])).symm.trans HR.o)
      rw [j0] at c1;clear j0;have J:=O;have d1:wr.cell? ⟨sb,0,Y⟩=Z (X W b):=SG.o _ _ (J.t00 ((aP d (a)*(aG x C o*al C))*G));have c3:=(de J (j:=3) De0).1;have f3:=(de J (j:=3) De0).2;have e0:=kI (h':=(a).cP b) J (j:=3) (z:=b) Hf.o rfl;have A:=ae ((dk).setCell ⟨d,3,Y⟩ (X W b));have I:=y7 x hc _ C o d ((a).cP b) _ z0 z1 e0;obtain ⟨⟨r5,y⟩,u⟩:∃ p,xI x.c.ask ((a).cP b) o=p:=⟨_,rfl⟩
      rw [u] at I;have c0:=ae I;generalize (a).l.getD 3 0=y3 at *;clear e0 I J
      go_wp2_with fail
      apply c0.o.mono
      cases r5 with
      | bad Q=>
       have f:=ae (s0.o.symm.trans (WM.bd u));rintro e l0 ⟨g,t,m,rfl,s⟩
       go_wp2_with fail
       exact ⟨rfl,r.o _ _ (by rw [q.o,f.o];exact ⟨g,B.o.trans t,A.o.trans m,rfl,(s.t00 (aP d ((a).cP b)*(aG x g y*(al g*G)))).right⟩)⟩
      | ok u5=>
       have q0:=ae (s0.o.symm.trans (WM.aW u));rintro e l0 ⟨g,v5,t,m,rfl,s⟩;obtain ⟨rfl,f0⟩:=ag.aq.1 s;have M:=jW x l0 g y d ((a).cP b) _ (f0.t00 (aP d ((a).cP b)*(aG x g y*(al g*G))));obtain ⟨⟨r6,k0⟩,L⟩:∃ p,dR ((a).cP b) y=p:=⟨_,rfl⟩
       rw [L] at M;have f:=ae (q0.o.trans L);clear u L s f0 c0
       cases r6 with
       | bad Q=>
        go_wp2_with fail
        (with_reducible apply M.mono)
        rintro e F0 ⟨j,H,D,rfl,E⟩
        go_wp2_with fail
        exact ⟨rfl,r.o _ _ (by rw [q.o,f.o];exact ⟨j,(B.o.trans t).trans H,(A.o.trans m).trans D,rfl,(E.t00 (aP d ((a).cP b)*(aG x j k0*(al j*G)))).right⟩)⟩
       | ok u6=>
        go_wp2_with fail
        (with_reducible apply M.mono)
        rintro e F0 ⟨j,v6,H,D,rfl,E⟩;obtain ⟨rfl,x0⟩:=ag.aq.1 E
        go_wp2_with fail
        go_end0
        exact r.o _ _ (by rw [q.o,f.o];exact ⟨j,_,(B.o.trans t).trans H,(A.o.trans m).trans D,rfl,ag.aq.2 ⟨rfl,(x0.t00 (aP d ((a).cP b)*(aG x j k0*(al j*G)))).right⟩⟩)
     .have H1:(a.n.rw != 0)=true:=by simpa using j0
      have Z0:=fun w=>zR (P:=T) w 151 3 240 underlying151 underlying3 JF a.row eX Hf.o.2 rfl;have n1:Value.agg (ints a.row) = .agg (a.row.map (B2 W)).toArray:=rfl;rw [n1] at Z0;have w1:True:=trivial
      cases g0:(a.row == eX) with
      | false=>
       have l1:¬ (a.row=B3 240 0):=by intro S;rw [S] at g0;simp [eX] at g0
       have s0:=ae (show AQ x.c.ask (a.cP b) o=n0 from (if_neg (fun S=>l1 S.2)).symm.trans HR.o);rw [g0] at Z0;clear j0 g0 l1;have J:=O;have d1:wr.cell? ⟨sb,0,Y⟩=Z (X W b):=SG.o _ _ (J.t00 ((aP d (a)*(aG x C o*al C))*G));have c3:=(de J (j:=3) De0).1;have f3:=(de J (j:=3) De0).2;have e0:=kI (h':=(a).cP b) J (j:=3) (z:=b) Hf.o rfl;have A:=ae ((dk).setCell ⟨d,3,Y⟩ (X W b));have I:=y7 x hc _ C o d ((a).cP b) _ z0 z1 e0;obtain ⟨⟨r5,y⟩,u⟩:∃ p,xI x.c.ask ((a).cP b) o=p:=⟨_,rfl⟩
       rw [u] at I;have c0:=ae I;generalize (a).l.getD 3 0=y3 at *;clear e0 I J
       go_wp2_with (first
        | (refine fM (by exact rfl) fun u0 F=>wp_load_mid 151 (.tmp 43) (by exact rfl) d 21 (by exact rfl) (a.row.map (B2 W)) _ (by with_reducible exact V0.o) underlying151 rfl (by with_reducible exact T0.o) (F _ _ ?_))
        | (refine fM (by exact rfl) fun u0 F=>n7 151 #[] (by exact rfl) [] (by exact rfl) (ints eX) (by exact tf) (F _ _ ?_)))
       apply c0.o.mono
       cases r5 with
       | bad Q=>
        have f:=ae (s0.o.symm.trans (WM.bd u));rintro e l0 ⟨g,t,m,rfl,s⟩
        go_wp2_with fail
        exact ⟨rfl,r.o _ _ (by rw [q.o,f.o];exact ⟨g,B.o.trans t,A.o.trans m,rfl,(s.t00 (aP d ((a).cP b)*(aG x g y*(al g*G)))).right⟩)⟩
       | ok u5=>
        have q0:=ae (s0.o.symm.trans (WM.aW u));rintro e l0 ⟨g,v5,t,m,rfl,s⟩;obtain ⟨rfl,f0⟩:=ag.aq.1 s;have M:=jW x l0 g y d ((a).cP b) _ (f0.t00 (aP d ((a).cP b)*(aG x g y*(al g*G))));obtain ⟨⟨r6,k0⟩,L⟩:∃ p,dR ((a).cP b) y=p:=⟨_,rfl⟩
        rw [L] at M;have f:=ae (q0.o.trans L);clear u L s f0 c0
        cases r6 with
        | bad Q=>
         go_wp2_with fail
         (with_reducible apply M.mono)
         rintro e F0 ⟨j,H,D,rfl,E⟩
         go_wp2_with fail
         exact ⟨rfl,r.o _ _ (by rw [q.o,f.o];exact ⟨j,(B.o.trans t).trans H,(A.o.trans m).trans D,rfl,(E.t00 (aP d ((a).cP b)*(aG x j k0*(al j*G)))).right⟩)⟩
        | ok u6=>
         go_wp2_with fail
         (with_reducible apply M.mono)
         rintro e F0 ⟨j,v6,H,D,rfl,E⟩;obtain ⟨rfl,x0⟩:=ag.aq.1 E
         go_wp2_with fail
         go_end0
         exact r.o _ _ (by rw [q.o,f.o];exact ⟨j,_,(B.o.trans t).trans H,(A.o.trans m).trans D,rfl,ag.aq.2 ⟨rfl,(x0.t00 (aP d ((a).cP b)*(aG x j k0*(al j*G)))).right⟩⟩)
      | true=>
       have a1:a.row=B3 240 0:=by simpa [eX] using g0
       obtain ⟨r0,r1⟩:0<=a.n.rw/\a.n.rw<3840:=⟨d0.o.yK,by have:=d0.o.AE;omega⟩
       have hm:=jY x hc wr C o a.n.rw Y' _ r0 r1 D0;obtain ⟨⟨r2,b0⟩,K⟩:∃ p,cI x.c.ask a.n.rw.toNat Y' o=p:=⟨_,rfl⟩
       rw [K] at hm;have K0:a.n.rw≠0/\a.row=B3 240 0:=⟨j0,a1⟩
       rw [g0] at Z0
       cases r2 with
       | bad Q=>
        have f:=ae (HR.o.symm.trans ((if_pos K0).trans (WM.bd K)));clear j0 g0 K0 a1 K O r0 r1;have y1:=c1;generalize a.n.rw=b1 at *
        go_wp2_with (first
        | (refine fM (by exact rfl) fun u0 F=>wp_load_mid 151 (.tmp 43) (by exact rfl) d 21 (by exact rfl) (a.row.map (B2 W)) _ (by with_reducible exact V0.o) underlying151 rfl (by with_reducible exact T0.o) (F _ _ ?_))
        | (refine fM (by exact rfl) fun u0 F=>n7 151 #[] (by exact rfl) [] (by exact rfl) (ints eX) (by exact tf) (F _ _ ?_)))
        (with_reducible apply hm.mono)
        rintro e w4 ⟨l,m0,d4,rfl,R⟩
        go_wp2_with fail
        exact ⟨rfl,r.o _ _ (by rw [q.o,f.o];exact ⟨l,B.o.trans m0,dk.trans d4,rfl,(R.t00 (aP d a*(aG x l b0*(al l*G)))).right⟩)⟩
       | ok v1=>
        have f:=ae (HR.o.symm.trans ((if_pos K0).trans (WM.aW K)));clear j0 g0 K0 a1 K O r0 r1;generalize a.n.rw=b1 at *
        go_wp2_with (first
        | (refine fM (by exact rfl) fun u0 F=>wp_load_mid 151 (.tmp 43) (by exact rfl) d 21 (by exact rfl) (a.row.map (B2 W)) _ (by with_reducible exact V0.o) underlying151 rfl (by with_reducible exact T0.o) (F _ _ ?_))
        | (refine fM (by exact rfl) fun u0 F=>n7 151 #[] (by exact rfl) [] (by exact rfl) (ints eX) (by exact tf) (F _ _ ?_)))
        (with_reducible apply hm.mono)
        rintro e w4 ⟨l,v4,m0,d4,rfl,R⟩;obtain ⟨rfl,h7⟩:=ag.aq.1 R;have h8:=h7.t00 (aP d a*(aG x l b0*(al l*G)));have A1:=(de h8 (j:=20) De0).1;have B1:=(de h8 (j:=20) De0).2;generalize a.l.getD 20 0=L1 at *;have S:=kI (h':=a.dF 0) h8 (j:=20) (z:=0) Hf.o (Hd.Gp Hf.o 0);have D9:=(dk.trans d4).setCell ⟨d,20,Y⟩ (X W 0);have R0:=B.o.trans m0;clear R h7 h8 hm D0;have d1:=SG.o _ _ (S.t00 ((aP d (a.dF 0)*(aG x l b0*al l))*G));have c3:=(de S (j:=3) De0).1;have f3:=(de S (j:=3) De0).2;have e0:=kI (h':=(a.dF 0).cP b) S (j:=3) (z:=b) Hf.o rfl;have A:=ae ((D9).setCell ⟨d,3,Y⟩ (X W b));have I:=y7 x hc _ l b0 d ((a.dF 0).cP b) _ z0 z1 e0;obtain ⟨⟨r5,y⟩,u⟩:∃ p,xI x.c.ask ((a.dF 0).cP b) b0=p:=⟨_,rfl⟩
        rw [u] at I;have c0:=ae I;clear e0 I S
        go_wp2_with fail
        apply c0.o.mono
        cases r5 with
        | bad Q=>
         have f:=ae (f.o.trans (WM.bd u));rintro e l0 ⟨g,t,m,rfl,s⟩
         go_wp2_with fail
         exact ⟨rfl,r.o _ _ (by rw [q.o,f.o];exact ⟨g,R0.trans t,A.o.trans m,rfl,(s.t00 (aP d ((a.dF 0).cP b)*(aG x g y*(al g*G)))).right⟩)⟩
        | ok u5=>
         have q0:=ae (f.o.trans (WM.aW u));rintro e l0 ⟨g,v5,t,m,rfl,s⟩;obtain ⟨rfl,f0⟩:=ag.aq.1 s;have M:=jW x l0 g y d ((a.dF 0).cP b) _ (f0.t00 (aP d ((a.dF 0).cP b)*(aG x g y*(al g*G))));obtain ⟨⟨r6,k0⟩,L⟩:∃ p,dR ((a.dF 0).cP b) y=p:=⟨_,rfl⟩
         rw [L] at M;have f:=ae (q0.o.trans L);clear u L s f0 c0
         cases r6 with
         | bad Q=>
          go_wp2_with fail
          (with_reducible apply M.mono)
          rintro e F0 ⟨j,H,D,rfl,E⟩
          go_wp2_with fail
          exact ⟨rfl,r.o _ _ (by rw [q.o,f.o];exact ⟨j,(R0.trans t).trans H,(A.o.trans m).trans D,rfl,(E.t00 (aP d ((a.dF 0).cP b)*(aG x j k0*(al j*G)))).right⟩)⟩
         | ok u6=>
          go_wp2_with fail
          (with_reducible apply M.mono)
          rintro e F0 ⟨j,v6,H,D,rfl,E⟩;obtain ⟨rfl,x0⟩:=ag.aq.1 E
          go_wp2_with fail
          go_end0
          exact r.o _ _ (by rw [q.o,f.o];exact ⟨j,_,(R0.trans t).trans H,(A.o.trans m).trans D,rfl,ag.aq.2 ⟨rfl,(x0.t00 (aP d ((a.dF 0).cP b)*(aG x j k0*(al j*G)))).right⟩⟩)
  .have N:n0=(.bad 1,bH):=by rw [<- S0.o];exact if_neg hz
   have HT:=ae N;clear N S0 X0
   by_cases K1:0<=b
   .have t1:decide (b<=122880)=Y':=decide_eq_false Om0
    clear hz
    go_wp2_with fail
    (with_reducible apply (gQ w2).mono)
    rintro e w4 ⟨rfl,rfl⟩
    go_wp2_with fail
    exact ⟨rfl,r.o _ _ (by rw [q.o,HT.o];exact ⟨z,hS,d2,rfl,(H4.o.t00 (aP d hh*(aG x z bH*(al z*G)))).right⟩)⟩
   .have t1:b<0:=Om0
    clear hz
    go_wp2_with fail
    (with_reducible apply (gQ w2).mono)
    rintro e w4 ⟨rfl,rfl⟩
    go_wp2_with fail
    exact ⟨rfl,r.o _ _ (by rw [q.o,HT.o];exact ⟨z,hS,d2,rfl,(H4.o.t00 (aP d hh*(aG x z bH*(al z*G)))).right⟩)⟩
end
end Go.Proofs.Fs
namespace Go.SL
open RowKit
variable {A:List UInt8}
section
variable {σ:Type}
def iJ (m a:Nat):Nat:=min m (480-a%480)
def C8 (ask:cL σ) (h:Hd) (off:Nat):Nat->Nat->List UInt8->WM σ (List UInt8)
  | 0,_,A=>WM.pure A
  | f+1,done,A=>fun a=>
    if done<A.length then
      (if h.aN ((off+done)/480)=0 then C8 ask h off f (done+iJ (A.length-done) (off+done)) A a
       else (WM.bind (cZ ask (h.aN ((off+done)/480))) fun L=>C8 ask h off f (done+iJ (A.length-done) (off+done)) (putAt A done ((L.drop ((off+done)%480)).take (iJ (A.length-done) (off+done))))) a)
    else (.ok A,a)
def Lj (ask:cL σ) (off a:Int) (h:Hd):WM σ (List UInt8):=fun b=>
 if 0<=off/\0<=a then (if h.n.sz<=off then (.ok [],b) else C8 ask h off.toNat (min a (h.n.sz-off)).toNat 0 (zs (min a (h.n.sz-off)).toNat) b) else (.bad 1,b)
def jI (ask:cL σ) (n:Nat) (node off a:Int):WM σ (List UInt8):=WM.bind (fZ ask n node) (Lj ask off a)
def Pe {ask:cL σ} {h:Hd} {off f done:Nat} (b:A.length<=done) (a:eG σ):C8 ask h off f done A a=(.ok A,a):=by
 cases f with
 | zero=>rfl
 | succ f=>exact if_neg Om0
def Rt {ask:cL σ} {h:Hd} {off f done:Nat} (c:done<A.length) (b:h.aN ((off+done)/480)=0) (a:eG σ) :
  C8 ask h off (f+1) done A a=C8 ask h off f (done+iJ (A.length-done) (off+done)) A a:=(if_pos c).trans (if_pos b)
def U9 {ask:cL σ} {h:Hd} {off f done:Nat} (e:done<A.length) (d:h.aN ((off+done)/480)≠0) {b a:eG σ} {c:Int} (g:cZ ask (h.aN ((off+done)/480)) b=(.bad c,a)) :
  C8 ask h off (f+1) done A b=(.bad c,a):=(if_pos e).trans ((if_neg d).trans (WM.bd g))
def Vf {ask:cL σ} {h:Hd} {off f done:Nat} (d:done<A.length) (c:h.aN ((off+done)/480)≠0) {b a:eG σ} {L:List UInt8} (e:cZ ask (h.aN ((off+done)/480)) b=(.ok L,a)) :
  C8 ask h off (f+1) done A b=C8 ask h off f (done+iJ (A.length-done) (off+done)) (putAt A done ((L.drop ((off+done)%480)).take (iJ (A.length-done) (off+done)))) a:=(if_pos d).trans ((if_neg c).trans (WM.aW e))
end
end Go.SL
namespace Go.Proofs.Fs
open RowKit SL Proofs.Ba
section
variable {σ α:Type}
def B9:(prog.info? 5).map (·.size)=Z 1:=Kr0
def UG (x:Wk σ) (e:Nat) (b:Hd) (off m g:Nat) (S:Hp) (F:ai) (w:Z') (d:Rs (List UInt8) × eG σ) (j:Value) (wr:Z'):Prop:=
 ∃ (done f:Nat) (A:List UInt8) (c:eG σ) (a:Hp),done<=m/\A.length=m/\m-done<=f/\j = X W (done:Int)/\C8 x.c.ask b off f done A c=d/\Ext S a/\aj w wr /\
  ag wr (bs 5 (U (Z ⟨g,0,Y⟩) m m) A*(aG x a c*(al a*(aP e b*F))))
def ET {c:Cx σ} (hc:c.Ok) {n:Nat} (hn:n<=3840) (node off f:Int) (C t z:Nat) :
  Cu c n 143 #[V (Z ⟨C,0,Y⟩),V (Z ⟨t,0,Y⟩),V (Z ⟨z,0,Y⟩)] gX (bf C node*(bf t off*bf z f)) (jI c.ask n node off f):=by
 intro x w k0 st h0 q1 r1 h;subst q1 r1;have cn:w.cell? ⟨C,0,Y⟩=Z (X W node):=(h.to (by ac_rfl:_=bf C node*((bf t off*bf z f)*(aG x k0 st*(al k0*h0))))).cell 0;show Calls T 143 #[V (Z ⟨x.k,0,Y⟩),V (Z ⟨C,0,Y⟩),V (Z ⟨t,0,Y⟩),V (Z ⟨z,0,Y⟩)] w _
 refine aF fun v1 F=>?_;have p:=jV x hc w k0 st node _ h;obtain ⟨⟨r,j⟩,hp⟩:∃ L0,fZ x.c.ask x.n node st=L0:=⟨_,rfl⟩
 rw [hp] at p;clear h;obtain ⟨G,hG⟩:∃ G,G=bf C node*(bf t off*bf z f)*h0:=⟨_,rfl⟩
 rw [<- hG] at p F;have HG:=ae hG
 cases r with
 | bad cN=>
  have E:=ae (show jI x.c.ask x.n node off f st=(.bad cN,j) from WM.bd hp);clear hp hG
  go_enter func143,ntmps143
  go_wp2_with fail
  (with_reducible refine p.mono ?_)
  rintro e k ⟨b,hS,M,rfl,h2⟩
  go_wp2_with fail
  exact ⟨rfl,F.out _ _ (by rw [E.out];exact ⟨b,hS,M,rfl,h2⟩)⟩
 | ok a=>
  have K0:=Nd.qR (sX hp).ok;obtain ⟨s0,s1⟩:0<=a.n.sz/\a.n.sz<=122880:=⟨K0.2.2.2.1,K0.2.2.2.2.1⟩
  obtain ⟨J,hT⟩:∃ J,Lj x.c.ask off f a j=J:=⟨_,rfl⟩
  have E:=ae (show jI x.c.ask x.n node off f st=J from (WM.aW hp).trans hT);have S:=ae hT;clear hp hG K0 hT
  have sO:∀ K P,ag K (P*G)->K.cell? ⟨t,0,Y⟩=Z (X W off):=fun K P hW=>by
   rw [HG.out] at hW;exact (hW.to (by ac_rfl:_=bf t off*(bf C node*(bf z f*(h0*P))))).cell 0
  have sC:∀ K P,ag K (P*G)->K.cell? ⟨z,0,Y⟩=Z (X W f):=fun K P hW=>by
   rw [HG.out] at hW;exact (hW.to (by ac_rfl:_=bf z f*(bf C node*(bf t off*(h0*P))))).cell 0
  have SO:=ae sO;have SC:=ae sC;clear sO sC
  go_enter func143,ntmps143
  go_wp2_with fail
  (with_reducible refine p.mono ?_)
  rintro e k ⟨b,v,hS,M,rfl,h2⟩;obtain ⟨d,rfl,h3⟩:=ag.pK h2;have h4:ag k (aG x b j*(al b*(aP d a*G))):=h3.to (by ac_rfl);have co:=SO.out k (aG x b j*(al b*(aP d a))) (h4.to (by ac_rfl));have cc:=SC.out k (aG x b j*(al b*(aP d a))) (h4.to (by ac_rfl));have c3:=(de h3 (j:=3) (by decide)).1;rw [show a.l.getD 3 0=a.n.sz from rfl] at c3;have R:=ae h4;clear h2 h3 p cn h4
  by_cases hz:0<=off/\0<=f
  .obtain ⟨z0,z1⟩:=hz
   by_cases m0:a.n.sz<=off
   .have e0:J=(.ok [],j):=by rw [<- S.out];exact (if_pos ⟨z0,z1⟩).trans (if_pos m0)
    have H:=ae e0;clear e0 S
    go_wp2_with fail
    (with_reducible refine (gH k).mono ?_)
    rintro e Q ⟨rfl,rfl⟩
    go_wp2_with fail
    go_region_held3 (fun B=>B.cell? ⟨t,0,Y⟩=Z (X W off)/\B.cell? ⟨d,3,Y⟩=Z (X W a.n.sz)) (first|exact ⟨co,c3⟩|go_keep) (fail)
    all_goals
     clear co cc c3
     go_wp2_with fail
     refine F.out _ _ ?_;rw [E.out,H.out];have h9:ag k.drew (gX [] (U Y 0 0)*(aG x b j*(al b*(aP d a*G)))):=(R.out.drew.eU 5 1)
     exact ⟨b,_,hS,M.drew,rfl,(h9.to (by ac_rfl:_=aP d a*(gX [] (U Y 0 0)*(aG x b j*(al b*G))))).right⟩
   .have H0:off<a.n.sz:=by omega
    obtain ⟨m,hm⟩:∃ m,(min f (a.n.sz-off)).toNat=m:=⟨_,rfl⟩
    obtain ⟨o,ho⟩:∃ o:Nat,off=(o:Int):=⟨off.toNat,by omega⟩
    have e0:C8 x.c.ask a o m 0 (zs m) j=J:=by
     rw [<- S.out];refine Eq.symm ((if_pos ⟨z0,z1⟩).trans ((if_neg m0).trans ?_));rw [hm,ho,Int.toNat_natCast]
    have n1:min f (a.n.sz-off)=(m:Int):=by omega
    have H1:(o:Int)+m<=122880:=by omega
    have H:=ae e0;have c1:∀ w,(Instr.makeSlice 23 (X W (m:Int)) (X W (m:Int))).run T w = .ok (U (Z ⟨w.heap.size,0,Y⟩) m m) (w.alloc (.cells (ed (zs m)) 5 (0,0))):=fq m (by omega);have hB:=oR m (by omega) (R.out.drew.drew);have m1:¬ (a.n.sz<=off):=m0;subst ho;clear e0 S hm m0;obtain ⟨ZB,X0⟩:∃ i1,i1=ed (zs m):=⟨_,rfl⟩
    rw [<- X0] at c1 hB;clear X0
    go_wp2_with fail
    (with_reducible refine (gH k).mono ?_)
    rintro e Q ⟨rfl,rfl⟩
    go_wp2_with fail
    go_region_held3 (fun B=>B.cell? ⟨t,0,Y⟩=Z (X W (o:Int))/\B.cell? ⟨d,3,Y⟩=Z (X W a.n.sz)) (first|exact ⟨co,c3⟩|go_keep) (fail)
    rename_i d0;have Z0:decide (a.n.sz<=(o:Int))=Y':=decide_eq_false (by omega);have H5:=ae R.out.drew;have D5:=ae M.drew;have x0:=SO.out k.drew (aG x b j*(al b*(aP d a))) (H5.out.to (by ac_rfl));have u0:=SC.out k.drew (aG x b j*(al b*(aP d a))) (H5.out.to (by ac_rfl));have r0:k.drew.cell? ⟨d,3,Y⟩=Z (X W a.n.sz):=d0.2;clear d0 co cc c3 R M;generalize k.drew=Q at *;rw [Z0];clear Z0
    go_wp2_with fail
    have p1:(if IntKind.i64.wrap (a.n.sz-(o:Int))<f then IntKind.i64.wrap (a.n.sz-(o:Int)) else f)=(m:Int):=by
     have e:IntKind.i64.wrap (a.n.sz-(o:Int))=a.n.sz-(o:Int):=by rw [IntKind.wrap_i64];omega
     rw [e];split <;> omega
    refine wp_region_held_drew (S:=(fun B=>B.cell? ⟨t,0,Y⟩=Z (X W (o:Int))/\B.cell? ⟨z,0,Y⟩=Z (X W f)/\B.cell? ⟨d,3,Y⟩=Z (X W a.n.sz))) (by kernel_rfl) ?_ (fun d0=>?_)
    ·(first|exact ⟨x0,u0,r0⟩|go_keep)
    refine tk 0 ?_;refine tk 1 ?_;refine tk 2 ?_;refine tk 3 ?_;refine tk 4 ?_;refine tk 5 ?_;refine tk 6 ?_;refine tk 7 ?_;refine wpAnyH_take (i:=8) (v:=X W (m:Int)) rfl (by kernel_rfl) (by kernel_rfl) (by kernel_rfl) (fun _ _ _ h=>h) (Or.inl ⟨by kernel_rfl,?_⟩) (by assumption) ?_
    .intro w l1;(try dsimp only at l1);go_simp
    try simp only [List.getElem_toArray,List.getElem_cons_succ,List.getElem_cons_zero,Act.put,List.setIfInBounds_toArray,List.set_cons_zero,List.set_cons_succ]
    refine tr 9 fun g1 hK=>?_
    go_simp
    refine hK.out _ _ ?_ (fun d0=>?_)
    ·(first|exact ⟨x0,u0,r0⟩|go_keep)
    clear hK g1;refine tk 10 ?_;refine wpAnyH_done (by kernel_rfl) ?_ _;rename_i j1;rw [show IntKind.i64.wrap (a.n.sz-(o:Int))=a.n.sz-(o:Int) from by rw [IntKind.wrap_i64];omega];have D6:aj w (Q.alloc (.cells ZB 5 (0,0))).drew:=D5.out.drew.alloc (.cells ZB 5 (0,0));have T0:ag (Q.alloc (.cells ZB 5 (0,0))).drew (bs 5 (U (Z ⟨Q.heap.size,0,Y⟩) m m) (zs m)*(aG x b j*(al b*(aP d a*G)))):=hB;clear d0 j1 hB x0 u0 r0 c1 p1 H5 D5;generalize (Q.alloc (.cells ZB 5 (0,0))).drew=w5 at *;generalize Q.heap.size=g at *;have R0:=ae T0;have E1:(m:Int)<=122880:=by omega
    have L1:(o:Int)<=122880:=by omega
    have D1:0<=(m:Int):=by omega
    clear T0 SC n1 m1 H0 z1
    go_wp2_with fail
    go_loopw [8] (fun N0 wr=>UG x d a o m g k0 G w J N0 wr) (fun N0 _=>m-(intOf N0).toNat)
    case atStart=>exact ⟨0,m,zs m,j,b,Nat.zero_le _,bg m,Nat.le_refl _,rfl,H.out,hS,D6,R0.out⟩
    case round=>
     obtain ⟨done,F0,A,u,s,x1,S0,hf,rfl,W0,V0,dk,f0⟩:=hrel;have j0:=ae W0;have i0:=ae V0;have D:=ae S0;clear R0 H W0 V0 S0 D6
     by_cases H0:done<m
     .have B1:(done:Int)<(m:Int):=by omega
      obtain ⟨f',rfl⟩:∃ f',F0=f'+1:=⟨F0-1,by omega⟩
      have O:done<A.length:=by rw [D.out];exact H0
      have co:=SO.out wr (bs 5 (U (Z ⟨g,0,Y⟩) m m) A*(aG x s u*(al s*(aP d a)))) (f0.to (by ac_rfl));obtain ⟨l,p⟩:∃ l,iJ (A.length-done) (o+done)=l:=⟨_,rfl⟩
      have n0:l=min (m-done) (480-(o+done)%480):=by rw [<- p,D.out];rfl
      obtain ⟨q,hq⟩:∃ q,(o+done)/480=q:=⟨_,rfl⟩
      obtain ⟨r,hr⟩:∃ r,(o+done)%480=r:=⟨_,rfl⟩
      have o1:q<256:=by omega
      have N1:r<480:=by omega
      rw [hr] at n0;have y1:1<=l:=by omega
      have b1:done+l<=m:=by omega
      have A1:r+l<=480:=by omega
      have M1:((o:Int)+(done:Int)).tdiv 480=(q:Int):=by rw [H6 (by omega)];omega
      have O1:((o:Int)+(done:Int)).tmod 480=(r:Int):=by rw [H7 (by omega)];omega
      have K1:(if (480:Int)-(r:Int)<((m-done:Nat):Int) then (480:Int)-(r:Int) else ((m-done:Nat):Int))=(l:Int):=by split <;> omega
      have R1:(m:Int)-(done:Int)=((m-done:Nat):Int):=by omega
      have c0:=nT wr d a _ (f0.to (by ac_rfl:_=aP d a*(bs 5 (U (Z ⟨g,0,Y⟩) m m) A*(aG x s u*(al s*G))))) q o1;unfold MP at c0
      by_cases N:a.aN q=0
      .have y:=ae ((Rt O (by rw [hq];exact N) u).symm.trans j0.out)
       rw [p] at y;rw [N] at c0;clear N n0 hq hr p
       go_wp2_with fail
       (with_reducible refine c0.mono ?_)
       rintro e w6 ⟨rfl,rfl⟩
       go_wp2_with fail
       go_roundw
       case rel=>exact ⟨done+l,f',A,u,s,b1,D.out,by omega,by go_num,y.out,i0.out,dk,f0⟩
       case measure=>simp [intOf];omega
      .have h1:(a.aN q != 0)=true:=by simpa using N
       have p0:=lT x hc wr s u (a.aN q) _ (f0.to (by ac_rfl:_=aG x s u*(al s*(aP d a*(bs 5 (U (Z ⟨g,0,Y⟩) m m) A*G)))));obtain ⟨⟨r2,q0⟩,g0⟩:∃ L0,cZ x.c.ask (a.aN q) u=L0:=⟨_,rfl⟩
       rw [g0] at p0;have o0:cZ x.c.ask (a.aN ((o+done)/480)) u=(r2,q0):=by rw [hq];exact g0
       have l0:a.aN ((o+done)/480)≠0:=by rw [hq];exact N
       cases r2 with
       | bad cN=>
        have y:=ae ((U9 O l0 o0).symm.trans j0.out);clear N l0 g0 o0 n0 hq hr p;generalize a.aN q=u1 at *
        go_wp2_with fail
        (with_reducible refine c0.mono ?_)
        rintro e w6 ⟨rfl,rfl⟩
        go_wp2_with fail
        (with_reducible refine p0.mono ?_)
        rintro e w4 ⟨I,G0,d4,rfl,h6⟩
        go_wp2_with fail
        exact ⟨rfl,F.out _ _ (by rw [E.out,<- y.out];exact ⟨I,i0.out.trans G0,dk.trans d4,rfl,(h6.to (by ac_rfl:_=(aP d a*bs 5 (U (Z ⟨g,0,Y⟩) m m) A)*(aG x I q0*(al I*G)))).right⟩)⟩
       | ok L=>
        have HL:=ae (iW g0);have y:=ae ((Vf O l0 o0).symm.trans j0.out);rw [p,hr] at y;clear N l0 g0 o0 n0 hq hr p;generalize a.aN q=u1 at *
        go_wp2_with fail
        (with_reducible refine c0.mono ?_)
        rintro e w6 ⟨rfl,rfl⟩
        go_wp2_with fail
        (with_reducible refine p0.mono ?_)
        rintro e w4 ⟨I,v4,G0,d4,rfl,h6⟩;unfold gX at h6;obtain ⟨ga,ca,w1,rfl,a1,a2,a3,a4,a5,a6⟩:=oQ h6 (by rw [HL.out];decide);obtain ⟨g',c',D0,e,k1,k2,k3,k4,k5,k6⟩:=oQ (h6.to (by ac_rfl:_=bs 5 (U (Z ⟨g,0,Y⟩) m m) A*(bs 5 (U (Z ⟨ga,0,Y⟩) L.length ca) L*(aG x I q0*(al I*(aP d a*G)))))) (Nat.lt_of_le_of_lt (Nat.zero_le _) O);simp only [Value.slice.injEq,Option.some.injEq,Addr.mk.injEq] at e;obtain ⟨⟨rfl,-,-⟩,-,rfl⟩:=e;have b0:((L.drop r).take l).length=l:=by rw [D7,List.length_drop,HL.out];omega
        have h7:=(k6 done ((L.drop r).take l) (by rw [b0,D.out];omega)).1
        have Y0:=fun ty=>run_copy_row (P:=T) w4 23 23 ty 5 g done l (m-done) ⟨ga,r,Y⟩ (480-r) (ca-r) D0 5 (((L.drop r).take l).map u8) underlying23 B9 k4
         (by rw [A2,b0];exact (Nat.min_eq_right (by omega)).symm)
         (fun d1 v hv=>by
          have hj:d1<l:=by rw [<- b0];simpa using (List.getElem?_eq_some_iff.1 hv).1
          rw [Addr.add_lit,(a5 (r+d1) (by rw [HL.out];omega)).1,<- hv,List.getElem?_map,D3,if_pos hj,List.getElem?_drop];rw [A3,E2 (by rw [HL.out];omega)];rfl)
         (by rw [A2,b0,k3];omega) (se _)
        generalize (D0.toList.take done++((L.drop r).take l).map u8++D0.toList.drop (done+(((L.drop r).take l).map u8).length)).toArray=RW at *;have e1:=ae Y0;have f1:=ae b0;have h8:=ae h7.ah.right;rw [HL.out] at a1 ⊢;clear p0 c0 h6 h7 Y0 b0 a2 a3 a4 a5 a6 k1 k2 k4 k5 k6
        go_wp2_with (refine fD (e1.out _) _ _ rfl rfl rfl rfl rfl ?_)
        go_roundw
        case rel=>exact ⟨done+l,f',putAt A done ((L.drop r).take l),q0,I,b1,by rw [gv (by rw [f1.out,D.out];omega)];exact D.out,by omega,by go_num,y.out,i0.out.trans G0,(dk.trans d4).setRow _ _,h8.out⟩
        case measure=>simp [intOf];omega
     .have O:A.length<=done:=by rw [D.out];omega
      have y:=ae ((Pe (ask:=x.c.ask) (h:=a) (off:=o) (f:=F0) O u).symm.trans j0.out);clear O
      go_wp2_with fail
      refine F.out _ _ ?_;rw [E.out,<- y.out]
      exact ⟨s,_,i0.out,dk,rfl,by
       show ag wr (bs 5 _ A*_)
       exact (f0.to (by ac_rfl:_=aP d a*(bs 5 (U (Z ⟨g,0,Y⟩) m m) A*(aG x s u*(al s*G))))).right⟩
  .have hT:J=(.bad 1,j):=by rw [<- S.out];exact if_neg hz
   have H:=ae hT;clear hT S
   by_cases S1:0<=off
   .have t1:decide (0<=f)=Y':=decide_eq_false (by omega)
    clear hz
    go_wp2_with fail
    (with_reducible refine (gQ k).mono ?_)
    rintro e w4 ⟨rfl,rfl⟩
    go_wp2_with fail
    exact ⟨rfl,F.out _ _ (by rw [E.out,H.out];exact ⟨b,hS,M,rfl,(R.out.to (by ac_rfl:_=aP d a*(aG x b j*(al b*G)))).right⟩)⟩
   .have t1:off<0:=by omega
    clear hz
    go_wp2_with fail
    (with_reducible refine (gQ k).mono ?_)
    rintro e w4 ⟨rfl,rfl⟩
    go_wp2_with fail
    exact ⟨rfl,F.out _ _ (by rw [E.out,H.out];exact ⟨b,hS,M,rfl,(R.out.to (by ac_rfl:_=aP d a*(aG x b j*(al b*G)))).right⟩)⟩
end
end Go.Proofs.Fs
