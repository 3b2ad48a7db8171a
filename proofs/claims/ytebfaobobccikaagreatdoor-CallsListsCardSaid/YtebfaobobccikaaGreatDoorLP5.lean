/- Steps. -/
import Derived.Test.YtebfaobobccikaaGreatDoorLP3
import Derived.Deep.DeepFit
import Derived.Laws.Rows
import Derived.Laws.Tables
set_option linter.all false
set_option maxRecDepth 99999
set_option maxHeartbeats 0
open Go.SL
open Go.Value renaming int->Z,slice->V
open Go.Obj renaming cells->X
open Go.Ending renaming returned->R
open Go renaming World->Y,Value->U
open Go.Proofs.Tryz renaming prog->W
open Option renaming some->T,none->S
open Go.Proofs.Tryz
open BitVec renaming ofInt->D0
open List renaming nil_append->F0,length_drop->H0,length_append->L0,getElem?_map->N0,getElem?_eq_getElem->R0,take_of_length_le->S0,length_take->V0,map_append->W0,getElem?_take->X0,toList_toArray->Z0
open Nat renaming zero_le->G0,le_refl->K0,zero_add->T0
open Go.Addr renaming add_lit->Y0
namespace Go.SL
open RowKit
theorem MU (l:List UInt8) (j:Nat) (n:j<8) :
  bits .or .u64 (iM l j) (IntKind.u64.wrap (IntKind.u64.wrap ((l[j]?.getD 0).toNat:Int)*2 ^ (8*j)))=iM l (j+1):=by
 have o:((l[j]?.getD 0).toNat:Int)<256:=by have:=UInt8.toNat_lt (l[j]?.getD 0);omega
 have a:0<=((l[j]?.getD 0).toNat:Int):=by omega
 obtain ⟨i,b⟩:=gZ l j;have e:l.getD j 0=l[j]?.getD 0:=by simp [List.getD]
 rw [iM,e];have h:(256:Int) ^ j=2 ^ (8*j):=by rw [Int.pow_mul];rfl
 have f:(256:Int) ^ j<=72057594037927936:=by
  obtain rfl|rfl|rfl|rfl|rfl|rfl|rfl|rfl:j=0\/j=1\/j=2\/j=3\/j=4\/j=5\/j=6\/j=7:=by omega
  all_goals decide
 have g:0<(256:Int) ^ j:=Int.pow_pos (by decide);generalize ((l[j]?.getD 0).toNat:Int)=x at *;rw [h] at b f g ⊢;have k:0<=x*2 ^ (8*j):=Int.mul_nonneg a (by omega);have m:x*2 ^ (8*j)<=255*2 ^ (8*j):=Int.mul_le_mul_of_nonneg_right (by omega) (by omega);have c:IntKind.u64.wrap x=x:=by rw [IntKind.wrap_u64];omega
 have d:IntKind.u64.wrap (x*2 ^ (8*j))=x*2 ^ (8*j):=by rw [IntKind.wrap_u64];omega
 rw [c,d];exact JK i b a (by omega)
theorem xh {P:Program} {w:Y} {g n:Nat} {v:U} {l:List UInt8} {b dT:TypeId} {F:ai} (j:P.underlying dT=T (.slice b)) (i:(P.info? b).map (·.size)=T 1)
  (h:ag w (pt g (X (dP (zs n)) b (0,0))*F)) (d:Rd w v l) (e:TypeId) :
  ∃ f p,(Builtin.copy_ #[dT,dT] e #[V (T ⟨g,0,S⟩) n n,v]).run P w = .ok p f/\ag f (pt g (X (dP (bW n l)) b (0,0))*F)/\aj w f:=by
 obtain ⟨q,d⟩:=d;rcases d with ⟨rfl,k⟩|⟨a,c,rfl,o⟩
 .have:l=[]:=List.eq_nil_of_length_eq_zero k
  subst this;refine ⟨w,_,run_copy_nil (P:=P) w dT dT e b ⟨g,0,S⟩ n n j (by rw [i];rfl),?_,aj.refl w⟩;rw [bW,F0,S0 (by rw [bh];exact K0 _)];exact h
 .have:=run_copy_row (P:=P) w dT dT e b g 0 n n a l.length c (dP (zs n)) b ((l.take n).map u8) j i h.heap (by simp [Nat.min_comm]) (by rw [List.map_take];exact o.take n)
   (by simp [eO,bh];omega) (sJ _)
  refine ⟨_,_,this,?_,(aj.refl w).setRow _ _⟩;have m:=h.setRow (cs':=((dP (zs n)).toList.take 0++(l.take n).map u8++(dP (zs n)).toList.drop (0+((l.take n).map u8).length)).toArray);refine m.to ?_;congr 3;simp only [dP,bW,zs,List.take_zero,F0,T0,List.length_map,V0,W0,List.map_take,List.take_append,List.map_replicate,List.drop_replicate,List.take_replicate,Z0];congr 3;omega
theorem Mm (l:List UInt8) (k:Nat):∀ j,j<=k->iM (l.take k) j=iM l j:=by
 intro j
 induction j with
 | zero=>intro _;rfl
 | succ j a=>
  intro b;rw [iM,iM,a (by omega)];congr 3;simp [List.getD,X0,show j<k by omega]
end Go.SL
namespace Go.Proofs.Fs
open RowKit SL Proofs.Ba
variable {w:Y} {v:U} {l:List UInt8} {F:ai} {cap g o r:Nat} {cur:Array U}
def zx (l:List UInt8) (w:Y) (e:Ending) (a:Y):Prop:=∃ v,e = R v/\ag a (bs 5 v l*whole w)/\aj w a
theorem gP (w:Y) (n m:Int) (a:0<=n) (b:n<=m):Calls W 221 #[Z .i64 n,Z .i64 m] w (mE n w):=by
 go_enter func221,ntmps221
 go_wp2
 go_ret
 exact ⟨rfl,rfl⟩
theorem nf {x:UInt8} (h:ag w (bs 5 v l*F)) (r:l.length<=1000000) :
  ∃ b d,(Builtin.append_ #[22,22] 22 #[v,V (T ⟨w.heap.size,0,S⟩) 1 1]).run W (w.alloc (X #[u8 x] 5 (0,0))) = .ok b d/\ag d (bs 5 b (l++[x])*F)/\aj w d/\∃ a c,b = V a (l.length+1) c:=by
 obtain ⟨s,m,q,o,k⟩:=info_parts gM;have f:=h.alloc (X #[u8 x] 5 (0,0))
 have i:oG (w.alloc (X #[u8 x] 5 (0,0))) 1 (V (T ⟨w.heap.size,0,S⟩) 1 1) 1 [u8 x]:=
  ⟨rfl,.inr ⟨_,_,rfl,fun j u e=>by
   rw [Y0,T0];exact (f.cell j).trans (by simpa using e)⟩⟩
 obtain ⟨b,d,n,g,p⟩:=ag.append (P:=W) (ty:=22) underlying22 m q o k rfl f.right i (by intro u e;rw [List.mem_singleton.1 e];rfl) (by unfold maxLen;omega) (by omega);refine ⟨b,d,n,g.to (by rw [bs,L0,W0];rfl),((aj.refl w).alloc _).trans p,aE g⟩
theorem iw {v b:U} {l m:List UInt8} (h:ag w (bs 5 v l*F)) (j:Rd w b m) (q:l.length<=1000000) (r:m.length<=1000000) :
  ∃ d e,(Builtin.append_ #[22,22] 22 #[v,b]).run W w = .ok d e/\ag e (bs 5 d (l++m)*F)/\aj w e/\∃ a c,d = V a (l.length+m.length) c:=by
 obtain ⟨s,i,p,n,g⟩:=info_parts gM;obtain ⟨d,e,k,f,o⟩:=ag.append (P:=W) (ty:=22) underlying22 i p n g rfl h j (sJ m) (by unfold maxLen;omega) (by omega);refine ⟨d,e,k,f.to (by rw [bs,L0,W0]),o,aE f⟩
def Ej (l:List UInt8) (n:Int) (k:Nat) (w:Y) (u2 u7 u19:U) (wr:Y):Prop:=
 ∃ j:Nat,j<=k/\u19 = Z .i64 (j:Int)/\u2 = Z .u64 (n/(256:Int) ^ j)/\ag wr (bs 5 u7 (l++dx n j)*whole w)/\aj w wr
theorem eZ (w:Y) (v:U) (l:List UInt8) (k:Nat) (n:Int) (p:Rd w v l) (hl:l.length<=1000) (hk:k<=8) (n0:0<=n) (n1:n<18446744073709551616) :
  Calls W 169 #[v,Z .i64 (k:Int),Z .u64 n] w (zx (l++dx n k) w):=by
 have J:=gP w (k:Int) 8 (by omega) (by omega);obtain ⟨va,vc,rfl⟩:=p.shape
 have o:∀ w,(Instr.makeSlice 22 (Z .i64 0) (Z .i64 ((l.length:Int)+(k:Int)))).run W w = .ok (V (T ⟨w.heap.size,0,S⟩) 0 (l.length+k)) (w.alloc (X (dP (zs (l.length+k))) 5 (0,0))):=fun w=>by
  obtain ⟨i,F,K,I,D⟩:=info_parts gM;have:=run_make (P:=W) w 22 5 i _ underlying22 F K .i64 .i64 0 ((l.length:Int)+(k:Int)) (by omega) (by omega) (by rw [D];omega) (by omega);rw [this,I];have B:((l.length:Int)+(k:Int)).toNat=l.length+k:=by omega
  rw [B];exact congrArg (fun c=>Result.ok _ (w.alloc (X c _ (0,0)))) (jC (l.length+k))
 have m:=(ag.whole w).alloc (X (dP (zs (l.length+k))) 5 (0,0))
 have C:ag (w.alloc (X (dP (zs (l.length+k))) 5 (0,0))) (bs 5 (V (T ⟨w.heap.size,0,S⟩) 0 (l.length+k)) []*whole w):=by
  have:=ag.nj (sz:=1) (n:=0) (cap:=l.length+k) m (by omega) (by unfold maxLen;omega) (by simp [eO,bh]);simpa [bs] using this
 obtain ⟨v1,w1,a,g,z,L,N,rfl⟩:=iw C (p.bB m) (by simp) (by omega);rw [F0] at g;have t:=((aj.refl w).alloc (X (dP (zs (l.length+k))) 5 (0,0))).trans z;have b:=ae a;have x:=ae o
 go_enter func169,ntmps169
 go_wp2_with fail
 (refine J.mono ?_)
 rintro e w2 ⟨rfl,rfl⟩;have o:=x.out
 go_wp2_with (at_builtin;refine wpList_append_run b.out _ _ rfl rfl rfl rfl rfl ?_)
 go_loopw [2,7,19] (fun u2 u7 u19 wr=>Ej l n k w u2 u7 u19 wr) (fun _ _ u _=>k-(intOf u).toNat)
 case atStart=>exact ⟨0,G0 _,rfl,by simp,by simpa [dx] using g,t⟩
 case round=>
  obtain ⟨j,P,rfl,rfl,d,r⟩:=hrel
  by_cases Q:j<k
  .have b0:(j:Int)<(k:Int):=by omega
   have G:0<(256:Int) ^ j:=Int.pow_pos (by decide)
   have s:n/(256:Int) ^ (j+1)=n/(256:Int) ^ j/256:=by
    rw [Int.pow_succ,Int.ediv_ediv,if_neg (fun E=>absurd E.1 (by omega)),Int.sub_zero]
   have q:=Ak n j;obtain ⟨v',w6,a,h,A,M,O,rfl⟩:=nf (x:=UInt8.ofInt (n/(256:Int) ^ j)) d (by rw [L0,bp];omega);have f:=zF (n/(256:Int) ^ j);rw [IntKind.wrap_u8] at f;rw [List.append_assoc,<- q,L0] at h;generalize H:n/(256:Int) ^ j=c0 at *;rw [<- f] at a;have b:=ae a;have y:=ae s;clear a q f d H s G
   go_wp2_with (at_builtin;refine wpList_append_run b.out _ _ rfl rfl rfl rfl rfl ?_)
   go_roundw
   case rel=>exact ⟨j+1,by omega,by go_num,by rw [y.out],h,r.trans A⟩
   case measure=>simp [intOf];omega
  .obtain rfl:j=k:=by omega
   go_wp2_with fail
   go_ret
   exact ⟨_,rfl,d,r⟩
theorem om (w:Y) (v:U) (l:List UInt8) (i:Rd w v l) (n:Nat) (p:n<=4096) :
  Calls W 170 #[v,Z .i64 (n:Int)] w (zx (bW n l) w):=by
 have m:=gP w (n:Int) 4096 (by omega) (by omega);have b:=fh n (by omega);have a:=(ag.whole w).alloc (X (dP (zs n)) 5 (0,0));have c:=(aj.refl w).alloc (X (dP (zs n)) 5 (0,0));obtain ⟨o,q,j,h,g⟩:=xh (P:=W) (dT:=22) underlying22 (by kernel_rfl) a (i.bB a) 3
 have k:ag o (bs 5 (V (T ⟨w.heap.size,0,S⟩) n n) (bW n l)*whole w):=by
  have:=ag.nj (sz:=1) (n:=n) (cap:=n) h (K0 _) (by unfold maxLen;omega) (by rw [eO,cm];omega);rw [bs,cm];refine this.to ?_;congr 2;simp only [dP,Nat.mul_one,Z0];rw [S0 (by simp [cm])]
 have f:=ae j;have d:=ae b
 go_enter func170,ntmps170
 go_wp2_with fail
 (refine m.mono ?_)
 rintro e r ⟨rfl,rfl⟩;have b:=d.out
 go_wp2_with (refine fo f.out _ _ rfl rfl rfl rfl rfl ?_)
 go_ret
 exact ⟨_,rfl,k,c.trans g⟩
def cu (r g a:Nat) (b:Array U) (L:List UInt8) (o:Nat):ai:=ex fun p:Nat × Nat=>
 fact ((L.length<=a/\a<=maxLen/\b.size=a/\b.toList.take L.length=L.map u8/\o<=L.length)/\(o<L.length->p.1=o/\p.2=a-o))*(pt r (X #[V (T ⟨g,p.1,S⟩) (L.length-o) p.2,.bool false] 295 (0,0))*pt g (X b 5 (0,0)))
theorem kH (h:ag w (cu r g cap cur l o*F)) :
  ∃ x c,(l.length<=cap/\cap<=maxLen/\cur.size=cap/\cur.toList.take l.length=l.map u8/\o<=l.length)/\(o<l.length->x=o/\c=cap-o)/\ag w (pt r (X #[V (T ⟨g,x,S⟩) (l.length-o) c,.bool false] 295 (0,0))*(pt g (X cur 5 (0,0))*F)):=by
 obtain ⟨⟨x,c⟩,h⟩:=ag.ax.1 h;obtain ⟨a,b⟩:=ag.au.1 (h.to (ay _ _ _):ag w (fact _*_));exact ⟨x,c,a.1,a.2,b.to (ay _ _ _)⟩
theorem nB (x c:Nat) (b:l.length<=cap/\cap<=maxLen/\cur.size=cap/\cur.toList.take l.length=l.map u8/\o<=l.length) (a:o<l.length->x=o/\c=cap-o)
  (h:ag w (pt r (X #[V (T ⟨g,x,S⟩) (l.length-o) c,.bool false] 295 (0,0))*(pt g (X cur 5 (0,0))*F))):ag w (cu r g cap cur l o*F):=
 (ag.ax.2 ⟨(x,c),(ag.au.2 ⟨⟨b,a⟩,h.to (ay _ _ _).symm⟩:ag w (fact _*_)).to (ay _ _ _).symm⟩:ag w (ex _*F))
def Ql (L:List UInt8) (w:Y) (e:Ending) (a:Y):Prop:=∃ r g b c,e = R (az r)/\ag a (cu r g b c L 0*whole w)/\aj w a
theorem nu (w:Y) (v:U) (L:List UInt8) (s:Rd w v L) (A:0<L.length) (r:L.length<=1000000) :
  Calls W 196 #[v] w (Ql L w):=by
 have p:ag w (bs 5 (V S 0 0) []*whole w):=(ag.whole w).eQ _ _;obtain ⟨C,f,t,d,j,y,a,rfl⟩:=iw p s (by simp) r;rw [F0] at d;have i:=ae t;rcases d.cW with ⟨b,_⟩|⟨g,z,c,b,u,x,B,e,n⟩
 .injection b with b l;omega
 injection b with b l m
 subst b;subst m;have o:=n.alloc (X #[V (T ⟨g,0,S⟩) L.length a,.bool false] 295 (0,0));have k:=j.alloc (X #[V (T ⟨g,0,S⟩) L.length a,.bool false] 295 (0,0))
 have q:ag (f.alloc (X #[V (T ⟨g,0,S⟩) L.length a,.bool false] 295 (0,0))) (cu f.heap.size g a c L 0*whole w):=
  nB 0 a ⟨u,x,by omega,by rw [Nat.mul_one] at e;exact e,G0 _⟩ (fun _=>⟨rfl,rfl⟩) o
 have h:=ae q
 go_enter func196,ntmps196
 go_wp2_with (at_builtin;refine wpList_append_run i.out _ _ rfl rfl rfl rfl rfl ?_)
 go_ret
 exact ⟨_,g,a,c,rfl,h.out,k⟩
end Go.Proofs.Fs
namespace Go.SL
open RowKit
theorem Rd.at {w:Y} {va:Option Addr} {n vc:Nat} {l:List UInt8} (h:Rd w (V va n vc) l) (e:0<l.length):∃ g o,va=T ⟨g,o,S⟩/\∀ i x,l[i]?=T x->w.cell? ⟨g,o+i,S⟩=T (u8 x):=by
 rcases h.2 with ⟨d,m⟩|⟨a,c,d,b⟩
 .omega
 .cases d
  obtain ⟨g,o,p⟩:=a;have f:=b 0 (u8 l[0]) (by rw [N0,R0 e];rfl);have j:p=S:=by simpa [Addr.add] using World.cell?_spot f
  subst j;refine ⟨g,o,rfl,fun i x k=>?_⟩;have:=b i (u8 x) (by rw [N0,k];rfl)
  rwa [Y0] at this
end Go.SL
namespace Go.Proofs.Fs
open RowKit SL Proofs.Ba
variable {w:Y} {cap g o' r:Nat} {cur:Array U} {L:List UInt8} {F:ai}
theorem BL:(prog.info? 321).map (·.size)=T 2:=by kernel_rfl
theorem G4 (a b:Int):(prog.info? 321).map (·.size)=T (#[Z .u64 a,Z .u64 b]:Array U).size:=BL
theorem O8 (a b:Int):(#[Z .u64 a,Z .u64 b]:Array U).all (·.oneCell')=true:=by simp [Value.oneCell']
theorem Ki (w:Y) (l:List UInt8) (j:Nat) (h:j<l.length) (g:l.length<=8) (x:UInt8) (f:l[j]?=T x) :
  Calls W 266 #[.agg #[Z .u64 (iM l j),Z .u64 (8*(j:Int))],u8 x] w (lG (.agg #[Z .u64 (iM l (j+1)),Z .u64 (8*(j:Int)+8)]) w):=by
 have b:=MU l j (by omega);rw [f,Option.getD_some] at b;have a:=((ag.whole w).alloc (X #[Z .u64 (iM l j),Z .u64 (8*(j:Int))] 321 (0,0))).alloc (X #[Z .u64 (iM l (j+1)),Z .u64 (8*(j:Int)+8)] 321 (0,0));have d:=((aj.refl w).alloc (X #[Z .u64 (iM l j),Z .u64 (8*(j:Int))] 321 (0,0))).alloc (X #[Z .u64 (iM l (j+1)),Z .u64 (8*(j:Int)+8)] 321 (0,0));rw [World.size_alloc] at a;unfold u8;have i:0<=(x.toNat:Int):=by omega
 have k:(x.toNat:Int)<256:=by have:=UInt8.toNat_lt x;omega
 generalize (x.toNat:Int)=c at *;have e:IntKind.u64.wrap c=c:=by rw [IntKind.wrap_u64];omega
 rw [e] at b
 go_enter func266,ntmps266
 go_wp2
 exact bodyPost_ret (results_cell_row rfl _ _ _ 321 _ (0,0) _ rfl a.heap underlying321 rfl BL) rfl ⟨rfl,a.right.right,d⟩
def NY (l:List UInt8) (b:Nat) (w:Y) (u8:U) (wr:Y):Prop:=
 ∃ j:Nat,j<=l.length/\u8 = Z .i64 (j:Int)/\ag wr (pt b (X #[Z .u64 (iM l j),Z .u64 (8*(j:Int))] 321 (0,0))*whole w)/\aj w wr
theorem GV (w:Y) (v:U) (l:List UInt8) (i:Rd w v l) (z:l.length<=8) :
  Calls W 241 #[v] w (lG (Z .u64 (iM l l.length)) w):=by
 obtain ⟨I,J,rfl⟩:=i.shape;have q:=ae i;have d:=(ag.whole w).alloc (X #[Z .u64 0,Z .u64 0] 321 (0,0));have t:=(aj.refl w).alloc (X #[Z .u64 0,Z .u64 0] 321 (0,0))
 go_enter func241,ntmps241
 go_wp2_with fail
 generalize w.heap.size=b at d ⊢
 go_loopw [8] (fun u wr=>NY l b w u wr) (fun u _=>l.length-(intOf u).toNat)
 case atStart=>exact ⟨0,G0 _,rfl,d,t⟩
 case round=>
  obtain ⟨j,G,rfl,a,k⟩:=hrel;have A:=q.out.bB a;have D:=a.cell 0;have E:=a.cell 1
  by_cases h:j<l.length
  .have H:(j:Int)<(l.length:Int):=by omega
   obtain ⟨x,m⟩:∃ x,l[j]?=T x:=⟨_,R0 h⟩
   obtain ⟨g,o,rfl,f⟩:=A.at (by omega);have F:=f j x m;clear f;have B:=Ki wr l j h z x m;have r:=ae a
   go_wp2_with fail
   (refine B.mono ?_)
   rintro e K ⟨rfl,y,s⟩;have c:=y.du r.out;have C:=c.heap;have n:=c.setRow (cs':=#[Z .u64 (iM l (j+1)),Z .u64 (8*(j:Int)+8)]);have p:=ae n
   go_wp2_with (refine wpList_store_row rfl 321 (.tmp 3) (.tmp 14) rfl b #[Z .u64 (iM l (j+1)),Z .u64 (8*(j:Int)+8)] rfl rfl 321 #[Z .u64 (iM l j),Z .u64 (8*(j:Int))] C (G4 _ _) rfl (O8 _ _) ?_)
   go_roundw
   case rel=>exact ⟨j+1,by omega,by go_num,by have:=p.out;rwa [show 8*(j:Int)+8=8*((j+1:Nat):Int) by omega] at this,(k.trans s).setRow _ _⟩
   case measure=>simp [intOf];omega
  .obtain rfl:j=l.length:=by omega
   go_wp2_with fail
   go_ret
   exact ⟨rfl,a.right,k⟩
def TR (r g b:Nat) (d:Array U) (L:List UInt8) (o n:Nat) (w:Y) (F:ai) (e:Ending) (a:Y):Prop:=
 ∃ c,e = R (.tuple #[V (T ⟨g,o,S⟩) n c,.bool true])/\ag a (cu r g b d L (o+n)*F)/\aj w a
theorem uy (w:Y) (r g i:Nat) (j:Array U) (L:List UInt8) (o n:Nat) (F:ai) (h:ag w (cu r g i j L o*F)) (G:o<L.length) (t:o+n<=L.length) (J:L.length<=1000000) :
  Calls W 240 #[az r,Z .i64 (n:Int)] w (TR r g i j L o n w F):=by
 obtain ⟨x,c,⟨v,q,z,A,N⟩,u,a⟩:=kH h;obtain ⟨rfl,rfl⟩:=u G;have C:=a.cell 0;have H:=a.frozen 0
 have p:∀ y d,ag (w.setCell ⟨r,0,S⟩ (V (T ⟨g,y,S⟩) (L.length-x-n) d)) (pt r (X #[V (T ⟨g,y,S⟩) (L.length-x-n) d,.bool false] 295 (0,0))*(pt g (X j 5 (0,0))*F)):=fun y d=>by
  have:=a.setCell 0 (V (T ⟨g,y,S⟩) (L.length-x-n) d);simpa only [List.setIfInBounds_toArray,List.set_cons_zero] using this
 obtain ⟨m,b⟩:∃ m,m=L.length-x:=⟨_,rfl⟩
 obtain ⟨k,l⟩:∃ k,k=i-x:=⟨_,rfl⟩
 rw [<- b,<- l] at C;rw [<- b] at p;have M:(n:Int)<=(m:Int):=by omega
 have K:(m:Int)<=(k:Int):=by omega
 have I:(k:Int)<=9223372036854775807:=by unfold maxLen at q;omega
 have f:=ae b;have B:=ae l;have s:=ae p;clear b l p a h u
 by_cases E:k=n
 .subst E
  have D:m=k:=by omega
  subst D
  go_enter func240,ntmps240
  go_wp2
  go_ret2
  refine ⟨_,rfl,?_,(aj.refl w).setCell _ _⟩;refine nB x 0 ⟨v,q,z,A,t⟩ (fun h=>?_) ?_
  .have:=f.out;omega
  .have:=s.out x 0
   have e:L.length-(x+m)=m-m:=by have:=f.out;omega
   rw [e];rw [Nat.sub_self] at this ⊢;exact this
 .go_enter func240,ntmps240
  go_wp2
  go_ret2
  refine ⟨_,rfl,?_,(aj.refl w).setCell _ _⟩;refine nB (x+n) (k-n) ⟨v,q,z,A,t⟩ (fun h=>⟨rfl,by have:=B.out;omega⟩) ?_;have:=s.out (x+n) (k-n);have e:L.length-(x+n)=m-n:=by have:=f.out;omega
  rw [e];exact this
theorem Rp (b:ag w (pt g (X cur 5 (0,0))*F)) (e:cur.toList.take L.length=L.map u8) (o n c:Nat) (h:o+n<=L.length):Rd w (V (T ⟨g,o,S⟩) n c) ((L.drop o).take n):=by
 have d:((L.drop o).take n).length=n:=by rw [V0,H0];omega
 refine ⟨by simp,.inr ⟨⟨g,o,S⟩,c,by rw [d],fun j u a=>?_⟩⟩;rw [Y0,b.cell];rw [N0,X0] at a
 split at a
 .rename_i f
  rw [List.getElem?_drop] at a;rw [<- Array.getElem?_toList];have:(cur.toList.take L.length)[o+j]?=cur.toList[o+j]?:=by rw [X0,if_pos (by omega)]
  rw [<- this,e,N0];exact a
 .cases a
theorem rG (h:ag w (cu g r cap cur L o'*F)) (o n c:Nat) (d:o+n<=L.length):Rd w (V (T ⟨r,o,S⟩) n c) ((L.drop o).take n):=
 have ⟨_,_,b,_,a⟩:=kH h
 Rp a.ah b.2.2.2.1 o n c d
theorem Om (h:ag w (cu g r cap cur L o'*F)):ag w F:=have ⟨_,_,_,_,a⟩:=kH h;a.right.right
def zN (r g b:Nat) (c:Array U) (L:List UInt8) (o n:Nat) (w:Y) (F:ai) (e:Ending) (a:Y):Prop:=
 e = R (Z .u64 (iM (L.drop o) n))/\ag a (cu r g b c L (o+n)*F)/\aj w a
theorem iR (w:Y) (r g a:Nat) (b:Array U) (L:List UInt8) (o n:Nat) (F:ai) (h:ag w (cu r g a b L o*F)) (t:o<L.length) (q:o+n<=L.length) (x:n<=8) (m:L.length<=1000000) :
  Calls W 197 #[az r,Z .i64 (n:Int)] w (zN r g a b L o n w F):=by
 have u:=gP w (n:Int) 8 (by omega) (by omega);have s:=uy w r g a b L o n F h t q m
 go_enter func197,ntmps197
 go_wp2_with fail
 (refine u.mono ?_)
 rintro e y ⟨rfl,rfl⟩
 go_wp2_with fail
 (refine s.mono ?_)
 rintro e v ⟨c,rfl,d,j⟩;have p:((L.drop o).take n).length=n:=by rw [V0,H0];omega
 have f:=GV v (V (T ⟨g,o,S⟩) n c) ((L.drop o).take n) (rG d o n c (by omega)) (by omega);rw [p,Mm _ _ _ (K0 _)] at f
 go_wp2_with fail
 (refine f.mono ?_)
 rintro e z ⟨rfl,l,k⟩;have i:=l.du d
 go_wp2
 go_ret
 exact ⟨rfl,i,j.trans k⟩
theorem BM (w:Y) (r g a:Nat) (b:Array U) (L:List UInt8) (o:Nat) (F:ai) (h:ag w (cu r g a b L o*F)) :
  Calls W 200 #[az r] w (mE ((L.length-o:Nat):Int) w):=by
 obtain ⟨x,c,_,_,d⟩:=kH h;have e:=d.cell 0
 go_enter func200,ntmps200
 go_wp2
 go_ret
 exact ⟨rfl,rfl⟩
def Qu (g o n:Nat) (w:Y) (F:ai) (L:List UInt8) (e:Ending) (a:Y):Prop:=
 ∃ c,e = R (.tuple #[V (T ⟨g,o,S⟩) n c,.bool true])/\Rd a (V (T ⟨g,o,S⟩) n c) (L.drop o)/\ag a F/\aj w a
theorem Gv (w:Y) (r g a:Nat) (b:Array U) (L:List UInt8) (o:Nat) (F:ai) (h:ag w (cu r g a b L o*F)) (j:o<L.length) (i:L.length<=1000000) :
  Calls W 240 #[az r,Z .i64 ((L.length-o:Nat):Int)] w (Qu g o (L.length-o) w F L):=by
 refine (uy w r g a b L o (L.length-o) F h j (by omega) i).mono ?_;rintro e l ⟨c,rfl,d,f⟩;have k:(L.drop o).take (L.length-o)=L.drop o:=S0 (by rw [H0];exact K0 _);have:=rG d o (L.length-o) c (by omega);rw [k] at this;exact ⟨c,rfl,this,Om d,f⟩
theorem Em (w:Y) (r g b:Nat) (d:Array U) (L:List UInt8) (o:Nat) (F:ai) (h:ag w (cu r g b d L o*F)) (s:o<L.length) (p:L.length<=1000000) :
  Calls W 199 #[az r,Z .i64 ((L.length-o:Nat):Int)] w fun e i=>∃ v,e = R v/\ag i (bs 5 v (L.drop o)*F)/\aj w i:=by
 have q:=Gv w r g b d L o F h s p;have y:(L.drop o).length=L.length-o:=H0;have z:((L.length-o:Nat):Int)<=1000000:=by omega
 go_enter func199,ntmps199
 go_wp2_with fail
 (refine q.mono ?_)
 rintro e u ⟨c,rfl,t,m,k⟩;have n:ag u (bs 5 (V S 0 0) []*F):=m.eQ _ _;obtain ⟨A,B,f,a,l,a3,x,rfl⟩:=iw n t (by simp) (by omega);simp only [List.length_nil,T0,H0] at f a;have j:=ae f;rw [F0] at a
 go_wp2_with (at_builtin;refine wpList_append_run j.out _ _ rfl rfl rfl rfl rfl ?_)
 go_ret
 exact ⟨_,rfl,a,k.trans l⟩
end Go.Proofs.Fs
namespace Go.SL
open RowKit
def th:List Int:=[0,498536548,997073096,651767980,1994146192,1802195444,1303535960,1342533948,3988292384,4027552580,3604390888,3412177804,2607071920,2262029012,2685067896,3183342108]
def Qt (z:Int):Int:=bits .xor .u32 (z/16) (th.getD (bits .and .u32 z 15).toNat 0)
def wG (x:Int):Nat->Int
 | 0=>x
 | m+1=>Qt (wG x m)
def y0 (l:List UInt8):Nat->Int
 | 0=>bits .xor .u32 IntKind.u32.max 0
 | k+1=>wG (bits .xor .u32 (y0 l k) ((l.getD k 0).toNat:Int)) 2
def Gl (l:List UInt8):Int:=bits .xor .u32 IntKind.u32.max (y0 l l.length)
theorem F7 (a b:Int):0<=bits .xor .u32 a b/\bits .xor .u32 a b<4294967296:=by
 have e:bits .xor .u32 a b=IntKind.u32.wrap ((D0 32 a ^^^ D0 32 b).toNat:Nat):=rfl;rw [e,IntKind.wrap_u32];omega
theorem Dg (l:List UInt8):0<=Gl l/\Gl l<4294967296:=F7 _ _
def pM (w:Y):Prop:=∀ k:Nat,k<16->w.cell? ⟨1,k,S⟩=T (Z .u32 (th.getD k 0))
end Go.SL
namespace Go.Proofs.Su
open RowKit SL Proofs.Ba Proofs.Fs
theorem TV (x:Int):∃ m:Nat,m<16/\bits .and .u32 x 15=(m:Int):=by
 refine ⟨(D0 32 x &&& D0 32 15).toNat,?_,?_⟩
 .rw [BitVec.toNat_and]
  have:(D0 32 15).toNat=2 ^ 4-1:=by decide
  rw [this,Nat.and_two_pow_sub_one_eq_mod];omega
 .show IntKind.u32.wrap ((D0 32 x &&& D0 32 15).toNat:Nat)=_
  have h:=(D0 32 x &&& D0 32 15).isLt;rw [IntKind.wrap_u32];omega
def QE (l:List UInt8) (w:Y) (u5 u11:U) (wr:Y):Prop:=∃ k:Nat,k<=l.length/\u11 = Z .i64 (k:Int)/\u5 = Z .u32 (y0 l k)/\w=wr
def Ol (a:Int) (w:Y) (u5 u21:U) (wr:Y):Prop:=∃ m:Nat,m<=2/\u21 = Z .i64 (m:Int)/\u5 = Z .u32 (wG a m)/\w=wr
def T7 (l:List UInt8) (w:Y) (e:Ending) (a:Y):Prop:=e = R (Z .u32 (Gl l))/\w=a
theorem Ko (w:World) (v:Value) (l:List UInt8) (hr:Rd w v l) (hl:l.length<=1000000) (hh:pM w) :
  Calls prog 222 #[.int .u32 0,v] w (T7 l w):=by
 obtain ⟨va,vc,rfl⟩:=hr.shape;have hln:(l.length:Int)<=1000000:=by omega
 go_enter func222,ntmps222
 go_wp2_with fail
 go_loopw [5,11] (fun u5 u11 wr=>QE l w u5 u11 wr) (fun _ u _=>l.length-(intOf u).toNat)
 case atStart=>exact ⟨0,G0 _,rfl,rfl,rfl⟩
 case round=>
  obtain ⟨k,hk,rfl,rfl,rfl⟩:=hrel
  by_cases hlt:k<l.length
  .have hlt':(k:Int)<(l.length:Int):=by omega
   obtain ⟨g,o,rfl,hc⟩:=hr.at (by omega);have hck:=hc k _ (R0 hlt)
   have hck':w.cell? ⟨g,o+k,none⟩=some (.int .u8 ((l.getD k 0).toNat:Int)):=by
    have:l.getD k 0=l[k]:=by simp [List.getD,R0 hlt]
    rw [this];exact hck
   have hN:y0 l (k+1)=wG (bits .xor .u32 (y0 l k) ((l.getD k 0).toNat:Int)) 2:=rfl;have hy1:(l.getD k 0).toNat<256:=(l.getD k 0).toNat_lt;generalize (l.getD k 0).toNat=y at hck' hy1 hN;generalize y0 l k=x at hN;have Hr:=ae hr;have HN:=ae hN;clear hck hc hr hN;have hy2:(y:Int)<256:=by omega
   go_wp2_with fail
   obtain ⟨x0,hx0⟩:∃ x0,x0=bits BinOp.xor IntKind.u32 x (y:Int):=⟨_,rfl⟩
   rw [<- hx0];have Hx0:=ae hx0;clear hx0
   go_loopw [5,21] (fun u5 u21 wr=>Ol x0 w u5 u21 wr) (fun _ u _=>2-(intOf u).toNat)
   case atStart=>exact ⟨0,G0 _,rfl,rfl,rfl⟩
   case round=>
    obtain ⟨m,hm,rfl,rfl,rfl⟩:=hrel;obtain ⟨q,hq1,hq2⟩:=TV (wG x0 m);have hc:=hh q hq1;have hq1':(q:Int)<16:=by omega
    have hS:wG x0 (m+1)=bits .xor .u32 (wG x0 m/16) (th.getD q 0):=by
     show Qt (wG x0 m)=_
     unfold Qt;rw [hq2,Int.toNat_natCast]
    by_cases hm2:m<2
    .have hm2':(m:Int)<2:=by omega
     generalize th.getD q 0=hv at hc hS;have HS:=ae hS;clear hS;generalize wG x0 m=z at HS hq2
     go_wp2_with fail
     refine ⟨⟨m+1,by omega,by go_num,by rw [HS.out],rfl⟩,by simp [intOf];omega⟩
    .obtain rfl:m=2:=by omega
     have hfin:wG x0 2=y0 l (k+1):=by rw [HN.out,Hx0.out]
     rw [hfin];have Hh:=ae hh;clear hS hfin hc hq2 hh
     go_wp2_with fail
     refine ⟨⟨k+1,by omega,by go_num,rfl,rfl⟩,by simp [intOf];omega⟩
  .obtain rfl:k=l.length:=by omega
   have e:bits .xor .u32 IntKind.u32.max (y0 l l.length)=Gl l:=rfl;generalize y0 l l.length=x at e;have E:=ae e;clear e
   go_wp2_with fail
   go_ret
   exact ⟨congrArg (fun z=>Ending.returned (Value.int .u32 z)) E.out,rfl⟩
theorem NT (w:Y) (v:U) (l:List UInt8) (c:Rd w v l) (d:l.length<=1000000) (a:pM w) :
  Calls W 171 #[v] w (T7 l w):=by
 have b:=Ko w v l c d a;clear c a
 go_enter func171,ntmps171
 go_wp2_with fail
 (with_reducible refine b.mono ?_)
 rintro e f ⟨rfl,rfl⟩;clear b
 go_wp2_with fail
 go_ret
 exact ⟨rfl,rfl⟩
def nO (n P:Int):Bool:=decide (4<=n) && decide (n<=3840) && decide (0<=P) && decide (P<=19999) && decide (5*n+240<=2*P)
def NA (n P:Int):U:=.agg #[Z .i64 n,Z .i64 P]
theorem eC {n P:Int}:nO n P=true↔4<=n/\n<=3840/\0<=P/\P<=19999/\5*n+240<=2*P:=by
 unfold nO;simp only [Bool.and_eq_true,decide_eq_true_eq,and_assoc]
def Fc (n P:Int) (w:Y) (e:Ending) (a:Y):Prop:=e = R (Z .i64 (if nO n P=true then 0 else 1))/\ag a (whole w)/\aj w a
theorem ue (w:Y) (n P:Int):Calls W 118 #[NA n P] w (Fc n P w):=by
 have g:=(ag.whole w).alloc (X #[Z .i64 n,Z .i64 P] 118 (0,0));have f:=(aj.refl w).alloc (X #[Z .i64 n,Z .i64 P] 118 (0,0));have d:=ae g.right;clear g;unfold NA;obtain ⟨c,a⟩:∃ c:Int,c=if nO n P=true then 0 else 1:=⟨_,rfl⟩
 have e:=ae a
 by_cases h:n<4
 .have b:c=1:=by rw [a,if_neg (by rw [eC];omega)]
  clear a
  go_enter func118,ntmps118
  go_wp2_with fail
  go_ret
  exact ⟨by rw [<- e.out,b];rfl,d.out,f⟩
 by_cases i:3840<n
 .have b:c=1:=by rw [a,if_neg (by rw [eC];omega)]
  clear a
  go_enter func118,ntmps118
  go_wp2_with fail
  go_ret
  exact ⟨by rw [<- e.out,b];rfl,d.out,f⟩
 by_cases a3:P<0
 .have b:c=1:=by rw [a,if_neg (by rw [eC];omega)]
  clear a
  go_enter func118,ntmps118
  go_wp2_with fail
  go_ret
  exact ⟨by rw [<- e.out,b];rfl,d.out,f⟩
 by_cases a4:19999<P
 .have b:c=1:=by rw [a,if_neg (by rw [eC];omega)]
  clear a
  go_enter func118,ntmps118
  go_wp2_with fail
  go_ret
  exact ⟨by rw [<- e.out,b];rfl,d.out,f⟩
 have j:4<=n:=by omega
 have k:n<=3840:=by omega
 have l:0<=P:=by omega
 have m:P<=19999:=by omega
 by_cases a5:2*P<5*n+240
 .have b:c=1:=by rw [a,if_neg (by rw [eC];omega)]
  clear a
  go_enter func118,ntmps118
  go_wp2_with fail
  go_ret
  exact ⟨by rw [<- e.out,b];rfl,d.out,f⟩
 .have b:c=0:=by rw [a,if_pos (by rw [eC];omega)]
  clear a
  go_enter func118,ntmps118
  go_wp2_with fail
  go_ret
  exact ⟨by rw [<- e.out,b];rfl,d.out,f⟩
end Go.Proofs.Su
