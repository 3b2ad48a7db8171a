/- Steps. -/
import Derived.Test.YtdickhgiahcnaaaGreatDoorNP3
import Derived.Deep.DeepFit
import Derived.Laws.Rows
import Derived.Laws.Tables
set_option linter.all false
set_option maxRecDepth 99999
set_option maxHeartbeats 0
open Go.SL
open Go.Value renaming int->Z,slice->V
open Go.IntKind renaming i64->Q,u64->T
open Go.Obj renaming cells->X
open Go.Ending renaming returned->O
open Go renaming World->Y,Value->U
open Go.Proofs.Tryz renaming prog->W
open Option renaming some->S,none->R
open Go.SL renaming Om0->Z'
open Go.Proofs.Tryz
open BitVec renaming ofInt->A3
open List renaming nil_append->A2,length_drop->B3,length_append->B1,getElem?_map->D9,getElem?_eq_getElem->D8,take_of_length_le->D7,length_take->D5,map_append->D4,getElem?_take->D3,toList_toArray->D1
open Nat renaming zero_le->A1,le_refl->B2,zero_add->D6
open Go.Addr renaming add_lit->D2
namespace Go.SL
open RowKit
def LD (l:List UInt8) (j:Nat) (n:j<8) :
  bits .or T (iM l j) (IntKind.u64.wrap (IntKind.u64.wrap ((l[j]?.getD 0).toNat:Int)*2 ^ (8*j)))=iM l (j+1):=by
 have o:((l[j]?.getD 0).toNat:Int)<256:=by have:=UInt8.toNat_lt (l[j]?.getD 0);omega
 have a:0<=((l[j]?.getD 0).toNat:Int):=Z'
 obtain ⟨i,b⟩:=il l j;have e:l.getD j 0=l[j]?.getD 0:=by simp [List.getD]
 rw [iM,e];have h:(256:Int) ^ j=2 ^ (8*j):=by rw [Int.pow_mul];rfl
 have f:(256:Int) ^ j<=72057594037927936:=by
  obtain rfl|rfl|rfl|rfl|rfl|rfl|rfl|rfl:j=0\/j=1\/j=2\/j=3\/j=4\/j=5\/j=6\/j=7:=Z'
  all_goals decide
 have g:0<(256:Int) ^ j:=Int.pow_pos De0;generalize ((l[j]?.getD 0).toNat:Int)=x at *;rw [h] at b f g ⊢;have k:0<=x*2 ^ (8*j):=Int.mul_nonneg a Z';have m:x*2 ^ (8*j)<=255*2 ^ (8*j):=Int.mul_le_mul_of_nonneg_right Z' Z';have c:IntKind.u64.wrap x=x:=by rw [IntKind.wrap_u64];omega
 have d:IntKind.u64.wrap (x*2 ^ (8*j))=x*2 ^ (8*j):=by rw [IntKind.wrap_u64];omega
 rw [c,d];exact KN i b a Z'
def yx {P:Program} {w:Y} {g n:Nat} {v:U} {l:List UInt8} {b dT:TypeId} {F:ai} (j:P.underlying dT=S (.slice b)) (i:(P.info? b).map (·.size)=S 1)
  (h:ag w (pt g (X (ed (zs n)) b (0,0))*F)) (d:Rd w v l) (e:TypeId) :
  ∃ f p,(Builtin.copy_ #[dT,dT] e #[V (S ⟨g,0,R⟩) n n,v]).run P w = .ok p f/\ag f (pt g (X (ed (bY n l)) b (0,0))*F)/\aj w f:=by
 obtain ⟨q,d⟩:=d;rcases d with ⟨rfl,k⟩|⟨a,c,rfl,o⟩
 .have:l=[]:=List.eq_nil_of_length_eq_zero k
  subst this;refine ⟨w,_,run_copy_nil (P:=P) w dT dT e b ⟨g,0,R⟩ n n j (by rw [i];rfl),?_,aj.refl w⟩;rw [bY,A2,D7 (by rw [bg];exact B2 _)];exact h
 .have:=run_copy_row (P:=P) w dT dT e b g 0 n n a l.length c (ed (zs n)) b ((l.take n).map u8) j i h.heap (by simp [Nat.min_comm]) (by rw [List.map_take];exact o.take n)
   (by simp [fj,bg];omega) (se _)
  refine ⟨_,_,this,?_,(aj.refl w).setRow _ _⟩;have m:=h.setRow (cs':=((ed (zs n)).toList.take 0++(l.take n).map u8++(ed (zs n)).toList.drop (0+((l.take n).map u8).length)).toArray);refine m.to ?_;congr 3;simp only [ed,bY,zs,List.take_zero,A2,D6,List.length_map,D5,D4,List.map_take,List.take_append,List.map_replicate,List.drop_replicate,List.take_replicate,D1];congr 3;omega
def MM (l:List UInt8) (k:Nat):∀ j,j<=k->iM (l.take k) j=iM l j:=by
 intro j
 induction j with
 | zero=>intro _;rfl
 | succ j a=>
  intro b;rw [iM,iM,a Z'];congr 3;simp [List.getD,D3,show j<k by omega]
end Go.SL
namespace Go.Proofs.Fs
open RowKit SL Proofs.Ba
variable {w:Y} {v:U} {l:List UInt8} {F:ai} {cap g o r:Nat} {cur:Array U}
def zg (l:List UInt8) (w:Y) (e:Ending) (a:Y):Prop:=∃ v,e = O v/\ag a (bs 5 v l*whole w)/\aj w a
def gY (w:Y) (n m:Int) (a:0<=n) (b:n<=m):Calls W 219 #[Z Q n,Z Q m] w (nr n w):=by
 go_in
 go_wp2
 go_ret
 exact ⟨rfl,rfl⟩
def nS {x:UInt8} (h:ag w (bs 5 v l*F)) (r:l.length<=1000000) :
  ∃ b d,(Builtin.append_ #[23,23] 23 #[v,V (S ⟨w.heap.size,0,R⟩) 1 1]).run W (w.alloc (X #[u8 x] 5 (0,0))) = .ok b d/\ag d (bs 5 b (l++[x])*F)/\aj w d/\∃ a c,b = V a (l.length+1) c:=by
 obtain ⟨s,m,q,o,k⟩:=info_parts gO;have f:=h.alloc (X #[u8 x] 5 (0,0))
 have i:pC (w.alloc (X #[u8 x] 5 (0,0))) 1 (V (S ⟨w.heap.size,0,R⟩) 1 1) 1 [u8 x]:=
  ⟨rfl,.inr ⟨_,_,rfl,fun j u e=>by
   rw [D2,D6];exact (f.cell j).trans (by simpa using e)⟩⟩
 obtain ⟨b,d,n,g,p⟩:=ag.append (P:=W) (ty:=23) underlying23 m q o k rfl f.right i (by intro u e;rw [List.mem_singleton.1 e];rfl) (by unfold maxLen;omega) Z';refine ⟨b,d,n,g.to (by rw [bs,B1,D4];rfl),((aj.refl w).alloc _).trans p,aC g⟩
def iG {v b:U} {l m:List UInt8} (h:ag w (bs 5 v l*F)) (j:Rd w b m) (q:l.length<=1000000) (r:m.length<=1000000) :
  ∃ d e,(Builtin.append_ #[23,23] 23 #[v,b]).run W w = .ok d e/\ag e (bs 5 d (l++m)*F)/\aj w e/\∃ a c,d = V a (l.length+m.length) c:=by
 obtain ⟨s,i,p,n,g⟩:=info_parts gO;obtain ⟨d,e,k,f,o⟩:=ag.append (P:=W) (ty:=23) underlying23 i p n g rfl h j (se m) (by unfold maxLen;omega) Z';refine ⟨d,e,k,f.to (by rw [bs,B1,D4]),o,aC f⟩
def EY (l:List UInt8) (n:Int) (k:Nat) (w:Y) (u2 u7 u19:U) (wr:Y):Prop:=
 ∃ j:Nat,j<=k/\u19 = Z Q (j:Int)/\u2 = Z T (n/(256:Int) ^ j)/\ag wr (bs 5 u7 (l++dD n j)*whole w)/\aj w wr
def fp (w:Y) (v:U) (l:List UInt8) (k:Nat) (n:Int) (p:Rd w v l) (hl:l.length<=1000) (hk:k<=8) (n0:0<=n) (n1:n<18446744073709551616) :
  Calls W 167 #[v,Z Q (k:Int),Z T n] w (zg (l++dD n k) w):=by
 have J:=gY w (k:Int) 8 Z' Z';obtain ⟨va,vc,rfl⟩:=p.shape
 have o:∀ w,(Instr.makeSlice 23 (Z Q 0) (Z Q ((l.length:Int)+(k:Int)))).run W w = .ok (V (S ⟨w.heap.size,0,R⟩) 0 (l.length+k)) (w.alloc (X (ed (zs (l.length+k))) 5 (0,0))):=fun w=>by
  obtain ⟨i,F,K,I,D⟩:=info_parts gO;have:=run_make (P:=W) w 23 5 i _ underlying23 F K Q Q 0 ((l.length:Int)+(k:Int)) Z' Z' (by rw [D];omega) Z';rw [this,I];have B:((l.length:Int)+(k:Int)).toNat=l.length+k:=Z'
  rw [B];exact congrArg (fun c=>Result.ok _ (w.alloc (X c _ (0,0)))) (jH (l.length+k))
 have m:=(ag.whole w).alloc (X (ed (zs (l.length+k))) 5 (0,0))
 have C:ag (w.alloc (X (ed (zs (l.length+k))) 5 (0,0))) (bs 5 (V (S ⟨w.heap.size,0,R⟩) 0 (l.length+k)) []*whole w):=by
  have:=ag.nM (sz:=1) (n:=0) (cap:=l.length+k) m Z' (by unfold maxLen;omega) (by simp [fj,bg]);simpa [bs] using this
 obtain ⟨v1,w1,a,g,z,L,N,rfl⟩:=iG C (p.bF m) Si0 Z';rw [A2] at g;have t:=((aj.refl w).alloc (X (ed (zs (l.length+k))) 5 (0,0))).trans z;have b:=ae a;have x:=ae o
 go_in
 go_wp2_with fail
 (apply J.mono)
 rintro e w2 ⟨rfl,rfl⟩;have o:=x.o
 go_wp2_with (at_builtin;refine wpList_append_run b.o _ _ rfl rfl rfl rfl rfl ?_)
 go_loopw [2,7,19] (fun u2 u7 u19 wr=>EY l n k w u2 u7 u19 wr) (fun _ _ u _=>k-(intOf u).toNat)
 case atStart=>exact ⟨0,A1 _,rfl,Si0,by simpa [dD] using g,t⟩
 case round=>
  obtain ⟨j,hj,rfl,rfl,d,r⟩:=hrel
  by_cases b0:j<k
  .have c0:(j:Int)<(k:Int):=Z'
   have G:0<(256:Int) ^ j:=Int.pow_pos De0
   have s:n/(256:Int) ^ (j+1)=n/(256:Int) ^ j/256:=by
    rw [Int.pow_succ,Int.ediv_ediv,if_neg (fun E=>absurd E.1 Z'),Int.sub_zero]
   have q:=Ch n j;obtain ⟨v',w6,a,h,A,M,P,rfl⟩:=nS (x:=UInt8.ofInt (n/(256:Int) ^ j)) d (by rw [B1,bp];omega);have f:=Ai (n/(256:Int) ^ j);rw [IntKind.wrap_u8] at f;rw [List.append_assoc,<- q,B1] at h;generalize H:n/(256:Int) ^ j=d0 at *;rw [<- f] at a;have b:=ae a;have y:=ae s;clear a q f d H s G
   go_wp2_with (at_builtin;refine wpList_append_run b.o _ _ rfl rfl rfl rfl rfl ?_)
   go_roundw
   case rel=>exact ⟨j+1,Z',by go_num,by rw [y.o],h,r.trans A⟩
   case measure=>simp [intOf];omega
  .obtain rfl:j=k:=Z'
   go_wp2_with fail
   go_ret
   exact ⟨_,rfl,d,r⟩
def oY (w:Y) (v:U) (l:List UInt8) (i:Rd w v l) (n:Nat) (p:n<=4096) :
  Calls W 168 #[v,Z Q (n:Int)] w (zg (bY n l) w):=by
 have m:=gY w (n:Int) 4096 Z' Z';have b:=fq n Z';have a:=(ag.whole w).alloc (X (ed (zs n)) 5 (0,0));have c:=(aj.refl w).alloc (X (ed (zs n)) 5 (0,0));obtain ⟨o,q,j,h,g⟩:=yx (P:=W) (dT:=23) underlying23 Kr0 a (i.bF a) 3
 have k:ag o (bs 5 (V (S ⟨w.heap.size,0,R⟩) n n) (bY n l)*whole w):=by
  have:=ag.nM (sz:=1) (n:=n) (cap:=n) h (B2 _) (by unfold maxLen;omega) (by rw [fj,cu];omega);rw [bs,cu];refine this.to ?_;congr 2;simp only [ed,Nat.mul_one,D1];rw [D7 (by simp [cu])]
 have f:=ae j;have d:=ae b
 go_in
 go_wp2_with fail
 (apply m.mono)
 rintro e r ⟨rfl,rfl⟩;have b:=d.o
 go_wp2_with (refine fD f.o _ _ rfl rfl rfl rfl rfl ?_)
 go_ret
 exact ⟨_,rfl,k,c.trans g⟩
def cy (r g a:Nat) (b:Array U) (L:List UInt8) (o:Nat):ai:=ex fun p:Nat × Nat=>
 fact ((L.length<=a/\a<=maxLen/\b.size=a/\b.toList.take L.length=L.map u8/\o<=L.length)/\(o<L.length->p.1=o/\p.2=a-o))*(pt r (X #[V (S ⟨g,p.1,R⟩) (L.length-o) p.2,.bool false] 299 (0,0))*pt g (X b 5 (0,0)))
def kU (h:ag w (cy r g cap cur l o*F)) :
  ∃ x c,(l.length<=cap/\cap<=maxLen/\cur.size=cap/\cur.toList.take l.length=l.map u8/\o<=l.length)/\(o<l.length->x=o/\c=cap-o)/\ag w (pt r (X #[V (S ⟨g,x,R⟩) (l.length-o) c,.bool false] 299 (0,0))*(pt g (X cur 5 (0,0))*F)):=by
 obtain ⟨⟨x,c⟩,h⟩:=ag.aw.1 h;obtain ⟨a,b⟩:=ag.aq.1 (h.to (ay _ _ _):ag w (fact _*_));exact ⟨x,c,a.1,a.2,b.to (ay _ _ _)⟩
def oe (x c:Nat) (b:l.length<=cap/\cap<=maxLen/\cur.size=cap/\cur.toList.take l.length=l.map u8/\o<=l.length) (a:o<l.length->x=o/\c=cap-o)
  (h:ag w (pt r (X #[V (S ⟨g,x,R⟩) (l.length-o) c,.bool false] 299 (0,0))*(pt g (X cur 5 (0,0))*F))):ag w (cy r g cap cur l o*F):=
 (ag.aw.2 ⟨(x,c),(ag.aq.2 ⟨⟨b,a⟩,h.to (ay _ _ _).symm⟩:ag w (fact _*_)).to (ay _ _ _).symm⟩:ag w (ex _*F))
def Tf (L:List UInt8) (w:Y) (e:Ending) (a:Y):Prop:=∃ r g b c,e = O (az r)/\ag a (cy r g b c L 0*whole w)/\aj w a
def om (w:Y) (v:U) (L:List UInt8) (s:Rd w v L) (A:0<L.length) (r:L.length<=1000000) :
  Calls W 201 #[v] w (Tf L w):=by
 have p:ag w (bs 5 (V R 0 0) []*whole w):=(ag.whole w).eU _ _;obtain ⟨C,f,t,d,j,y,a,rfl⟩:=iG p s Si0 r;rw [A2] at d;have i:=ae t;rcases d.dq with ⟨b,_⟩|⟨g,z,c,b,u,x,B,e,n⟩
 .injection b with b l;omega
 injection b with b l m
 subst b;subst m;have o:=n.alloc (X #[V (S ⟨g,0,R⟩) L.length a,.bool false] 299 (0,0));have k:=j.alloc (X #[V (S ⟨g,0,R⟩) L.length a,.bool false] 299 (0,0))
 have q:ag (f.alloc (X #[V (S ⟨g,0,R⟩) L.length a,.bool false] 299 (0,0))) (cy f.heap.size g a c L 0*whole w):=
  oe 0 a ⟨u,x,Z',by rw [Nat.mul_one] at e;exact e,A1 _⟩ (fun _=>⟨rfl,rfl⟩) o
 have h:=ae q
 go_in
 go_wp2_with (at_builtin;refine wpList_append_run i.o _ _ rfl rfl rfl rfl rfl ?_)
 go_ret
 exact ⟨_,g,a,c,rfl,h.o,k⟩
end Go.Proofs.Fs
namespace Go.SL
open RowKit
def Rd.at {w:Y} {va:Option Addr} {n vc:Nat} {l:List UInt8} (h:Rd w (V va n vc) l) (d:0<l.length):∃ g o,va=S ⟨g,o,R⟩/\∀ i x,l[i]?=S x->w.cell? ⟨g,o+i,R⟩=S (u8 x):=by
 rcases h.2 with ⟨hv,k⟩|⟨a,c,hv,b⟩
 .omega
 .cases hv
  obtain ⟨g,o,p⟩:=a;have e:=b 0 (u8 l[0]) (by rw [D9,D8 d];rfl);have f:p=R:=by simpa [Addr.add] using World.cell?_spot e
  subst f;refine ⟨g,o,rfl,fun i x j=>?_⟩;have:=b i (u8 x) (by rw [D9,j];rfl)
  rwa [D2] at this
end Go.SL
namespace Go.Proofs.Fs
open RowKit SL Proofs.Ba
variable {w:Y} {cap g r:Nat} {cur:Array U} {L:List UInt8} {F:ai}
def Bf:(prog.info? 326).map (·.size)=S 2:=Kr0
def JD (a b:Int):(prog.info? 326).map (·.size)=S (#[Z T a,Z T b]:Array U).size:=Bf
def Qn (a b:Int):(#[Z T a,Z T b]:Array U).all (·.oneCell')=true:=by simp [Value.oneCell']
def Kl (w:Y) (l:List UInt8) (j:Nat) (h:j<l.length) (g:l.length<=8) (x:UInt8) (f:l[j]?=S x) :
  Calls W 267 #[.agg #[Z T (iM l j),Z T (8*(j:Int))],u8 x] w (kX (.agg #[Z T (iM l (j+1)),Z T (8*(j:Int)+8)]) w):=by
 have b:=LD l j Z';rw [f,Option.getD_some] at b;have a:=((ag.whole w).alloc (X #[Z T (iM l j),Z T (8*(j:Int))] 326 (0,0))).alloc (X #[Z T (iM l (j+1)),Z T (8*(j:Int)+8)] 326 (0,0));have d:=((aj.refl w).alloc (X #[Z T (iM l j),Z T (8*(j:Int))] 326 (0,0))).alloc (X #[Z T (iM l (j+1)),Z T (8*(j:Int)+8)] 326 (0,0));rw [World.size_alloc] at a;unfold u8;have i:0<=(x.toNat:Int):=Z'
 have k:(x.toNat:Int)<256:=by have:=UInt8.toNat_lt x;omega
 generalize (x.toNat:Int)=c at *;have e:IntKind.u64.wrap c=c:=by rw [IntKind.wrap_u64];omega
 rw [e] at b
 go_in
 go_wp2
 exact bodyPost_ret (results_cell_row rfl _ _ _ 326 _ (0,0) _ rfl a.heap underlying326 rfl Bf) rfl ⟨rfl,a.right.right,d⟩
def Qb (l:List UInt8) (b:Nat) (w:Y) (u8:U) (wr:Y):Prop:=
 ∃ j:Nat,j<=l.length/\u8 = Z Q (j:Int)/\ag wr (pt b (X #[Z T (iM l j),Z T (8*(j:Int))] 326 (0,0))*whole w)/\aj w wr
def Kb (w:Y) (v:U) (l:List UInt8) (i:Rd w v l) (z:l.length<=8) :
  Calls W 241 #[v] w (kX (Z T (iM l l.length)) w):=by
 obtain ⟨I,J,rfl⟩:=i.shape;have q:=ae i;have d:=(ag.whole w).alloc (X #[Z T 0,Z T 0] 326 (0,0));have t:=(aj.refl w).alloc (X #[Z T 0,Z T 0] 326 (0,0))
 go_in
 go_wp2_with fail
 generalize w.heap.size=b at d ⊢
 go_loopw [8] (fun u wr=>Qb l b w u wr) (fun u _=>l.length-(intOf u).toNat)
 case atStart=>exact ⟨0,A1 _,rfl,d,t⟩
 case round=>
  obtain ⟨j,G,rfl,a,k⟩:=hrel;have A:=q.o.bF a;have D:=a.cell 0;have E:=a.cell 1
  by_cases h:j<l.length
  .have H:(j:Int)<(l.length:Int):=Z'
   obtain ⟨x,m⟩:∃ x,l[j]?=S x:=⟨_,D8 h⟩
   obtain ⟨g,o,rfl,f⟩:=A.at Z';have F:=f j x m;clear f;have B:=Kl wr l j h z x m;have r:=ae a
   go_wp2_with fail
   (apply B.mono)
   rintro e K ⟨rfl,y,s⟩;have c:=y.cM r.o;have C:=c.heap;have n:=c.setRow (cs':=#[Z T (iM l (j+1)),Z T (8*(j:Int)+8)]);have p:=ae n
   go_wp2_with (refine wpList_store_row rfl 326 (.tmp 3) (.tmp 14) rfl b #[Z T (iM l (j+1)),Z T (8*(j:Int)+8)] rfl rfl 326 #[Z T (iM l j),Z T (8*(j:Int))] C (JD _ _) rfl (Qn _ _) ?_)
   go_roundw
   case rel=>exact ⟨j+1,Z',by go_num,by have:=p.o;rwa [show 8*(j:Int)+8=8*((j+1:Nat):Int) by omega] at this,(k.trans s).setRow _ _⟩
   case measure=>simp [intOf];omega
  .obtain rfl:j=l.length:=Z'
   go_wp2_with fail
   go_ret
   exact ⟨rfl,a.right,k⟩
def UY (r g b:Nat) (d:Array U) (L:List UInt8) (o n:Nat) (w:Y) (F:ai) (e:Ending) (a:Y):Prop:=
 ∃ c,e = O (.tuple #[V (S ⟨g,o,R⟩) n c,.bool true])/\ag a (cy r g b d L (o+n)*F)/\aj w a
def ve (w:Y) (r g i:Nat) (j:Array U) (L:List UInt8) (o n:Nat) (F:ai) (h:ag w (cy r g i j L o*F)) (G:o<L.length) (t:o+n<=L.length) (J:L.length<=1000000) :
  Calls W 240 #[az r,Z Q (n:Int)] w (UY r g i j L o n w F):=by
 obtain ⟨x,c,⟨v,q,z,A,N⟩,u,a⟩:=kU h;obtain ⟨rfl,rfl⟩:=u G;have C:=a.cell 0;have H:=a.frozen 0
 have p:∀ y d,ag (w.setCell ⟨r,0,R⟩ (V (S ⟨g,y,R⟩) (L.length-x-n) d)) (pt r (X #[V (S ⟨g,y,R⟩) (L.length-x-n) d,.bool false] 299 (0,0))*(pt g (X j 5 (0,0))*F)):=fun y d=>by
  have:=a.setCell 0 (V (S ⟨g,y,R⟩) (L.length-x-n) d);simpa only [List.setIfInBounds_toArray,List.set_cons_zero] using this
 obtain ⟨m,b⟩:∃ m,m=L.length-x:=⟨_,rfl⟩
 obtain ⟨k,l⟩:∃ k,k=i-x:=⟨_,rfl⟩
 rw [<- b,<- l] at C;rw [<- b] at p;have M:(n:Int)<=(m:Int):=Z'
 have K:(m:Int)<=(k:Int):=Z'
 have I:(k:Int)<=9223372036854775807:=by unfold maxLen at q;omega
 have f:=ae b;have B:=ae l;have s:=ae p;clear b l p a h u
 by_cases E:k=n
 .subst E
  have D:m=k:=Z'
  subst D
  go_in
  go_wp2
  go_ret2
  refine ⟨_,rfl,?_,(aj.refl w).setCell _ _⟩;refine oe x 0 ⟨v,q,z,A,t⟩ (fun h=>?_) ?_
  .have:=f.o;omega
  .have:=s.o x 0
   have e:L.length-(x+m)=m-m:=by have:=f.o;omega
   rw [e];rw [Nat.sub_self] at this ⊢;exact this
 .go_in
  go_wp2
  go_ret2
  refine ⟨_,rfl,?_,(aj.refl w).setCell _ _⟩;refine oe (x+n) (k-n) ⟨v,q,z,A,t⟩ (fun h=>⟨rfl,by have:=B.o;omega⟩) ?_;have:=s.o (x+n) (k-n);have e:L.length-(x+n)=m-n:=by have:=f.o;omega
  rw [e];exact this
def RP (b:ag w (pt g (X cur 5 (0,0))*F)) (e:cur.toList.take L.length=L.map u8) (o n c:Nat) (h:o+n<=L.length):Rd w (V (S ⟨g,o,R⟩) n c) ((L.drop o).take n):=by
 have d:((L.drop o).take n).length=n:=by rw [D5,B3];omega
 refine ⟨Si0,.inr ⟨⟨g,o,R⟩,c,by rw [d],fun j u a=>?_⟩⟩;rw [D2,b.cell];rw [D9,D3] at a
 split at a
 .rename_i f
  rw [List.getElem?_drop] at a;rw [<- Array.getElem?_toList];have:(cur.toList.take L.length)[o+j]?=cur.toList[o+j]?:=by rw [D3,if_pos Z']
  rw [<- this,e,D9];exact a
 .cases a
def sL {e:Nat} (h:ag w (cy g r cap cur L e*F)) (o n c:Nat) (d:o+n<=L.length):Rd w (V (S ⟨r,o,R⟩) n c) ((L.drop o).take n):=
 have ⟨_,_,b,_,a⟩:=kU h
 RP a.ah b.2.2.2.1 o n c d
def Pr {o:Nat} (h:ag w (cy g r cap cur L o*F)):ag w F:=have ⟨_,_,_,_,a⟩:=kU h;a.right.right
def Al (r g b:Nat) (c:Array U) (L:List UInt8) (o n:Nat) (w:Y) (F:ai) (e:Ending) (a:Y):Prop:=
 e = O (Z T (iM (L.drop o) n))/\ag a (cy r g b c L (o+n)*F)/\aj w a
def iV (w:Y) (r g a:Nat) (b:Array U) (L:List UInt8) (o n:Nat) (F:ai) (h:ag w (cy r g a b L o*F)) (t:o<L.length) (q:o+n<=L.length) (x:n<=8) (m:L.length<=1000000) :
  Calls W 202 #[az r,Z Q (n:Int)] w (Al r g a b L o n w F):=by
 have u:=gY w (n:Int) 8 Z' Z';have s:=ve w r g a b L o n F h t q m
 go_in
 go_wp2_with fail
 (apply u.mono)
 rintro e y ⟨rfl,rfl⟩
 go_wp2_with fail
 (apply s.mono)
 rintro e v ⟨c,rfl,d,j⟩;have p:((L.drop o).take n).length=n:=by rw [D5,B3];omega
 have f:=Kb v (V (S ⟨g,o,R⟩) n c) ((L.drop o).take n) (sL d o n c Z') Z';rw [p,MM _ _ _ (B2 _)] at f
 go_wp2_with fail
 (apply f.mono)
 rintro e z ⟨rfl,l,k⟩;have i:=l.cM d
 go_wp2
 go_ret
 exact ⟨rfl,i,j.trans k⟩
def BV (w:Y) (r g a:Nat) (b:Array U) (L:List UInt8) (o:Nat) (F:ai) (h:ag w (cy r g a b L o*F)) :
  Calls W 205 #[az r] w (nr ((L.length-o:Nat):Int) w):=by
 obtain ⟨x,c,_,_,d⟩:=kU h;have e:=d.cell 0
 go_in
 go_wp2
 go_ret
 exact ⟨rfl,rfl⟩
def Ta (g o n:Nat) (w:Y) (F:ai) (L:List UInt8) (e:Ending) (a:Y):Prop:=
 ∃ c,e = O (.tuple #[V (S ⟨g,o,R⟩) n c,.bool true])/\Rd a (V (S ⟨g,o,R⟩) n c) (L.drop o)/\ag a F/\aj w a
def JY (w:Y) (r g a:Nat) (b:Array U) (L:List UInt8) (o:Nat) (F:ai) (h:ag w (cy r g a b L o*F)) (j:o<L.length) (i:L.length<=1000000) :
  Calls W 240 #[az r,Z Q ((L.length-o:Nat):Int)] w (Ta g o (L.length-o) w F L):=by
 apply (ve w r g a b L o (L.length-o) F h j Z' i).mono;rintro e l ⟨c,rfl,d,f⟩;have k:(L.drop o).take (L.length-o)=L.drop o:=D7 (by rw [B3];exact B2 _);have:=sL d o (L.length-o) c Z';rw [k] at this;exact ⟨c,rfl,this,Pr d,f⟩
def Fg (w:Y) (r g b:Nat) (d:Array U) (L:List UInt8) (o:Nat) (F:ai) (h:ag w (cy r g b d L o*F)) (s:o<L.length) (p:L.length<=1000000) :
  Calls W 204 #[az r,Z Q ((L.length-o:Nat):Int)] w fun e i=>∃ v,e = O v/\ag i (bs 5 v (L.drop o)*F)/\aj w i:=by
 have q:=JY w r g b d L o F h s p;have y:(L.drop o).length=L.length-o:=B3;have z:((L.length-o:Nat):Int)<=1000000:=Z'
 go_in
 go_wp2_with fail
 (apply q.mono)
 rintro e u ⟨c,rfl,t,m,k⟩;have n:ag u (bs 5 (V R 0 0) []*F):=m.eU _ _;obtain ⟨A,B,f,a,l,a3,x,rfl⟩:=iG n t Si0 Z';simp only [List.length_nil,D6,B3] at f a;have j:=ae f;rw [A2] at a
 go_wp2_with (at_builtin;refine wpList_append_run j.o _ _ rfl rfl rfl rfl rfl ?_)
 go_ret
 exact ⟨_,rfl,a,k.trans l⟩
end Go.Proofs.Fs
namespace Go.SL
open RowKit
def tQ:List Int:=[0,498536548,997073096,651767980,1994146192,1802195444,1303535960,1342533948,3988292384,4027552580,3604390888,3412177804,2607071920,2262029012,2685067896,3183342108]
def TA (z:Int):Int:=bits .xor .u32 (z/16) (tQ.getD (bits .and .u32 z 15).toNat 0)
def xp (x:Int):Nat->Int
 | 0=>x
 | m+1=>TA (xp x m)
def zM (l:List UInt8):Nat->Int
 | 0=>bits .xor .u32 IntKind.u32.max 0
 | k+1=>xp (bits .xor .u32 (zM l k) ((l.getD k 0).toNat:Int)) 2
def Jm (l:List UInt8):Int:=bits .xor .u32 IntKind.u32.max (zM l l.length)
def JE (a b:Int):0<=bits .xor .u32 a b/\bits .xor .u32 a b<4294967296:=by
 have e:bits .xor .u32 a b=IntKind.u32.wrap ((A3 32 a ^^^ A3 32 b).toNat:Nat):=rfl;rw [e,IntKind.wrap_u32];omega
def E7 (l:List UInt8):0<=Jm l/\Jm l<4294967296:=JE _ _
def pV (w:Y):Prop:=∀ k:Nat,k<16->w.cell? ⟨1,k,R⟩=S (Z .u32 (tQ.getD k 0))
end Go.SL
namespace Go.Proofs.Su
open RowKit SL Proofs.Ba Proofs.Fs
def Vc (x:Int):∃ m:Nat,m<16/\bits .and .u32 x 15=(m:Int):=by
 refine ⟨(A3 32 x &&& A3 32 15).toNat,?_,?_⟩
 .rw [BitVec.toNat_and]
  have:(A3 32 15).toNat=2 ^ 4-1:=De0
  rw [this,Nat.and_two_pow_sub_one_eq_mod];omega
 .show IntKind.u32.wrap ((A3 32 x &&& A3 32 15).toNat:Nat)=_
  have h:=(A3 32 x &&& A3 32 15).isLt;rw [IntKind.wrap_u32];omega
def RY (l:List UInt8) (w:Y) (u5 u11:U) (wr:Y):Prop:=∃ k:Nat,k<=l.length/\u11 = Z Q (k:Int)/\u5 = Z .u32 (zM l k)/\w=wr
def QL (a:Int) (w:Y) (u5 u21:U) (wr:Y):Prop:=∃ m:Nat,m<=2/\u21 = Z Q (m:Int)/\u5 = Z .u32 (xp a m)/\w=wr
def Uj (l:List UInt8) (w:Y) (e:Ending) (a:Y):Prop:=e = O (Z .u32 (Jm l))/\w=a
theorem Mo (w:World) (v:Value) (l:List UInt8) (hr:Rd w v l) (hl:l.length<=1000000) (hh:pV w) :
  Calls prog 220 #[.int .u32 0,v] w (Uj l w):=by
 obtain ⟨va,vc,rfl⟩:=hr.shape;have hln:(l.length:Int)<=1000000:=by omega
 go_enter func220,ntmps220
 go_wp2_with fail
 go_loopw [5,11] (fun u5 u11 wr=>RY l w u5 u11 wr) (fun _ u _=>l.length-(intOf u).toNat)
 case atStart=>exact ⟨0,A1 _,rfl,rfl,rfl⟩
 case round=>
  obtain ⟨k,hk,rfl,rfl,rfl⟩:=hrel
  by_cases hlt:k<l.length
  .have hlt':(k:Int)<(l.length:Int):=by omega
   obtain ⟨g,o,rfl,hc⟩:=hr.at (by omega);have hck:=hc k _ (D8 hlt)
   have hck':w.cell? ⟨g,o+k,none⟩=some (.int .u8 ((l.getD k 0).toNat:Int)):=by
    have:l.getD k 0=l[k]:=by simp [List.getD,D8 hlt]
    rw [this];exact hck
   have hN:zM l (k+1)=xp (bits .xor .u32 (zM l k) ((l.getD k 0).toNat:Int)) 2:=rfl;have hy1:(l.getD k 0).toNat<256:=(l.getD k 0).toNat_lt;generalize (l.getD k 0).toNat=y at hck' hy1 hN;generalize zM l k=x at hN;have Hr:=ae hr;have HN:=ae hN;clear hck hc hr hN;have hy2:(y:Int)<256:=by omega
   go_wp2_with fail
   obtain ⟨x0,hx0⟩:∃ x0,x0=bits BinOp.xor IntKind.u32 x (y:Int):=⟨_,rfl⟩
   rw [<- hx0];have Hx0:=ae hx0;clear hx0
   go_loopw [5,21] (fun u5 u21 wr=>QL x0 w u5 u21 wr) (fun _ u _=>2-(intOf u).toNat)
   case atStart=>exact ⟨0,A1 _,rfl,rfl,rfl⟩
   case round=>
    obtain ⟨m,hm,rfl,rfl,rfl⟩:=hrel;obtain ⟨q,hq1,hq2⟩:=Vc (xp x0 m);have hc:=hh q hq1;have hq1':(q:Int)<16:=by omega
    have hS:xp x0 (m+1)=bits .xor .u32 (xp x0 m/16) (tQ.getD q 0):=by
     show TA (xp x0 m)=_
     unfold TA;rw [hq2,Int.toNat_natCast]
    by_cases hm2:m<2
    .have hm2':(m:Int)<2:=by omega
     generalize tQ.getD q 0=hv at hc hS;have HS:=ae hS;clear hS;generalize xp x0 m=z at HS hq2
     go_wp2_with fail
     refine ⟨⟨m+1,by omega,by go_num,by rw [HS.out],rfl⟩,by simp [intOf];omega⟩
    .obtain rfl:m=2:=by omega
     have hfin:xp x0 2=zM l (k+1):=by rw [HN.out,Hx0.out]
     rw [hfin];have Hh:=ae hh;clear hS hfin hc hq2 hh
     go_wp2_with fail
     refine ⟨⟨k+1,by omega,by go_num,rfl,rfl⟩,by simp [intOf];omega⟩
  .obtain rfl:k=l.length:=by omega
   have e:bits .xor .u32 IntKind.u32.max (zM l l.length)=Jm l:=rfl;generalize zM l l.length=x at e;have E:=ae e;clear e
   go_wp2_with fail
   go_ret
   exact ⟨congrArg (fun z=>Ending.returned (Value.int .u32 z)) E.out,rfl⟩
def QH (w:Y) (v:U) (l:List UInt8) (c:Rd w v l) (d:l.length<=1000000) (a:pV w) :
  Calls W 169 #[v] w (Uj l w):=by
 have b:=Mo w v l c d a;clear c a
 go_in
 go_wp2_with fail
 (with_reducible apply b.mono)
 rintro e f ⟨rfl,rfl⟩;clear b
 go_wp2_with fail
 go_ret
 exact ⟨rfl,rfl⟩
def nN (n P:Int):Bool:=decide (4<=n) && decide (n<=3840) && decide (0<=P) && decide (P<=19999) && decide (5*n+240<=2*P)
def OO (n P:Int):U:=.agg #[Z Q n,Z Q P]
def eI {n P:Int}:nN n P=true↔4<=n/\n<=3840/\0<=P/\P<=19999/\5*n+240<=2*P:=by
 unfold nN;simp only [Bool.and_eq_true,decide_eq_true_eq,and_assoc]
def Gx (n P:Int) (w:Y) (e:Ending) (a:Y):Prop:=e = O (Z Q (if nN n P=true then 0 else 1))/\ag a (whole w)/\aj w a
def xl (w:Y) (n P:Int):Calls W 112 #[OO n P] w (Gx n P w):=by
 have g:=(ag.whole w).alloc (X #[Z Q n,Z Q P] 117 (0,0));have f:=(aj.refl w).alloc (X #[Z Q n,Z Q P] 117 (0,0));have d:=ae g.right;clear g;unfold OO;obtain ⟨c,a⟩:∃ c:Int,c=if nN n P=true then 0 else 1:=⟨_,rfl⟩
 have e:=ae a
 by_cases h:n<4
 .have b:c=1:=by rw [a,if_neg (by rw [eI];omega)]
  clear a
  go_in
  go_wp2_with fail
  go_ret
  exact ⟨by rw [<- e.o,b];rfl,d.o,f⟩
 by_cases i:3840<n
 .have b:c=1:=by rw [a,if_neg (by rw [eI];omega)]
  clear a
  go_in
  go_wp2_with fail
  go_ret
  exact ⟨by rw [<- e.o,b];rfl,d.o,f⟩
 by_cases a3:P<0
 .have b:c=1:=by rw [a,if_neg (by rw [eI];omega)]
  clear a
  go_in
  go_wp2_with fail
  go_ret
  exact ⟨by rw [<- e.o,b];rfl,d.o,f⟩
 by_cases a4:19999<P
 .have b:c=1:=by rw [a,if_neg (by rw [eI];omega)]
  clear a
  go_in
  go_wp2_with fail
  go_ret
  exact ⟨by rw [<- e.o,b];rfl,d.o,f⟩
 have j:4<=n:=Z'
 have k:n<=3840:=Z'
 have l:0<=P:=Z'
 have m:P<=19999:=Z'
 by_cases a5:2*P<5*n+240
 .have b:c=1:=by rw [a,if_neg (by rw [eI];omega)]
  clear a
  go_in
  go_wp2_with fail
  go_ret
  exact ⟨by rw [<- e.o,b];rfl,d.o,f⟩
 .have b:c=0:=by rw [a,if_pos (by rw [eI];omega)]
  clear a
  go_in
  go_wp2_with fail
  go_ret
  exact ⟨by rw [<- e.o,b];rfl,d.o,f⟩
end Go.Proofs.Su
