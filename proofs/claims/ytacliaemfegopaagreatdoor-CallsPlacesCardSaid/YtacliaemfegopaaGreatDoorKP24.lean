/- Steps. -/
import Derived.Test.YtacliaemfegopaaGreatDoorKP23
import Derived.Laws.StructEq
import Derived.Lib.SliceRun
set_option linter.all false
set_option maxRecDepth 99999
set_option maxHeartbeats 0
open Go.SL
open Go.Proofs.Tryz
open List renaming getD->D0,length_map->F0,length_append->G0,length_take->H0,getElem?_set->K0,getElem?_take->L0,getElem?_eq_getElem->S0,getElem?_append_left->U0,getElem?_append_right->V0
open Array renaming getElem?_toList->N0,length_toList->T0
open Nat renaming mul_one->R0
namespace Go.SL
open Go.RowKit
variable {A l:List UInt8} {done f off:Nat}
def putAt (l:List UInt8) (o:Nat) (d:List UInt8):List UInt8:=l.take o++d++l.drop (o+d.length)
theorem gQ (h:off+A.length<=l.length):(putAt l off A).length=l.length:=by
 simp only [putAt,G0,H0,List.length_drop];omega
theorem CG {n o:Nat} {b a xs:List Value} (d:b.take n=xs) (h:o+a.length<=n) (e:n<=b.length) :
  (b.take o++a++b.drop (o+a.length)).take n=xs.take o++a++xs.drop (o+a.length):=by
 subst d;have c:(b.take o++a).length=o+a.length:=by rw [G0,H0];omega
 rw [List.take_append,List.take_of_length_le (by omega),c,List.take_take,Nat.min_eq_left (by omega),List.drop_take]
theorem xe (a:Array Value) (o:Nat) (b:List Value) (h:o+b.length<=a.size):fu a o b=(a.toList.take o++b++a.toList.drop (o+b.length)).toArray:=by
 apply Array.ext_getElem?;intro k;rw [ij _ _ _ _ h];have e:(a.toList.take o++b++a.toList.drop (o+b.length)).toArray[k]?=(a.toList.take o++b++a.toList.drop (o+b.length))[k]?:=by simp
 rw [e];have c:(a.toList.take o).length=o:=by rw [H0,T0];omega
 rcases Nat.lt_or_ge k o with d|d
 .rw [if_neg (by omega),List.append_assoc,U0 (by omega),L0,if_pos d,N0]
 .rcases Nat.lt_or_ge k (o+b.length) with f|f
  .rw [if_pos ⟨d,f⟩,List.append_assoc,V0 (by omega),c,U0 (by omega)]
  .rw [if_neg (by omega),V0 (by rw [G0,c];omega),G0,c,List.getElem?_drop,N0]
   congr 1;omega
theorem qG {w:World} {T:TypeId} {v:Value} {F:ai} (h:ag w (bs T v l*F)) (y:0<l.length) :
  ∃ g c a,v = .slice (some ⟨g,0,none⟩) l.length c/\l.length<=c/\c<=maxLen/\a.size=c/\w.heap[g]?=some (.cells a T (0,0))/\(∀ j,j<l.length->w.cell? ⟨g,j,none⟩=some (u8 (l.getD j 0))/\w.frozen? ⟨g,j,none⟩=false) /\
   ∀ o d,o+d.length<=l.length->ag (w.setRow g (a.toList.take o++d.map u8++a.toList.drop (o+(d.map u8).length)).toArray) (bs T v (putAt l o d)*F)/\ag (w.setCells g o (d.map u8)) (bs T v (putAt l o d)*F):=by
 rcases h.de with ⟨_,z,_⟩|⟨g,f,a,rfl,n,p,i,k,b⟩
 .omega
 .rw [R0] at i k
  refine ⟨g,f,a,rfl,n,p,i,b.heap,fun j m=>⟨?_,b.frozen j⟩,fun o d r=>?_⟩
  .rw [b.cell]
   have e:=congrArg (·[j]?) k;simp only [L0,m,if_true,List.getElem?_map,N0] at e;rw [e,S0 m,D0,S0 m];rfl
  .have u:(a.toList.take o++d.map u8++a.toList.drop (o+(d.map u8).length)).take l.length=(putAt l o d).map u8:=by
    rw [CG k (by rw [F0];exact r) (by have:=T0 (xs:=a);omega)];simp only [putAt,List.map_append,List.map_take,List.map_drop,F0]
   have x:(a.toList.take o++d.map u8++a.toList.drop (o+(d.map u8).length)).length=f:=by grind
   have s:∀ W,ag W (pt g (.cells (a.toList.take o++d.map u8++a.toList.drop (o+(d.map u8).length)).toArray T (0,0))*F)->ag W (bs T (.slice (some ⟨g,0,none⟩) l.length f) (putAt l o d)*F):=by
    intro W t;have:=ag.mH (sz:=1) (n:=l.length) (cap:=f) t n p (by rw [R0];simpa using x);refine this.to ?_;rw [bs,gQ r];congr 2;rw [R0];exact u
   refine ⟨s _ (b.setRow (cs':=_)),s _ ?_⟩;have q:=ag.setCells (d.map u8) o b;rw [xe a o (d.map u8) (by rw [F0,i];omega)] at q;exact q
section
variable {σ:Type}
def Hd.mg (h:Hd) (z:Int):Hd:={ h with n:={ h.n with sz:=z } }
def Hd.iR (h:Hd) (z:Int):Hd:={ h with n:={ h.n with rw:=z } }
theorem Hd.Mk {h:Hd} (a:h.fit) (z:Int):(h.iR z).l=h.l.set 20 z:=by
 have e:h.l=(h.id:Int) :: h.n.kd :: h.n.lk :: h.n.sz :: (h.n.dr++(h.n.rw :: h.row)):=by simp [Hd.l,Nd.l]
 have b:(h.iR z).l=(h.id:Int) :: h.n.kd :: h.n.lk :: h.n.sz :: (h.n.dr++(z :: h.row)):=by simp [Hd.l,Nd.l,Hd.iR]
 rw [e,b];simp only [List.set_cons_succ];rw [List.set_append,if_neg (by rw [a.1];decide),a.1]
 rfl
theorem Hd.oO {h:Hd} (e:h.fit) (f:off<256) (b:Int) (k:Nat):(h.put off b).bk k=if k=off then b else h.bk k:=by
 unfold Hd.put Hd.bk
 by_cases d:off<16
 .rw [if_pos d]
  by_cases a:k<16
  .rw [if_pos a,if_pos a]
   by_cases c:k=off
   .subst c;simp [D0,K0,e.1,d]
   .rw [if_neg c];simp [D0,K0,Ne.symm c]
  .rw [if_neg a,if_neg a,if_neg (by omega)]
 .rw [if_neg d]
  by_cases a:k<16
  .rw [if_pos a,if_pos a,if_neg (by omega)]
  .rw [if_neg a,if_neg a]
   by_cases c:k=off
   .subst c;simp [D0,K0,e.2,show k-16<240 by omega]
   .rw [if_neg c];simp [D0,K0,show ¬ off-16=k-16 by omega]
theorem Hd.qM (h:Hd) (i:Nat) (b:Int):(h.put i b).n.rw=h.n.rw:=by unfold Hd.put;split <;> rfl
theorem Hd.Ja (h:Hd) (i:Nat) (b:Int):(h.put i b).n.sz=h.n.sz:=by unfold Hd.put;split <;> rfl
theorem Hd.Pr (h:Hd) (i:Nat) (b:Int):(h.put i b).id=h.id:=by unfold Hd.put;split <;> rfl
end
section
variable {σ:Type}
def gY (m a:Nat):Nat:=min m (480-a%480)
def AT (ask:dD σ) (h:Hd) (off:Nat):Nat->Nat->List UInt8->WM σ (List UInt8)
  | 0,_,A=>WM.pure A
  | f+1,done,A=>fun a=>
    if done<A.length then
      (if h.bk ((off+done)/480)=0 then AT ask h off f (done+gY (A.length-done) (off+done)) A a
       else (WM.bind (cZ ask (h.bk ((off+done)/480))) fun L=>AT ask h off f (done+gY (A.length-done) (off+done)) (putAt A done ((L.drop ((off+done)%480)).take (gY (A.length-done) (off+done))))) a)
    else (.ok A,a)
def Km (ask:dD σ) (off a:Int) (h:Hd):WM σ (List UInt8):=fun b=>
 if 0<=off/\0<=a then (if h.n.sz<=off then (.ok [],b) else AT ask h off.toNat (min a (h.n.sz-off)).toNat 0 (zs (min a (h.n.sz-off)).toNat) b) else (.bad 1,b)
def iS (ask:dD σ) (n:Nat) (node off a:Int):WM σ (List UInt8):=WM.bind (gR ask n node) (Km ask off a)
theorem ME {ask:dD σ} {h:Hd} (b:A.length<=done) (a:eZ σ):AT ask h off f done A a=(.ok A,a):=by
 cases f with
 | zero=>rfl
 | succ f=>exact if_neg (by omega)
theorem Nz {ask:dD σ} {h:Hd} (c:done<A.length) (b:h.bk ((off+done)/480)=0) (a:eZ σ) :
  AT ask h off (f+1) done A a=AT ask h off f (done+gY (A.length-done) (off+done)) A a:=(if_pos c).trans (if_pos b)
theorem Qf {ask:dD σ} {h:Hd} (e:done<A.length) (d:h.bk ((off+done)/480)≠0) {b a:eZ σ} {c:Int} (g:cZ ask (h.bk ((off+done)/480)) b=(.bad c,a)) :
  AT ask h off (f+1) done A b=(.bad c,a):=(if_pos e).trans ((if_neg d).trans (WM.bK g))
theorem PY {ask:dD σ} {h:Hd} (d:done<A.length) (c:h.bk ((off+done)/480)≠0) {b a:eZ σ} (e:cZ ask (h.bk ((off+done)/480)) b=(.ok l,a)) :
  AT ask h off (f+1) done A b=AT ask h off f (done+gY (A.length-done) (off+done)) (putAt A done ((l.drop ((off+done)%480)).take (gY (A.length-done) (off+done)))) a:=(if_pos d).trans ((if_neg c).trans (WM.bd e))
end
end Go.SL
namespace Go.Proofs.Fs
open Go.RowKit Go.SL Go.Proofs.Ba
section
variable {σ α:Type}
theorem AP:(prog.info? 5).map (·.size)=some 1:=by kernel_rfl
def Qi (x:Wk σ) (d:Nat) (b:Hd) (off m g:Nat) (S:Hp) (F:ai) (w:World) (T:Rs (List UInt8) × eZ σ) (e:Value) (wr:World):Prop:=
 ∃ (done f:Nat) (A:List UInt8) (c:eZ σ) (a:Hp),done<=m/\A.length=m/\m-done<=f/\e = .int .i64 (done:Int)/\AT x.c.ask b off f done A c=T/\Ext S a/\aj w wr /\
  ag wr (bs 5 (.slice (some ⟨g,0,none⟩) m m) A*(aM x a c*(ak a*(aY d b*F))))
theorem A3 {c:Cx σ} (hc:c.Ok) {n:Nat} (hn:n<=3840) (node off cnt:Int) (nb ob cb:Nat) :
  Em c n 154 #[.pointer (some ⟨nb,0,none⟩),.pointer (some ⟨ob,0,none⟩),.pointer (some ⟨cb,0,none⟩)] fJ (bG nb node*(bG ob off*bG cb cnt)) (iS c.ask n node off cnt):=by
 intro x w S st F hx1 hx2 h;subst hx1 hx2;have cn:w.cell? ⟨nb,0,none⟩=some (.int .i64 node):=(h.to (by ac_rfl:_=bG nb node*((bG ob off*bG cb cnt)*(aM x S st*(ak S*F))))).cell 0;show Calls prog 154 #[.pointer (some ⟨x.k,0,none⟩),.pointer (some ⟨nb,0,none⟩),.pointer (some ⟨ob,0,none⟩),.pointer (some ⟨cb,0,none⟩)] w _
 refine aJ fun Q HQ=>?_;have hl:=mU x hc w S st node _ h;obtain ⟨⟨r,aQ⟩,hp⟩:∃ p,gR x.c.ask x.n node st=p:=⟨_,rfl⟩
 rw [hp] at hl;clear h;obtain ⟨G,hG⟩:∃ G,G=bG nb node*(bG ob off*bG cb cnt)*F:=⟨_,rfl⟩
 rw [<- hG] at hl HQ;have HG:=ae hG
 cases r with
 | bad cN=>
  have HE:=ae (show iS x.c.ask x.n node off cnt st=(.bad cN,aQ) from WM.bK hp);clear hp hG
  go_enter func154,ntmps154
  go_wp2_with fail
  (with_reducible refine hl.mono ?_)
  rintro e w2 ⟨S',hS,d2,rfl,h2⟩
  go_wp2_with fail
  exact ⟨rfl,HQ.out _ _ (by rw [HE.out];exact ⟨S',hS,d2,rfl,h2⟩)⟩
 | ok hh=>
  have hok:=Nd.pY (EH hp).ok;obtain ⟨s0,s1⟩:0<=hh.n.sz/\hh.n.sz<=122880:=⟨hok.2.2.2.1,hok.2.2.2.2.1⟩
  obtain ⟨T,hT⟩:∃ T,Km x.c.ask off cnt hh aQ=T:=⟨_,rfl⟩
  have HE:=ae (show iS x.c.ask x.n node off cnt st=T from (WM.bd hp).trans hT);have HT:=ae hT;clear hp hG hok hT
  have sO:∀ W P,ag W (P*G)->W.cell? ⟨ob,0,none⟩=some (.int .i64 off):=fun W P hW=>by
   rw [HG.out] at hW;exact (hW.to (by ac_rfl:_=bG ob off*(bG nb node*(bG cb cnt*(F*P))))).cell 0
  have sC:∀ W P,ag W (P*G)->W.cell? ⟨cb,0,none⟩=some (.int .i64 cnt):=fun W P hW=>by
   rw [HG.out] at hW;exact (hW.to (by ac_rfl:_=bG cb cnt*(bG nb node*(bG ob off*(F*P))))).cell 0
  have SO:=ae sO;have SC:=ae sC;clear sO sC
  go_enter func154,ntmps154
  go_wp2_with fail
  (with_reducible refine hl.mono ?_)
  rintro e w2 ⟨S',v,hS,d2,rfl,h2⟩;obtain ⟨hb,rfl,h3⟩:=ag.rK h2;have h4:ag w2 (aM x S' aQ*(ak S'*(aY hb hh*G))):=h3.to (by ac_rfl);have co:=SO.out w2 (aM x S' aQ*(ak S'*(aY hb hh))) (h4.to (by ac_rfl));have cc:=SC.out w2 (aM x S' aQ*(ak S'*(aY hb hh))) (h4.to (by ac_rfl));have c3:=(gz h3 (j:=3) (by decide)).1;rw [show hh.l.getD 3 0=hh.n.sz from rfl] at c3;have H4:=ae h4;clear h2 h3 hl cn h4
  by_cases hz:0<=off/\0<=cnt
  .obtain ⟨z0,z1⟩:=hz
   by_cases hge:hh.n.sz<=off
   .have hT2:T=(.ok [],aQ):=by rw [<- HT.out];exact (if_pos ⟨z0,z1⟩).trans (if_pos hge)
    have HT2:=ae hT2;clear hT2 HT
    go_wp2_with fail
    (with_reducible refine (gW w2).mono ?_)
    rintro e w3 ⟨rfl,rfl⟩
    go_wp2_with fail
    go_region_held3 (fun w'=>w'.cell? ⟨ob,0,none⟩=some (.int .i64 off)/\w'.cell? ⟨hb,3,none⟩=some (.int .i64 hh.n.sz)) (first|exact ⟨co,c3⟩|go_keep) (fail)
    all_goals
     clear co cc c3
     go_wp2_with fail
     refine HQ.out _ _ ?_;rw [HE.out,HT2.out];have h9:ag w2.drew (fJ [] (.slice none 0 0)*(aM x S' aQ*(ak S'*(aY hb hh*G)))):=(H4.out.drew.eC 5 1)
     exact ⟨S',_,hS,d2.drew,rfl,(h9.to (by ac_rfl:_=aY hb hh*(fJ [] (.slice none 0 0)*(aM x S' aQ*(ak S'*G))))).right⟩
   .have hlt:off<hh.n.sz:=by omega
    obtain ⟨m,hm⟩:∃ m,(min cnt (hh.n.sz-off)).toNat=m:=⟨_,rfl⟩
    obtain ⟨o,ho⟩:∃ o:Nat,off=(o:Int):=⟨off.toNat,by omega⟩
    have hT2:AT x.c.ask hh o m 0 (zs m) aQ=T:=by
     rw [<- HT.out];refine Eq.symm ((if_pos ⟨z0,z1⟩).trans ((if_neg hge).trans ?_));rw [hm,ho,Int.toNat_natCast]
    have hm2:min cnt (hh.n.sz-off)=(m:Int):=by omega
    have hm3:(o:Int)+m<=122880:=by omega
    have HT2:=ae hT2;have hmk:∀ w,(Instr.makeSlice 37 (.int .i64 (m:Int)) (.int .i64 (m:Int))).run prog w = .ok (.slice (some ⟨w.heap.size,0,none⟩) m m) (w.alloc (.cells (dG (zs m)) 5 (0,0))):=eL m (by omega);have hB:=ns m (by omega) (H4.out.drew.drew);have hgt:¬ (hh.n.sz<=off):=hge;subst ho;clear hT2 HT hm hge;obtain ⟨ZB,hZB⟩:∃ Z,Z=dG (zs m):=⟨_,rfl⟩
    rw [<- hZB] at hmk hB;clear hZB
    go_wp2_with fail
    (with_reducible refine (gW w2).mono ?_)
    rintro e w3 ⟨rfl,rfl⟩
    go_wp2_with fail
    go_region_held3 (fun w'=>w'.cell? ⟨ob,0,none⟩=some (.int .i64 (o:Int))/\w'.cell? ⟨hb,3,none⟩=some (.int .i64 hh.n.sz)) (first|exact ⟨co,c3⟩|go_keep) (fail)
    rename_i hHeld;have hgd:decide (hh.n.sz<=(o:Int))=false:=decide_eq_false (by omega);have H5:=ae H4.out.drew;have D5:=ae d2.drew;have co2:=SO.out w2.drew (aM x S' aQ*(ak S'*(aY hb hh))) (H5.out.to (by ac_rfl));have cc2:=SC.out w2.drew (aM x S' aQ*(ak S'*(aY hb hh))) (H5.out.to (by ac_rfl));have c32:w2.drew.cell? ⟨hb,3,none⟩=some (.int .i64 hh.n.sz):=hHeld.2;clear hHeld co cc c3 H4 d2;generalize w2.drew=w3 at *;rw [hgd];clear hgd
    go_wp2_with fail
    have hval:(if IntKind.i64.wrap (hh.n.sz-(o:Int))<cnt then IntKind.i64.wrap (hh.n.sz-(o:Int)) else cnt)=(m:Int):=by
     have e:IntKind.i64.wrap (hh.n.sz-(o:Int))=hh.n.sz-(o:Int):=by rw [IntKind.wrap_i64];omega
     rw [e];split <;> omega
    refine wp_region_held_drew (S:=(fun w'=>w'.cell? ⟨ob,0,none⟩=some (.int .i64 (o:Int))/\w'.cell? ⟨cb,0,none⟩=some (.int .i64 cnt)/\w'.cell? ⟨hb,3,none⟩=some (.int .i64 hh.n.sz))) (by kernel_rfl) ?_ (fun hHeld=>?_)
    ·(first|exact ⟨co2,cc2,c32⟩|go_keep)
    refine tk 0 ?_;refine tk 1 ?_;refine tk 2 ?_;refine tk 3 ?_;refine tk 4 ?_;refine tk 5 ?_;refine tk 6 ?_;refine tk 7 ?_;refine wpAnyH_take (i:=8) (v:=.int .i64 (m:Int)) rfl (by kernel_rfl) (by kernel_rfl) (by kernel_rfl) (fun _ _ _ h=>h) (Or.inl ⟨by kernel_rfl,?_⟩) (by assumption) ?_
    .intro w hSw;(try dsimp only at hSw);go_simp
    try simp only [List.getElem_toArray,List.getElem_cons_succ,List.getElem_cons_zero,Act.put,List.setIfInBounds_toArray,List.set_cons_zero,List.set_cons_succ]
    refine tr 9 fun K hK=>?_
    go_simp
    refine hK.out _ _ ?_ (fun hHeld=>?_)
    ·(first|exact ⟨co2,cc2,c32⟩|go_keep)
    clear hK K;refine tk 10 ?_;refine wpAnyH_done (by kernel_rfl) ?_ _;rename_i hHeld2;rw [show IntKind.i64.wrap (hh.n.sz-(o:Int))=hh.n.sz-(o:Int) from by rw [IntKind.wrap_i64];omega];have D6:aj w (w3.alloc (.cells ZB 5 (0,0))).drew:=D5.out.drew.alloc (.cells ZB 5 (0,0));have hB2:ag (w3.alloc (.cells ZB 5 (0,0))).drew (bs 5 (.slice (some ⟨w3.heap.size,0,none⟩) m m) (zs m)*(aM x S' aQ*(ak S'*(aY hb hh*G)))):=hB;clear hHeld hHeld2 hB co2 cc2 c32 hmk hval H5 D5;generalize (w3.alloc (.cells ZB 5 (0,0))).drew=w5 at *;generalize w3.heap.size=g at *;have HB2:=ae hB2;have hm1:(m:Int)<=122880:=by omega
    have ho1:(o:Int)<=122880:=by omega
    have hm0:0<=(m:Int):=by omega
    clear hB2 SC hm2 hgt hlt z1
    go_wp2_with fail
    go_loopw [8] (fun u wr=>Qi x hb hh o m g S G w T u wr) (fun u _=>m-(intOf u).toNat)
    case atStart=>exact ⟨0,m,zs m,aQ,S',Nat.zero_le _,aV m,Nat.le_refl _,rfl,HT2.out,hS,D6,HB2.out⟩
    case round=>
     obtain ⟨done,f,A,stk,Sk,hdm,hAl,hf,rfl,hTk,hSk,dk,hk4⟩:=hrel;have HTk:=ae hTk;have HSk:=ae hSk;have HAl:=ae hAl;clear HB2 HT2 hTk hSk hAl D6
     by_cases hlt:done<m
     .have hlt':(done:Int)<(m:Int):=by omega
      obtain ⟨f',rfl⟩:∃ f',f=f'+1:=⟨f-1,by omega⟩
      have hA:done<A.length:=by rw [HAl.out];exact hlt
      have co:=SO.out wr (bs 5 (.slice (some ⟨g,0,none⟩) m m) A*(aM x Sk stk*(ak Sk*(aY hb hh)))) (hk4.to (by ac_rfl));obtain ⟨l,hl⟩:∃ l,gY (A.length-done) (o+done)=l:=⟨_,rfl⟩
      have hl2:l=min (m-done) (480-(o+done)%480):=by rw [<- hl,HAl.out];rfl
      obtain ⟨q,hq⟩:∃ q,(o+done)/480=q:=⟨_,rfl⟩
      obtain ⟨r,hr⟩:∃ r,(o+done)%480=r:=⟨_,rfl⟩
      have hq256:q<256:=by omega
      have hr480:r<480:=by omega
      rw [hr] at hl2;have hl1:1<=l:=by omega
      have hlm:done+l<=m:=by omega
      have hlr:r+l<=480:=by omega
      have hquo:((o:Int)+(done:Int)).tdiv 480=(q:Int):=by rw [Int.tdiv_eq_ediv_of_nonneg (by omega)];omega
      have hrem:((o:Int)+(done:Int)).tmod 480=(r:Int):=by rw [Int.tmod_eq_emod_of_nonneg (by omega)];omega
      have hmin:(if (480:Int)-(r:Int)<((m-done:Nat):Int) then (480:Int)-(r:Int) else ((m-done:Nat):Int))=(l:Int):=by split <;> omega
      have hsub:(m:Int)-(done:Int)=((m-done:Nat):Int):=by omega
      have hpg:=zn wr hb hh _ (hk4.to (by ac_rfl:_=aY hb hh*(bs 5 (.slice (some ⟨g,0,none⟩) m m) A*(aM x Sk stk*(ak Sk*G))))) q hq256;unfold Pu at hpg
      by_cases h0:hh.bk q=0
      .have HN:=ae ((Nz hA (by rw [hq];exact h0) stk).symm.trans HTk.out)
       rw [hl] at HN;rw [h0] at hpg;clear h0 hl2 hq hr hl
       go_wp2_with fail
       (with_reducible refine hpg.mono ?_)
       rintro e w6 ⟨rfl,rfl⟩
       go_wp2_with fail
       go_roundw
       case rel=>exact ⟨done+l,f',A,stk,Sk,hlm,HAl.out,by omega,by go_num,HN.out,HSk.out,dk,hk4⟩
       case measure=>simp [intOf];omega
      .have h1:(hh.bk q != 0)=true:=by simpa using h0
       have hrd:=mP x hc wr Sk stk (hh.bk q) _ (hk4.to (by ac_rfl:_=aM x Sk stk*(ak Sk*(aY hb hh*(bs 5 (.slice (some ⟨g,0,none⟩) m m) A*G)))));obtain ⟨⟨r2,st2⟩,hp2⟩:∃ p,cZ x.c.ask (hh.bk q) stk=p:=⟨_,rfl⟩
       rw [hp2] at hrd;have hp3:cZ x.c.ask (hh.bk ((o+done)/480)) stk=(r2,st2):=by rw [hq];exact hp2
       have h03:hh.bk ((o+done)/480)≠0:=by rw [hq];exact h0
       cases r2 with
       | bad cN=>
        have HN:=ae ((Qf hA h03 hp3).symm.trans HTk.out);clear h0 h03 hp2 hp3 hl2 hq hr hl;generalize hh.bk q=y at *
        go_wp2_with fail
        (with_reducible refine hpg.mono ?_)
        rintro e w6 ⟨rfl,rfl⟩
        go_wp2_with fail
        (with_reducible refine hrd.mono ?_)
        rintro e w4 ⟨S2,hS2,d4,rfl,h6⟩
        go_wp2_with fail
        exact ⟨rfl,HQ.out _ _ (by rw [HE.out,<- HN.out];exact ⟨S2,HSk.out.trans hS2,dk.trans d4,rfl,(h6.to (by ac_rfl:_=(aY hb hh*bs 5 (.slice (some ⟨g,0,none⟩) m m) A)*(aM x S2 st2*(ak S2*G)))).right⟩)⟩
       | ok L=>
        have HL:=ae (iZ hp2);have HN:=ae ((PY hA h03 hp3).symm.trans HTk.out);rw [hl,hr] at HN;clear h0 h03 hp2 hp3 hl2 hq hr hl;generalize hh.bk q=y at *
        go_wp2_with fail
        (with_reducible refine hpg.mono ?_)
        rintro e w6 ⟨rfl,rfl⟩
        go_wp2_with fail
        (with_reducible refine hrd.mono ?_)
        rintro e w4 ⟨S2,v4,hS2,d4,rfl,h6⟩;unfold fJ at h6;obtain ⟨ga,ca,curd,rfl,a1,a2,a3,a4,a5,a6⟩:=qG h6 (by rw [HL.out];decide);obtain ⟨g',c',cur,e,k1,k2,k3,k4,k5,k6⟩:=qG (h6.to (by ac_rfl:_=bs 5 (.slice (some ⟨g,0,none⟩) m m) A*(bs 5 (.slice (some ⟨ga,0,none⟩) L.length ca) L*(aM x S2 st2*(ak S2*(aY hb hh*G)))))) (Nat.lt_of_le_of_lt (Nat.zero_le _) hA);simp only [Value.slice.injEq,Option.some.injEq,Addr.mk.injEq] at e;obtain ⟨⟨rfl,-,-⟩,-,rfl⟩:=e;have hdl:((L.drop r).take l).length=l:=by rw [H0,List.length_drop,HL.out];omega
        have h7:=(k6 done ((L.drop r).take l) (by rw [hdl,HAl.out];omega)).1
        have hcp:=fun ty=>run_copy_row (P:=prog) w4 37 37 ty 5 g done l (m-done) ⟨ga,r,none⟩ (480-r) (ca-r) cur 5 (((L.drop r).take l).map u8) underlying37 AP k4
         (by rw [F0,hdl];exact (Nat.min_eq_right (by omega)).symm)
         (fun j v hv=>by
          have hj:j<l:=by rw [<- hdl];simpa using (List.getElem?_eq_some_iff.1 hv).1
          rw [Addr.add_lit,(a5 (r+j) (by rw [HL.out];omega)).1,<- hv,List.getElem?_map,L0,if_pos hj,List.getElem?_drop];rw [D0,S0 (by rw [HL.out];omega)];rfl)
         (by rw [F0,hdl,k3];omega) (qO _)
        generalize (cur.toList.take done++((L.drop r).take l).map u8++cur.toList.drop (done+(((L.drop r).take l).map u8).length)).toArray=RW at *;have Hcp:=ae hcp;have Hdl:=ae hdl;have h8:=ae h7.ah.right;rw [HL.out] at a1 ⊢;clear hrd hpg h6 h7 hcp hdl a2 a3 a4 a5 a6 k1 k2 k4 k5 k6
        go_wp2_with (refine eW (Hcp.out _) _ _ rfl rfl rfl rfl rfl ?_)
        go_roundw
        case rel=>exact ⟨done+l,f',putAt A done ((L.drop r).take l),st2,S2,hlm,by rw [gQ (by rw [Hdl.out,HAl.out];omega)];exact HAl.out,by omega,by go_num,HN.out,HSk.out.trans hS2,(dk.trans d4).setRow _ _,h8.out⟩
        case measure=>simp [intOf];omega
     .have hA:A.length<=done:=by rw [HAl.out];omega
      have HN:=ae ((ME (ask:=x.c.ask) (h:=hh) (off:=o) (f:=f) hA stk).symm.trans HTk.out);clear hA
      go_wp2_with fail
      refine HQ.out _ _ ?_;rw [HE.out,<- HN.out]
      exact ⟨Sk,_,HSk.out,dk,rfl,by
       show ag wr (bs 5 _ A*_)
       exact (hk4.to (by ac_rfl:_=aY hb hh*(bs 5 (.slice (some ⟨g,0,none⟩) m m) A*(aM x Sk stk*(ak Sk*G))))).right⟩
  .have hT:T=(.bad 1,aQ):=by rw [<- HT.out];exact if_neg hz
   have HT2:=ae hT;clear hT HT
   by_cases hz1:0<=off
   .have hz2:decide (0<=cnt)=false:=decide_eq_false (by omega)
    clear hz
    go_wp2_with fail
    (with_reducible refine (iB w2).mono ?_)
    rintro e w4 ⟨rfl,rfl⟩
    go_wp2_with fail
    exact ⟨rfl,HQ.out _ _ (by rw [HE.out,HT2.out];exact ⟨S',hS,d2,rfl,(H4.out.to (by ac_rfl:_=aY hb hh*(aM x S' aQ*(ak S'*G)))).right⟩)⟩
   .have hz2:off<0:=by omega
    clear hz
    go_wp2_with fail
    (with_reducible refine (iB w2).mono ?_)
    rintro e w4 ⟨rfl,rfl⟩
    go_wp2_with fail
    exact ⟨rfl,HQ.out _ _ (by rw [HE.out,HT2.out];exact ⟨S',hS,d2,rfl,(H4.out.to (by ac_rfl:_=aY hb hh*(aM x S' aQ*(ak S'*G)))).right⟩)⟩
end
end Go.Proofs.Fs
