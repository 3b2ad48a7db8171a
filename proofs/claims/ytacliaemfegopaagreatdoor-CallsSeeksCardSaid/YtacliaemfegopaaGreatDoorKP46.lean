/- Steps. -/
import Derived.Test.YtacliaemfegopaaGreatDoorKP38
import Derived.Test.YtacliaemfegopaaGreatDoorKP45
set_option linter.unusedVariables false
set_option linter.unusedSimpArgs false
set_option maxRecDepth 100000
set_option maxHeartbeats 40000000
open Go.Proofs Go.SL
namespace Go.Nn
open Go.RowKit Go.SL Go.Su
def qJ:Has:=fun _=>none
def Zero (P:Nat) (D:ay):Prop:=∀ p:Nat,p<P→D.bT ((p:Int)+1)=(0,zs 512)
section
variable {n P B:Nat} {D E:ay} {K:List Int}
theorem BV (h:Zero P D):wG P D=fun _=>none:=by
 funext p;unfold wG
 split
 ·rename_i hc
  rw [h p hc.1,BY];rfl
 ·rfl
theorem Br (hP:1≤P) (hn:n≤P):Cp n P (fun _=>none) 0 0 (fun _=>none):=
 ⟨by omega,hn,Int.le_refl _,fun _=>rfl,fun p t _ h=>(by cases h),fun p t _ h=>(by cases h),fun id p h=>(by cases h),fun h=>absurd h (by decide),fun e=>⟨1,0,by decide,by decide,fun p t _ h=>(by cases h)⟩⟩
theorem Mo (hz:Zero P D) (hok:D.Ok) (hc:D.Calm) (hs:P+1≤D.sec.length) (hP:1≤P) (hP2:P≤19999) (h0:1≤n) (h1:n≤3840) (hn:n≤P):JT n (J0 P n) D qJ:=by
 have h:=Ep (P:=P) (n:=n) hP hP2 h0 h1;refine ⟨⟨h.ok,h.nums,hok,h.br,hc,by show (P:Int)+1≤_;omega,h.con,h.rm,h.win,fun id p hp=>?_,h.non⟩,Ra P n,?_⟩
 ·rw [OL,(Tb.ig n P id).1] at hp;cases hp
 ·have e:KZ (J0 P n)=fun _=>none:=by
   funext id;unfold KZ;rw [OL,(Tb.ig n P id).1];rfl
  show QU n P (wG P D) 0 0 (KZ (J0 P n)) 1 1
  rw [BV hz,e];exact (Br hP hn).run fun p t _ h=>by cases h
theorem KC (hz:Zero P D) (hok:D.Ok) (hc:D.Calm) (hs:P+1≤D.sec.length) (hg:lT n P=true) (h0:D.bT 0=(0,cO n P)):Sj n P 1 (cO n P) (J0 P n) D qJ:=by
 have hG:=dZ.1 hg;exact ⟨Mo hz hok hc hs (by omega) (by omega) (by omega) (by omega) (by omega),z8 P n,rfl,by show (0:Int)≤_;omega,by show (1:Int)≤_;omega,h0⟩
def F1 (D:ay):ay:={ D with cw:=bU (D.cw+1),wait:=D.wait++[((0:Int),zs 512)] }
def zW (k:Nat):List (Int × List UInt8):=(List.range k).map fun i:Nat=>((i:Int)+1,zs 512)
def FZ (D:ay) (k:Nat):ay:={ D with cw:=gV D.cw k,wait:=zW k }
def FS (n P:Nat) (D:ay):ay:={ D with cw:=bU (D.cw+1),wait:=[((0:Int),cO n P)] }
theorem CS (k:Nat):zW (k+1)=zW k++[((k:Int)+1,zs 512)]:=by simp [zW,List.range_succ]
theorem nQ (n:Nat):(zs n).length=n:=List.length_replicate
theorem vt (a:Int) (k:Nat):dQ (zW k) a=if 1≤a∧a≤(k:Int) then some (zs 512) else none:=by
 induction k with
 | zero=>rw [if_neg (by omega)];rfl
 | succ k ih=>
  rw [CS,iF,ih]
  by_cases h:(k:Int)+1=a
  ·rw [if_pos h,if_pos (by omega)]
  ·rw [if_neg h]
   by_cases h2:1≤a∧a≤(k:Int)
   ·rw [if_pos h2,if_pos (by omega)]
   ·rw [if_neg h2,if_neg (by omega)]
theorem Nf (h:D.Ok) (hm:D.wait.length≤1000) (hs:1≤D.sec.length):(F1 D).Ok:=by
 refine ⟨h.n,fun x hx=>?_,by show (D.wait++[((0:Int),zs 512)]).length≤_;rw [List.length_append];simp;omega,h.aX⟩;rcases List.mem_append.1 hx with hx|hx
 ·exact h.wait x hx
 ·obtain rfl:x=((0:Int),zs 512):=by simpa using hx
  exact ⟨Int.le_refl _,by show (0:Int)<(D.sec.length:Int);omega⟩
theorem Cq (h:D.Calm):(F1 D).Calm:=⟨h.down,h.armed⟩
theorem I7:(F1 D).bT 0=(0,zs 512):=by
 unfold ay.bT;show (match dQ (D.wait++[((0:Int),zs 512)]) 0 with|some l=>_|none=>_)=_
 rw [iF,if_pos rfl];show ((0:Int),bJ 512 (zs 512))=_
 rw [jv (nQ 512)]
theorem MV (h:D.Ok) {k:Nat} (hk:k+1≤D.sec.length):(FZ D k).Ok:=by
 have:=h.n;refine ⟨h.n,fun x hx=>?_,by show (zW k).length≤_;simp [zW];omega,h.aX⟩;obtain ⟨i,hi,rfl⟩:=List.mem_map.1 (show x ∈ zW k from hx);have:=List.mem_range.1 hi;exact ⟨by show (0:Int)≤(i:Int)+1;omega,by show (i:Int)+1<(D.sec.length:Int);omega⟩
theorem wV (h:D.Calm) (k:Nat):(FZ D k).Calm:=⟨h.down,h.armed⟩
theorem MD (D:ay) (P:Nat):Zero P (FZ D P):=by
 intro p hp;unfold ay.bT;show (match dQ (zW P) _ with|some l=>_|none=>_)=_
 rw [vt,if_pos (by omega)];show ((0:Int),bJ 512 (zs 512))=_
 rw [jv (nQ 512)]
theorem Eg (hw:D.wait=[]) (k:Nat):(FZ D k).bT 0=D.bT 0:=by
 unfold ay.bT;show (match dQ (zW k) 0 with|some l=>_|none=>_)=match dQ D.wait 0 with|some l=>_|none=>_
 rw [vt,if_neg (by omega),hw]
 rfl
end
end Go.Nn
namespace Go.Su
open Go.RowKit Go.SL Go.Nn Go.Ba Go.Fs
def rM (cd ca cb d:Nat) (a:Int) (bv:Value):ah:=pt cd (.cells #[ax d] 24 (0,0))*(pt ca (.cells #[.int .i64 a] 3 (0,0))*pt cb (.cells #[bv] 37 (0,0)))
theorem xe (w:World) (S:Hp) (d:Nat) (D:ay) (cd ca cb:Nat) (a:Int) (bv:Value) (l:List UInt8) (F:ah) (h:Sat w (aK S d D*(aj S*(rM cd ca cb d a bv*F)))) (hD:D.Ok) (hr:∀ w' D',Sat w' (aK S d D'*(aj S*(rM cd ca cb d a bv*F)))→Rd w' bv l) (hl:l.length=512) :
  Calls Tryz.prog 160 #[ax cd,ax ca,ax cb] w (gp S d (D.write a l).2 (.int .i64 (D.write a l).1) (rM cd ca cb d a bv*F) w):=by
 have hr0:=hr w D h;have hw:=mO w S d D a bv l _ h hD hr0 hr (by rw [hl];decide);have h1:=h;unfold rM at h1;have c0:w.cell? ⟨cd,0,none⟩=some (ax d):=(h1.to (by ac_rfl:_=pt cd (.cells #[ax d] 24 (0,0))*(pt ca (.cells #[.int .i64 a] 3 (0,0))*(pt cb (.cells #[bv] 37 (0,0))*(aK S d D*(aj S*F)))))).cell 0;have c1:w.cell? ⟨ca,0,none⟩=some (.int .i64 a):=(h1.to (by ac_rfl:_=pt ca (.cells #[.int .i64 a] 3 (0,0))*(pt cd (.cells #[ax d] 24 (0,0))*(pt cb (.cells #[bv] 37 (0,0))*(aK S d D*(aj S*F)))))).cell 0;have c2:w.cell? ⟨cb,0,none⟩=some bv:=(h1.to (by ac_rfl:_=pt cb (.cells #[bv] 37 (0,0))*(pt cd (.cells #[ax d] 24 (0,0))*(pt ca (.cells #[.int .i64 a] 3 (0,0))*(aK S d D*(aj S*F)))))).cell 0;obtain ⟨ba,bc,rfl⟩:=hr0.shape;clear h h1 hr hr0;rw [hl] at hw c2 ⊢;clear hl
 go_enter Tryz.func160,Tryz.ntmps160
 go_wp2_with fail
 (with_reducible refine hw.mono ?_)
 rintro e w2 ⟨S',hE,rfl,h2,d2⟩;have H2:=ae h2;have D2:=ae d2;clear hw h2 d2 c0 c1 c2
 go_wp2_with fail
 go_ret
 exact ⟨S',hE,rfl,H2.out,D2.out⟩
def de (ops:Nat→ay→Int × ay) (D:ay):Nat→Int × ay
 | 0=>(0,D)
 | k+1=>if (de ops D k).1=0 then ops k (de ops D k).2 else de ops D k
theorem FF (ops:Nat→ay→Int × ay) (D:ay) {k:Nat} (h:(de ops D k).1≠0):∀ m,k≤m→de ops D m=de ops D k:=by
  intro m hm
  induction m with
  | zero => obtain rfl : k = 0 := by omega
            rfl
  | succ m ih=>
    by_cases h1:k=m+1
    · rw [h1]
    · have:=ih (by omega)
      rw [de,this,if_neg h]
def CC (S:Hp) (d:Nat) (R:Int × ay) (Q:ah) (w:World) (e:Ending) (w':World):Prop:=
 (R.1=0∧e = .returned (.tuple #[])∨R.1≠0∧e = .panicked (Rl 2))∧∃ S',Ext S S'∧Sat w' (aK S' d R.2*(aj S'*Q))∧ai w w'
theorem sN (m:Nat) (fs:Nat→FuncId × Array Value × Array Value) (ops:Nat→ay→Int × ay) (S:Hp) (d g:Nat) (D:ay) (Q:ah) (hm:m≤10)
  (hc:∀ w' X k,Sat w' (X*Q)→k<m→w'.cell? ⟨g,k,none⟩=some (.func (.func (fs k).1) (fs k).2.1 (fs k).2.2))
  (he:∀ k,k<m→∀ (args:Array Value) (w:World),(callFunc (fs k).1 args).run Tryz.prog w = .ok (.enter (fs k).1 args) w)
  (hs:∀ k,k<m→∀ w' S' D',Ext S S'→D'.Ok→Sat w' (aK S' d D'*(aj S'*Q))→Calls Tryz.prog (fs k).1 ((fs k).2.1++(fs k).2.2) w' (gp S' d (ops k D').2 (.int .i64 (ops k D').1) Q w'))
  (hok:∀ k,k<m→(de ops D k).1=0→(de ops D k).2.Ok) (w:World) (h:Sat w (aK S d D*(aj S*Q))) :
  Calls Tryz.prog 112 #[.slice (some ⟨g,0,none⟩) m m] w (CC S d (de ops D m) Q w):=by
 refine (KJ m fs (fun k w'=>(de ops D k).1=0∧∃ S',Ext S S'∧Sat w' (aK S' d (de ops D k).2*(aj S'*Q))∧ai w w') (fun w'=>(de ops D m).1≠0∧∃ S',Ext S S'∧Sat w' (aK S' d (de ops D m).2*(aj S'*Q))∧ai w w') g hm ?_ ?_ w ⟨rfl,S,Ext.refl S,h,ai.refl w⟩).mono ?_
 ·rintro i k w' hi ⟨_,S',_,h',_⟩ hk
  exact hc w' _ k (h'.to (by ac_rfl:_=(aK S' d (de ops D i).2*aj S')*Q)) hk
 ·intro k hk
  refine ⟨he k hk,?_⟩;rintro w' ⟨h0,S',hE,h',d'⟩;refine (hs k hk w' S' _ hE (hok k hk h0) h').mono ?_;rintro e w2 ⟨S2,hE2,rfl,h2,d2⟩;have e1:de ops D (k+1)=ops k (de ops D k).2:=by rw [de,if_pos h0]
  refine ⟨_,rfl,?_⟩
  by_cases hz:(ops k (de ops D k).2).1=0
  ·exact .inl ⟨hz,by rw [e1];exact hz,S2,hE.trans hE2,by rw [e1];exact h2,d'.trans d2⟩
  ·have hz':(de ops D (k+1)).1≠0:=by rw [e1];exact hz
   have e2:=FF ops D hz' m (by omega);exact .inr ⟨hz,by rw [e2];exact hz',S2,hE.trans hE2,by rw [e2,e1];exact h2,d'.trans d2⟩
 ·rintro e w2 (⟨rfl,h1,h2⟩|⟨rfl,h1,h2⟩)
  ·exact ⟨.inl ⟨h1,rfl⟩,h2⟩
  ·exact ⟨.inr ⟨h1,rfl⟩,h2⟩
def mj (m k:Nat):List Int:=List.replicate k (-1)++List.replicate (m-k) 0
theorem Fj {m k:Nat} (h:k≤m):(mj m k).length=m:=by simp [mj];omega
theorem Eh {m k:Nat} (h:k<m):(mj m k).set k (-1)=mj m (k+1):=by
 unfold mj;rw [List.set_append_right _ _ (by simp),List.length_replicate,Nat.sub_self,show m-k=(m-(k+1))+1 by omega,List.replicate_succ,List.replicate_succ',List.append_assoc]
 rfl
def JW (m hb:Nat) (X:ah) (w:World) (u:Value) (wr:World):Prop:=
 ∃ k:Nat,k≤m∧u = .int .i64 (k:Int)∧Sat wr (pt hb (.cells (ints (mj m k)) 3 (0,0))*X)∧ai w wr
section
variable {D:ay} {o:Ar} {n P k:Nat} {K:List Int}
def oL (k:Nat) (D:ay):Int × ay:=if k=0 then D.write 0 (zs 512) else D.flush
def Ma (a:Int) (_:Nat) (D:ay):Int × ay:=D.write a (zs 512)
def lY (n P k:Nat) (D:ay):Int × ay:=if k=1 then D.write 0 (cO n P) else D.flush
theorem kM (h:D.Calm) (ho:nz o) {a:Int} (ha:D.has a) {l:List UInt8} (hl:l.length=512) :
  (¬ jo o∧(D.cR o).write a l=(0,({ D with cw:=bU (D.cw+1),wait:=D.wait++[(a,l)] }:ay).cR (lB o)))∨(jo o∧(D.cR o).write a l=(2,D.fm (E0 o))):=by
 by_cases hh:jo o
 ·exact .inr ⟨hh,uH h hh ha hl⟩
 ·exact .inl ⟨hh,wF h ho hh ha hl⟩
theorem la (h:D.Calm) (ho:nz o):(¬ jo o∧(D.cR o).flush=(0,D.aE.cR (lB o)))∨(jo o∧(D.cR o).flush=(2,D.fm (E0 o))):=by
 by_cases hh:jo o
 ·exact .inr ⟨hh,uJ h hh⟩
 ·exact .inl ⟨hh,xn h ho hh⟩
theorem ug (ops:Nat→ay→Int × ay) (D:ay):de ops D 1=ops 0 D:=by rw [de,de];rfl
theorem OC (h:D.Calm) (hok:D.Ok) (hm:D.wait.length≤1000) (ho:nz o) (h0:D.has 0) :
  ((∃ K',o=some (0,K')∧de oL (D.cR o) 2=(2,D.fm (E0 o)))∨(∃ K',o=some (1,K')∧de oL (D.cR o) 2=(2,(F1 D).fm (E0 o)))∨(∃ o',lI o o'∧de oL (D.cR o) 2=(0,(F1 D).aE.cR o'))) ∧
  (∀ k,k<2→(de oL (D.cR o) k).1=0→(de oL (D.cR o) k).2.Ok):=by
 have hF1:=Nf hok hm (by have:=h0.2;omega);have e1:de oL (D.cR o) 1=(D.cR o).write 0 (zs 512):=ug _ _;have e2:de oL (D.cR o) 2=if (de oL (D.cR o) 1).1=0 then (de oL (D.cR o) 1).2.flush else de oL (D.cR o) 1:=rfl
 rcases kM h ho h0 (nQ 512) with ⟨hh,hw⟩|⟨hh,hw⟩
 ·have hF:({ D with cw:=bU (D.cw+1),wait:=D.wait++[((0:Int),zs 512)] }:ay)=F1 D:=rfl
  rw [hF] at hw;rw [hw] at e1;refine ⟨?_,fun k hk h1=>?_⟩
  ·rw [e2,e1,if_pos rfl]
   show _∨(∃ K',o=some (1,K')∧((F1 D).cR (lB o)).flush=_)∨∃ o',_∧((F1 D).cR (lB o)).flush=_
   rcases la (Cq h) ho.dec with ⟨hh2,hf⟩|⟨hh2,hf⟩
   ·exact .inr (.inr ⟨_,(lI.dec ho).trans (lI.dec ho.dec),hf⟩)
   ·refine .inr (.inl ?_)
    rw [hf,pC];obtain ⟨K',hK⟩:=hh2
    cases o with
    | none=>cases hK
    | some x=>
     obtain ⟨N,K2⟩:=x;injection hK with hK;injection hK with e3 e4
     have:N≠0:=fun e=>hh ⟨K2,by rw [e]⟩;simp only at e3 e4;exact ⟨K2,by rw [show N=1 by omega],rfl⟩
  ·cases k with
   | zero=>exact jW hok ho
   | succ k=>
    obtain rfl:k=0:=by omega
    rw [e1];exact jW hF1 ho.dec
 ·rw [hw] at e1
  have hne:¬ (2:Int)=0:=by decide
  refine ⟨.inl ?_,fun k hk h1=>?_⟩
  ·obtain ⟨K',hK⟩:=hh
   exact ⟨K',hK,by rw [e2,e1,if_neg hne]⟩
  ·cases k with
   | zero=>exact jW hok ho
   | succ k=>
    obtain rfl:k=0:=by omega
    rw [e1] at h1;exact absurd h1 hne
theorem NY (h:D.Calm) (ho:nz o) (hs:k+1<D.sec.length) :
  (∃ o',lI o o'∧de (Ma ((k:Int)+1)) ((FZ D k).cR o) 1=(0,(FZ D (k+1)).cR o'))∨(jo o∧de (Ma ((k:Int)+1)) ((FZ D k).cR o) 1=(2,(FZ D k).fm (E0 o))):=by
 rw [ug];show (∃ o',_∧((FZ D k).cR o).write ((k:Int)+1) (zs 512)=_)∨(_∧((FZ D k).cR o).write ((k:Int)+1) (zs 512)=_)
 rcases kM (wV h k) ho (a:=(k:Int)+1) ⟨by omega,by show (k:Int)+1<(D.sec.length:Int);omega⟩ (nQ 512) with ⟨hh,hw⟩|⟨hh,hw⟩
 ·refine .inl ⟨_,lI.dec ho,?_⟩
  have:({ FZ D k with cw:=bU ((FZ D k).cw+1),wait:=(FZ D k).wait++[((k:Int)+1,zs 512)] }:ay)=FZ D (k+1):=by
   show ({ D with cw:=bU (gV D.cw k+1),wait:=zW k++[((k:Int)+1,zs 512)] }:ay)=_
   rw [← CS];rfl
  rw [hw,this]
 ·exact .inr ⟨hh,hw⟩
theorem Of (h:D.Calm) (hok:D.Ok) (ho:nz o) (h0:D.has 0) :
  ((∃ o',lI o o'∧de (lY n P) (D.cR o) 3=(0,(FS n P D.aE).aE.cR o'))∨(o≠none∧∃ E,(E=D∨E=D.aE∨E=FS n P D.aE)∧de (lY n P) (D.cR o) 3=(2,E.fm (E0 o)))) ∧
  (∀ k,k<3→(de (lY n P) (D.cR o) k).1=0→(de (lY n P) (D.cR o) k).2.Ok):=by
 have hfk:=ay.gx hok;rw [h.flush] at hfk;have hfok:D.aE.Ok:=hfk.ok hok (by have:=hok.many;omega);have hfc:D.aE.Calm:=gR h;have hfs:D.aE.sec.length=D.sec.length:=(aU D).2.2.2;have hf0:D.aE.has 0:=⟨Int.le_refl _,by rw [hfs];exact h0.2⟩
 have hSw:∀ x ∈ (FS n P D.aE).wait,(FS n P D.aE).has x.1:=by
  intro x hx;obtain rfl:x=((0:Int),cO n P):=by simpa [FS] using hx
  exact hf0
 have hSok:(FS n P D.aE).Ok:=⟨hfok.n,hSw,by show [((0:Int),cO n P)].length≤_;simp,hfok.aX⟩
 have e1:de (lY n P) (D.cR o) 1=(D.cR o).flush:=ug _ _;have e2:de (lY n P) (D.cR o) 2=if (de (lY n P) (D.cR o) 1).1=0 then (de (lY n P) (D.cR o) 1).2.write 0 (cO n P) else de (lY n P) (D.cR o) 1:=rfl
 have e3:de (lY n P) (D.cR o) 3=if (de (lY n P) (D.cR o) 2).1=0 then (de (lY n P) (D.cR o) 2).2.flush else de (lY n P) (D.cR o) 2:=rfl
 have hne:¬ (2:Int)=0:=by decide
 rcases la h ho with ⟨hh,hf⟩|⟨hh,hf⟩
 ·rw [hf] at e1
  rw [e1,if_pos rfl] at e2;rcases kM hfc ho.dec hf0 (iw n P) with ⟨hh2,hw⟩|⟨hh2,hw⟩
  ·have hF:({ D.aE with cw:=bU (D.aE.cw+1),wait:=D.aE.wait++[((0:Int),cO n P)] }:ay)=FS n P D.aE:=rfl
   rw [hF] at hw;rw [hw] at e2;rw [e2,if_pos rfl] at e3;refine ⟨?_,fun k hk h1=>?_⟩
   ·rcases la (D:=FS n P D.aE) ⟨hfc.down,hfc.armed⟩ ho.dec.dec with ⟨hh3,hf3⟩|⟨hh3,hf3⟩
    ·exact .inl ⟨_,((lI.dec ho).trans (lI.dec ho.dec)).trans (lI.dec ho.dec.dec),e3.trans hf3⟩
    ·refine .inr ⟨fun e=>ss hh3 (lh (lh e)),_,.inr (.inr rfl),e3.trans (hf3.trans ?_)⟩
     rw [pC,pC]
   ·match k,hk with
    | 0,_=>exact jW hok ho
    | 1,_=>rw [e1];exact jW hfok ho.dec
    | 2,_=>rw [e2];exact jW hSok ho.dec.dec
  ·rw [hw] at e2
   rw [e2,if_neg hne] at e3;refine ⟨.inr ⟨fun e=>ss hh2 (lh e),_,.inr (.inl rfl),e3.trans (by rw [pC])⟩,fun k hk h1=>?_⟩
   match k,hk with
   | 0,_=>exact jW hok ho
   | 1,_=>rw [e1];exact jW hfok ho.dec
   | 2,_=>rw [e2] at h1;exact absurd h1 hne
 ·rw [hf] at e1
  rw [e1,if_neg hne] at e2;rw [e2,if_neg hne] at e3;refine ⟨.inr ⟨ss hh,_,.inl rfl,e3⟩,fun k hk h1=>?_⟩
  match k,hk with
  | 0,_=>exact jW hok ho
  | 1,_=>rw [e1] at h1;exact absurd h1 hne
  | 2,_=>rw [e2] at h1;exact absurd h1 hne
end
theorem Kf (w:World) (pa pe:Addr) :
    CallsD Tryz.prog 107 #[.pointer (some pa),.pointer (some pe)] .returning w fun e u w'=>e = .returned (.tuple #[])∧u = .returning∧w=w':=by
  refine callsD_of_wpS Tryz.func107 rfl fun c₀ cs hu=>?_;apply wpS_seq;apply wpS_region
  simp only [Tryz.ntmps107,List.size_toArray,List.length_cons,List.length_nil,Nat.reduceAdd,Nat.reduceSub,Array.replicate_succ,
     Array.replicate_zero,List.push_toArray,List.append_toArray,List.nil_append,List.cons_append]
  simp [wpOpsS,go_sem,recoverD,hu,Exit.thenS];refine wpS_of_wp ?_
  go_wp2
  cases c₀
  simp_all [bodyPostS,results,Tryz.results107]
theorem An {w:World} {tmps:Array Value} {a b:Nat} {x e:Value} (h2:tmps[4]?=some (ax a)) (h3:tmps[5]?=some (ax b)) (ha:w.cell? ⟨a,0,none⟩=some x) (hb:w.cell? ⟨b,0,none⟩=some e) :
  (results Tryz.f61 tmps).run Tryz.prog w = .ok (.tuple #[x,e]) w:=by
 simp [results,Tryz.results61,go_sem,h2,h3,ha,hb]
theorem FC {w:World} {tmps:Array Value} {ab eb:Nat} {x z:Value} {R:Ending→World→Prop} (h2:tmps[4]?=some (ax ab)) (h3:tmps[5]?=some (ax eb))
  (ha:w.cell? ⟨ab,0,none⟩=some x) (hb:w.cell? ⟨eb,0,none⟩=some z) (hR:R (.returned (.tuple #[x,z])) w) :
  bodyPostD Tryz.prog Tryz.f61 R Exit.ret { tmps:=tmps,defers:=[{ target:=.fn (.func 107) #[.pointer (some ⟨ab,0,none⟩),.pointer (some ⟨eb,0,none⟩)],args:=#[] }] } w:=by
 refine leaves_cons (f:=107) (args:=#[.pointer (some ⟨ab,0,none⟩),.pointer (some ⟨eb,0,none⟩)]) (by simp) (by simp [go_sem]) ?_;refine (Kf w ⟨ab,0,none⟩ ⟨eb,0,none⟩).mono ?_;rintro e u w7 ⟨rfl,rfl,rfl⟩;exact ⟨_,An h2 h3 ha hb,hR⟩
def uD (cd ca cb:Nat):Value:=.func (.func 160) #[] #[ax cd,ax ca,ax cb]
def vE (d:Nat):Value:=.func (.func 114) #[ax d] #[]
def j7 (rb:Nat) (fs:Array Value):ah:=pt rb (.cells fs 112 (0,0))
section
variable (w:World) (S:Hp) (d:Nat) (D:ay) (cd ca cb rb:Nat) (bv:Value) (R:ah)
theorem IF (h:Sat w (aK S d D*(aj S*(rM cd ca cb d 0 bv*(j7 rb #[uD cd ca cb,vE d]*R))))) (hr:∀ w' X,Sat w' (X*R)→Rd w' bv (zs 512)) (hok:∀ k,k<2→(de oL D k).1=0→(de oL D k).2.Ok) :
  Calls Tryz.prog 112 #[.slice (some ⟨rb,0,none⟩) 2 2] w (CC S d (de oL D 2) (rM cd ca cb d 0 bv*(j7 rb #[uD cd ca cb,vE d]*R)) w):=by
 refine sN 2 (fun k=>if k=0 then (160,#[],#[ax cd,ax ca,ax cb]) else (114,#[ax d],#[])) oL S d rb D _ (by decide) ?_ ?_ ?_ hok w h
 ·intro w' X k hx hk
  have hx':=(hx.to (by ac_rfl:_=j7 rb #[uD cd ca cb,vE d]*(X*(rM cd ca cb d 0 bv*R))))
  match k,hk with
  | 0,_=>exact hx'.cell 0
  | 1,_=>exact hx'.cell 1
 ·intro k hk args w
  match k,hk with
  | 0,_=>simp [go_sem]
  | 1,_=>simp [go_sem]
 ·intro k hk w' S' D' hE hD' h'
  match k,hk with
  | 0,_=>exact xe w' S' d D' cd ca cb 0 bv (zs 512) _ h' hD' (fun w2 D2 h2=>hr w2 _ (h2.to (by ac_rfl:_=(aK S' d D2*(aj S'*(rM cd ca cb d 0 bv*j7 rb #[uD cd ca cb,vE d])))*R))) (nQ 512)
  | 1,_=>exact (mT w' S' d D' _ h' hD').mono fun e w2 h2=>gp.of h2
theorem sJ (a:Int) (h:Sat w (aK S d D*(aj S*(rM cd ca cb d a bv*(j7 rb #[uD cd ca cb]*R))))) (hr:∀ w' X,Sat w' (X*R)→Rd w' bv (zs 512)) (hok:D.Ok) :
  Calls Tryz.prog 112 #[.slice (some ⟨rb,0,none⟩) 1 1] w (CC S d (de (Ma a) D 1) (rM cd ca cb d a bv*(j7 rb #[uD cd ca cb]*R)) w):=by
 refine sN 1 (fun k=>(160,#[],#[ax cd,ax ca,ax cb])) (Ma a) S d rb D _ (by decide) ?_ ?_ ?_ ?_ w h
 ·intro w' X k hx hk
  have hx':=(hx.to (by ac_rfl:_=j7 rb #[uD cd ca cb]*(X*(rM cd ca cb d a bv*R))))
  match k,hk with
  | 0,_=>exact hx'.cell 0
 ·intro k hk args w
  simp [go_sem]
 ·intro k hk w' S' D' hE hD' h'
  exact xe w' S' d D' cd ca cb a bv (zs 512) _ h' hD' (fun w2 D2 h2=>hr w2 _ (h2.to (by ac_rfl:_=(aK S' d D2*(aj S'*(rM cd ca cb d a bv*j7 rb #[uD cd ca cb])))*R))) (nQ 512)
 ·intro k hk _
  obtain rfl:k=0:=by omega
  exact hok
theorem GD (n P:Nat) (h:Sat w (aK S d D*(aj S*(rM cd ca cb d 0 bv*(j7 rb #[vE d,uD cd ca cb,vE d]*R))))) (hr:∀ w' X,Sat w' (X*R)→Rd w' bv (cO n P)) (hok:∀ k,k<3→(de (lY n P) D k).1=0→(de (lY n P) D k).2.Ok) :
  Calls Tryz.prog 112 #[.slice (some ⟨rb,0,none⟩) 3 3] w (CC S d (de (lY n P) D 3) (rM cd ca cb d 0 bv*(j7 rb #[vE d,uD cd ca cb,vE d]*R)) w):=by
 refine sN 3 (fun k=>if k=1 then (160,#[],#[ax cd,ax ca,ax cb]) else (114,#[ax d],#[])) (lY n P) S d rb D _ (by decide) ?_ ?_ ?_ hok w h
 ·intro w' X k hx hk
  have hx':=(hx.to (by ac_rfl:_=j7 rb #[vE d,uD cd ca cb,vE d]*(X*(rM cd ca cb d 0 bv*R))))
  match k,hk with
  | 0,_=>exact hx'.cell 0
  | 1,_=>exact hx'.cell 1
  | 2,_=>exact hx'.cell 2
 ·intro k hk args w
  match k,hk with
  | 0,_=>simp [go_sem]
  | 1,_=>simp [go_sem]
  | 2,_=>simp [go_sem]
 ·intro k hk w' S' D' hE hD' h'
  match k,hk with
  | 0,_=>exact (mT w' S' d D' _ h' hD').mono fun e w2 h2=>gp.of h2
  | 1,_=>exact xe w' S' d D' cd ca cb 0 bv (cO n P) _ h' hD' (fun w2 D2 h2=>hr w2 _ (h2.to (by ac_rfl:_=(aK S' d D2*(aj S'*(rM cd ca cb d 0 bv*j7 rb #[vE d,uD cd ca cb,vE d])))*R))) (iw n P)
  | 2,_=>exact (mT w' S' d D' _ h' hD').mono fun e w2 h2=>gp.of h2
end
theorem ME {n P:Nat} {D:ay} (hok:D.Ok) (hc:D.Calm) (hw:D.wait=[]) (hs:D.sec.length=P+1) (hz:Zero P D) (hg:lT n P=true) :
  Sj n P 1 (cO n P) (J0 P n) (FS n P D).aE qJ∧(FS n P D).aE.sec.length=P+1∧(FS n P D).aE.cr=D.cr∧(FS n P D).aE.cw=bU (D.cw+1)∧(FS n P D).aE.cf=bU (D.cf+1):=by
 have hw':∀ x ∈ (FS n P D).wait,(FS n P D).has x.1:=by
  intro x hx;obtain rfl:x=((0:Int),cO n P):=by simpa [FS] using hx
  exact ⟨Int.le_refl _,by show (0:Int)<(D.sec.length:Int);omega⟩
 have hFok:(FS n P D).Ok:=⟨hok.n,hw',by show [((0:Int),cO n P)].length≤_;simp,hok.aX⟩
 have hFc:(FS n P D).Calm:=⟨hc.down,hc.armed⟩
 have hfk:=ay.gx hFok;rw [hFc.flush] at hfk;have hs3:(FS n P D).aE.sec.length=P+1:=by rw [(aU _).2.2.2];exact hs
 refine ⟨KC (fun p hp=>?_) (hfk.ok hFok (by have:=hFok.many;omega)) (gR hFc) (by rw [hs3];omega) hg ?_,hs3,(aU _).1,(aU _).2.1,(aU _).2.2.1⟩
 ·rw [eX hFok _ ⟨by omega,by show (p:Int)+1<(D.sec.length:Int);omega⟩,← hz p hp]
  unfold ay.bT
  have:dQ [((0:Int),cO n P)] ((p:Int)+1)=none:=by
   have:=iF [] ((0:Int),cO n P) ((p:Int)+1);rw [List.nil_append,if_neg (by show ¬ ((0:Int)=(p:Int)+1);omega)] at this;exact this
  rw [show (FS n P D).wait=[((0:Int),cO n P)] from rfl,this,hw]
  rfl
 ·rw [eX hFok 0 ⟨Int.le_refl _,by show (0:Int)<(D.sec.length:Int);omega⟩]
  unfold ay.bT
  have:dQ [((0:Int),cO n P)] 0=some (cO n P):=by
   have:=iF [] ((0:Int),cO n P) 0;rw [List.nil_append,if_pos rfl] at this;exact this
  rw [show (FS n P D).wait=[((0:Int),cO n P)] from rfl,this];show ((0:Int),bJ 512 (cO n P))=_
  rw [jv (iw n P)]
def Oa (S:Hp) (d n P:Nat) (D:ay) (o:Ar) (F:ah) (w:World) (e:Ending) (w':World):Prop:=∃ E:Nat,o≠none∧E=E
structure Om (n P:Nat) (D:ay) (o:Ar) (D':ay) (o':Ar):Prop where
 sj:Sj n P 1 (cO n P) (J0 P n) D' qJ
 dry:D'.wait=[]
 sec:D'.sec.length=D.sec.length
 cr:D'.cr=D.cr
 cw:D'.cw=gV D.cw (P+2)
 cf:D'.cf=gV D.cf 3
 ar:lI o o'
def My (S:Hp) (d n P:Nat) (D:ay) (o:Ar) (F:ah) (w:World) (e:Ending) (w':World):Prop:=
 ∃ s j S' D' o',Ext S S'∧e = .returned (.tuple #[ax s,.int .i64 0])∧Sat w' (ei s j d n P (J0 P n)*(aK S' d (D'.cR o')*(aj S'*F)))∧ai w w'∧Om n P D o D' o'
def LI (S:Hp) (d n P:Nat) (D:ay) (o:Ar) (F:ah) (w:World) (e:Ending) (w':World):Prop:=Oa S d n P D o F w e w'∨My S d n P D o F w e w'
def PV (S:Hp) (d P:Nat) (D1:ay) (o:Ar) (Fr:ah) (w:World) (wr:World):Prop:=
 ∃ S' o',Ext S S'∧Sat wr (aK S' d ((FZ D1 P).cR o')*(aj S'*Fr))∧ai w wr∧lI o o'
def PO (S:Hp) (d P:Nat) (D1:ay) (o:Ar) (Fr:ah) (w:World) (u:Value) (wr:World):Prop:=
 ∃ k S' o',k≤P∧u = .int .i64 ((k:Nat):Int)∧Ext S S'∧Sat wr (aK S' d ((FZ D1 k).cR o')*(aj S'*Fr))∧ai w wr∧lI o o'
theorem AP (w:World) (S:Hp) (d n P:Nat) (D:ay) (o:Ar) (F:ah) (h:Sat w (aK S d (D.cR o)*(aj S*F))) (hok:D.Ok) (hc:D.Calm) (hm:D.wait.length≤1000) (hg:lT n P=true) (hs:D.sec.length=P+1) (ho:nz o)
  (hno:o=none)
  (hh:∀ w' X,Sat w' (X*F)→nZ w'):Calls Tryz.prog 61 #[ax d,.int .i64 (n:Int)] w (LI S d n P D o F w):=by
 have hmf:=nV Tryz.prog;have hgG:=dZ.1 hg;have h1:=((h.alloc (.cells #[.pointer none] 61 (0,0))).alloc (.cells #[.int .i64 0] 28 (0,0)))
 have d1:=(((ai.refl w).alloc (.cells #[.pointer none] 61 (0,0))).alloc (.cells #[.int .i64 0] 28 (0,0)))
 rw [World.size_alloc] at h1;have Hok:=ae hok;have Hc:=ae hc;have Hm:=ae hm;have Hg:=ae hg;have Hs:=ae hs;have Ho:=ae ho;have Hh:=ae hh;have HNO:=ae hno;clear hno;clear h hok hc hm hg hs ho hh
 go_enter_defers Tryz.func61,Tryz.ntmps61
 go_wp2_with fail
 generalize (w.alloc (.cells #[.pointer none] 61 (0,0))).alloc (.cells #[.int .i64 0] 28 (0,0))=w1 at h1 d1 ⊢;generalize w.heap.size+1=eb at h1 ⊢;generalize w.heap.size=ab at h1 ⊢;have hsec:=mg w1 S d (D.cR o) _ (h1.to (by ac_rfl:_=aK S d (D.cR o)*(pt eb (.cells #[.int .i64 0] 28 (0,0))*(pt ab (.cells #[.pointer none] 61 (0,0))*(aj S*F)))));rw [px,Hs.out] at hsec;have hwr:IntKind.i64.wrap (((P+1:Nat):Int)-1)=(P:Int):=by rw [IntKind.wrap_i64];omega
 (with_reducible refine hsec.mono ?_)
 rintro e w2 ⟨rfl,rfl⟩;have h2:=h1.alloc (.cells #[.int .i64 (n:Int),.int .i64 (P:Int)] 119 (0,0));have d2:=d1.alloc (.cells #[.int .i64 (n:Int),.int .i64 (P:Int)] 119 (0,0));clear hsec h1 d1
 go_wp2_with fail
 have hrt:=sF (w1.alloc (.cells #[.int .i64 (n:Int),.int .i64 (P:Int)] 119 (0,0))) n P;unfold Dj Kz at hrt;rw [if_pos Hg.out] at hrt
 (with_reducible refine hrt.mono ?_)
 rintro e w3 ⟨rfl,h3,d3⟩;have hyes:=fun w=>zJ w;have H3:=h3.dO h2;have D3:=d2.trans d3;generalize w1.heap.size=gb at H3 ⊢;clear hrt h2 d2 h3 d3
 go_wp2_with fail
 (with_reducible refine (hyes _).mono ?_)
 rintro e w4 ⟨rfl,rfl⟩;have H4:=H3.alloc (.cells (dp (zs 512)) 5 (0,0));have D4:=D3.alloc (.cells (dp (zs 512)) 5 (0,0));obtain ⟨Z,hZ⟩:∃ Z,Z=dp (zs 512):=⟨_,rfl⟩
 have hmk:∀ w,(Instr.makeSlice 37 (.int .i64 512) (.int .i64 512)).run Tryz.prog w = .ok (.slice (some ⟨w.heap.size,0,none⟩) 512 512) (w.alloc (.cells Z 5 (0,0))):=by
  rw [hZ];exact Go.Nn.er 512 (by decide)
 rw [← hZ] at H4 D4;clear H3 D3;have HZ:=ae hZ;clear hZ
 go_wp2_with fail
 generalize w3.alloc (.cells Z 5 (0,0))=w5 at H4 D4 ⊢;generalize w3.heap.size=zb at H4 ⊢;obtain ⟨Fr,hFr⟩:∃ X,X=pt zb (.cells Z 5 (0,0))*(pt gb (.cells #[.int .i64 (n:Int),.int .i64 (P:Int)] 119 (0,0))*(pt eb (.cells #[.int .i64 0] 28 (0,0))*(pt ab (.cells #[.pointer none] 61 (0,0))*F))):=⟨_,rfl⟩
 have H5:Sat w5 (aK S d (D.cR o)*(aj S*Fr)):=H4.to (by rw [hFr];ac_rfl);have HFr:=ae hFr
 have hrz:∀ w' X,Sat w' (X*Fr)→Rd w' (.slice (some ⟨zb,0,none⟩) 512 512) (zs 512):=by
  intro w' X hx;have:=rY (c:=512) ((hx.to (by rw [HFr.out,HZ.out];ac_rfl:_=pt zb (.cells (dp (zs 512)) 5 (0,0))*(X*(pt gb (.cells #[.int .i64 (n:Int),.int .i64 (P:Int)] 119 (0,0))*(pt eb (.cells #[.int .i64 0] 28 (0,0))*(pt ab (.cells #[.pointer none] 61 (0,0))*F)))))).heap)
  rwa [nQ] at this
 have hrz:=ae hrz;clear H4 hFr
 -- the first two steps
 have hwf:=sG w5 d 0 (some ⟨zb,0,none⟩) 512 512;have h6:=(((H5.alloc (.cells #[ax d] 24 (0,0))).alloc (.cells #[.int .i64 0] 3 (0,0))).alloc (.cells #[.slice (some ⟨zb,0,none⟩) 512 512] 37 (0,0))).alloc (.cells #[.func (.func 160) #[] #[ax w5.heap.size,ax (w5.heap.size+1),ax (w5.heap.size+1+1)],.func (.func 114) #[ax d] #[]] 112 (0,0));have D6:=(((D4.alloc (.cells #[ax d] 24 (0,0))).alloc (.cells #[.int .i64 0] 3 (0,0))).alloc (.cells #[.slice (some ⟨zb,0,none⟩) 512 512] 37 (0,0))).alloc (.cells #[.func (.func 160) #[] #[ax w5.heap.size,ax (w5.heap.size+1),ax (w5.heap.size+1+1)],.func (.func 114) #[ax d] #[]] 112 (0,0));rw [World.size_alloc,World.size_alloc,World.size_alloc] at h6
 (with_reducible refine hwf.mono ?_)
 rintro e w6 ⟨rfl,rfl⟩;have H6:=ae h6;have HD6:=ae D6;clear hwf h6 D6 D4 H5 hmk
 go_wp2_with fail
 generalize (((w5.alloc (.cells #[ax d] 24 (0,0))).alloc (.cells #[.int .i64 0] 3 (0,0))).alloc (.cells #[.slice (some ⟨zb,0,none⟩) 512 512] 37 (0,0))).alloc (.cells #[.func (.func 160) #[] #[ax w5.heap.size,ax (w5.heap.size+1),ax (w5.heap.size+1+1)],.func (.func 114) #[ax d] #[]] 112 (0,0))=w6 at H6 HD6 ⊢;generalize w5.heap.size+1+1+1=rb at H6 ⊢;generalize w5.heap.size+1+1=cb at H6 ⊢;generalize w5.heap.size+1=ca at H6 ⊢;generalize w5.heap.size=cd at H6 ⊢;have h6:Sat w6 (aK S d (D.cR o)*(aj S*(rM cd ca cb d 0 (.slice (some ⟨zb,0,none⟩) 512 512)*(j7 rb #[uD cd ca cb,vE d]*Fr)))):=H6.out.to (by unfold rM j7 uD vE;ac_rfl);have hD0:D.has 0:=⟨Int.le_refl _,by rw [Hs.out];omega⟩
 obtain ⟨hA,hAok⟩:=OC Hc.out Hok.out Hm.out Ho.out hD0;have hrun:=IF w6 S d (D.cR o) cd ca cb rb _ Fr h6 hrz.out hAok;clear H6 h6 hAok
 (with_reducible refine hrun.mono ?_)
 rintro e w7 ⟨hc7,S7,hE7,h7,d7⟩;have D7:=HD6.out.trans d7;clear hrun d7 HD6;rcases hA with ⟨K',ho0,hR⟩|⟨K',ho0,hR⟩|⟨o1,hA1,hR⟩
 ·rw [HNO.out] at ho0;cases ho0
 ·rw [HNO.out] at ho0;cases ho0
 rw [hR] at hc7 h7;rcases hc7 with ⟨_,rfl⟩|⟨hc7,_⟩
 case inr=>exact absurd rfl hc7
 -- the 0s
 have hF1:=Nf Hok.out Hm.out (by rw [Hs.out];omega);have hF1c:=Cq Hc.out;obtain ⟨D1,hD1⟩:∃ X,X=(F1 D).aE:=⟨_,rfl⟩
 have hfk:=ay.gx hF1;rw [hF1c.flush] at hfk;have hok1:D1.Ok:=by rw [hD1];exact hfk.ok hF1 (by have:=hF1.many;omega)
 have hc1:D1.Calm:=by rw [hD1];exact gR hF1c
 have hw1:D1.wait=[]:=by rw [hD1];rfl
 have hs1:D1.sec.length=P+1:=by rw [hD1,(aU _).2.2.2];exact Hs.out
 have ht1:D1.bT 0=(0,zs 512):=by rw [hD1,eX hF1 0 hD0];exact I7
 have hcr1:D1.cr=D.cr:=by rw [hD1,(aU _).1];rfl
 have hcw1:D1.cw=gV D.cw 1:=by rw [hD1,(aU _).2.1];rfl
 have hcf1:D1.cf=gV D.cf 1:=by rw [hD1,(aU _).2.2.1];rfl
 rw [← hD1] at h7;have hZ0:FZ D1 0=D1:=by unfold FZ zW;rw [List.range_zero,List.map_nil,← hw1];rfl
 have h7':Sat w7 (aK S7 d ((FZ D1 0).cR o1)*(aj S7*Fr)):=by
  rw [hZ0];exact (h7.to (by ac_rfl:_=(rM cd ca cb d 0 (.slice (some ⟨zb,0,none⟩) 512 512)*j7 rb #[uD cd ca cb,vE d])*(aK S7 d (D1.cR o1)*(aj S7*Fr)))).right
 have H7:=ae h7';have HD7:=ae D7;have HA1:=ae hA1;have HE7:=ae hE7;have Hok1:=ae hok1;have Hc1:=ae hc1;have Hw1:=ae hw1;have Hs1:=ae hs1;have Ht1:=ae ht1;have Hcr1:=ae hcr1;have Hcw1:=ae hcw1;have Hcf1:=ae hcf1;clear h7 h7' D7 hA1 hR hD1 hfk hok1 hc1 hw1 hs1 ht1 hcr1 hcw1 hcf1 hF1 hF1c hZ0 hE7
 have g1:w7.cell? ⟨gb,1,none⟩=some (.int .i64 (P:Int)):=by
  have:=H7.out;rw [HFr.out] at this;exact (this.to (by ac_rfl:_=pt gb (.cells #[.int .i64 (n:Int),.int .i64 (P:Int)] 119 (0,0))*(pt zb (.cells Z 5 (0,0))*(pt eb (.cells #[.int .i64 0] 28 (0,0))*(pt ab (.cells #[.pointer none] 61 (0,0))*(F*(aK S7 d ((FZ D1 0).cR o1)*aj S7))))))).cell 1
 go_upto_block 0 with (fail)
 go_cut [] from 32 to 42 (fun wx=>PV S d P D1 o Fr w wx)
 case first=>
  go_wp2_with fail
  go_loopw [32] (fun u wr=>PO S d P D1 o Fr w u wr) (fun u _=>P-(Proofs.intOf u).toNat)
  case atStart=>exact ⟨0,S7,o1,Nat.zero_le _,rfl,HE7.out,H7.out,HD7.out,HA1.out⟩
  case round=>
   clear H7 HD7 HA1 HE7 g1;obtain ⟨k,S8,o2,hk,rfl,hE8,h8,D8,hA2⟩:=hrel
   by_cases hlt:k<P
   ·have hlt':(k:Int)<(P:Int):=by omega
    have hwk:IntKind.i64.wrap ((k:Int)+1)=(k:Int)+1:=by rw [IntKind.wrap_i64];omega
    have hwf:=sG wr d ((k:Int)+1) (some ⟨zb,0,none⟩) 512 512;have h9:=(((h8.alloc (.cells #[ax d] 24 (0,0))).alloc (.cells #[.int .i64 ((k:Int)+1)] 3 (0,0))).alloc (.cells #[.slice (some ⟨zb,0,none⟩) 512 512] 37 (0,0))).alloc (.cells #[.func (.func 160) #[] #[ax wr.heap.size,ax (wr.heap.size+1),ax (wr.heap.size+1+1)]] 112 (0,0));have D9:=(((D8.alloc (.cells #[ax d] 24 (0,0))).alloc (.cells #[.int .i64 ((k:Int)+1)] 3 (0,0))).alloc (.cells #[.slice (some ⟨zb,0,none⟩) 512 512] 37 (0,0))).alloc (.cells #[.func (.func 160) #[] #[ax wr.heap.size,ax (wr.heap.size+1),ax (wr.heap.size+1+1)]] 112 (0,0));rw [World.size_alloc,World.size_alloc,World.size_alloc] at h9;have H9:=ae h9;have HD9:=ae D9;have HE8:=ae hE8;have HA2:=ae hA2;clear h8 D8 h9 D9 hE8 hA2
    go_wp2_with fail
    (with_reducible refine hwf.mono ?_)
    rintro e w9 ⟨rfl,rfl⟩;clear hwf
    go_wp2_with fail
    generalize (((wr.alloc (.cells #[ax d] 24 (0,0))).alloc (.cells #[.int .i64 ((k:Int)+1)] 3 (0,0))).alloc (.cells #[.slice (some ⟨zb,0,none⟩) 512 512] 37 (0,0))).alloc (.cells #[.func (.func 160) #[] #[ax wr.heap.size,ax (wr.heap.size+1),ax (wr.heap.size+1+1)]] 112 (0,0))=w9 at H9 HD9 ⊢;generalize wr.heap.size+1+1+1=rb at H9 ⊢;generalize wr.heap.size+1+1=cb at H9 ⊢;generalize wr.heap.size+1=ca at H9 ⊢;generalize wr.heap.size=cd at H9 ⊢;have h9:Sat w9 (aK S8 d ((FZ D1 k).cR o2)*(aj S8*(rM cd ca cb d ((k:Int)+1) (.slice (some ⟨zb,0,none⟩) 512 512)*(j7 rb #[uD cd ca cb]*Fr)))):=H9.out.to (by unfold rM j7 uD;ac_rfl);have hrun:=sJ w9 S8 d ((FZ D1 k).cR o2) cd ca cb rb _ Fr _ h9 hrz.out (jW (MV Hok1.out (by rw [Hs1.out];omega)) HA2.out.ok);clear h9 H9
    (with_reducible refine hrun.mono ?_)
    rintro e w10 ⟨hc10,S10,hE10,h10,d10⟩;have D10:=HD9.out.trans d10;have hE:Ext S S10:=HE8.out.trans hE10;clear hrun d10 HD9 hE10;rcases NY (k:=k) Hc1.out HA2.out.ok (by rw [Hs1.out];omega) with ⟨o3,hA3,hR⟩|⟨hh,hR⟩
    ·rw [hR] at hc10 h10
     rcases hc10 with ⟨_,rfl⟩|⟨hc10,_⟩
     case inr=>exact absurd rfl hc10
     have H10:=ae ((h10.to (by ac_rfl:_=(rM cd ca cb d ((k:Int)+1) (.slice (some ⟨zb,0,none⟩) 512 512)*j7 rb #[uD cd ca cb])*(aK S10 d ((FZ D1 (k+1)).cR o3)*(aj S10*Fr)))).right);have HD10:=ae D10;have HE10:=ae hE;have HA3:=ae (HA2.out.trans hA3);clear h10 D10 hE hA3 hR HA2
     go_wp2_with fail
     go_roundw
     case rel=>exact ⟨k+1,S10,o3,by omega,by go_num,HE10.out,H10.out,HD10.out,HA3.out⟩
     case measure=>simp [Proofs.intOf];omega
    ·obtain ⟨K',hK⟩:=hh
     rw [HA2.out.none HNO.out] at hK;cases hK
   ·obtain rfl:k=P:=by omega
    have H8:=ae h8;have HD8:=ae D8;clear h8 D8
    go_wp2_with fail
    go_meet
    exact ⟨S8,o2,hE8,H8.out,HD8.out,hA2⟩
 case rest=>
  clear H7 HD7 HA1 HE7 g1;obtain ⟨S8,o2,hE8,h8,D8,hA2⟩:=hcut;have hgb:∀ w' X,Sat w' (X*Fr)→Sat w' (pt gb (.cells #[.int .i64 (n:Int),.int .i64 (P:Int)] 119 (0,0))*((pt zb (.cells Z 5 (0,0))*(pt eb (.cells #[.int .i64 0] 28 (0,0))*(pt ab (.cells #[.pointer none] 61 (0,0))*F)))*X)):=fun w' X hx=>hx.to (by rw [HFr.out];ac_rfl);have g0:wc.cell? ⟨gb,0,none⟩=some (.int .i64 (n:Int)):=(hgb _ (aK S8 d ((FZ D1 P).cR o2)*aj S8) (h8.to (by ac_rfl))).cell 0;have g1:wc.cell? ⟨gb,1,none⟩=some (.int .i64 (P:Int)):=(hgb _ (aK S8 d ((FZ D1 P).cR o2)*aj S8) (h8.to (by ac_rfl))).cell 1;have hhalf:∀ w' X,Sat w' (X*Fr)→nZ w':=fun w' X hx=>Hh.out w' (X*(pt zb (.cells Z 5 (0,0))*(pt gb (.cells #[.int .i64 (n:Int),.int .i64 (P:Int)] 119 (0,0))*(pt eb (.cells #[.int .i64 0] 28 (0,0))*pt ab (.cells #[.pointer none] 61 (0,0)))))) (hx.to (by rw [HFr.out];ac_rfl));have hen:=zp wc n P Hg.out (hhalf wc (aK S8 d ((FZ D1 P).cR o2)*aj S8) (h8.to (by ac_rfl)));unfold Kz at hen;have Hgb:=ae hgb;have Hhf:=ae hhalf;have H8:=ae h8;have HD8:=ae D8;have HE8:=ae hE8;have HA2:=ae hA2;clear hgb hhalf h8 D8 hE8 hA2
  go_wp2_with fail
  (with_reducible refine hen.mono ?_)
  rintro e w9 ⟨ev,rfl,h9,d9⟩;have H9:=h9.under H8.out;have D9:=HD8.out.trans d9;obtain ⟨va,vc,rfl⟩:=H9.oZ.shape;rw [iw] at H9 ⊢;clear hen h9 d9 H8 HD8 g0 g1;have hwf:=sG w9 d 0 va 512 vc;have h10:=(((H9.alloc (.cells #[ax d] 24 (0,0))).alloc (.cells #[.int .i64 0] 3 (0,0))).alloc (.cells #[.slice va 512 vc] 37 (0,0))).alloc (.cells #[.func (.func 114) #[ax d] #[],.func (.func 160) #[] #[ax w9.heap.size,ax (w9.heap.size+1),ax (w9.heap.size+1+1)],.func (.func 114) #[ax d] #[]] 112 (0,0));have D10:=(((D9.alloc (.cells #[ax d] 24 (0,0))).alloc (.cells #[.int .i64 0] 3 (0,0))).alloc (.cells #[.slice va 512 vc] 37 (0,0))).alloc (.cells #[.func (.func 114) #[ax d] #[],.func (.func 160) #[] #[ax w9.heap.size,ax (w9.heap.size+1),ax (w9.heap.size+1+1)],.func (.func 114) #[ax d] #[]] 112 (0,0));rw [World.size_alloc,World.size_alloc,World.size_alloc] at h10;have H10:=ae h10;have HD10:=ae D10;clear H9 D9 h10 D10
  go_wp2_with fail
  (with_reducible refine hwf.mono ?_)
  rintro e w10 ⟨rfl,rfl⟩;clear hwf
  go_wp2_with fail
  generalize (((w9.alloc (.cells #[ax d] 24 (0,0))).alloc (.cells #[.int .i64 0] 3 (0,0))).alloc (.cells #[.slice va 512 vc] 37 (0,0))).alloc (.cells #[.func (.func 114) #[ax d] #[],.func (.func 160) #[] #[ax w9.heap.size,ax (w9.heap.size+1),ax (w9.heap.size+1+1)],.func (.func 114) #[ax d] #[]] 112 (0,0))=w10 at H10 HD10 ⊢;generalize w9.heap.size+1+1+1=rb at H10 ⊢;generalize w9.heap.size+1+1=cb at H10 ⊢;generalize w9.heap.size+1=ca at H10 ⊢;generalize w9.heap.size=cd at H10 ⊢;have h10:Sat w10 (aK S8 d ((FZ D1 P).cR o2)*(aj S8*(rM cd ca cb d 0 (.slice va 512 vc)*(j7 rb #[vE d,uD cd ca cb,vE d]*(bs 5 (.slice va 512 vc) (cO n P)*Fr))))):=H10.out.to (by unfold rM j7 uD vE;ac_rfl);have hD0:(FZ D1 P).has 0:=⟨Int.le_refl _,by show (0:Int)<(D1.sec.length:Int);rw [Hs1.out];omega⟩
  have hFok:=MV Hok1.out (k:=P) (by rw [Hs1.out];omega);obtain ⟨hC,hCok⟩:=Of (n:=n) (P:=P) (wV Hc1.out P) hFok HA2.out.ok hD0;have hrun:=GD w10 S8 d ((FZ D1 P).cR o2) cd ca cb rb (.slice va 512 vc) (bs 5 (.slice va 512 vc) (cO n P)*Fr) n P h10 (fun w' X hx=>(hx.to (by ac_rfl:_=bs 5 (.slice va 512 vc) (cO n P)*(X*Fr))).oZ) hCok;clear H10 h10 hCok
  (with_reducible refine hrun.mono ?_)
  rintro e w11 ⟨hc11,S11,hE11,h11,d11⟩;have D11:=HD10.out.trans d11;have hE:Ext S S11:=HE8.out.trans hE11;clear hrun d11 HD10 hE11
  -- what the device is
  have hFc:=wV Hc1.out P;have hfk:=ay.gx hFok;rw [hFc.flush] at hfk;have hok2:(FZ D1 P).aE.Ok:=hfk.ok hFok (by have:=hFok.many;omega);have hc2:(FZ D1 P).aE.Calm:=gR hFc;have hs2:(FZ D1 P).aE.sec.length=P+1:=by rw [(aU _).2.2.2];exact Hs1.out
  have hz2:Zero P (FZ D1 P).aE:=fun p hp=>by rw [eX hFok _ ⟨by omega,by show (p:Int)+1<(D1.sec.length:Int);rw [Hs1.out];omega⟩];exact MD D1 P p hp
  have ht2:(FZ D1 P).aE.bT 0=(0,zs 512):=by rw [eX hFok _ hD0,Eg Hw1.out];exact Ht1.out
  rcases hC with ⟨o3,hA3,hR⟩|⟨hne,E,hEE,hR⟩
  case inr=>exact absurd (HA2.out.none HNO.out) hne
  rw [hR] at hc11 h11;rcases hc11 with ⟨_,rfl⟩|⟨hc11,_⟩
  case inr=>exact absurd rfl hc11
  obtain ⟨hsj,hs3,hcr3,hcw3,hcf3⟩:=ME hok2 hc2 rfl hs2 hz2 Hg.out
  have hFm:Om n P D o (FS n P (FZ D1 P).aE).aE o3:=by
   refine ⟨hsj,rfl,by rw [hs3,Hs.out],?_,?_,?_,HA2.out.trans hA3⟩
   ·rw [hcr3,(aU _).1];exact Hcr1.out
   ·rw [hcw3,(aU _).2.1]
    show bU (gV D1.cw P+1)=_
    rw [Hcw1.out,EL,show P+2=(1+P)+1 by omega];rfl
   ·rw [hcf3,(aU _).2.2.1]
    show bU (bU (D1.cf+1)+1)=_
    rw [Hcf1.out];rfl
  generalize (FS n P (FZ D1 P).aE).aE=D3 at h11 hsj hs3 hcr3 hcw3 hcf3 hFm;have H11:Sat w11 (aK S11 d (D3.cR o3)*(aj S11*Fr)):=(h11.to (by ac_rfl:_=(rM cd ca cb d 0 (.slice va 512 vc)*(j7 rb #[vE d,uD cd ca cb,vE d]*bs 5 (.slice va 512 vc) (cO n P)))*(aK S11 d (D3.cR o3)*(aj S11*Fr)))).right;have HFm:=ae hFm;clear h11 hR hsj hcr3 hcw3 hcf3 hok2 hc2 hs2 hz2 ht2 hfk hFc hFok hFm hA3 HA2 HE8 hrz;obtain ⟨F0,hF0⟩:∃ l,l=mj n 0:=⟨_,rfl⟩
  have hmk:∀ w,(Instr.makeSlice 22 (.int .i64 (n:Int)) (.int .i64 (n:Int))).run Tryz.prog w = .ok (.slice (some ⟨w.heap.size,0,none⟩) n n) (w.alloc (.cells (ints F0) 3 (0,0))):=by
   rw [hF0];exact qk n (by omega)
  have HF0:=ae hF0;have h12:=H11.alloc (.cells (ints F0) 3 (0,0));have D12:=D11.alloc (.cells (ints F0) 3 (0,0));clear hF0 H11 D11
  go_upto_block 2 with (fail)
  generalize w11.alloc (.cells (ints F0) 3 (0,0))=w12 at h12 D12 ⊢;generalize w11.heap.size=hb at h12 ⊢;obtain ⟨Z2,hZ2⟩:∃ X,X=aK S11 d (D3.cR o3)*(aj S11*Fr):=⟨_,rfl⟩
  rw [← hZ2] at h12;have HZ2:=ae hZ2;have H12:=ae h12;have HD12:=ae D12;have HE11:=ae hE;have Hs3:=ae hs3;clear hZ2 hmk h12 D12 hE hs3
  go_cut [] from 57 to 63 (fun wx=>Sat wx (pt hb (.cells (ints (List.replicate n (-1))) 3 (0,0))*Z2)∧ai w wx)
  case first=>
   go_wp2_with fail
   go_loopw [57] (fun u wr=>JW n hb Z2 w u wr) (fun u _=>n-(Proofs.intOf u).toNat)
   case atStart=>exact ⟨0,Nat.zero_le _,rfl,by rw [← HF0.out];exact H12.out,HD12.out⟩
   case round=>
    clear H12 HD12;obtain ⟨k,hk,rfl,hsat,hside⟩:=hrel
    by_cases hlt:k<n
    ·have hlt':(k:Int)<(n:Int):=by omega
     have ck:wr.cell? ⟨hb,k,none⟩=some (.int .i64 ((mj n k).getD k 0)):=(hsat.cell k).trans (bA (by rw [Fj hk];exact hlt));have fk:=hsat.frozen k;have h2:=hsat.setCell k (.int .i64 (-1));rw [fZ,Eh hlt] at h2;have hset:=ae h2;have Hside:=ae hside;generalize (mj n k).getD k 0=uo at ck;clear hsat hside h2
     go_wp2
     go_roundw
     case rel=>exact ⟨k+1,by omega,by go_num,hset.out,Hside.out.setCell _ _⟩
     case measure=>simp [Proofs.intOf];omega
    ·obtain rfl:k=n:=by omega
     have e:mj k k=List.replicate k (-1):=by simp [mj]
     rw [e] at hsat;have Hs:=ae hsat;have Hd:=ae hside;clear hsat hside e
     go_wp2_with fail
     go_meet
     exact ⟨Hs.out,Hd.out⟩
  case rest=>
   clear H12 HD12;obtain ⟨h13,D13⟩:=hcut;rw [HZ2.out] at h13;have h13g:Sat wc (pt gb (.cells #[.int .i64 (n:Int),.int .i64 (P:Int)] 119 (0,0))*(pt zb (.cells Z 5 (0,0))*(pt eb (.cells #[.int .i64 0] 28 (0,0))*(pt ab (.cells #[.pointer none] 61 (0,0))*F))*(pt hb (.cells (ints (List.replicate n (-1))) 3 (0,0))*(aK S11 d (D3.cR o3)*aj S11)))):=h13.to (by rw [HFr.out];ac_rfl);have g0:wc.cell? ⟨gb,0,none⟩=some (.int .i64 (n:Int)):=h13g.cell 0;have g1:wc.cell? ⟨gb,1,none⟩=some (.int .i64 (P:Int)):=h13g.cell 1;have hlr:(l9 n).at_.length=n:=List.length_replicate
   have hopn:Calls Tryz.prog 116 #[ax d,.agg #[.int .i64 (n:Int),.int .i64 (P:Int)],.agg #[.int .u32 1,.int .u64 1,.int .u64 0,.int .i64 0,.int .i64 0,.slice (some ⟨hb,0,none⟩) n n]] wc (uw d n P (J0 P n) wc):=by
    refine mm wc S11 d (D3.cR o3) _ (h13.to (by ac_rfl:_=aK S11 d (D3.cR o3)*(pt hb (.cells (ints (List.replicate n (-1))) 3 (0,0))*(aj S11*Fr)))) n P (l9 n) (.slice (some ⟨hb,0,none⟩) n n) (.inr ⟨hb,0,n,by rw [hlr],by rw [hlr];exact Nat.le_refl _,by unfold maxLen;omega,fun k hk=>?_⟩) (by omega) (by omega) (by rw [px,Hs3.out];omega) (by rw [px,Hs3.out];omega) (show (0:Int)≤0 by decide) (qX (by omega) (by omega) (by omega)) (by omega);rw [Nat.zero_add,h13.cell];exact bA hk
   have H13:=ae h13;have HD13:=ae D13;clear h13 h13g D13 hlr
   go_wp2_with fail
   (with_reducible refine hopn.mono ?_)
   rintro e w14 ⟨s,j,rfl,h14,d14⟩;have D14:=HD13.out.trans d14;have h14':Sat w14 (pt ab (.cells #[.pointer none] 61 (0,0))*(pt eb (.cells #[.int .i64 0] 28 (0,0))*((pt hb (.cells (ints (List.replicate n (-1))) 3 (0,0))*(pt gb (.cells #[.int .i64 (n:Int),.int .i64 (P:Int)] 119 (0,0))*pt zb (.cells Z 5 (0,0))))*(ei s j d n P (J0 P n)*(aK S11 d (D3.cR o3)*(aj S11*F)))))):=(h14.under H13.out).to (by rw [HFr.out];ac_rfl);have a0:=h14'.cell 0;have b0:=h14'.ag.cell 0;have fa:=h14'.frozen 0;have fb':=h14'.ag.frozen 0;have hne:ab≠eb:=Sat.ne h14';have HK:=ae ((h14'.setCell 0 (ax s)).ag.setCell 0 (.int .i64 0));have HDK:=ae ((D14.setCell ⟨ab,0,none⟩ (ax s)).setCell ⟨eb,0,none⟩ (.int .i64 0));clear hopn h14 h14' d14 D14 H13 HD13 g0 g1
   go_wp2_with fail
   exact FC rfl rfl (HK.out.ag.cell 0) (HK.out.cell 0) (.inr ⟨s,j,S11,D3,o3,HE11.out,rfl,HK.out.right.right.right,HDK.out,HFm.out⟩)
def kK (n:Int):Int:=if n<4∨3840<n then 0 else (5*n+241)/2
theorem BC {n:Nat} (h0:4≤n) (h1:n≤3840):kK (n:Int)=(((5*n+241)/2:Nat):Int):=by
 unfold kK;rw [if_neg (by omega)];omega
theorem Em (w:World) (n:Int):Calls Tryz.prog 25 #[.int .i64 n] w fun e w'=>e = .returned (.int .i64 (kK n))∧w=w':=by
 go_enter Tryz.func25,Tryz.ntmps25
 by_cases h:n<4
 ·have e:kK n=0:=by unfold kK;rw [if_pos (.inl h)]
  rw [e]
  go_wp2
  go_ret
  exact ⟨rfl,rfl⟩
 ·by_cases h1:3840<n
  ·have e:kK n=0:=by unfold kK;rw [if_pos (.inr h1)]
   rw [e]
   go_wp2
   go_ret
   exact ⟨rfl,rfl⟩
  ·have e:kK n=(5*n+241)/2:=by unfold kK;rw [if_neg (by omega)]
   have hw:IntKind.i64.wrap ((IntKind.i64.wrap (IntKind.i64.wrap (IntKind.i64.wrap (IntKind.i64.wrap (5*n)+240)+2)-1)).tdiv 2)=(5*n+241)/2:=by
    have a1:IntKind.i64.wrap (5*n)=5*n:=by rw [IntKind.wrap_i64];omega
    have a2:IntKind.i64.wrap (5*n+240)=5*n+240:=by rw [IntKind.wrap_i64];omega
    have a3:IntKind.i64.wrap (5*n+240+2)=5*n+242:=by rw [IntKind.wrap_i64];omega
    have a4:IntKind.i64.wrap (5*n+242-1)=5*n+241:=by rw [IntKind.wrap_i64];omega
    rw [a1,a2,a3,a4,Int.tdiv_eq_ediv_of_nonneg (by omega),IntKind.wrap_i64];omega
   rw [e]
   go_wp2
   go_ret
   refine ⟨?_,rfl⟩;rw [show 5*n+240+2-1=5*n+241 by omega]
   rfl
end Go.Su
