/- Steps. -/
import Derived.Test.YtacliaemfegopaaGreatDoorKP12
import Derived.Test.YtacliaemfegopaaGreatDoorKP25
set_option linter.unusedVariables false
set_option linter.unusedSimpArgs false
set_option maxRecDepth 100000
set_option maxHeartbeats 40000000
open Go.Proofs Go.SL
namespace Go.Cl
open Go.RowKit Go.SL Go.Nn Go.Ba
def OB:dx (Jr × ay):=fun s id=>((s.1.read s.2 id).1,((s.1.read s.2 id).2.1,(s.1.read s.2 id).2.2))
def iK (has:Has) (i:Nat):List UInt8:=(has (i:Int)).getD (zs 480)
def IJ (J:Jr) (D:ay) (s:Jr × ay):Prop:=s.1=J∧∃ r,s.2={ D with cr:=r }
theorem JO {J:Jr} {D:ay} {has:Has} (h:fg J D has) (i:Nat):(iK has i).length=480:=by
 unfold iK
 cases ht:told J.T.ps (i:Int) with
 | none=>rw [h.non _ ht];exact aT 480
 | some p=>
  obtain ⟨t,b,h1,h2,_⟩:=h.dat _ _ ht;rw [h1];exact h2
structure Dk (n:Nat) where
 Q:Nat→Jr→ay→Has→Prop
 inv:∀ {B J D has},Q B J D has→fg J D has
 jn:∀ {B J D has},Q B J D has→J.n=(n:Int)
 cr:∀ {B J D has},Q B J D has→∀ r,Q B J { D with cr:=r } has
 wT:∀ {B J D has},Q B J D has→B≤1000000→∀ {L},Batch (n:Int) L→∃ J' D',eu J D true L=(0,J',D')∧Q (B+1) J' D' (lH has L)
 flush:∀ {B J D has},Q B J D has→B≤1000000→Q (B+1) J D.aE has
section
variable {n B k:Nat} {q:Dk n} {J:Jr} {D:ay} {has:Has} {A:Nat→Option AF}
theorem IJ.start (J:Jr) (D:ay):IJ J D (J,D):=⟨rfl,D.cr,rfl⟩
theorem vF (h:q.Q B J D has):rN OB n (iK has) (IJ J D):=by
 refine ⟨fun i hi=>JO (q.inv h) i,fun s i hs hi=>?_⟩;obtain ⟨J',D'⟩:=s;obtain ⟨h1,r,h2⟩:=hs;have h1:J'=J:=h1;have h2:D'={ D with cr:=r }:=h2;subst h1;subst h2;show ((J'.read { D with cr:=r } (i:Int)).1=(0,iK has i))∧IJ J' D ((J'.read { D with cr:=r } (i:Int)).2.1,(J'.read { D with cr:=r } (i:Int)).2.2)
 rw [(q.inv (q.cr h r)).read (by omega) (by rw [q.jn h];omega)];refine ⟨rfl,rfl,?_⟩;cases (told J'.T.ps (i:Int)).isSome
 ·exact ⟨r,rfl⟩
 ·exact ⟨bU (r+1),rfl⟩
theorem FM (hh:Go.SL.Has n ⟨iK has,iK has 0⟩ A k):pS n (iK has) (IJ J D) ⟨0,[],[],(J,D)⟩ A k:=
 ⟨⟨rfl,IJ.start J D,fun i l _ h=>absurd h (by simp [aH]),fun i l _ h=>absurd h (by simp [aH]),fun p hp=>absurd hp (by simp)⟩,hh⟩
theorem I1 {W:CB} (hn:(W.map Prod.fst).Nodup) (x:Int):aH (gH W) x=aH W x:=by
 unfold gH
 have key:∀ l:List Int,l.Nodup→aH (l.map fun k=>(k,(aH W k).getD [])) x=if x ∈ l then some ((aH W x).getD []) else none:=by
  intro l
  induction l with
  | nil=>intro _;rfl
  | cons y l ih=>
   intro hl;rw [List.map_cons,iX];rw [List.nodup_cons] at hl
   by_cases e:y=x
   ·subst e;rw [if_pos rfl,if_pos List.mem_cons_self]
   ·rw [if_neg e,ih hl.2]
    by_cases hx:x ∈ l
    ·rw [if_pos hx,if_pos (List.mem_cons_of_mem _ hx)]
    ·rw [if_neg hx,if_neg]
     intro h;rcases List.mem_cons.1 h with h|h
     ·exact e h.symm
     ·exact hx h
 rw [key _ ((sorted_perm _).nodup_iff.2 hn)]
 by_cases hx:x ∈ W.map Prod.fst
 ·rw [if_pos ((sorted_perm _).mem_iff.2 hx)]
  obtain ⟨p,hp,rfl⟩:=List.mem_map.1 hx
  cases hk:aH W p.1 with
  | some l=>rfl
  | none=>
   unfold aH at hk;have:=List.find?_eq_none.1 (Option.map_eq_none_iff.1 hk) p hp;simp at this
 ·rw [if_neg fun h=>hx ((sorted_perm _).mem_iff.1 h)]
  cases hk:aH W x with
  | none=>rfl
  | some l=>exact absurd (List.mem_map.2 ⟨_,lZ hk,rfl⟩) hx
theorem wN (W:CB):(gH W).length=W.length:=by unfold gH;rw [List.length_map,ee,List.length_map]
variable {M:gW (Jr × ay)}
theorem vx (h:pS n (iK has) (IJ J D) M A k) (hn:(M.W.map Prod.fst).Nodup) (h24:M.W.length≤24) (h1:1≤M.W.length):Batch (n:Int) (gH M.W):=by
 have hk:∀ x ∈ gH M.W,x.1 ∈ M.W.map Prod.fst∧x.2=(aH M.W x.1).getD []:=by
  intro x hx;obtain ⟨y,hy,rfl⟩:=List.mem_map.1 hx;exact ⟨(sorted_perm _).mem_iff.1 hy,rfl⟩
 have hid:∀ x ∈ gH M.W,0≤x.1∧x.1<(n:Int):=by
  intro x hx;obtain ⟨p,hp,e⟩:=List.mem_map.1 (hk x hx).1;rw [← e];exact h.good.keys p hp
 refine ⟨by rw [wN];exact h1,by rw [wN];exact h24,hid,fun x hx=>?_,?_⟩
 ·obtain ⟨i0,i1⟩:=hid x hx
  obtain ⟨i,hi⟩:=Int.eq_ofNat_of_zero_le i0;have hm:=(hk x hx).1;rw [(hk x hx).2]
  cases hq:aH M.W x.1 with
  | some l=>exact h.good.wr i l (by omega) (by rw [← hi];exact hq)
  | none=>
   obtain ⟨p,hp,e⟩:=List.mem_map.1 hm;unfold aH at hq;have:=List.find?_eq_none.1 (Option.map_eq_none_iff.1 hq) p hp;simp [e] at this
 ·have e:(gH M.W).map Prod.fst=sorted (M.W.map Prod.fst):=by
   unfold gH;rw [List.map_map];exact List.map_id' _
  rw [e];exact (sorted_perm _).nodup_iff.2 hn
theorem tT (h:pS n (iK has) (IJ J D) M A k) (hn:(M.W.map Prod.fst).Nodup):Go.SL.Has n ⟨iK (lH has (gH M.W)),iK (lH has (gH M.W)) 0⟩ A k:=by
 have e:∀ i:Nat,iK (lH has (gH M.W)) i=vw (iK has) M.W i:=by
  intro i;show ((aH (gH M.W) (i:Int)).or (has (i:Int))).getD (zs 480)=(aH M.W (i:Int)).getD (iK has i)
  rw [I1 hn];cases aH M.W (i:Int) <;> rfl
 exact h.has.congr (fun i _ _=>e i) (e 0)
theorem rE (h:pS n (iK has) (IJ J D) M A k) (hw:M.W=[]):Go.SL.Has n ⟨iK has,iK has 0⟩ A k:=by
 have:=h.has;unfold Kq at this;rw [hw] at this;exact this
end
end Go.Cl
