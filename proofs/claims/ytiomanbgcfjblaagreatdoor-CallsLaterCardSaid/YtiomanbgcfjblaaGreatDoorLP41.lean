/- Steps. -/
import Derived.Test.YtiomanbgcfjblaaGreatDoorLP12
import Derived.Test.YtiomanbgcfjblaaGreatDoorLP34
set_option linter.all false
set_option maxRecDepth 99999
set_option maxHeartbeats 0
open Go.SL
open Prod renaming fst->A1
namespace Go.Proofs.Cl
open RowKit SL Proofs.Nn Proofs.Ba
def Ut:dO (Jr × aw):=fun s a=>((s.1.read s.2 a).1,((s.1.read s.2 a).2.1,(s.1.read s.2 a).2.2))
def eH (has:Has) (i:Nat):List UInt8:=(has (i:Int)).getD (zs 480)
def IJ (J:Jr) (D:aw) (s:Jr × aw):Prop:=s.1=J/\∃ r,s.2={ D with cr:=r }
def Na {J:Jr} {D:aw} {has:Has} (h:dp J D has) (i:Nat):(eH has i).length=480:=by
 unfold eH
 cases a:told J.T.ps (i:Int) with
 | none=>rw [h.Qt _ a];exact aX 480
 | some p=>
  obtain ⟨t,b,c,d,_⟩:=h.ti _ _ a;rw [c];exact d
structure Dk (n:Nat) where
 Q:Nat->Jr->aw->Has->Prop
 inv:∀ {B J D has},Q B J D has->dp J D has
 jn:∀ {B J D has},Q B J D has->J.n=(n:Int)
 cr:∀ {B J D has},Q B J D has->∀ r,Q B J { D with cr:=r } has
 nS:∀ {B J D has},Q B J D has->B<=1000000->∀ {L},Batch (n:Int) L->∃ J' D',dJ J D true L=(0,J',D')/\Q (B+1) J' D' (kR has L)
 flush:∀ {B J D has},Q B J D has->B<=1000000->Q (B+1) J D.ay has
section
variable {n B k:Nat} {q:Dk n} {J:Jr} {D:aw} {has:Has} {A:Nat->Option AF}
def IJ.start (J:Jr) (D:aw):IJ J D (J,D):=⟨rfl,D.cr,rfl⟩
def yB (h:q.Q B J D has):uM Ut n (eH has) (IJ J D):=by
 refine ⟨fun i c=>Na (q.inv h) i,fun s i d c=>?_⟩;obtain ⟨J',D'⟩:=s;obtain ⟨a,r,b⟩:=d;have a:J'=J:=a;have b:D'={ D with cr:=r }:=b;subst a;subst b;show ((J'.read { D with cr:=r } (i:Int)).1=(0,eH has i))/\IJ J' D ((J'.read { D with cr:=r } (i:Int)).2.1,(J'.read { D with cr:=r } (i:Int)).2.2)
 rw [(q.inv (q.cr h r)).read Om0 (by rw [q.jn h];omega)];refine ⟨rfl,rfl,?_⟩;cases (told J'.T.ps (i:Int)).isSome
 .exact ⟨r,rfl⟩
 .exact ⟨bP (r+1),rfl⟩
def Lj (a:Go.SL.Has n ⟨eH has,eH has 0⟩ A k):se n (eH has) (IJ J D) ⟨0,[],[],(J,D)⟩ A k:=
 ⟨⟨rfl,IJ.start J D,fun i l _ h=>absurd h (by simp [aA]),fun i l _ h=>absurd h (by simp [aA]),fun p b=>absurd b Si0⟩,a⟩
def O4 {W:CB} (d:(W.map A1).Nodup) (x:Int):aA (iI W) x=aA W x:=by
 unfold iI
 have i:∀ l:List Int,l.Nodup->aA (l.map fun k=>(k,(aA W k).getD [])) x=if x ∈ l then some ((aA W x).getD []) else none:=by
  intro l
  induction l with
  | nil=>intro _;rfl
  | cons y l g=>
   intro c;rw [List.map_cons,jZ];rw [List.nodup_cons] at c
   by_cases e:y=x
   .subst e;rw [if_pos rfl,if_pos List.mem_cons_self]
   .rw [if_neg e,g c.2]
    by_cases a:x ∈ l
    .rw [if_pos a,if_pos (List.mem_cons_of_mem _ a)]
    .rw [if_neg a,if_neg]
     intro h;rcases List.mem_cons.1 h with h|h
     .exact e h.symm
     .exact a h
 rw [i _ ((sorted_perm _).nodup_iff.2 d)]
 by_cases a:x ∈ W.map A1
 .rw [if_pos ((sorted_perm _).mem_iff.2 a)]
  obtain ⟨p,f,rfl⟩:=List.mem_map.1 a
  cases b:aA W p.1 with
  | some l=>rfl
  | none=>
   unfold aA at b;have:=List.find?_eq_none.1 (Option.map_eq_none_iff.1 b) p f;simp at this
 .rw [if_neg fun h=>a ((sorted_perm _).mem_iff.1 h)]
  cases b:aA W x with
  | none=>rfl
  | some l=>exact absurd (List.mem_map.2 ⟨_,nH b,rfl⟩) a
def zF (W:CB):(iI W).length=W.length:=by unfold iI;rw [List.length_map,eG,List.length_map]
variable {M:iM (Jr × aw)}
def yy (h:se n (eH has) (IJ J D) M A k) (s:(M.W.map A1).Nodup) (j:M.W.length<=24) (g:1<=M.W.length):Batch (n:Int) (iI M.W):=by
 have b:∀ x ∈ iI M.W,x.1 ∈ M.W.map A1/\x.2=(aA M.W x.1).getD []:=by
  intro x a;obtain ⟨y,hy,rfl⟩:=List.mem_map.1 a;exact ⟨(sorted_perm _).mem_iff.1 hy,rfl⟩
 have f:∀ x ∈ iI M.W,0<=x.1/\x.1<(n:Int):=by
  intro x a;obtain ⟨p,c,e⟩:=List.mem_map.1 (b x a).1;rw [<- e];exact h.gL.keys p c
 refine ⟨by rw [zF];exact g,by rw [zF];exact j,f,fun x a=>?_,?_⟩
 .obtain ⟨t,u⟩:=f x a
  obtain ⟨i,m⟩:=Int.eq_ofNat_of_zero_le t;have o:=(b x a).1;rw [(b x a).2]
  cases d:aA M.W x.1 with
  | some l=>exact h.gL.wr i l Om0 (by rw [<- m];exact d)
  | none=>
   obtain ⟨p,c,e⟩:=List.mem_map.1 o;unfold aA at d;have:=List.find?_eq_none.1 (Option.map_eq_none_iff.1 d) p c;simp [e] at this
 .have e:(iI M.W).map A1=sorted (M.W.map A1):=by
   unfold iI;rw [List.map_map];exact List.map_id' _
  rw [e];exact (sorted_perm _).nodup_iff.2 s
def wG (h:se n (eH has) (IJ J D) M A k) (a:(M.W.map A1).Nodup):Go.SL.Has n ⟨eH (kR has (iI M.W)),eH (kR has (iI M.W)) 0⟩ A k:=by
 have e:∀ i:Nat,eH (kR has (iI M.W)) i=vw (eH has) M.W i:=by
  intro i;show ((aA (iI M.W) (i:Int)).or (has (i:Int))).getD (zs 480)=(aA M.W (i:Int)).getD (eH has i)
  rw [O4 a];cases aA M.W (i:Int) <;> rfl
 exact h.has.congr (fun i _ _=>e i) (e 0)
def uh (h:se n (eH has) (IJ J D) M A k) (a:M.W=[]):Go.SL.Has n ⟨eH has,eH has 0⟩ A k:=by
 have:=h.has;unfold Ns at this;rw [a] at this;exact this
end
end Go.Proofs.Cl
