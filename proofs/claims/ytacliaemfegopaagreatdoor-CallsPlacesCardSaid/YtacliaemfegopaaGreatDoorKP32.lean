/- Steps. -/
import Derived.Test.YtacliaemfegopaaGreatDoorKP12
import Derived.Test.YtacliaemfegopaaGreatDoorKP25
set_option linter.all false
set_option maxRecDepth 99999
set_option maxHeartbeats 0
open Go.SL
open Prod renaming fst->D0
namespace Go.Proofs.Cl
open Go.RowKit Go.SL Go.Proofs.Nn Go.Proofs.Ba
def Od:dD (Jr × az):=fun s a=>((s.1.read s.2 a).1,((s.1.read s.2 a).2.1,(s.1.read s.2 a).2.2))
def iO (has:Has) (i:Nat):List UInt8:=(has (i:Int)).getD (zs 480)
def IJ (J:Jr) (D:az) (s:Jr × az):Prop:=s.1=J/\∃ r,s.2={ D with cr:=r }
theorem JU {J:Jr} {D:az} {has:Has} (h:fq J D has) (i:Nat):(iO has i).length=480:=by
 unfold iO
 cases a:told J.T.ps (i:Int) with
 | none=>rw [h.PZ _ a];exact aV 480
 | some p=>
  obtain ⟨t,b,c,d,_⟩:=h.p9 _ _ a;rw [c];exact d
structure Dk (n:Nat) where
 Q:Nat->Jr->az->Has->Prop
 inv:∀ {B J D has},Q B J D has->fq J D has
 jn:∀ {B J D has},Q B J D has->J.n=(n:Int)
 cr:∀ {B J D has},Q B J D has->∀ r,Q B J { D with cr:=r } has
 xH:∀ {B J D has},Q B J D has->B<=1000000->∀ {L},Batch (n:Int) L->∃ J' D',eB J D true L=(0,J',D')/\Q (B+1) J' D' (lS has L)
 flush:∀ {B J D has},Q B J D has->B<=1000000->Q (B+1) J D.aF has
section
variable {n B k:Nat} {q:Dk n} {J:Jr} {D:az} {has:Has} {A:Nat->Option AF}
theorem IJ.start (J:Jr) (D:az):IJ J D (J,D):=⟨rfl,D.cr,rfl⟩
theorem wo (h:q.Q B J D has):sy Od n (iO has) (IJ J D):=by
 refine ⟨fun i c=>JU (q.inv h) i,fun s i d c=>?_⟩;obtain ⟨J',D'⟩:=s;obtain ⟨a,r,b⟩:=d;have a:J'=J:=a;have b:D'={ D with cr:=r }:=b;subst a;subst b;show ((J'.read { D with cr:=r } (i:Int)).1=(0,iO has i))/\IJ J' D ((J'.read { D with cr:=r } (i:Int)).2.1,(J'.read { D with cr:=r } (i:Int)).2.2)
 rw [(q.inv (q.cr h r)).read (by omega) (by rw [q.jn h];omega)];refine ⟨rfl,rfl,?_⟩;cases (told J'.T.ps (i:Int)).isSome
 .exact ⟨r,rfl⟩
 .exact ⟨bY (r+1),rfl⟩
theorem FW (a:Go.SL.Has n ⟨iO has,iO has 0⟩ A k):qa n (iO has) (IJ J D) ⟨0,[],[],(J,D)⟩ A k:=
 ⟨⟨rfl,IJ.start J D,fun i l _ h=>absurd h (by simp [aG]),fun i l _ h=>absurd h (by simp [aG]),fun p b=>absurd b (by simp)⟩,a⟩
theorem JQ {W:CB} (d:(W.map D0).Nodup) (x:Int):aG (gL W) x=aG W x:=by
 unfold gL
 have i:∀ l:List Int,l.Nodup->aG (l.map fun k=>(k,(aG W k).getD [])) x=if x ∈ l then some ((aG W x).getD []) else none:=by
  intro l
  induction l with
  | nil=>intro _;rfl
  | cons y l g=>
   intro c;rw [List.map_cons,jj];rw [List.nodup_cons] at c
   by_cases e:y=x
   .subst e;rw [if_pos rfl,if_pos List.mem_cons_self]
   .rw [if_neg e,g c.2]
    by_cases a:x ∈ l
    .rw [if_pos a,if_pos (List.mem_cons_of_mem _ a)]
    .rw [if_neg a,if_neg]
     intro h;rcases List.mem_cons.1 h with h|h
     .exact e h.symm
     .exact a h
 rw [i _ ((sorted_perm _).nodup_iff.2 d)]
 by_cases a:x ∈ W.map D0
 .rw [if_pos ((sorted_perm _).mem_iff.2 a)]
  obtain ⟨p,f,rfl⟩:=List.mem_map.1 a
  cases b:aG W p.1 with
  | some l=>rfl
  | none=>
   unfold aG at b;have:=List.find?_eq_none.1 (Option.map_eq_none_iff.1 b) p f;simp at this
 .rw [if_neg fun h=>a ((sorted_perm _).mem_iff.1 h)]
  cases b:aG W x with
  | none=>rfl
  | some l=>exact absurd (List.mem_map.2 ⟨_,l9 b,rfl⟩) a
theorem xP (W:CB):(gL W).length=W.length:=by unfold gL;rw [List.length_map,er,List.length_map]
variable {M:ia (Jr × az)}
theorem vP (h:qa n (iO has) (IJ J D) M A k) (s:(M.W.map D0).Nodup) (j:M.W.length<=24) (g:1<=M.W.length):Batch (n:Int) (gL M.W):=by
 have b:∀ x ∈ gL M.W,x.1 ∈ M.W.map D0/\x.2=(aG M.W x.1).getD []:=by
  intro x a;obtain ⟨y,t,rfl⟩:=List.mem_map.1 a;exact ⟨(sorted_perm _).mem_iff.1 t,rfl⟩
 have f:∀ x ∈ gL M.W,0<=x.1/\x.1<(n:Int):=by
  intro x a;obtain ⟨p,c,e⟩:=List.mem_map.1 (b x a).1;rw [<- e];exact h.fW.keys p c
 refine ⟨by rw [xP];exact g,by rw [xP];exact j,f,fun x a=>?_,?_⟩
 .obtain ⟨u,v⟩:=f x a
  obtain ⟨i,m⟩:=Int.eq_ofNat_of_zero_le u;have o:=(b x a).1;rw [(b x a).2]
  cases d:aG M.W x.1 with
  | some l=>exact h.fW.wr i l (by omega) (by rw [<- m];exact d)
  | none=>
   obtain ⟨p,c,e⟩:=List.mem_map.1 o;unfold aG at d;have:=List.find?_eq_none.1 (Option.map_eq_none_iff.1 d) p c;simp [e] at this
 .have e:(gL M.W).map D0=sorted (M.W.map D0):=by
   unfold gL;rw [List.map_map];exact List.map_id' _
  rw [e];exact (sorted_perm _).nodup_iff.2 s
theorem tF (h:qa n (iO has) (IJ J D) M A k) (a:(M.W.map D0).Nodup):Go.SL.Has n ⟨iO (lS has (gL M.W)),iO (lS has (gL M.W)) 0⟩ A k:=by
 have e:∀ i:Nat,iO (lS has (gL M.W)) i=vw (iO has) M.W i:=by
  intro i;show ((aG (gL M.W) (i:Int)).or (has (i:Int))).getD (zs 480)=(aG M.W (i:Int)).getD (iO has i)
  rw [JQ a];cases aG M.W (i:Int) <;> rfl
 exact h.has.congr (fun i _ _=>e i) (e 0)
theorem rP (h:qa n (iO has) (IJ J D) M A k) (a:M.W=[]):Go.SL.Has n ⟨iO has,iO has 0⟩ A k:=by
 have:=h.has;unfold JM at this;rw [a] at this;exact this
end
end Go.Proofs.Cl
