/- Steps. -/
import Derived.Test.YtebfaobobccikaaGreatDoorLP12
import Derived.Test.YtebfaobobccikaaGreatDoorLP25
set_option linter.all false
set_option maxRecDepth 99999
set_option maxHeartbeats 0
open Go.SL
open Prod renaming fst->D0
namespace Go.Proofs.Cl
open RowKit SL Proofs.Nn Proofs.Ba
def Qm:cO (Jr × aC):=fun s a=>((s.1.read s.2 a).1,((s.1.read s.2 a).2.1,(s.1.read s.2 a).2.2))
def jw (has:Has) (i:Nat):List UInt8:=(has (i:Int)).getD (zs 480)
def IJ (J:Jr) (D:aC) (s:Jr × aC):Prop:=s.1=J/\∃ r,s.2={ D with cr:=r }
theorem Le {J:Jr} {D:aC} {has:Has} (h:fK J D has) (i:Nat):(jw has i).length=480:=by
 unfold jw
 cases a:told J.T.ps (i:Int) with
 | none=>rw [h.Ug _ a];exact bh 480
 | some p=>
  obtain ⟨t,b,c,d,_⟩:=h.tK _ _ a;rw [c];exact d
structure Dk (n:Nat) where
 Q:Nat->Jr->aC->Has->Prop
 inv:∀ {B J D has},Q B J D has->fK J D has
 jn:∀ {B J D has},Q B J D has->J.n=(n:Int)
 cr:∀ {B J D has},Q B J D has->∀ r,Q B J { D with cr:=r } has
 zo:∀ {B J D has},Q B J D has->B<=1000000->∀ {L},Batch (n:Int) L->∃ J' D',eM J D true L=(0,J',D')/\Q (B+1) J' D' (mP has L)
 flush:∀ {B J D has},Q B J D has->B<=1000000->Q (B+1) J D.aI has
section
variable {n B k:Nat} {q:Dk n} {J:Jr} {D:aC} {has:Has} {A:Nat->Option AF}
theorem IJ.start (J:Jr) (D:aC):IJ J D (J,D):=⟨rfl,D.cr,rfl⟩
theorem xE (h:q.Q B J D has):pR Qm n (jw has) (IJ J D):=by
 refine ⟨fun i c=>Le (q.inv h) i,fun s i d c=>?_⟩;obtain ⟨J',D'⟩:=s;obtain ⟨a,r,b⟩:=d;have a:J'=J:=a;have b:D'={ D with cr:=r }:=b;subst a;subst b;show ((J'.read { D with cr:=r } (i:Int)).1=(0,jw has i))/\IJ J' D ((J'.read { D with cr:=r } (i:Int)).2.1,(J'.read { D with cr:=r } (i:Int)).2.2)
 rw [(q.inv (q.cr h r)).read (by omega) (by rw [q.jn h];omega)];refine ⟨rfl,rfl,?_⟩;cases (told J'.T.ps (i:Int)).isSome
 .exact ⟨r,rfl⟩
 .exact ⟨cD (r+1),rfl⟩
theorem GK (a:Go.SL.Has n ⟨jw has,jw has 0⟩ A k):oS n (jw has) (IJ J D) ⟨0,[],[],(J,D)⟩ A k:=
 ⟨⟨rfl,IJ.start J D,fun i l _ h=>absurd h (by simp [aP]),fun i l _ h=>absurd h (by simp [aP]),fun p b=>absurd b (by simp)⟩,a⟩
theorem MR {W:CB} (d:(W.map D0).Nodup) (x:Int):aP (iq W) x=aP W x:=by
 unfold iq
 have i:∀ l:List Int,l.Nodup->aP (l.map fun k=>(k,(aP W k).getD [])) x=if x ∈ l then some ((aP W x).getD []) else none:=by
  intro l
  induction l with
  | nil=>intro _;rfl
  | cons y l g=>
   intro c;rw [List.map_cons,jH];rw [List.nodup_cons] at c
   by_cases e:y=x
   .subst e;rw [if_pos rfl,if_pos List.mem_cons_self]
   .rw [if_neg e,g c.2]
    by_cases a:x ∈ l
    .rw [if_pos a,if_pos (List.mem_cons_of_mem _ a)]
    .rw [if_neg a,if_neg]
     intro h;rcases List.mem_cons.1 h with h|h
     .exact e h.symm
     .exact a h
 rw [i _ ((sorted_perm _).nodup_iff.2 d)]
 by_cases a:x ∈ W.map D0
 .rw [if_pos ((sorted_perm _).mem_iff.2 a)]
  obtain ⟨p,f,rfl⟩:=List.mem_map.1 a
  cases b:aP W p.1 with
  | some l=>rfl
  | none=>
   unfold aP at b;have:=List.find?_eq_none.1 (Option.map_eq_none_iff.1 b) p f;simp at this
 .rw [if_neg fun h=>a ((sorted_perm _).mem_iff.1 h)]
  cases b:aP W x with
  | none=>rfl
  | some l=>exact absurd (List.mem_map.2 ⟨_,nh b,rfl⟩) a
theorem zy (W:CB):(iq W).length=W.length:=by unfold iq;rw [List.length_map,eI,List.length_map]
variable {M:ik (Jr × aC)}
theorem xU (h:oS n (jw has) (IJ J D) M A k) (s:(M.W.map D0).Nodup) (j:M.W.length<=24) (g:1<=M.W.length):Batch (n:Int) (iq M.W):=by
 have b:∀ x ∈ iq M.W,x.1 ∈ M.W.map D0/\x.2=(aP M.W x.1).getD []:=by
  intro x a;obtain ⟨y,t,rfl⟩:=List.mem_map.1 a;exact ⟨(sorted_perm _).mem_iff.1 t,rfl⟩
 have f:∀ x ∈ iq M.W,0<=x.1/\x.1<(n:Int):=by
  intro x a;obtain ⟨p,c,e⟩:=List.mem_map.1 (b x a).1;rw [<- e];exact h.gz.keys p c
 refine ⟨by rw [zy];exact g,by rw [zy];exact j,f,fun x a=>?_,?_⟩
 .obtain ⟨u,v⟩:=f x a
  obtain ⟨i,m⟩:=Int.eq_ofNat_of_zero_le u;have o:=(b x a).1;rw [(b x a).2]
  cases d:aP M.W x.1 with
  | some l=>exact h.gz.wr i l (by omega) (by rw [<- m];exact d)
  | none=>
   obtain ⟨p,c,e⟩:=List.mem_map.1 o;unfold aP at d;have:=List.find?_eq_none.1 (Option.map_eq_none_iff.1 d) p c;simp [e] at this
 .have e:(iq M.W).map D0=sorted (M.W.map D0):=by
   unfold iq;rw [List.map_map];exact List.map_id' _
  rw [e];exact (sorted_perm _).nodup_iff.2 s
theorem uh (h:oS n (jw has) (IJ J D) M A k) (a:(M.W.map D0).Nodup):Go.SL.Has n ⟨jw (mP has (iq M.W)),jw (mP has (iq M.W)) 0⟩ A k:=by
 have e:∀ i:Nat,jw (mP has (iq M.W)) i=vw (jw has) M.W i:=by
  intro i;show ((aP (iq M.W) (i:Int)).or (has (i:Int))).getD (zs 480)=(aP M.W (i:Int)).getD (jw has i)
  rw [MR a];cases aP M.W (i:Int) <;> rfl
 exact h.has.congr (fun i _ _=>e i) (e 0)
theorem tx (h:oS n (jw has) (IJ J D) M A k) (a:M.W=[]):Go.SL.Has n ⟨jw has,jw has 0⟩ A k:=by
 have:=h.has;unfold Na at this;rw [a] at this;exact this
end
end Go.Proofs.Cl
