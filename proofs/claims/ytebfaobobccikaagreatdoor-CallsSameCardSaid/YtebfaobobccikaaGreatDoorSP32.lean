/- Steps. -/
import Derived.Test.YtebfaobobccikaaGreatDoorSP12
import Derived.Test.YtebfaobobccikaaGreatDoorSP25
set_option linter.all false
set_option maxRecDepth 99999
set_option maxHeartbeats 0
open Go.SL
open Prod renaming fst->D0
namespace Go.Proofs.Cl
open RowKit SL Proofs.Nn Proofs.Ba
def RU:cO (Jr × aC):=fun s a=>((s.1.read s.2 a).1,((s.1.read s.2 a).2.1,(s.1.read s.2 a).2.2))
def jQ (has:Has) (i:Nat):List UInt8:=(has (i:Int)).getD (zs 480)
def IJ (J:Jr) (D:aC) (s:Jr × aC):Prop:=s.1=J/\∃ r,s.2={ D with cr:=r }
theorem ME {J:Jr} {D:aC} {has:Has} (h:fY J D has) (i:Nat):(jQ has i).length=480:=by
 unfold jQ
 cases a:told J.T.ps (i:Int) with
 | none=>rw [h.Vg _ a];exact bq 480
 | some p=>
  obtain ⟨t,b,c,d,_⟩:=h.pR _ _ a;rw [c];exact d
structure Dk (n:Nat) where
 Q:Nat->Jr->aC->Has->Prop
 inv:∀ {B J D has},Q B J D has->fY J D has
 jn:∀ {B J D has},Q B J D has->J.n=(n:Int)
 cr:∀ {B J D has},Q B J D has->∀ r,Q B J { D with cr:=r } has
 AH:∀ {B J D has},Q B J D has->B<=1000000->∀ {L},Batch (n:Int) L->∃ J' D',fg J D true L=(0,J',D')/\Q (B+1) J' D' (nF has L)
 flush:∀ {B J D has},Q B J D has->B<=1000000->Q (B+1) J D.aK has
section
variable {n B k:Nat} {q:Dk n} {J:Jr} {D:aC} {has:Has} {A:Nat->Option AF}
theorem IJ.start (J:Jr) (D:aC):IJ J D (J,D):=⟨rfl,D.cr,rfl⟩
theorem y4 (h:q.Q B J D has):qC RU n (jQ has) (IJ J D):=by
 refine ⟨fun i c=>ME (q.inv h) i,fun s i d c=>?_⟩;obtain ⟨J',D'⟩:=s;obtain ⟨a,r,b⟩:=d;have a:J'=J:=a;have b:D'={ D with cr:=r }:=b;subst a;subst b;show ((J'.read { D with cr:=r } (i:Int)).1=(0,jQ has i))/\IJ J' D ((J'.read { D with cr:=r } (i:Int)).2.1,(J'.read { D with cr:=r } (i:Int)).2.2)
 rw [(q.inv (q.cr h r)).read (by omega) (by rw [q.jn h];omega)];refine ⟨rfl,rfl,?_⟩;cases (told J'.T.ps (i:Int)).isSome
 .exact ⟨r,rfl⟩
 .exact ⟨cG (r+1),rfl⟩
theorem G7 (a:Go.SL.Has n ⟨jQ has,jQ has 0⟩ A k):oN n (jQ has) (IJ J D) ⟨0,[],[],(J,D)⟩ A k:=
 ⟨⟨rfl,IJ.start J D,fun i l _ h=>absurd h (by simp [aP]),fun i l _ h=>absurd h (by simp [aP]),fun p b=>absurd b (by simp)⟩,a⟩
theorem KZ {W:CB} (d:(W.map D0).Nodup) (x:Int):aP (iF W) x=aP W x:=by
 unfold iF
 have i:∀ l:List Int,l.Nodup->aP (l.map fun k=>(k,(aP W k).getD [])) x=if x ∈ l then some ((aP W x).getD []) else none:=by
  intro l
  induction l with
  | nil=>intro _;rfl
  | cons y l g=>
   intro c;rw [List.map_cons,kg];rw [List.nodup_cons] at c
   by_cases e:y=x
   .subst e;rw [if_pos rfl,if_pos List.mem_cons_self]
   .rw [if_neg e,g c.2]
    by_cases a:x ∈ l
    .rw [if_pos a,if_pos (List.mem_cons_of_mem _ a)]
    .rw [if_neg a,if_neg]
     intro h;rcases List.mem_cons.1 h with h|h
     .exact e h.symm
     .exact a h
 rw [i _ ((sorted_perm _).nodup_iff.2 d)]
 by_cases a:x ∈ W.map D0
 .rw [if_pos ((sorted_perm _).mem_iff.2 a)]
  obtain ⟨p,f,rfl⟩:=List.mem_map.1 a
  cases b:aP W p.1 with
  | some l=>rfl
  | none=>
   unfold aP at b;have:=List.find?_eq_none.1 (Option.map_eq_none_iff.1 b) p f;simp at this
 .rw [if_neg fun h=>a ((sorted_perm _).mem_iff.1 h)]
  cases b:aP W x with
  | none=>rfl
  | some l=>exact absurd (List.mem_map.2 ⟨_,oK b,rfl⟩) a
theorem zQ (W:CB):(iF W).length=W.length:=by unfold iF;rw [List.length_map,eW,List.length_map]
variable {M:gZ (Jr × aC)}
theorem zg (h:oN n (jQ has) (IJ J D) M A k) (s:(M.W.map D0).Nodup) (j:M.W.length<=24) (g:1<=M.W.length):Batch (n:Int) (iF M.W):=by
 have b:∀ x ∈ iF M.W,x.1 ∈ M.W.map D0/\x.2=(aP M.W x.1).getD []:=by
  intro x a;obtain ⟨y,t,rfl⟩:=List.mem_map.1 a;exact ⟨(sorted_perm _).mem_iff.1 t,rfl⟩
 have f:∀ x ∈ iF M.W,0<=x.1/\x.1<(n:Int):=by
  intro x a;obtain ⟨p,c,e⟩:=List.mem_map.1 (b x a).1;rw [<- e];exact h.gL.keys p c
 refine ⟨by rw [zQ];exact g,by rw [zQ];exact j,f,fun x a=>?_,?_⟩
 .obtain ⟨u,v⟩:=f x a
  obtain ⟨i,m⟩:=Int.eq_ofNat_of_zero_le u;have o:=(b x a).1;rw [(b x a).2]
  cases d:aP M.W x.1 with
  | some l=>exact h.gL.wr i l (by omega) (by rw [<- m];exact d)
  | none=>
   obtain ⟨p,c,e⟩:=List.mem_map.1 o;unfold aP at d;have:=List.find?_eq_none.1 (Option.map_eq_none_iff.1 d) p c;simp [e] at this
 .have e:(iF M.W).map D0=sorted (M.W.map D0):=by
   unfold iF;rw [List.map_map];exact List.map_id' _
  rw [e];exact (sorted_perm _).nodup_iff.2 s
theorem xk (h:oN n (jQ has) (IJ J D) M A k) (a:(M.W.map D0).Nodup):Go.SL.Has n ⟨jQ (nF has (iF M.W)),jQ (nF has (iF M.W)) 0⟩ A k:=by
 have e:∀ i:Nat,jQ (nF has (iF M.W)) i=vw (jQ has) M.W i:=by
  intro i;show ((aP (iF M.W) (i:Int)).or (has (i:Int))).getD (zs 480)=(aP M.W (i:Int)).getD (jQ has i)
  rw [KZ a];cases aP M.W (i:Int) <;> rfl
 exact h.has.congr (fun i _ _=>e i) (e 0)
theorem uh (h:oN n (jQ has) (IJ J D) M A k) (a:M.W=[]):Go.SL.Has n ⟨jQ has,jQ has 0⟩ A k:=by
 have:=h.has;unfold KS at this;rw [a] at this;exact this
end
end Go.Proofs.Cl
