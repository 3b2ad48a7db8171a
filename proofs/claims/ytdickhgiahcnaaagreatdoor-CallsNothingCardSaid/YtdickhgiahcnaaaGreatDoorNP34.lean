/- Steps. -/
import Derived.Test.YtdickhgiahcnaaaGreatDoorNP12
import Derived.Test.YtdickhgiahcnaaaGreatDoorNP26
set_option linter.all false
set_option maxRecDepth 99999
set_option maxHeartbeats 0
open Go.SL
open Prod renaming fst->A3
namespace Go.Proofs.Cl
open RowKit SL Proofs.Nn Proofs.Ba
def Sn:cL (Jr × aB):=fun s a=>((s.1.read s.2 a).1,((s.1.read s.2 a).2.1,(s.1.read s.2 a).2.2))
def jz (has:Has) (i:Nat):List UInt8:=(has (i:Int)).getD (zs 480)
def IJ (J:Jr) (D:aB) (s:Jr × aB):Prop:=s.1=J/\∃ r,s.2={ D with cr:=r }
def Om {J:Jr} {D:aB} {has:Has} (h:fP J D has) (i:Nat):(jz has i).length=480:=by
 unfold jz
 cases a:told J.T.ps (i:Int) with
 | none=>rw [h.Ut _ a];exact bg 480
 | some p=>
  obtain ⟨t,b,c,d,_⟩:=h.uq _ _ a;rw [c];exact d
structure Dk (n:Nat) where
 Q:Nat->Jr->aB->Has->Prop
 inv:∀ {B J D has},Q B J D has->fP J D has
 jn:∀ {B J D has},Q B J D has->J.n=(n:Int)
 cr:∀ {B J D has},Q B J D has->∀ r,Q B J { D with cr:=r } has
 zX:∀ {B J D has},Q B J D has->B<=1000000->∀ {L},Batch (n:Int) L->∃ J' D',eZ J D true L=(0,J',D')/\Q (B+1) J' D' (nt has L)
 flush:∀ {B J D has},Q B J D has->B<=1000000->Q (B+1) J D.aH has
section
variable {n B k:Nat} {q:Dk n} {J:Jr} {D:aB} {has:Has} {A:Nat->Option AF}
def IJ.start (J:Jr) (D:aB):IJ J D (J,D):=⟨rfl,D.cr,rfl⟩
def yG (h:q.Q B J D has):qm Sn n (jz has) (IJ J D):=by
 refine ⟨fun i c=>Om (q.inv h) i,fun s i d c=>?_⟩;obtain ⟨J',D'⟩:=s;obtain ⟨a,r,b⟩:=d;have a:J'=J:=a;have b:D'={ D with cr:=r }:=b;subst a;subst b;show ((J'.read { D with cr:=r } (i:Int)).1=(0,jz has i))/\IJ J' D ((J'.read { D with cr:=r } (i:Int)).2.1,(J'.read { D with cr:=r } (i:Int)).2.2)
 rw [(q.inv (q.cr h r)).read Om0 (by rw [q.jn h];omega)];refine ⟨rfl,rfl,?_⟩;cases (told J'.T.ps (i:Int)).isSome
 .exact ⟨r,rfl⟩
 .exact ⟨cE (r+1),rfl⟩
def IT (a:Go.SL.Has n ⟨jz has,jz has 0⟩ A k):oV n (jz has) (IJ J D) ⟨0,[],[],(J,D)⟩ A k:=
 ⟨⟨rfl,IJ.start J D,fun i l _ h=>absurd h (by simp [aM]),fun i l _ h=>absurd h (by simp [aM]),fun p b=>absurd b Si0⟩,a⟩
def LV {W:CB} (d:(W.map A3).Nodup) (x:Int):aM (iu W) x=aM W x:=by
 unfold iu
 have i:∀ l:List Int,l.Nodup->aM (l.map fun k=>(k,(aM W k).getD [])) x=if x ∈ l then some ((aM W x).getD []) else none:=by
  intro l
  induction l with
  | nil=>intro _;rfl
  | cons y l g=>
   intro c;rw [List.map_cons,jS];rw [List.nodup_cons] at c
   by_cases e:y=x
   .subst e;rw [if_pos rfl,if_pos List.mem_cons_self]
   .rw [if_neg e,g c.2]
    by_cases a:x ∈ l
    .rw [if_pos a,if_pos (List.mem_cons_of_mem _ a)]
    .rw [if_neg a,if_neg]
     intro h;rcases List.mem_cons.1 h with h|h
     .exact e h.symm
     .exact a h
 rw [i _ ((sorted_perm _).nodup_iff.2 d)]
 by_cases a:x ∈ W.map A3
 .rw [if_pos ((sorted_perm _).mem_iff.2 a)]
  obtain ⟨p,f,rfl⟩:=List.mem_map.1 a
  cases b:aM W p.1 with
  | some l=>rfl
  | none=>
   unfold aM at b;have:=List.find?_eq_none.1 (Option.map_eq_none_iff.1 b) p f;simp at this
 .rw [if_neg fun h=>a ((sorted_perm _).mem_iff.1 h)]
  cases b:aM W x with
  | none=>rfl
  | some l=>exact absurd (List.mem_map.2 ⟨_,lO b,rfl⟩) a
def zJ (W:CB):(iu W).length=W.length:=by unfold iu;rw [List.length_map,eV,List.length_map]
variable {M:gD (Jr × aB)}
def xQ (h:oV n (jz has) (IJ J D) M A k) (s:(M.W.map A3).Nodup) (j:M.W.length<=24) (g:1<=M.W.length):Batch (n:Int) (iu M.W):=by
 have b:∀ x ∈ iu M.W,x.1 ∈ M.W.map A3/\x.2=(aM M.W x.1).getD []:=by
  intro x a;obtain ⟨y,hy,rfl⟩:=List.mem_map.1 a;exact ⟨(sorted_perm _).mem_iff.1 hy,rfl⟩
 have f:∀ x ∈ iu M.W,0<=x.1/\x.1<(n:Int):=by
  intro x a;obtain ⟨p,c,e⟩:=List.mem_map.1 (b x a).1;rw [<- e];exact h.gC.keys p c
 refine ⟨by rw [zJ];exact g,by rw [zJ];exact j,f,fun x a=>?_,?_⟩
 .obtain ⟨t,u⟩:=f x a
  obtain ⟨i,m⟩:=Int.eq_ofNat_of_zero_le t;have o:=(b x a).1;rw [(b x a).2]
  cases d:aM M.W x.1 with
  | some l=>exact h.gC.wr i l Om0 (by rw [<- m];exact d)
  | none=>
   obtain ⟨p,c,e⟩:=List.mem_map.1 o;unfold aM at d;have:=List.find?_eq_none.1 (Option.map_eq_none_iff.1 d) p c;simp [e] at this
 .have e:(iu M.W).map A3=sorted (M.W.map A3):=by
   unfold iu;rw [List.map_map];exact List.map_id' _
  rw [e];exact (sorted_perm _).nodup_iff.2 s
def wJ (h:oV n (jz has) (IJ J D) M A k) (a:(M.W.map A3).Nodup):Go.SL.Has n ⟨jz (nt has (iu M.W)),jz (nt has (iu M.W)) 0⟩ A k:=by
 have e:∀ i:Nat,jz (nt has (iu M.W)) i=vw (jz has) M.W i:=by
  intro i;show ((aM (iu M.W) (i:Int)).or (has (i:Int))).getD (zs 480)=(aM M.W (i:Int)).getD (jz has i)
  rw [LV a];cases aM M.W (i:Int) <;> rfl
 exact h.has.congr (fun i _ _=>e i) (e 0)
def tR (h:oV n (jz has) (IJ J D) M A k) (a:M.W=[]):Go.SL.Has n ⟨jz has,jz has 0⟩ A k:=by
 have:=h.has;unfold OE at this;rw [a] at this;exact this
end
end Go.Proofs.Cl
