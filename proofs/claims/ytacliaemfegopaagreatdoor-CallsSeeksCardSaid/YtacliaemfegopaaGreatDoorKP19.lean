/- Steps. -/
import Derived.Test.YtacliaemfegopaaGreatDoorKP17
import Derived.Lib.IndexLaws
set_option linter.unusedVariables false
set_option linter.unusedSimpArgs false
set_option maxRecDepth 100000
set_option maxHeartbeats 40000000
open Go.Proofs Go.SL
namespace Go.Su
open Go.RowKit Go.SL Go.Ba Go.Fs
theorem FY (X:Array Value) (hX:X.size=2):(Tryz.prog.info? 119).map (·.size)=some X.size:=by rw [hX];kernel_rfl
def Rl (c:Int):List PanicEntry:=[{ v:=.iface 28 (.int .i64 c),recovered:=false }]
theorem Dq (w:World) (v:Value) (l:List UInt8) (h:Rd w v l):(convert 37 9 v).run Tryz.prog w = .ok (.string (str l)) w:=by
 have uj:∀ (l:List UInt8) (s:ByteArray),(l.map fun x=>(x.toNat:Int)).foldl (fun r n=>r.push (UInt8.ofNat n.toNat)) s=⟨s.data++l.toArray⟩:=by
  intro l
  induction l with
  | nil=>intro s;simp
  | cons a l ih=>intro s;simp only [List.map_cons,List.foldl_cons,ih];simp [ByteArray.push]
 obtain ⟨_,hr⟩:=h;rcases hr with ⟨rfl,h0⟩|⟨a,c,rfl,ha⟩
 ·have:l=[]:=List.eq_nil_of_length_eq_zero h0
  subst this;rw [run_convert_bytes_string w _ _ 5 none 0 0 Tryz.underlying37 Tryz.underlying5 Tryz.underlying9]
  rfl
 ·rw [run_convert_bytes_string w _ _ 5 (some a) _ c Tryz.underlying37 Tryz.underlying5 Tryz.underlying9]
  have hl:=run_loadCells_list (P:=Tryz.prog) (w:=w) a (l.map SL.u8) ha;rw [List.length_map] at hl
  have:=run_bytesToString (P:=Tryz.prog) w a l.length c (l.map fun x=>(x.toNat:Int)) (by
   rw [hl];simp [SL.u8,Function.comp_def])
  rw [this,uj];simp [str]
theorem zJ (w:World):Calls Tryz.prog 110 #[.int .i64 0] w fun e w'=>e = .returned (.tuple #[])∧w=w':=by
 go_enter Tryz.func110,Tryz.ntmps110
 go_wp2
 go_end0
 exact ⟨rfl,rfl⟩
def O3 (f:FuncId) (first caps:Array Value) (A B C:World→Prop):Prop:=
 (∀ (args:Array Value) (w:World),(callFunc f args).run Tryz.prog w = .ok (.enter f args) w) ∧
 ∀ w,A w→Calls Tryz.prog f (first++caps) w fun e w'=>∃ rc:Int,e = .returned (.int .i64 rc)∧((rc=0∧B w')∨(rc≠0∧C w'))
def zv (B C:World→Prop) (e:Ending) (w':World):Prop:=(e = .returned (.tuple #[])∧B w')∨(e = .panicked (Rl 2)∧C w')
def Oq (m:Nat) (I:Nat→World→Prop) (u:Value) (wr:World):Prop:=∃ k:Nat,k≤m∧u = .int .i64 (k:Int)∧I k wr
theorem KJ (m:Nat) (fs:Nat→FuncId × Array Value × Array Value) (I:Nat→World→Prop) (C:World→Prop) (g:Nat) (hm:m≤10)
  (hc:∀ i k w,i≤m→I i w→k<m→w.cell? ⟨g,k,none⟩=some (.func (.func (fs k).1) (fs k).2.1 (fs k).2.2)) (hs:∀ k,k<m→O3 (fs k).1 (fs k).2.1 (fs k).2.2 (I k) (I (k+1)) C)
  (w:World) (h0:I 0 w):Calls Tryz.prog 112 #[.slice (some ⟨g,0,none⟩) m m] w (zv (I m) C):=by
 have hm':(m:Int)≤10:=by omega
 have Hc:=ae hc;have Hs:=ae hs;have H0:=ae h0;clear hc hs h0
 go_enter Tryz.func112,Tryz.ntmps112
 go_wp2_with fail
 go_loopw [6] (fun u wr=>Oq m I u wr) (fun u _=>m-(intOf u).toNat)
 case atStart=>exact ⟨0,Nat.zero_le _,rfl,H0.out⟩
 case round=>
  clear H0;obtain ⟨k,hk,rfl,hI⟩:=hrel
  by_cases hlt:k<m
  ·have hlt':(k:Int)<(m:Int):=by omega
   have hck:=Hc.out k k wr hk hI hlt;obtain ⟨hf,hst⟩:=Hs.out k hlt;have hst1:=hst wr hI;generalize fs k=q at hck hf hst1;obtain ⟨f,first,caps⟩:=q;dsimp only at hck hf hst1;have Hst1:=ae hst1;clear hst hst1 hI
   go_wp2_with fail
   (with_reducible refine Hst1.out.mono ?_)
   rintro e w2 ⟨rc,rfl,hrc⟩;have Hrc:=ae hrc;clear hck hf hrc Hst1
   by_cases h0:rc=0
   ·subst h0
    have hI2:I (k+1) w2:=by
     rcases Hrc.out with ⟨_,h⟩|⟨h,_⟩
     ·exact h
     ·exact absurd rfl h
    have HI2:=ae hI2;clear hI2
    go_wp2_with fail
    go_roundw
    case rel=>exact ⟨k+1,by omega,by go_num,HI2.out⟩
    case measure=>simp [intOf];omega
   ·have hC:C w2:=by
     rcases Hrc.out with ⟨h,_⟩|⟨_,h⟩
     ·exact absurd h h0
     ·exact h
    have HC:=ae hC;have h1:(rc != 0)=true:=by simpa using h0
    clear hC
    go_wp2_with fail
    exact ⟨rfl,.inr ⟨rfl,HC.out⟩⟩
  ·obtain rfl:k=m:=by omega
   have HI:=ae hI;clear hI
   go_wp2_with fail
   go_end0
   exact .inl ⟨rfl,HI.out⟩
def Qz (d:Nat) (a:Int) (v:Value) (w:World) (e:Ending) (w':World):Prop:=
 e = .returned (.func (.func 160) #[] #[.pointer (some ⟨w.heap.size,0,none⟩),.pointer (some ⟨w.heap.size+1,0,none⟩),.pointer (some ⟨w.heap.size+1+1,0,none⟩)]) ∧
 w'=((w.alloc (.cells #[ax d] 24 (0,0))).alloc (.cells #[.int .i64 a] 3 (0,0))).alloc (.cells #[v] 37 (0,0))
theorem sG (w:World) (d:Nat) (a:Int) (va:Option Addr) (n c:Nat):Calls Tryz.prog 113 #[ax d,.int .i64 a,.slice va n c] w (Qz d a (.slice va n c) w):=by
 have hmf:=nV Tryz.prog
 go_enter Tryz.func113,Tryz.ntmps113
 go_wp2
 go_ret
 exact ⟨rfl,rfl⟩
end Go.Su
