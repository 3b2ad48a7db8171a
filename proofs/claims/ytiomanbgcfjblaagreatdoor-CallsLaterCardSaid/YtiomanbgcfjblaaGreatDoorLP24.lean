/- Steps. -/
import Derived.Test.YtiomanbgcfjblaaGreatDoorLP3
import Derived.Recover
import Derived.Laws.Rows
import Derived.Laws.Tables
set_option linter.all false
set_option maxRecDepth 99999
set_option maxHeartbeats 0
open Go.SL
open Go.Value renaming int->Z',pointer->W'
open Go.IntKind renaming i64->X'
open Go.Ending renaming returned->Y
open Go renaming World->Y'
open Go.Proofs.Tryz renaming prog->Z
open Go.Proofs.Tryz
open Array renaming replicate_succ->A1,replicate_zero->B3
open List renaming append_toArray->D9
namespace Go.Proofs.Cl
open RowKit SL Proofs.Nn
variable {w:Y'} {tmps:Array Value} {eb:Nat} {e:Value} {R:Ending->Y'->Prop}
def pF (c:Int):List PanicEntry:=[{ v:=.iface 157 (Z' X' c),recovered:=false }]
def dK (w:Y'):Calls Z 46 #[Z' X' 0] w fun e a=>e = Y (.tuple #[])/\w=a:=by
 go_in
 go_wp2
 go_end0
 exact ⟨rfl,rfl⟩
def eo (w:Y') (c:Int) (a:c≠0):Calls Z 46 #[Z' X' c] w fun e b=>e = .panicked (pF c)/\w=b:=by
 have d:(c != 0)=true:=by simpa using a
 go_in
 go_wp2
 exact ⟨rfl,rfl,rfl⟩
def yx (w:Y'):Calls Z 48 #[.bool true] w fun e a=>e = Y (.tuple #[])/\w=a:=by
 go_in
 go_wp2
 go_end0
 exact ⟨rfl,rfl⟩
def CE (w:Y'):Calls Z 48 #[.bool false] w fun e b=>e = .panicked (pF 1)/\w=b:=by
 have a:=eo w 1 De0
 go_in
 go_wp2_with fail
 (with_reducible apply a.mono)
 rintro e c ⟨rfl,rfl⟩;clear a
 go_wp2
 exact ⟨rfl,rfl,rfl⟩
def yg (v:Value) (w:Y'):(Instr.typeAssert (.iface 157 v) 20 157 true).run Z w = .ok (.tuple #[v,.bool true]) w:=by
 simp [Instr.typeAssert,run_underlying underlying157,go_sem,Result.andThen]
def xi (w:Y'):Calls Z 89 #[.nilIface] w fun e a=>e = Y (Z' X' 0)/\w=a:=by
 go_in
 go_wp2
 go_ret
 exact ⟨rfl,rfl⟩
def F9 (w:Y') (c:Int):Calls Z 89 #[.iface 157 (Z' X' c)] w fun e a=>e = Y (Z' X' c)/\w=a:=by
 have b:=yg (Z' X' c)
 go_in
 go_wp2_with fail
 go_ret
 exact ⟨rfl,rfl⟩
def QJ (w:Y') (d:Addr) :
    CallsD Z 88 #[W' (some d)] .returning w fun e u f=>e = Y (.tuple #[])/\u = .returning/\w=f:=by
  have b:=xi w;refine callsD_of_wpS func88 rfl fun a g c=>?_;apply wpS_seq;apply wpS_region
  simp only [ntmps88,List.size_toArray,List.length_cons,List.length_nil,Nat.reduceAdd,Nat.reduceSub,A1,
     B3,List.push_toArray,D9,List.nil_append,List.cons_append]
  simp [wpOpsS,go_sem,recoverD,c,Exit.thenS];apply b.mono;rintro e h ⟨rfl,rfl⟩;refine wpS_of_wp ?_
  go_wp2
  cases a
  simp_all [bodyPostS,results,Tryz.results88]
def Sn (w:Y') (a:Nat) (c z:Int) (d:c≠0) (b:List PanicEntry) (m:w.cell? ⟨a,0,none⟩=some (Z' X' z)) (k:w.frozen? ⟨a,0,none⟩=false) :
    CallsD Z 88 #[W' (some ⟨a,0,none⟩)] (.panicking ({ v:=.iface 157 (Z' X' c),recovered:=false } :: b)) w fun e u h=>
      e = Y (.tuple #[])/\u = .panicking ({ v:=.iface 157 (Z' X' c),recovered:=true } :: b)/\h=w.setCell ⟨a,0,none⟩ (Z' X' c):=by
  have f:=F9 w c;have l:(c != 0)=true:=by simpa using d
  refine callsD_of_wpS func88 rfl fun j i g=>?_;apply wpS_seq;apply wpS_region
  simp only [ntmps88,List.size_toArray,List.length_cons,List.length_nil,Nat.reduceAdd,Nat.reduceSub,A1,
     B3,List.push_toArray,D9,List.nil_append,List.cons_append]
  simp [wpOpsS,go_sem,recoverD,g,Exit.thenS];apply f.mono;rintro e n ⟨rfl,rfl⟩;refine wpS_of_wp ?_
  go_wp2_with fail
  exact ⟨rfl,_,rfl,_,results_none rfl _ _ _,rfl,rfl,rfl⟩
def wF (h4:tmps[4]?=some (ax eb)) (a:w.cell? ⟨eb,0,none⟩=some e) :
  (results Tryz.f39 tmps).run Z w = .ok e w:=by
 simp [results,Tryz.results39,h4,go_sem,a]
def JV {z c:Int} {P:ai} (f:c≠0) (h4:tmps[4]?=some (ax eb))
  (h:ah w (pt eb (.cells #[Z' X' z] 31 (0,0))*P)) (d:∀ a,ah a P->ak w a->R (Y (Z' X' c)) a) :
  bodyPostD Z Tryz.f39 R (Exit.panic (pF c)) { tmps:=tmps,defers:=[{ target:=.fn (.func 88) #[W' (some ⟨eb,0,none⟩)],args:=#[] }] } w:=by
 refine leaves_cons (f:=88) (args:=#[W' (some ⟨eb,0,none⟩)]) Si0 (by simp [go_sem]) ?_;apply (Sn w eb c z f [] (h.cell 0) (h.frozen 0)).mono;rintro e u g ⟨rfl,rfl,rfl⟩;have b:=h.setCell 0 (Z' X' c);exact ⟨_,wF h4 (b.cell 0),d _ b.right ((ak.refl w).setCell _ _)⟩
def zk (h4:tmps[4]?=some (ax eb)) (b:w.cell? ⟨eb,0,none⟩=some e) (a:R (Y e) w) :
  bodyPostD Z Tryz.f39 R Exit.ret { tmps:=tmps,defers:=[{ target:=.fn (.func 88) #[W' (some ⟨eb,0,none⟩)],args:=#[] }] } w:=by
 refine leaves_cons (f:=88) (args:=#[W' (some ⟨eb,0,none⟩)]) Si0 (by simp [go_sem]) ?_;apply (QJ w ⟨eb,0,none⟩).mono;rintro c u d ⟨rfl,rfl,rfl⟩;exact ⟨_,wF h4 b,a⟩
def bV (b n:Nat):Obj:=.cells #[ax b,Z' X' (n:Int)] 87 (0,0)
end Go.Proofs.Cl
