/- Steps. -/
import Derived.Test.YtdickhgiahcnaaaGreatDoorNP3
import Derived.Recover
import Derived.Laws.Rows
import Derived.Laws.Tables
set_option linter.all false
set_option maxRecDepth 99999
set_option maxHeartbeats 0
open Go.SL
open Go.Value renaming int->Z',pointer->W'
open Go.IntKind renaming i64->X'
open Go.Ending renaming returned->Y
open Go renaming World->Y'
open Go.Proofs.Tryz renaming prog->Z
open Go.Proofs.Tryz
open Array renaming replicate_succ->A3,replicate_zero->A2
open List renaming append_toArray->A1
namespace Go.Proofs.Cl
open RowKit SL Proofs.Nn
variable {w:Y'} {tmps:Array Value} {eb:Nat} {e:Value} {R:Ending->Y'->Prop}
def jB (c:Int):List PanicEntry:=[{ v:=.iface 134 (Z' X' c),recovered:=false }]
def cR (w:Y'):Calls Z 34 #[Z' X' 0] w fun e a=>e = Y (.tuple #[])/\w=a:=by
 go_in
 go_wp2
 go_end0
 exact ⟨rfl,rfl⟩
def cC (w:Y') (c:Int) (a:c≠0):Calls Z 34 #[Z' X' c] w fun e b=>e = .panicked (jB c)/\w=b:=by
 have d:(c != 0)=true:=by simpa using a
 go_in
 go_wp2
 exact ⟨rfl,rfl,rfl⟩
def oG (w:Y'):Calls Z 36 #[.bool true] w fun e a=>e = Y (.tuple #[])/\w=a:=by
 go_in
 go_wp2
 go_end0
 exact ⟨rfl,rfl⟩
def qD (w:Y'):Calls Z 36 #[.bool false] w fun e b=>e = .panicked (jB 1)/\w=b:=by
 have a:=cC w 1 De0
 go_in
 go_wp2_with fail
 (with_reducible apply a.mono)
 rintro e c ⟨rfl,rfl⟩;clear a
 go_wp2
 exact ⟨rfl,rfl,rfl⟩
def xu (v:Value) (w:Y'):(Instr.typeAssert (.iface 134 v) 20 134 true).run Z w = .ok (.tuple #[v,.bool true]) w:=by
 simp [Instr.typeAssert,run_underlying underlying134,go_sem,Result.andThen]
def vt (w:Y'):Calls Z 68 #[.nilIface] w fun e a=>e = Y (Z' X' 0)/\w=a:=by
 go_in
 go_wp2
 go_ret
 exact ⟨rfl,rfl⟩
def EC (w:Y') (c:Int):Calls Z 68 #[.iface 134 (Z' X' c)] w fun e a=>e = Y (Z' X' c)/\w=a:=by
 have b:=xu (Z' X' c)
 go_in
 go_wp2_with fail
 go_ret
 exact ⟨rfl,rfl⟩
def QC (w:Y') (d:Addr) :
    CallsD Z 67 #[W' (some d)] .returning w fun e u f=>e = Y (.tuple #[])/\u = .returning/\w=f:=by
  have b:=vt w;refine callsD_of_wpS func67 rfl fun a g c=>?_;apply wpS_seq;apply wpS_region
  simp only [ntmps67,List.size_toArray,List.length_cons,List.length_nil,Nat.reduceAdd,Nat.reduceSub,A3,
     A2,List.push_toArray,A1,List.nil_append,List.cons_append]
  simp [wpOpsS,go_sem,recoverD,c,Exit.thenS];apply b.mono;rintro e h ⟨rfl,rfl⟩;refine wpS_of_wp ?_
  go_wp2
  cases a
  simp_all [bodyPostS,results,Tryz.results67]
def Qv (w:Y') (a:Nat) (c z:Int) (d:c≠0) (b:List PanicEntry) (m:w.cell? ⟨a,0,none⟩=some (Z' X' z)) (k:w.frozen? ⟨a,0,none⟩=false) :
    CallsD Z 67 #[W' (some ⟨a,0,none⟩)] (.panicking ({ v:=.iface 134 (Z' X' c),recovered:=false } :: b)) w fun e u h=>
      e = Y (.tuple #[])/\u = .panicking ({ v:=.iface 134 (Z' X' c),recovered:=true } :: b)/\h=w.setCell ⟨a,0,none⟩ (Z' X' c):=by
  have f:=EC w c;have l:(c != 0)=true:=by simpa using d
  refine callsD_of_wpS func67 rfl fun j i g=>?_;apply wpS_seq;apply wpS_region
  simp only [ntmps67,List.size_toArray,List.length_cons,List.length_nil,Nat.reduceAdd,Nat.reduceSub,A3,
     A2,List.push_toArray,A1,List.nil_append,List.cons_append]
  simp [wpOpsS,go_sem,recoverD,g,Exit.thenS];apply f.mono;rintro e n ⟨rfl,rfl⟩;refine wpS_of_wp ?_
  go_wp2_with fail
  exact ⟨rfl,_,rfl,_,results_none rfl _ _ _,rfl,rfl,rfl⟩
def vh (h4:tmps[4]?=some (az eb)) (a:w.cell? ⟨eb,0,none⟩=some e) :
  (results Tryz.f27 tmps).run Z w = .ok e w:=by
 simp [results,Tryz.results27,h4,go_sem,a]
def JR {z c:Int} {P:ai} (f:c≠0) (h4:tmps[4]?=some (az eb))
  (h:ag w (pt eb (.cells #[Z' X' z] 31 (0,0))*P)) (d:∀ a,ag a P->aj w a->R (Y (Z' X' c)) a) :
  bodyPostD Z Tryz.f27 R (Exit.panic (jB c)) { tmps:=tmps,defers:=[{ target:=.fn (.func 67) #[W' (some ⟨eb,0,none⟩)],args:=#[] }] } w:=by
 refine leaves_cons (f:=67) (args:=#[W' (some ⟨eb,0,none⟩)]) Si0 (by simp [go_sem]) ?_;apply (Qv w eb c z f [] (h.cell 0) (h.frozen 0)).mono;rintro e u g ⟨rfl,rfl,rfl⟩;have b:=h.setCell 0 (Z' X' c);exact ⟨_,vh h4 (b.cell 0),d _ b.right ((aj.refl w).setCell _ _)⟩
def xP (h4:tmps[4]?=some (az eb)) (b:w.cell? ⟨eb,0,none⟩=some e) (a:R (Y e) w) :
  bodyPostD Z Tryz.f27 R Exit.ret { tmps:=tmps,defers:=[{ target:=.fn (.func 67) #[W' (some ⟨eb,0,none⟩)],args:=#[] }] } w:=by
 refine leaves_cons (f:=67) (args:=#[W' (some ⟨eb,0,none⟩)]) Si0 (by simp [go_sem]) ?_;apply (QC w ⟨eb,0,none⟩).mono;rintro c u d ⟨rfl,rfl,rfl⟩;exact ⟨_,vh h4 b,a⟩
def bq (b n:Nat):Obj:=.cells #[az b,Z' X' (n:Int)] 78 (0,0)
end Go.Proofs.Cl
