/- Steps. -/
import Derived.Test.YtacliaemfegopaaGreatDoorKP3
import Derived.Recover
import Derived.Laws.Rows
import Derived.Laws.Tables
set_option linter.unusedVariables false
set_option linter.unusedSimpArgs false
set_option maxRecDepth 100000
set_option maxHeartbeats 40000000
open Go.Proofs Go.SL
namespace Go.Cl
open Go.RowKit Go.SL Go.Nn
def mf (c:Int):List PanicEntry:=[{ v:=.iface 129 (.int .i64 c),recovered:=false }]
theorem du (w:World):Calls Tryz.prog 34 #[.int .i64 0] w fun e w'=>e = .returned (.tuple #[])∧w=w':=by
 go_enter Tryz.func34,Tryz.ntmps34
 go_wp2
 go_end0
 exact ⟨rfl,rfl⟩
theorem dy (w:World) (c:Int) (hc:c≠0):Calls Tryz.prog 34 #[.int .i64 c] w fun e w'=>e = .panicked (mf c)∧w=w':=by
 have h1:(c != 0)=true:=by simpa using hc
 go_enter Tryz.func34,Tryz.ntmps34
 go_wp2
 exact ⟨rfl,rfl,rfl⟩
theorem ns (w:World):Calls Tryz.prog 41 #[.bool true] w fun e w'=>e = .returned (.tuple #[])∧w=w':=by
 go_enter Tryz.func41,Tryz.ntmps41
 go_wp2
 go_end0
 exact ⟨rfl,rfl⟩
theorem pG (w:World):Calls Tryz.prog 41 #[.bool false] w fun e w'=>e = .panicked (mf 1)∧w=w':=by
 have hc:=dy w 1 (by decide)
 go_enter Tryz.func41,Tryz.ntmps41
 go_wp2_with fail
 (with_reducible refine hc.mono ?_)
 rintro e w2 ⟨rfl,rfl⟩;clear hc
 go_wp2
 exact ⟨rfl,rfl,rfl⟩
theorem uN (v:Value) (w:World):(Instr.typeAssert (.iface 129 v) 20 129 true).run Tryz.prog w = .ok (.tuple #[v,.bool true]) w:=by
 simp [Instr.typeAssert,run_underlying Tryz.underlying129,go_sem,Result.andThen]
theorem tG (w:World):Calls Tryz.prog 70 #[.nilIface] w fun e w'=>e = .returned (.int .i64 0)∧w=w':=by
 go_enter Tryz.func70,Tryz.ntmps70
 go_wp2
 go_ret
 exact ⟨rfl,rfl⟩
theorem AE (w:World) (c:Int):Calls Tryz.prog 70 #[.iface 129 (.int .i64 c)] w fun e w'=>e = .returned (.int .i64 c)∧w=w':=by
 have hta:=uN (.int .i64 c)
 go_enter Tryz.func70,Tryz.ntmps70
 go_wp2_with fail
 go_ret
 exact ⟨rfl,rfl⟩
theorem Lj (w:World) (pe:Addr) :
    CallsD Tryz.prog 69 #[.pointer (some pe)] .returning w fun e u w'=>e = .returned (.tuple #[])∧u = .returning∧w=w':=by
  have hr:=tG w;refine callsD_of_wpS Tryz.func69 rfl fun c₀ cs hu=>?_;apply wpS_seq;apply wpS_region
  simp only [Tryz.ntmps69,List.size_toArray,List.length_cons,List.length_nil,Nat.reduceAdd,Nat.reduceSub,Array.replicate_succ,
     Array.replicate_zero,List.push_toArray,List.append_toArray,List.nil_append,List.cons_append]
  simp [wpOpsS,go_sem,recoverD,hu,Exit.thenS];refine hr.mono ?_;rintro e w2 ⟨rfl,rfl⟩;refine wpS_of_wp ?_
  go_wp2
  cases c₀
  simp_all [bodyPostS,results,Tryz.results69]
theorem Mt (w:World) (eb:Nat) (c z:Int) (hc:c≠0) (older:List PanicEntry) (he:w.cell? ⟨eb,0,none⟩=some (.int .i64 z)) (fe:w.frozen? ⟨eb,0,none⟩=false) :
    CallsD Tryz.prog 69 #[.pointer (some ⟨eb,0,none⟩)] (.panicking ({ v:=.iface 129 (.int .i64 c),recovered:=false } :: older)) w fun e u w'=>
      e = .returned (.tuple #[])∧u = .panicking ({ v:=.iface 129 (.int .i64 c),recovered:=true } :: older)∧w'=w.setCell ⟨eb,0,none⟩ (.int .i64 c):=by
  have hr:=AE w c;have h1:(c != 0)=true:=by simpa using hc
  refine callsD_of_wpS Tryz.func69 rfl fun c₀ cs hu=>?_;apply wpS_seq;apply wpS_region
  simp only [Tryz.ntmps69,List.size_toArray,List.length_cons,List.length_nil,Nat.reduceAdd,Nat.reduceSub,Array.replicate_succ,
     Array.replicate_zero,List.push_toArray,List.append_toArray,List.nil_append,List.cons_append]
  simp [wpOpsS,go_sem,recoverD,hu,Exit.thenS];refine hr.mono ?_;rintro e w2 ⟨rfl,rfl⟩;refine wpS_of_wp ?_
  go_wp2_with fail
  exact ⟨rfl,_,rfl,_,results_none rfl _ _ _,rfl,rfl,rfl⟩
theorem tN {w:World} {tmps:Array Value} {a:Nat} {e:Value} (h4:tmps[4]?=some (ax a)) (ha:w.cell? ⟨a,0,none⟩=some e) :
  (results Tryz.f29 tmps).run Tryz.prog w = .ok e w:=by
 simp [results,Tryz.results29,h4,go_sem,ha]
theorem DR {w:World} {tmps:Array Value} {eb:Nat} {z c:Int} {P:ah} {R:Ending→World→Prop} (hc:c≠0) (h4:tmps[4]?=some (ax eb))
  (h:Sat w (pt eb (.cells #[.int .i64 z] 28 (0,0))*P)) (hR:∀ w',Sat w' P→ai w w'→R (.returned (.int .i64 c)) w') :
  bodyPostD Tryz.prog Tryz.f29 R (Exit.panic (mf c)) { tmps:=tmps,defers:=[{ target:=.fn (.func 69) #[.pointer (some ⟨eb,0,none⟩)],args:=#[] }] } w:=by
 refine leaves_cons (f:=69) (args:=#[.pointer (some ⟨eb,0,none⟩)]) (by simp) (by simp [go_sem]) ?_;refine (Mt w eb c z hc [] (h.cell 0) (h.frozen 0)).mono ?_;rintro e u w7 ⟨rfl,rfl,rfl⟩;have h11:=h.setCell 0 (.int .i64 c);exact ⟨_,tN h4 (h11.cell 0),hR _ h11.right ((ai.refl w).setCell _ _)⟩
theorem vR {w:World} {tmps:Array Value} {eb:Nat} {z:Value} {R:Ending→World→Prop} (h4:tmps[4]?=some (ax eb)) (hb:w.cell? ⟨eb,0,none⟩=some z) (hR:R (.returned z) w) :
  bodyPostD Tryz.prog Tryz.f29 R Exit.ret { tmps:=tmps,defers:=[{ target:=.fn (.func 69) #[.pointer (some ⟨eb,0,none⟩)],args:=#[] }] } w:=by
 refine leaves_cons (f:=69) (args:=#[.pointer (some ⟨eb,0,none⟩)]) (by simp) (by simp [go_sem]) ?_;refine (Lj w ⟨eb,0,none⟩).mono ?_;rintro e u w7 ⟨rfl,rfl,rfl⟩;exact ⟨_,tN h4 hb,hR⟩
def bV (b n:Nat):Obj:=.cells #[ax b,.int .i64 (n:Int)] 85 (0,0)
end Go.Cl
