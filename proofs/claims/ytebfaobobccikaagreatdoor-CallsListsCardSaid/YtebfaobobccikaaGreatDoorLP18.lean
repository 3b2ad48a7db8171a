/- Steps. -/
import Derived.Test.YtebfaobobccikaaGreatDoorLP3
import Derived.Recover
import Derived.Laws.Rows
import Derived.Laws.Tables
set_option linter.all false
set_option maxRecDepth 99999
set_option maxHeartbeats 0
open Go.SL
open Go.Value renaming int->Z',pointer->X'
open Go.Ending renaming returned->Y
open Go renaming World->Y'
open Go.Proofs.Tryz renaming prog->Z
open Go.Proofs.Tryz
open Array renaming replicate_succ->D0,replicate_zero->F0
open List renaming append_toArray->G0
namespace Go.Proofs.Cl
open RowKit SL Proofs.Nn
variable {w:Y'} {tmps:Array Value} {eb:Nat} {e:Value} {R:Ending->Y'->Prop}
def nt (c:Int):List PanicEntry:=[{ v:=.iface 128 (Z' .i64 c),recovered:=false }]
theorem dm (w:Y'):Calls Z 34 #[Z' .i64 0] w fun e a=>e = Y (.tuple #[])/\w=a:=by
 go_enter func34,ntmps34
 go_wp2
 go_end0
 exact ⟨rfl,rfl⟩
theorem dR (w:Y') (c:Int) (a:c≠0):Calls Z 34 #[Z' .i64 c] w fun e b=>e = .panicked (nt c)/\w=b:=by
 have d:(c != 0)=true:=by simpa using a
 go_enter func34,ntmps34
 go_wp2
 exact ⟨rfl,rfl,rfl⟩
theorem yz (w:Y'):Calls Z 51 #[.bool true] w fun e a=>e = Y (.tuple #[])/\w=a:=by
 go_enter func51,ntmps51
 go_wp2
 go_end0
 exact ⟨rfl,rfl⟩
theorem BY (w:Y'):Calls Z 51 #[.bool false] w fun e b=>e = .panicked (nt 1)/\w=b:=by
 have a:=dR w 1 (by decide)
 go_enter func51,ntmps51
 go_wp2_with fail
 (with_reducible refine a.mono ?_)
 rintro e c ⟨rfl,rfl⟩;clear a
 go_wp2
 exact ⟨rfl,rfl,rfl⟩
theorem wV (v:Value) (w:Y'):(Instr.typeAssert (.iface 128 v) 20 128 true).run Z w = .ok (.tuple #[v,.bool true]) w:=by
 simp [Instr.typeAssert,run_underlying underlying128,go_sem,Result.andThen]
theorem uJ (w:Y'):Calls Z 73 #[.nilIface] w fun e a=>e = Y (Z' .i64 0)/\w=a:=by
 go_enter func73,ntmps73
 go_wp2
 go_ret
 exact ⟨rfl,rfl⟩
theorem Ew (w:Y') (c:Int):Calls Z 73 #[.iface 128 (Z' .i64 c)] w fun e a=>e = Y (Z' .i64 c)/\w=a:=by
 have b:=wV (Z' .i64 c)
 go_enter func73,ntmps73
 go_wp2_with fail
 go_ret
 exact ⟨rfl,rfl⟩
theorem ON (w:Y') (d:Addr) :
    CallsD Z 72 #[X' (some d)] .returning w fun e u f=>e = Y (.tuple #[])/\u = .returning/\w=f:=by
  have b:=uJ w;refine callsD_of_wpS func72 rfl fun a g c=>?_;apply wpS_seq;apply wpS_region
  simp only [ntmps72,List.size_toArray,List.length_cons,List.length_nil,Nat.reduceAdd,Nat.reduceSub,D0,
     F0,List.push_toArray,G0,List.nil_append,List.cons_append]
  simp [wpOpsS,go_sem,recoverD,c,Exit.thenS];refine b.mono ?_;rintro e h ⟨rfl,rfl⟩;refine wpS_of_wp ?_
  go_wp2
  cases a
  simp_all [bodyPostS,results,Tryz.results72]
theorem OI (w:Y') (a:Nat) (c z:Int) (d:c≠0) (b:List PanicEntry) (m:w.cell? ⟨a,0,none⟩=some (Z' .i64 z)) (k:w.frozen? ⟨a,0,none⟩=false) :
    CallsD Z 72 #[X' (some ⟨a,0,none⟩)] (.panicking ({ v:=.iface 128 (Z' .i64 c),recovered:=false } :: b)) w fun e u h=>
      e = Y (.tuple #[])/\u = .panicking ({ v:=.iface 128 (Z' .i64 c),recovered:=true } :: b)/\h=w.setCell ⟨a,0,none⟩ (Z' .i64 c):=by
  have f:=Ew w c;have l:(c != 0)=true:=by simpa using d
  refine callsD_of_wpS func72 rfl fun j i g=>?_;apply wpS_seq;apply wpS_region
  simp only [ntmps72,List.size_toArray,List.length_cons,List.length_nil,Nat.reduceAdd,Nat.reduceSub,D0,
     F0,List.push_toArray,G0,List.nil_append,List.cons_append]
  simp [wpOpsS,go_sem,recoverD,g,Exit.thenS];refine f.mono ?_;rintro e n ⟨rfl,rfl⟩;refine wpS_of_wp ?_
  go_wp2_with fail
  exact ⟨rfl,_,rfl,_,results_none rfl _ _ _,rfl,rfl,rfl⟩
theorem ug (a:tmps[4]?=some (az eb)) (b:w.cell? ⟨eb,0,none⟩=some e) :
  (results Tryz.f29 tmps).run Z w = .ok e w:=by
 simp [results,Tryz.results29,a,go_sem,b]
theorem Gz {z c:Int} {P:ai} (g:c≠0) (d:tmps[4]?=some (az eb))
  (h:ag w (pt eb (.cells #[Z' .i64 z] 28 (0,0))*P)) (f:∀ a,ag a P->aj w a->R (Y (Z' .i64 c)) a) :
  bodyPostD Z Tryz.f29 R (Exit.panic (nt c)) { tmps:=tmps,defers:=[{ target:=.fn (.func 72) #[X' (some ⟨eb,0,none⟩)],args:=#[] }] } w:=by
 refine leaves_cons (f:=72) (args:=#[X' (some ⟨eb,0,none⟩)]) (by simp) (by simp [go_sem]) ?_;refine (OI w eb c z g [] (h.cell 0) (h.frozen 0)).mono ?_;rintro e u i ⟨rfl,rfl,rfl⟩;have b:=h.setCell 0 (Z' .i64 c);exact ⟨_,ug d (b.cell 0),f _ b.right ((aj.refl w).setCell _ _)⟩
theorem yr (a:tmps[4]?=some (az eb)) (c:w.cell? ⟨eb,0,none⟩=some e) (b:R (Y e) w) :
  bodyPostD Z Tryz.f29 R Exit.ret { tmps:=tmps,defers:=[{ target:=.fn (.func 72) #[X' (some ⟨eb,0,none⟩)],args:=#[] }] } w:=by
 refine leaves_cons (f:=72) (args:=#[X' (some ⟨eb,0,none⟩)]) (by simp) (by simp [go_sem]) ?_;refine (ON w ⟨eb,0,none⟩).mono ?_;rintro d u f ⟨rfl,rfl,rfl⟩;exact ⟨_,ug a c,b⟩
def bT (b n:Nat):Obj:=.cells #[az b,Z' .i64 (n:Int)] 74 (0,0)
end Go.Proofs.Cl
