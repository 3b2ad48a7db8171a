/- Steps. -/
import Derived.Test.YtacliaemfegopaaGreatDoorKP3
import Derived.Recover
import Derived.LaidEqlPtr
set_option linter.unusedVariables false
set_option linter.unusedSimpArgs false
set_option maxRecDepth 100000
set_option maxHeartbeats 40000000
open Go.Proofs Go.SL
namespace Go.Ba
open Go.RowKit Go.SL
def Qa (m:Nat) (M:KV) (id:Int) (F:ah) (w:World) (e:Ending) (u:FrameMode) (w':World):Prop:=
 e = .returned (.tuple #[])∧u = .returning∧Sat w' (mp m (del M id)*F)∧ai w w'
theorem qW (w:World) (p2 p3 p4 p5:Addr) (b m:Nat) (id:Int) (M:KV) (F:ah) (h:Sat w (mp m M*F))
    (h2:w.cell? p2=some (.pointer (some ⟨b,0,none⟩))) (h3:w.cell? p3=some (.int .i64 id)) (hA:w.cell? ⟨b,6,none⟩=some (.map (some m))) :
    CallsD Tryz.prog 265 #[.pointer (some p2),.pointer (some p3),.pointer (some p4),.pointer (some p5)] .returning w (Qa m M id F w):=by
  obtain ⟨w1,hrun,hs1,hd1,hce⟩:=Sat.delete (P:=Tryz.prog) Tryz.underlying102 Tryz.underlying3 0 3 (w:=w.drew) h id;have g2:=(hce.1 _).trans h2;have g3:=(hce.1 _).trans h3;have gA:=(hce.1 _).trans hA;refine callsD_of_wpS Tryz.func265 rfl fun c₀ cs hu=>?_;apply wpS_seq;refine wpS_of_wp ?_
  simp only [Tryz.ntmps265,List.size_toArray,List.length_cons,List.length_nil,Nat.reduceAdd,Nat.reduceSub,Array.replicate_succ,
     Array.replicate_zero,List.push_toArray,List.append_toArray,List.nil_append,List.cons_append]
  go_region_held3 (fun w'=>w'.cell? p2=some (.pointer (some ⟨b,0,none⟩))∧w'.cell? p3=some (.int .i64 id)∧w'.cell? ⟨b,6,none⟩=some (.map (some m))) (go_keep) (fail)
  apply wpS_seq;apply wpS_region;simp [wpOpsS,go_sem,recoverD,hu,Exit.thenS];refine wpS_cond (t:=false) (by simp [Act.eval]) ?_;refine wpS_of_wp (wp_skip ?_);cases c₀
  simp_all [bodyPostS,results,Tryz.results265]
  exact ⟨rfl,rfl,hs1,(ai.refl w).drew.trans hd1⟩
def mZ (A:Int × List UInt8) (RI' F:ah) (w:World) (e:Ending) (w':World):Prop:=
 ∃ dv,e = .returned (.tuple #[dv,.int .i64 A.1])∧Sat w' (nM 5 A dv*(RI'*F))∧ai w w'
def OK (b:Nat) (rd:Value) (err:Int) (x:Bx) (A:Int × List UInt8) (RI' F:ah) (w:World) (e:Ending) (w':World):Prop:=
 ∃ dv av',e = .returned (.tuple #[dv,.int .i64 A.1])∧ai w w' ∧
  Sat w' (pt b (.cells (({ x with av:=av' }:Bx).cells rd err) 176 (0,0))*(eP av'*(nM 5 A dv*(RI'*F))))
theorem IZ (w:World) (b:Nat) (T:TypeId) (rv:Value) (fr:FuncId) (err id:Int) (x:Bx) (A:Int × List UInt8) (RI RI' F:ah) (m:Nat) (hav:x.av = .map (some m))
  (rr:Value) (Mq:World→Prop) (hM:∀ (F:ah) (w:World),Sat w (RI*F)→Mq w) (hM2:∀ (F:ah) (w:World),Sat w (RI'*F)→Mq w)
  (hm : ∀ (k : Nat) (w : World), Mq w → (method (k + 1) T rv "Read").run Tryz.prog w = .ok (fr, rr) w)
  (hcf:∀ (args:Array Value) (w:World),(callFunc fr args).run Tryz.prog w = .ok (.enter fr args) w)
  (hR:∀ (F:ah) (w:World),Sat w (RI*F)→Calls Tryz.prog fr #[rr,.int .i64 id] w (mZ A RI' F w))
  (h:Sat w (pt b (.cells (x.cells (.iface T rv) err) 176 (0,0))*(mp m []*(RI*F)))) :
  Calls Tryz.prog 241 #[.pointer (some ⟨b,0,none⟩),.int .i64 id] w (OK b (.iface T rv) err x A RI' F w):=by
 have hc0:w.cell? ⟨b,0,none⟩=some (.iface T rv):=h.cell 0;have hlt:b<w.heap.size:=h.lt;have n2:b<w.heap.size+1+1:=by omega
 have HR:=ae hR;have HM:=ae hM;have HM2:=ae hM2;clear hR hM hM2
 go_enter_defers Tryz.func241,Tryz.ntmps241
 go_wp2
 have h4:=(((h.alloc (.cells #[.pointer (some ⟨b,0,none⟩)] 81 (0,0))).alloc (.cells #[.int .i64 id] 3 (0,0))).alloc (.cells #[.slice none 0 0] 37 (0,0))).alloc (.cells #[.int .i64 0] 28 (0,0));simp only [World.size_alloc] at h4;have d4:=((((ai.refl w).alloc (.cells #[.pointer (some ⟨b,0,none⟩)] 81 (0,0))).alloc (.cells #[.int .i64 id] 3 (0,0))).alloc (.cells #[.slice none 0 0] 37 (0,0))).alloc (.cells #[.int .i64 0] 28 (0,0));generalize ((((w.alloc (.cells #[.pointer (some ⟨b,0,none⟩)] 81 (0,0))).alloc (.cells #[.int .i64 id] 3 (0,0))).alloc (.cells #[.slice none 0 0] 37 (0,0))).alloc (.cells #[.int .i64 0] 28 (0,0)))=w4 at h4 d4 ⊢;clear hc0 h n2;generalize w.heap.size=n at h4 hlt ⊢
 -- 1: err,2: data,3: id,4: b,5: the struct,6: asked
 have c2:=h4.aC.cell 0;have c3:=h4.aq.cell 0;have b6:=(h4.aG.cell 6).trans (congrArg some hav);obtain ⟨o0,ho0,hmh,_⟩:=h4.dj.od
 have hl:∀ w',w'.heap[m]?=some o0→(Instr.lookup 102 (.map (some m)) (.int .i64 id) true).run Tryz.prog w' = .ok (.tuple #[.agg #[],.bool false]) w':=fun w' hw=>
  gK (P:=Tryz.prog) Tryz.underlying102 Tryz.underlying3 (by kernel_rfl) hw ho0 id true
 go_region_held3 (fun w'=>w'.cell? ⟨n,0,none⟩=some (.pointer (some ⟨b,0,none⟩))∧w'.cell? ⟨n+1,0,none⟩=some (.int .i64 id)∧w'.cell? ⟨b,6,none⟩=some (.map (some m))∧w'.heap[m]?=some o0)
  (refine ⟨?_,?_,?_,?_⟩ <;> first|exact hmh|exact EV hmh _|go_keep) (fail)
 all_goals
  have h5:=(h4.alloc (.cells #[] 202 (0,0))).right;have d5:=d4.alloc (.cells #[] 202 (0,0));generalize hw5:(w4.alloc (.cells #[] 202 (0,0))).drew=w5;replace h5:Sat w5 _:=hw5▸h5.drew;replace d5:ai w w5:=hw5▸d5.drew;have c2:=h5.aC.cell 0;have c3:=h5.aq.cell 0;have b6:=(h5.aG.cell 6).trans (congrArg some hav);have hnil:=fun w=>run_eql_map_nil (P:=Tryz.prog) w 102 3 202 (some m) Tryz.underlying102
  go_wp2
  clear hnil;obtain ⟨w6,hup,h6,d6,ce⟩:=Sat.mapUpdate (P:=Tryz.prog) Tryz.underlying102 Tryz.underlying3 (w:=w5.drew) h5.dj id (.agg #[]);have e2:=(ce.1 _).trans c2;have e3:=(ce.1 _).trans c3;have e6:=(ce.1 _).trans b6;clear ce
  go_region_held3 (fun w'=>w'.cell? ⟨n,0,none⟩=some (.pointer (some ⟨b,0,none⟩))∧w'.cell? ⟨n+1,0,none⟩=some (.int .i64 id)∧w'.cell? ⟨b,6,none⟩=some (.map (some m)))
   (go_keep) (fail)
  replace d6:ai w w6:=(d5.drew).trans d6;clear hup h5 d5 c2 c3 b6 e6;have e0:w6.cell? ⟨b,0,none⟩=some (.iface T rv):=h6.dj.cell 0;replace h6:=h6.IK
  go_wp2
  have q5:¬ (n+1+1=n):=by omega
  have q6:¬ (n+1+1+1=n):=by omega
  have q7:¬ (n+1+1=b):=by omega
  have q8:¬ (n+1+1+1=b):=by omega
  go_region_held3 (fun w'=>w'.cell? ⟨n,0,none⟩=some (.pointer (some ⟨b,0,none⟩))∧w'.cell? ⟨n+1,0,none⟩=some (.int .i64 id)∧w'.cell? ⟨b,0,none⟩=some (.iface T rv)∧Mq w')
   (refine ⟨?_,?_,?_,?_⟩ <;> first|exact HM.out _ _ h6.bM|exact HM2.out _ _ h7.ag|exact HM2.out _ _ (h7.aC.setCell 0 _).rB.ag|exact HM2.out _ _ ((h7.aC.setCell 0 _).rB.aq.setCell 0 _).vG.ag|go_keep) ((refine (HR.out _ w6.drew h6.bM).mono ?_;rintro e w7 ⟨dv,rfl,h7,d7⟩;have hsl:=Sat.xZ h7;obtain ⟨da,dk,dc,hsl⟩:=hsl;subst hsl;have g2:=h7.dj.cell 0;have g3:=h7.aG.cell 0;have gb:=h7.bM.cell 0;have gd:=h7.aC.cell 0;have ge:=h7.aq.cell 0;have fd:=h7.aC.frozen 0;have fe:=h7.aq.frozen 0;simp [Bx.cells] at g2 g3 gb gd ge))
  go_wp2
  have h8:=((h7.aC.setCell 0 (.slice da dk dc)).rB.aq.setCell 0 (.int .i64 A.1)).vG;refine leaves_cons (f:=265) (args:=#[.pointer (some ⟨n,0,none⟩),.pointer (some ⟨n+1,0,none⟩),.pointer (some ⟨n+1+1,0,none⟩),.pointer (some ⟨n+1+1+1,0,none⟩)]) (by simp) (by simp [go_sem]) ?_;refine (qW _ ⟨n,0,none⟩ ⟨n+1,0,none⟩ _ _ b m id _ _ h8.dI (h8.dj.cell 0) (h8.aG.cell 0) ((h8.bM.cell 6).trans (congrArg some hav))).mono ?_;rintro e u w9 ⟨rfl,rfl,h9,d9⟩;have h10:=h9.No;have r4:=h10.aC.cell 0;have r5:=h10.aq.cell 0;refine ⟨.tuple #[.slice da dk dc,.int .i64 A.1],?_,?_⟩
  ·simp [results,Tryz.results241,go_sem,r4,r5]
  ·refine ⟨.slice da dk dc,.map (some m),rfl,(d6.drew.trans d7).trans (((ai.refl w7).setCell _ _).setCell _ _ |>.trans d9),?_⟩
   have hx:({ x with av:=Value.map (some m) }:Bx)=x:=by rw [← hav]
   rw [hx];have hd:del (fw ([]:KV) id (.agg #[])) id=[]:=by simp [del,fw,aH]
   rw [hd] at h9;have h11:=h9.fh (Q:=eP (.map (some m))) fun k hk=>.inr ⟨m,rfl,hk⟩;exact h11.jE.jE.jE.jE.aC
theorem Ii (w:World) (b:Nat) (T:TypeId) (rv:Value) (fr:FuncId) (err id:Int) (x:Bx) (A:Int × List UInt8) (RI RI' F:ah) (hav:x.av = .map none)
  (rr:Value) (Mq:World→Prop) (hM:∀ (F:ah) (w:World),Sat w (RI*F)→Mq w) (hM2:∀ (F:ah) (w:World),Sat w (RI'*F)→Mq w)
  (hm : ∀ (k : Nat) (w : World), Mq w → (method (k + 1) T rv "Read").run Tryz.prog w = .ok (fr, rr) w)
  (hcf:∀ (args:Array Value) (w:World),(callFunc fr args).run Tryz.prog w = .ok (.enter fr args) w)
  (hR:∀ (F:ah) (w:World),Sat w (RI*F)→Calls Tryz.prog fr #[rr,.int .i64 id] w (mZ A RI' F w))
  (h:Sat w (pt b (.cells (x.cells (.iface T rv) err) 176 (0,0))*(RI*F))) :
  Calls Tryz.prog 241 #[.pointer (some ⟨b,0,none⟩),.int .i64 id] w (OK b (.iface T rv) err x A RI' F w):=by
 have hmf:=nV Tryz.prog;have hc0:w.cell? ⟨b,0,none⟩=some (.iface T rv):=h.cell 0;have hlt:b<w.heap.size:=h.lt;have n1:b<w.heap.size+1:=by omega
 have n2:b<w.heap.size+1+1:=by omega
 have n3:b<w.heap.size+1+1+1:=by omega
 have HR:=ae hR;have HM:=ae hM;have HM2:=ae hM2;clear hR hM hM2
 go_enter_defers Tryz.func241,Tryz.ntmps241
 go_wp2
 have h4:=(((h.alloc (.cells #[.pointer (some ⟨b,0,none⟩)] 81 (0,0))).alloc (.cells #[.int .i64 id] 3 (0,0))).alloc (.cells #[.slice none 0 0] 37 (0,0))).alloc (.cells #[.int .i64 0] 28 (0,0));simp only [World.size_alloc] at h4;have d4:=((((ai.refl w).alloc (.cells #[.pointer (some ⟨b,0,none⟩)] 81 (0,0))).alloc (.cells #[.int .i64 id] 3 (0,0))).alloc (.cells #[.slice none 0 0] 37 (0,0))).alloc (.cells #[.int .i64 0] 28 (0,0));generalize ((((w.alloc (.cells #[.pointer (some ⟨b,0,none⟩)] 81 (0,0))).alloc (.cells #[.int .i64 id] 3 (0,0))).alloc (.cells #[.slice none 0 0] 37 (0,0))).alloc (.cells #[.int .i64 0] 28 (0,0)))=w4 at h4 d4 ⊢;clear hc0 h n1 n2 n3;generalize w.heap.size=n at h4 hlt ⊢
 -- 1: err,2: data,3: id,4: b,5: the struct,6: asked
 have c2:w4.cell? ⟨n,0,none⟩=some (.pointer (some ⟨b,0,none⟩)):=h4.aC.cell 0;have c3:w4.cell? ⟨n+1,0,none⟩=some (.int .i64 id):=h4.aq.cell 0;have b6:w4.cell? ⟨b,6,none⟩=some (.map none):=(h4.aG.cell 6).trans (congrArg some hav)
 have hl:∀ w',(Instr.lookup 102 (.map none) (.int .i64 id) true).run Tryz.prog w' = .ok (.tuple #[.agg #[],.bool false]) w':=fun w'=>
  jq (P:=Tryz.prog) Tryz.underlying102 Tryz.underlying3 (by kernel_rfl) id true
 go_region_held3 (fun w'=>w'.cell? ⟨n,0,none⟩=some (.pointer (some ⟨b,0,none⟩))∧w'.cell? ⟨n+1,0,none⟩=some (.int .i64 id)∧w'.cell? ⟨b,6,none⟩=some (.map none))
  (go_keep) (fail)
 all_goals
  have h5:=(h4.alloc (.cells #[] 202 (0,0))).right;have d5:=d4.alloc (.cells #[] 202 (0,0));change Exit.then _ _ _ _ (w4.alloc (.cells #[] 202 (0,0))).drew
  generalize hw5:(w4.alloc (.cells #[] 202 (0,0))).drew=w5;replace h5:Sat w5 _:=hw5▸h5.drew;replace d5:ai w w5:=hw5▸d5.drew;clear hw5 hl c2 c3 b6 h4 d4;have c2:w5.cell? ⟨n,0,none⟩=some (.pointer (some ⟨b,0,none⟩)):=h5.aC.cell 0;have c3:w5.cell? ⟨n+1,0,none⟩=some (.int .i64 id):=h5.aq.cell 0;have b6:w5.cell? ⟨b,6,none⟩=some (.map none):=(h5.aG.cell 6).trans (congrArg some hav);have hnil:=fun w=>run_eql_map_nil (P:=Tryz.prog) w 102 3 202 none Tryz.underlying102;have hfz:w5.frozen? ⟨b,6,none⟩=false:=h5.aG.frozen 6;have hmm:=@run_makeMap Tryz.prog;have hb5:b<w5.heap.size:=h5.aG.lt
  go_wp2
  clear hnil hmm hfz;have h5':=(h5.aG.setCell 6 (.map (some w5.heap.size))).alloc (.map #[] 0);rw [World.size_setCell] at h5';have d5':=(d5.setCell ⟨b,6,none⟩ (.map (some w5.heap.size))).alloc (.map #[] 0);generalize (w5.setCell ⟨b,6,none⟩ (.map (some w5.heap.size))).alloc (.map #[] 0)=w5' at h5' d5' ⊢;generalize w5.heap.size=m at h5' ⊢;clear h5 d5 c2 c3 b6 hb5
  -- the struct 1,asked 2,err 3,data 4,id 5,b 6
  have h5:=(h5'.tH isMap_empty).IK.vp;clear h5';change Sat w5' (pt (n+1+1+1) _*(pt (n+1+1) _*(pt (n+1) _*(pt n _*(pt b (.cells (({ x with av:=.map (some m) }:Bx).cells (.iface T rv) err) 176 (0,0))*_))))) at h5;have c2:w5'.cell? ⟨n,0,none⟩=some (.pointer (some ⟨b,0,none⟩)):=h5.aC.cell 0;have c3:w5'.cell? ⟨n+1,0,none⟩=some (.int .i64 id):=h5.aq.cell 0;have b6:w5'.cell? ⟨b,6,none⟩=some (.map (some m)):=h5.aG.cell 6;obtain ⟨w6,hup,h6,d6,ce⟩:=Sat.mapUpdate (P:=Tryz.prog) Tryz.underlying102 Tryz.underlying3 (w:=w5'.drew) h5.dj id (.agg #[]);have e2:w6.cell? ⟨n,0,none⟩=some (.pointer (some ⟨b,0,none⟩)):=(ce.1 _).trans c2;have e3:w6.cell? ⟨n+1,0,none⟩=some (.int .i64 id):=(ce.1 _).trans c3;have e6:w6.cell? ⟨b,6,none⟩=some (.map (some m)):=(ce.1 _).trans b6;clear ce
  go_region_held3 (fun w'=>w'.cell? ⟨n,0,none⟩=some (.pointer (some ⟨b,0,none⟩))∧w'.cell? ⟨n+1,0,none⟩=some (.int .i64 id)∧w'.cell? ⟨b,6,none⟩=some (.map (some m)))
   (go_keep) (fail)
  replace d6:ai w w6:=(d5'.drew).trans d6;clear hup h5 d5' c2 c3 b6 e6;have e0:w6.cell? ⟨b,0,none⟩=some (.iface T rv):=h6.dj.cell 0;replace h6:=h6.IK
  go_wp2
  have q1:¬ (n=n+1+1):=by omega
  have q2:¬ (n=n+1+1+1):=by omega
  have q3:¬ (b=n+1+1):=by omega
  have q4:¬ (b=n+1+1+1):=by omega
  have q5:¬ (n+1+1=n):=by omega
  have q6:¬ (n+1+1+1=n):=by omega
  have q7:¬ (n+1+1=b):=by omega
  have q8:¬ (n+1+1+1=b):=by omega
  go_region_held3 (fun w'=>w'.cell? ⟨n,0,none⟩=some (.pointer (some ⟨b,0,none⟩))∧w'.cell? ⟨n+1,0,none⟩=some (.int .i64 id)∧w'.cell? ⟨b,0,none⟩=some (.iface T rv)∧Mq w')
   (refine ⟨?_,?_,?_,?_⟩ <;> first|exact HM.out _ _ h6.bM|exact HM2.out _ _ h7.ag|exact HM2.out _ _ (h7.aC.setCell 0 _).rB.ag|exact HM2.out _ _ ((h7.aC.setCell 0 _).rB.aq.setCell 0 _).vG.ag|go_keep) ((refine (HR.out _ w6.drew h6.bM).mono ?_;rintro e w7 ⟨dv,rfl,h7,d7⟩;have hsl:=Sat.xZ h7;obtain ⟨da,dk,dc,hsl⟩:=hsl;subst hsl;have g2:=h7.dj.cell 0;have g3:=h7.aG.cell 0;have gb:=h7.bM.cell 0;have gd:=h7.aC.cell 0;have ge:=h7.aq.cell 0;have fd:=h7.aC.frozen 0;have fe:=h7.aq.frozen 0;simp [Bx.cells] at g2 g3 gb gd ge))
  clear g2 g3 gb gd ge fd fe e0 e2 e3
  go_wp2
  have h8:=((h7.aC.setCell 0 (.slice da dk dc)).rB.aq.setCell 0 (.int .i64 A.1)).vG;refine leaves_cons (f:=265) (args:=#[.pointer (some ⟨n,0,none⟩),.pointer (some ⟨n+1,0,none⟩),.pointer (some ⟨n+1+1,0,none⟩),.pointer (some ⟨n+1+1+1,0,none⟩)]) (by simp) (by simp [go_sem]) ?_;refine (qW _ ⟨n,0,none⟩ ⟨n+1,0,none⟩ _ _ b m id _ _ h8.dI (h8.dj.cell 0) (h8.aG.cell 0) (h8.bM.cell 6)).mono ?_;rintro e u w9 ⟨rfl,rfl,h9,d9⟩;have h10:=h9.No;have r4:w9.cell? ⟨n+1+1,0,none⟩=some (.slice da dk dc):=h10.aC.cell 0;have r5:w9.cell? ⟨n+1+1+1,0,none⟩=some (.int .i64 A.1):=h10.aq.cell 0;refine ⟨.tuple #[.slice da dk dc,.int .i64 A.1],?_,?_⟩
  ·simp [results,Tryz.results241,go_sem,r4,r5]
  ·refine ⟨.slice da dk dc,.map (some m),rfl,(d6.drew.trans d7).trans (((ai.refl w7).setCell _ _).setCell _ _ |>.trans d9),?_⟩
   have hd:del (fw ([]:KV) id (.agg #[])) id=[]:=by simp [del,fw,aH]
   rw [hd] at h9;have h11:=h9.fh (Q:=eP (.map (some m))) fun k hk=>.inr ⟨m,rfl,hk⟩;exact h11.jE.jE.jE.jE.aC
theorem CQ (w:World) (b:Nat) (T:TypeId) (rv:Value) (fr:FuncId) (err id:Int) (x:Bx) (A:Int × List UInt8) (RI RI' F:ah)
  (rr:Value) (Mq:World→Prop) (hM:∀ (F:ah) (w:World),Sat w (RI*F)→Mq w) (hM2:∀ (F:ah) (w:World),Sat w (RI'*F)→Mq w)
  (hm : ∀ (k : Nat) (w : World), Mq w → (method (k + 1) T rv "Read").run Tryz.prog w = .ok (fr, rr) w)
  (hcf:∀ (args:Array Value) (w:World),(callFunc fr args).run Tryz.prog w = .ok (.enter fr args) w)
  (hR:∀ (F:ah) (w:World),Sat w (RI*F)→Calls Tryz.prog fr #[rr,.int .i64 id] w (mZ A RI' F w))
  (h:Sat w (pt b (.cells (x.cells (.iface T rv) err) 176 (0,0))*(eP x.av*(RI*F)))) :
  Calls Tryz.prog 241 #[.pointer (some ⟨b,0,none⟩),.int .i64 id] w (OK b (.iface T rv) err x A RI' F w):=by
 obtain ⟨k,a,h1,h2,p,⟨h3,h4,pa,q,d3,rfl⟩,d,rfl⟩:=h;rcases pa with ⟨hav,rfl⟩|⟨m,hav,hmp⟩
 ·refine Ii w b T rv fr err id x A RI RI' F hav rr Mq hM hM2 hm hcf hR ⟨_,a,h1,h4,p,q,?_,?_⟩
  ·intro c;rcases d c with e|e
   ·exact .inl e
   ·right;simpa [join] using e
  ·funext c;simp [join]
 ·exact IZ w b T rv fr err id x A RI RI' F m hav rr Mq hM hM2 hm hcf hR ⟨_,a,h1,_,p,⟨h3,h4,hmp,q,d3,rfl⟩,d,rfl⟩
def jN (b:Nat) (S:Hp) (rd:Value) (A:Int × List UInt8) (err:Int) (W D:CB) (F:ah) (w:World) (e:Ending) (w':World):Prop:=
 ∃ S' dv,Ext S S'∧e = .returned (.tuple #[dv,.int .i64 A.1])∧Sat w' (nM 5 A dv*(az 176 5 S' b rd err W D*(aj S'*F)))∧ai w w'
theorem fA (w:World):(zeroValue 37).run Tryz.prog w = .ok (.slice none 0 0) w:=by kernel_rfl
theorem IQ (w:World) (S:Hp) (b:Nat) (rd:Value) (err:Int) (W D:CB) (id:Int) (F:ah)
  (h:Sat w (az 176 5 S b rd err W D*(aj S*F))) (he:err≠0) :
  Calls Tryz.prog 202 #[.pointer (some ⟨b,0,none⟩),.int .i64 id] w (jN b S rd (err,[]) err W D F w):=by
 obtain ⟨x,hx⟩:=h.dH;have hc1:w.cell? ⟨b,1,none⟩=some (.int .i64 err):=hx.cell 1;have he1:(err != 0)=true:=by simpa using he
 go_enter Tryz.func202,Tryz.ntmps202
 go_wp2
 go_region_held3 (fun w'=>w'.cell? ⟨b,1,none⟩=some (.int .i64 err)) (go_keep) (fail)
 go_wp2
 go_ret2
 exact ⟨S,_,Ext.refl S,rfl,Sat.iL h.drew he,(ai.refl w).drew⟩
theorem NG (w:World) (S:Hp) (b:Nat) (rd:Value) (W D:CB) (id:Int) (l:List UInt8) (F:ah)
  (h:Sat w (az 176 5 S b rd 0 W D*(aj S*F))) (hl:aH W id=some l) :
  Calls Tryz.prog 202 #[.pointer (some ⟨b,0,none⟩),.int .i64 id] w (jN b S rd (0,l) 0 W D F w):=by
 obtain ⟨x,hx⟩:=h.dH;have hc1:w.cell? ⟨b,1,none⟩=some (.int .i64 0):=hx.cell 1;have hc2:w.cell? ⟨b,2,none⟩=some x.wv:=hx.cell 2;have hb1:((0:Int) != 0)=false:=by decide
 obtain ⟨dv,hlook,hv⟩:=((hx.to (by ac_rfl:_=aJ 5 S x.wv x.ws W*(aj S*(pt b (.cells (x.cells rd 0) 176 (0,0))*(aJ 5 S x.tv x.ts D*(eP x.av*F)))))).jr (P:=Tryz.prog) Tryz.underlying172 Tryz.underlying3 (fA w) id).2 l hl;have hrd:=hv.rd (h.to (aD _ _ _));have HL:=ae hl;have Hr:=ae hrd;have hbg:Hid (l.length≤1000000000):=Nat.le_trans hv.1 (by decide);clear hl hrd
 go_enter Tryz.func202,Tryz.ntmps202
 go_wp2_with (go_at_call 183;refine (iY _ _ l Hr.out hbg).mono ?_;rintro e w1 ⟨v1,rfl,hs1,hd1⟩)
 go_ret2
 exact ⟨S,v1,Ext.refl S,rfl,(hs1.under h).rq,hd1⟩
theorem NZ (w:World) (S:Hp) (b:Nat) (rd:Value) (W D:CB) (id:Int) (l:List UInt8) (F:ah)
  (h:Sat w (az 176 5 S b rd 0 W D*(aj S*F))) (hn:aH W id=none) (hl:aH D id=some l) :
  Calls Tryz.prog 202 #[.pointer (some ⟨b,0,none⟩),.int .i64 id] w (jN b S rd (0,l) 0 W D F w):=by
 obtain ⟨x,hx⟩:=h.dH;have hc1:w.cell? ⟨b,1,none⟩=some (.int .i64 0):=hx.cell 1;have hc2:w.cell? ⟨b,2,none⟩=some x.wv:=hx.cell 2;have hc4:w.cell? ⟨b,4,none⟩=some x.tv:=hx.cell 4;have hb1:((0:Int) != 0)=false:=by decide
 have hlk:=((hx.to (by ac_rfl:_=aJ 5 S x.wv x.ws W*(aj S*(pt b (.cells (x.cells rd 0) 176 (0,0))*(aJ 5 S x.tv x.ts D*(eP x.av*F)))))).jr (P:=Tryz.prog) Tryz.underlying172 Tryz.underlying3 (fA w) id).1 hn;obtain ⟨dv,hlook,hv⟩:=((hx.to (by ac_rfl:_=aJ 5 S x.tv x.ts D*(aj S*(pt b (.cells (x.cells rd 0) 176 (0,0))*(aJ 5 S x.wv x.ws W*(eP x.av*F)))))).jr (P:=Tryz.prog) Tryz.underlying172 Tryz.underlying3 (fA w) id).2 l hl;have hrd:=hv.rd (h.to (aD _ _ _));have HL:=ae hl;have Hr:=ae hrd;have hbg:Hid (l.length≤1000000000):=Nat.le_trans hv.1 (by decide);clear hl hrd hn
 go_enter Tryz.func202,Tryz.ntmps202
 go_wp2_with (go_at_call 183;refine (iY _ _ l Hr.out hbg).mono ?_;rintro e w1 ⟨v1,rfl,hs1,hd1⟩)
 go_ret2
 exact ⟨S,v1,Ext.refl S,rfl,(hs1.under h).rq,hd1⟩
theorem KK (w:World) (S:Hp) (b:Nat) (T:TypeId) (rv:Value) (fr:FuncId) (W D:CB) (id:Int) (l:List UInt8) (RI RI' F:ah)
  (rr:Value) (Mq:World→Prop) (hM:∀ (F:ah) (w:World),Sat w (RI*F)→Mq w) (hM2:∀ (F:ah) (w:World),Sat w (RI'*F)→Mq w)
  (hm : ∀ (k : Nat) (w : World), Mq w → (method (k + 1) T rv "Read").run Tryz.prog w = .ok (fr, rr) w)
  (hcf:∀ (args:Array Value) (w:World),(callFunc fr args).run Tryz.prog w = .ok (.enter fr args) w)
  (hR:∀ (F:ah) (w:World),Sat w (RI*F)→Calls Tryz.prog fr #[rr,.int .i64 id] w (mZ (0,l) RI' F w))
  (h:Sat w (az 176 5 S b (.iface T rv) 0 W D*(aj S*(RI*F)))) (hn:aH W id=none) (hn':aH D id=none) (hsm:small l) :
  Calls Tryz.prog 202 #[.pointer (some ⟨b,0,none⟩),.int .i64 id] w (jN b S (.iface T rv) (0,l) 0 W (SL.fw D id l) (RI'*F) w):=by
 obtain ⟨x,hx⟩:=h.dH;have hc1:w.cell? ⟨b,1,none⟩=some (.int .i64 0):=hx.cell 1;have hc2:w.cell? ⟨b,2,none⟩=some x.wv:=hx.cell 2;have hc4:w.cell? ⟨b,4,none⟩=some x.tv:=hx.cell 4;have hb1:((0:Int) != 0)=false:=by decide
 have hlk:=((hx.to (by ac_rfl:_=aJ 5 S x.wv x.ws W*(aj S*(pt b (.cells (x.cells (.iface T rv) 0) 176 (0,0))*(aJ 5 S x.tv x.ts D*(eP x.av*(RI*F))))))).jr (P:=Tryz.prog) Tryz.underlying172 Tryz.underlying3 (fA w) id).1 hn;have hlk':=((hx.to (by ac_rfl:_=aJ 5 S x.tv x.ts D*(aj S*(pt b (.cells (x.cells (.iface T rv) 0) 176 (0,0))*(aJ 5 S x.wv x.ws W*(eP x.av*(RI*F))))))).jr (P:=Tryz.prog) Tryz.underlying172 Tryz.underlying3 (fA w) id).1 hn';have hbg:Hid (l.length≤1000000000):=Nat.le_trans hsm (by decide);have h0:Sat w (pt b (.cells (x.cells (.iface T rv) 0) 176 (0,0))*(eP x.av*(RI*(aJ 5 S x.wv x.ws W*(aJ 5 S x.tv x.ts D*(aj S*F)))))):=hx.to (by ac_rfl);have HR:=ae hR;have Hm:=ae hm;have Hcf:=ae hcf;have HM:=ae hM;have HM2:=ae hM2;clear hn hn' hR hm hcf hM hM2
 go_enter Tryz.func202,Tryz.ntmps202
 go_wp2_with (go_at_call 241;refine (CQ w b T rv fr 0 id x (0,l) RI RI' _ rr Mq HM.out HM2.out Hm.out Hcf.out HR.out h0).mono ?_;rintro e w1 ⟨dv,av,rfl,d1,h1⟩)
 clear hc1 hc2 hc4 hlk hlk'
 have hx1:Sat w1 (pt b (.cells (({ x with av:=av }:Bx).cells (.iface T rv) 0) 176 (0,0))*(aJ 5 S x.wv x.ws W*(aJ 5 S x.tv x.ts D*(eP av*(aj S*(bs 5 dv l*(RI'*F))))))):=
  (h1.aq.sm).to (by ac_rfl)
 have hr1:Hid (Rd w1 dv l):=(hx1.dj).oZ
 go_region_held3 (fun _=>True) (trivial)
  (first
   | (go_at_call 183;refine (iY w1.drew _ l (nA.drew hr1.out) hbg).mono ?_;rintro e w2 ⟨v2,rfl,hs2,d2⟩)
   | (go_at_call 207;obtain ⟨S',hE,hV,_,hS⟩:=Sat.Jn (w:=w1.drew) (x:={ x with av:=av }) hx1 hs2 hsm;refine (eM _ S' b 4 _ _ _ D id v2 l (aJ 5 S' x.wv x.ws W*(eP av*(bs 5 dv l*(RI'*F)))) hS rfl rfl hV).mono ?_;rintro e w3 ⟨m,rfl,hs3,d3⟩))
 have hr3:Hid (Rd w3 dv l):=(hs3.dj).oZ
 go_wp2_with (go_at_call 183;refine (iY w3 _ l hr3.out hbg).mono ?_;rintro e w4 ⟨v4,rfl,hs4,d4⟩)
 go_ret2
 refine ⟨S',v4,hE,rfl,?_,(((d1.trans (ai.refl w1).drew).trans d2).trans d3).trans d4⟩;have h5:=(hs3.dj).right;have h6:Sat w3 (pt b (.cells ((({ x with av:=av,tv:=.map (some m),ts:=false }:Bx)).cells (.iface T rv) 0) 176 (0,0))*(aJ 5 S' x.wv x.ws W*(aJ 5 S' (.map (some m)) false (SL.fw D id l)*(eP av*(aj S'*(RI'*F)))))):=h5.to (by ac_rfl);exact (hs4.under (Sat.gE { x with av:=av,tv:=.map (some m),ts:=false } h6)).rq
theorem wE (w:World) (S:Hp) (b:Nat) (T:TypeId) (rv:Value) (fr:FuncId) (W D:CB) (id:Int) (c:Int) (l:List UInt8) (RI RI' F:ah)
  (rr:Value) (Mq:World→Prop) (hM:∀ (F:ah) (w:World),Sat w (RI*F)→Mq w) (hM2:∀ (F:ah) (w:World),Sat w (RI'*F)→Mq w)
  (hm : ∀ (k : Nat) (w : World), Mq w → (method (k + 1) T rv "Read").run Tryz.prog w = .ok (fr, rr) w)
  (hcf:∀ (args:Array Value) (w:World),(callFunc fr args).run Tryz.prog w = .ok (.enter fr args) w)
  (hR:∀ (F:ah) (w:World),Sat w (RI*F)→Calls Tryz.prog fr #[rr,.int .i64 id] w (mZ (c,l) RI' F w)) (hc:c≠0)
  (h:Sat w (az 176 5 S b (.iface T rv) 0 W D*(aj S*(RI*F)))) (hn:aH W id=none) (hn':aH D id=none) :
  Calls Tryz.prog 202 #[.pointer (some ⟨b,0,none⟩),.int .i64 id] w (jN b S (.iface T rv) (c,l) c W D (RI'*F) w):=by
 obtain ⟨x,hx⟩:=h.dH;have hc1:w.cell? ⟨b,1,none⟩=some (.int .i64 0):=hx.cell 1;have hc2:w.cell? ⟨b,2,none⟩=some x.wv:=hx.cell 2;have hc4:w.cell? ⟨b,4,none⟩=some x.tv:=hx.cell 4;have hb1:((0:Int) != 0)=false:=by decide
 have hcn:(c != 0)=true:=by simpa using hc
 have hlk:=((hx.to (by ac_rfl:_=aJ 5 S x.wv x.ws W*(aj S*(pt b (.cells (x.cells (.iface T rv) 0) 176 (0,0))*(aJ 5 S x.tv x.ts D*(eP x.av*(RI*F))))))).jr (P:=Tryz.prog) Tryz.underlying172 Tryz.underlying3 (fA w) id).1 hn;have hlk':=((hx.to (by ac_rfl:_=aJ 5 S x.tv x.ts D*(aj S*(pt b (.cells (x.cells (.iface T rv) 0) 176 (0,0))*(aJ 5 S x.wv x.ws W*(eP x.av*(RI*F))))))).jr (P:=Tryz.prog) Tryz.underlying172 Tryz.underlying3 (fA w) id).1 hn';have h0:Sat w (pt b (.cells (x.cells (.iface T rv) 0) 176 (0,0))*(eP x.av*(RI*(aJ 5 S x.wv x.ws W*(aJ 5 S x.tv x.ts D*(aj S*F)))))):=hx.to (by ac_rfl);have HR:=ae hR;have Hm:=ae hm;have Hcf:=ae hcf;have Hc:=ae hc;have HM:=ae hM;have HM2:=ae hM2;clear hn hn' hR hm hcf hc hM hM2
 go_enter Tryz.func202,Tryz.ntmps202
 go_wp2_with (go_at_call 241;refine (CQ w b T rv fr 0 id x (c,l) RI RI' _ rr Mq HM.out HM2.out Hm.out Hcf.out HR.out h0).mono ?_;rintro e w1 ⟨dv,av,rfl,d1,h1⟩;clear hc1 hc2 hc4 hlk hlk';have g1:w1.cell? ⟨b,1,none⟩=some (.int .i64 0):=h1.cell 1;have f1:=h1.frozen 1)
 go_ret2
 obtain ⟨rfl,h2⟩:=h1.aq.y6 Hc.out;refine ⟨S,_,Ext.refl S,rfl,?_,d1.setCell _ _⟩;have h3:=h2.setCell 1 (.int .i64 c);have h4:Sat (w1.setCell ⟨b,1,none⟩ (.int .i64 c)) (pt b (.cells ((({ x with av:=av }:Bx)).cells (.iface T rv) c) 176 (0,0))*(aJ 5 S x.wv x.ws W*(aJ 5 S x.tv x.ts D*(eP av*(aj S*(RI'*F)))))):=h3.to (by ac_rfl);exact (Sat.gE { x with av:=av } h4).iL Hc.out
def Oo (rd:Value) (w:World) (e:Ending) (w':World):Prop:=∃ b,e = .returned (.pointer (some ⟨b,0,none⟩))∧(∀ S,Sat w' (az 176 5 S b rd 0 [] []*whole w))∧ai w w'
theorem yn {w:World} {b:Nat} {rd:Value} {F:ah} (h:Sat w (pt b (.cells #[rd,.int .i64 0,.map none,.bool false,.map none,.bool false,.map none] 176 (0,0))*F)) (S:Hp) :
  Sat w (az 176 5 S b rd 0 [] []*F):=by
 have e1:∀ {w:World} {F:ah} (v:Bool),Sat w F→Sat w (aJ 5 S (.map none) v []*F):=fun v h=>(h.to (cU _).symm).fh fun k hk=>by rw [hk];exact EK _ _ _
 have e2:∀ {w:World} {F:ah},Sat w F→Sat w (eP (.map none)*F):=fun h=>(h.to (cU _).symm).fh fun k hk=>.inl ⟨rfl,hk⟩;exact Sat.gE ⟨.map none,false,.map none,false,.map none⟩ ((e1 false (e1 false (e2 h))).to (by ac_rfl))
theorem xO (w:World) (T:TypeId) (rv:Value) :
  Calls Tryz.prog 71 #[.iface T rv] w (Oo (.iface T rv) w):=by
 go_enter Tryz.func71,Tryz.ntmps71
 go_wp2
 go_ret
 exact ⟨w.heap.size,rfl,fun S=>yn ((Sat.whole w).alloc _) S,(ai.refl w).alloc _⟩
def NF (b o:Nat) (cs:Array Value) (bv:Value) (G:ah) (w:World) (e:Ending) (w':World):Prop:=
 e = .returned (.agg #[bv,.bool true])∧Sat w' (pt b (.cells (cs.setIfInBounds (o+1) (.bool true)) 176 (0,0))*G)∧ai w w'
theorem mN (w:World) (b o:Nat) (cs:Array Value) (r:Option Nat) (sh:Bool) (G:ah) (h:Sat w (pt b (.cells cs 176 (0,0))*G)) (h0:cs[o]?=some (.map r)) (h1:cs[o+1]?=some (.bool sh)) :
  Calls Tryz.prog 188 #[.pointer (some ⟨b,o,none⟩)] w (NF b o cs (.map r) G w):=by
 have hc0:w.cell? ⟨b,o,none⟩=some (.map r):=(h.cell o).trans h0;have hc1:w.cell? ⟨b,o+1,none⟩=some (.bool sh):=(h.cell (o+1)).trans h1;have hf0:∀ o,w.frozen? ⟨b,o,none⟩=false:=h.frozen;have hlt:b<w.heap.size:=h.lt;have hne:¬ (w.heap.size=b):=by omega
 have hne':¬ (b=w.heap.size):=by omega
 have ho:¬ (o=o+1):=by omega
 have H0:=ae h0;have H1:=ae h1;clear h0 h1
 go_enter Tryz.func188,Tryz.ntmps188
 go_wp2
 refine bodyPost_ret (v:=.agg #[.map r,.bool true]) (by simp [results,Tryz.results188,go_sem]) rfl ?_;exact ⟨rfl,((h.setCell (o+1) (.bool true)).alloc _).right,((ai.refl w).setCell _ _).alloc _⟩
def PX (b:Nat) (S:Hp) (rd:Value) (err:Int) (W D:CB) (F:ah) (w:World) (e:Ending) (w':World):Prop:=
 ∃ S' f,Ext S S'∧e = .returned (.pointer (some ⟨f,0,none⟩))∧Sat w' (az 176 5 S' f rd err W D*(az 176 5 S' b rd err W D*(aj S'*F)))∧ai w w'
theorem pd (w:World) (S:Hp) (b:Nat) (rd:Value) (err:Int) (W D:CB) (F:ah)
  (h:Sat w (az 176 5 S b rd err W D*(aj S*F))) (hrd:∃ T v,rd = .iface T v) :
  Calls Tryz.prog 135 #[.pointer (some ⟨b,0,none⟩)] w (PX b S rd err W D F w):=by
 obtain ⟨T,rv,rfl⟩:=hrd;obtain ⟨x,hx⟩:=h.dH;obtain ⟨rw,hwv⟩:=hx.ag.rP;obtain ⟨rt,htv⟩:=hx.aq.rP;obtain ⟨wv,ws,tv,ts,av⟩:=x;simp only at hwv htv;subst hwv htv;have hc0:w.cell? ⟨b,0,none⟩=some (.iface T rv):=hx.cell 0;have hc1:w.cell? ⟨b,1,none⟩=some (.int .i64 err):=hx.cell 1
 go_enter Tryz.func135,Tryz.ntmps135
 go_wp2
 go_region_held3 (fun w'=>w'.cell? ⟨b,0,none⟩=some (.iface T rv)∧w'.cell? ⟨b,1,none⟩=some (.int .i64 err)) (go_keep)
  (first
   | (go_at_call_of 188 (Value.pointer (some ⟨b,2,none⟩));refine (mN w.drew b 2 _ rw ws _ hx rfl rfl).mono ?_;rintro e w1 ⟨rfl,h1,d1⟩;have g0:=h1.cell 0;have g1:=h1.cell 1;simp [Bx.cells] at g0 g1)
   | (go_at_call_of 188 (Value.pointer (some ⟨b,4,none⟩));refine (mN w1 b 4 _ rt ts _ h1 rfl rfl).mono ?_;rintro e w2 ⟨rfl,h2,d2⟩;have k0:=h2.cell 0;have k1:=h2.cell 1;simp [Bx.cells] at k0 k1))
 go_wp2
 go_ret
 have h3:=h2.alloc (.cells #[.iface T rv,.int .i64 err,.map rw,.bool true,.map rt,.bool true,.map none] 176 (0,0))
 obtain ⟨S',hE,h4⟩:=Sat.zS (T:=5) (S:=S) (v:=.map rw) (sh:=ws) (C:=W) (v':=.map rt) (sh':=ts) (C':=D) (F:=pt w2.heap.size (.cells #[.iface T rv,.int .i64 err,.map rw,.bool true,.map rt,.bool true,.map none] 176 (0,0))*(pt b (.cells #[.iface T rv,.int .i64 err,.map rw,.bool true,.map rt,.bool true,av] 176 (0,0))*(eP av*F))) (h3.to (by
  show _*(pt b (.cells #[.iface T rv,.int .i64 err,.map rw,.bool true,.map rt,.bool true,av] 176 (0,0))*_)=_
  ac_rfl))
 refine ⟨S',_,hE,rfl,?_,(((ai.refl w).drew.trans d1).trans d2).alloc _⟩;have e2:∀ {w:World} {F:ah},Sat w F→Sat w (eP (.map none)*F):=fun h=>(h.to (cU _).symm).fh fun k hk=>.inl ⟨rfl,hk⟩;have h5:=e2 h4;refine Sat.gE ⟨.map rw,true,.map rt,true,.map none⟩ ?_
 have h6:Sat (w2.alloc (.cells #[.iface T rv,.int .i64 err,.map rw,.bool true,.map rt,.bool true,.map none] 176 (0,0))) (az 176 5 S' b (.iface T rv) err W D*(pt w2.heap.size (.cells #[.iface T rv,.int .i64 err,.map rw,.bool true,.map rt,.bool true,.map none] 176 (0,0))*(aJ 5 S' (.map rw) true W*(aJ 5 S' (.map rt) true D*(eP (.map none)*(aj S'*F)))))):=
  Sat.gE ⟨.map rw,true,.map rt,true,av⟩ (h5.to (by simp only [Bx.cells];ac_rfl))
 exact h6.to (by simp only [Bx.cells];ac_rfl)
def PA (b f:Nat) (S:Hp) (rd:Value) (err:Int) (W D:CB) (F:ah) (w:World) (e:Ending) (w':World):Prop:=
 ∃ S',Ext S S'∧e = .returned (.tuple #[])∧Sat w' (az 176 5 S' b rd err W D*(az 176 5 S' f rd err W D*(aj S'*F)))∧ai w w'
theorem iI (w:World) (S:Hp) (b f:Nat) (rd rd':Value) (err err':Int) (W D W' D':CB) (F:ah)
  (h:Sat w (az 176 5 S b rd' err' W' D'*(az 176 5 S f rd err W D*(aj S*F)))) (hrd:∃ T v,rd = .iface T v) :
  Calls Tryz.prog 138 #[.pointer (some ⟨b,0,none⟩),.pointer (some ⟨f,0,none⟩)] w (PA b f S rd err W D F w):=by
 obtain ⟨T,rv,rfl⟩:=hrd;obtain ⟨y,hy⟩:=h.dH
 have hy':Sat w (az 176 5 S f (.iface T rv) err W D*(pt b (.cells (y.cells rd' err') 176 (0,0))*(eP y.av*(aj S*F)))):=
  (hy.gZ.gZ).to (by ac_rfl)
 obtain ⟨x,hx⟩:=hy'.dH;obtain ⟨rw,hwv⟩:=hx.ag.rP;obtain ⟨rt,htv⟩:=hx.aq.rP;obtain ⟨wv,ws,tv,ts,av⟩:=x;simp only at hwv htv;subst hwv htv;obtain ⟨yw,yws,yt,yts,yav⟩:=y;clear h hy hy';have hne:f≠b:=Sat.ne (hx.aG.ag);have hn1:¬ (f=b):=hne;have hn2:¬ (b=f):=fun e=>hne e.symm;have hc0:w.cell? ⟨f,0,none⟩=some (.iface T rv):=hx.cell 0;have hc1:w.cell? ⟨f,1,none⟩=some (.int .i64 err):=hx.cell 1;have hb0:w.cell? ⟨b,0,none⟩=some rd':=hx.aG.cell 0;have hb1:w.cell? ⟨b,1,none⟩=some (.int .i64 err'):=hx.aG.cell 1;have hbf:∀ o,w.frozen? ⟨b,o,none⟩=false:=hx.aG.frozen;obtain ⟨j,hj,hj7⟩:=Option.map_eq_some_iff.1 (show (Tryz.prog.info? 176).map (·.size)=some 7 by kernel_rfl)
 have heq:(binOp .eql 81 (.pointer (some ⟨f,0,none⟩)) (.pointer (some ⟨b,0,none⟩))).run Tryz.prog w = .ok (.bool false) w:=
  run_eql_ptr_other w Tryz.underlying81 hj (by rw [hj7];decide) (by simp [hne]) hx.heap hx.aG.heap
 clear hne hj hj7;have h1:=((hx.aG.setCell 0 (.iface T rv)).setCell 1 (.int .i64 err)).vp
 go_enter Tryz.func138,Tryz.ntmps138
 go_wp2_with fail
 refine (mN _ f 2 _ rw ws _ h1 rfl rfl).mono ?_;rintro e w1 ⟨rfl,h2,d1⟩;clear hc0 hc1 hb0 hb1 hbf heq;have k2:=h2.aG.cell 2;have k3:=h2.aG.cell 3;have kf:∀ o,w1.frozen? ⟨b,o,none⟩=false:=h2.aG.frozen;simp [Bx.cells] at k2 k3
 go_wp2_with fail
 have h3:=((h2.aG.setCell 2 (.map rw)).setCell 3 (.bool true)).vp;refine (mN _ f 4 _ rt ts _ h3 rfl rfl).mono ?_;rintro e w2 ⟨rfl,h4,d2⟩;clear k2 k3 kf;have k4:=h4.aG.cell 4;have k5:=h4.aG.cell 5;have kf:∀ o,w2.frozen? ⟨b,o,none⟩=false:=h4.aG.frozen;simp [Bx.cells] at k4 k5
 go_wp2
 go_end0
 have h5:=((h4.aG.setCell 4 (.map rt)).setCell 5 (.bool true)).vp;change Sat _ (pt f (.cells #[.iface T rv,.int .i64 err,.map rw,.bool true,.map rt,.bool true,av] 176 (0,0))*(_*(_*(_*(pt b (.cells #[.iface T rv,.int .i64 err,.map rw,.bool true,.map rt,.bool true,yav] 176 (0,0))*_))))) at h5
 obtain ⟨S',hE,h6⟩:=Sat.zS (T:=5) (S:=S) (v:=.map rw) (sh:=ws) (C:=W) (v':=.map rt) (sh':=ts) (C':=D)
  (F:=pt f (.cells #[.iface T rv,.int .i64 err,.map rw,.bool true,.map rt,.bool true,av] 176 (0,0))*(pt b (.cells #[.iface T rv,.int .i64 err,.map rw,.bool true,.map rt,.bool true,yav] 176 (0,0))*(eP av*(eP yav*F)))) (h5.to (by ac_rfl))
 refine ⟨S',hE,rfl,?_,(((((((ai.refl w).setCell _ _).setCell _ _).trans d1).setCell _ _).setCell _ _).trans d2).setCell _ _ |>.setCell _ _⟩;refine Sat.gE ⟨.map rw,true,.map rt,true,yav⟩ ?_;generalize ((w2.setCell _ _).setCell _ _)=w3 at h6 ⊢
 have h7:Sat w3 (az 176 5 S' f (.iface T rv) err W D*(pt b (.cells #[.iface T rv,.int .i64 err,.map rw,.bool true,.map rt,.bool true,yav] 176 (0,0))*(aJ 5 S' (.map rw) true W*(aJ 5 S' (.map rt) true D*(eP yav*(aj S'*F)))))):=
  Sat.gE ⟨.map rw,true,.map rt,true,av⟩ (h6.to (by simp only [Bx.cells];ac_rfl))
 exact h7.to (by simp only [Bx.cells];ac_rfl)
end Go.Ba
