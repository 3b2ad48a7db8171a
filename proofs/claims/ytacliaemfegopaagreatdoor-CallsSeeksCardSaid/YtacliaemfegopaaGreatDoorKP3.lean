/- Steps. -/
import Derived.Test.YtacliaemfegopaaGreatDoorKP2
import Derived.Test.YtacliaemfegopaaGreatDoorRows
import Derived.Deep.LoopGhost
import Derived.Deep.RegionHeld3
import Derived.Laws.CopyRow
import Derived.Deep.MidRow
set_option linter.unusedVariables false
set_option linter.unusedSimpArgs false
set_option maxRecDepth 100000
set_option maxHeartbeats 40000000
open Go.Proofs Go.SL
namespace Go.SL
open Go.RowKit
def bJ (n:Nat) (l:List UInt8):List UInt8:=(l++zs n).take n
theorem bR (n:Nat) (l:List UInt8):(bJ n l).length=n:=by simp [bJ,aT]
theorem jv {n:Nat} {l:List UInt8} (h:l.length=n):bJ n l=l:=by rw [bJ,List.take_left' h]
theorem aB {w:World} {F:ah} {T:TypeId} {sz n:Nat} {v:Value} {xs:List Value} (h:Sat w (sl T sz v n xs*F)):∃ a c,v = .slice a n c:=by
 rcases h.cX with ⟨rfl,rfl,_,_⟩|⟨g,cap,cur,rfl,_⟩
 ·exact ⟨_,_,rfl⟩
 ·exact ⟨_,_,rfl⟩
theorem po {w:World} {F:ah} {T:TypeId} {sz n:Nat} {v:Value} {xs:List Value} (h:Sat w (sl T sz v n xs*F)) (hn:0<n):∃ g c,v = .slice (some ⟨g,0,none⟩) n c:=by
 rcases h.cX with ⟨rfl,rfl,_,_⟩|⟨g,cap,cur,rfl,_⟩
 ·omega
 ·exact ⟨_,_,rfl⟩
theorem eU {P:Program} {w w':World} {ops:Array Oper} {rest:List Oper} {o:Oper} {a:Act} {Q:Exit→Act→World→Prop} {v xv v':Value} {t1 t2 ty:TypeId}
  (hrun:(Builtin.copy_ #[t1,t2] ty #[v,xv]).run P w = .ok v' w') (s x:Operand)
  (hg:o.guard=none) (hty:o.type=ty) (hop:o.op=Op.call { callee:=Callee.builtin Builtin.copy,args:=#[s,x],argTypes:=#[t1,t2] })
  (hs:a.eval s=v) (hx:a.eval x=xv)
  (hK:wpList P ops Q rest (a.put o.dst v') w'):wpList P ops Q (o :: rest) a w:=by
 refine wpList_plain hg fun K hK'=>?_;subst hty hs hx;unfold Oper.wp;simp [execOp,hop,resolve,invoke,builtin,hrun,Result.andThen];exact hK' _ _ hK
theorem lx {P:Program} {ops:Array Oper} {o:Oper} {a:Act} {w w':World} {K:Act→World→Prop} {Q:Exit→Act→World→Prop} {E:Prop} {t1 t2 ty:TypeId} {dv sv v':Value}
  (hrun:(Builtin.append_ #[t1,t2] ty #[dv,sv]).run P w = .ok v' w') (hgd:o.guard=none) (d s:Operand) (hty:o.type=ty)
  (ho:o.op = .call { callee:=.builtin .append,args:=#[d,s],argTypes:=#[t1,t2] }) (hd:a.eval d=dv) (hs:a.eval s=sv)
  (h:K (a.put o.dst v') w'):if Region.wanted o (yielded ops a.tmps)=true then Oper.wp P o a w K Q else E:=by
 have hw:Region.wanted o (yielded ops a.tmps)=true:=by simp [Region.wanted,hgd]
 rw [if_pos hw];subst hty hd hs;unfold Oper.wp;simp [execOp,ho,resolve,invoke,builtin,hrun,Result.andThen];exact h
theorem enters {P : Program} {f : FuncId} {fn : Func} {c : Code} (hf : P.funcs[f]? = some fn) (hname : (fn.name == "runtime.NumGoroutine") = false) (hb : fn.body = some c) : ∀ args w, (callFunc f args).run P w = .ok (.enter f args) w := by
 intro args w;have h1 : fn.name ≠ "runtime.NumGoroutine" := by simpa using hname
 simp [callFunc,hf,h1,hb,mark]
theorem nD {P:Program} {ops:Array Oper} {o:Oper} {a:Act} {w:World} {K:Act→World→Prop} {Q:Exit→Act→World→Prop} {E:Prop} {n:FuncId} {argv:Array Value} {R:Ending→World→Prop}
  (hc:Calls P n argv w R) (heg:∀ args w,(callFunc n args).run P w = .ok (.enter n args) w) (hgd:o.guard=none) (args:Array Operand) (ts:Array TypeId)
  (ho:o.op = .call { callee:=.value (.func n),args:=args,argTypes:=ts }) (hargs:args.toList.map a.eval=argv.toList)
  (h:∀ e w',R e w'→∃ v,e = .returned v∧K (a.put o.dst v) w') :
  if Region.wanted o (yielded ops a.tmps)=true then Oper.wp P o a w K Q else E:=by
 have hw:Region.wanted o (yielded ops a.tmps)=true:=by simp [Region.wanted,hgd]
 rw [if_pos hw]
 have hargs':args.map a.eval=argv:=by
  apply Array.toList_inj.1;rw [Array.toList_map];exact hargs
 subst hargs';unfold Oper.wp
 have he:(execOp a.eval o).run P w = .ok (.enter n (args.map a.eval)) w:=by
  simp [execOp,ho,resolve,invoke,Act.eval,Deferred.ofValue,go_sem,heg]
 rw [he,Oper.upon_enter];refine hc.mono ?_;intro e w' hR;obtain ⟨v,rfl,hK⟩:=h e w' hR;exact hK
theorem Rd.shape {w:World} {v:Value} {l:List UInt8} (h:Rd w v l):∃ a c,v = .slice a l.length c:=by
 rcases h.2 with ⟨rfl,h0⟩|⟨a,c,rfl,_⟩
 ·exact ⟨_,_,by rw [h0]⟩
 ·exact ⟨_,_,rfl⟩
theorem Rd.aX {w w':World} {v:Value} {l:List UInt8} {P:ah} (h:Rd w v l) (s:Sat w' (P*whole w)):Rd w' v l:=nA.carry h fun a u hu=>s.bD hu
theorem pT (l:List UInt8):∀ v ∈ l.map u8,v.oneCell'=true:=by
 intro v hv;obtain ⟨x,_,rfl⟩:=List.mem_map.1 hv
 rfl
theorem At.take {w:World} {a:Addr} {xs:List Value} (h:At w a xs) (n:Nat):At w a (xs.take n):=fun j u hu=>h j u (by
 rw [List.getElem?_take] at hu
 split at hu
 ·exact hu
 ·cases hu)
theorem Je {P:Program} {w:World} {g:Nat} {v:Value} {l:List UInt8} {T dT:TypeId} {F:ah} (hu:P.underlying dT=some (.slice T)) (hs:(P.info? T).map (·.size)=some 1)
  (h:Sat w (pt g (.cells (dp (zs 512)) T (0,0))*F)) (hr:Rd w v l) (ty:TypeId) :
  ∃ w' v',(Builtin.copy_ #[dT,dT] ty #[.slice (some ⟨g,0,none⟩) 512 512,v]).run P w = .ok v' w'∧Sat w' (pt g (.cells (dp (bJ 512 l)) T (0,0))*F)∧ai w w':=by
 obtain ⟨hn,hr⟩:=hr;rcases hr with ⟨rfl,h0⟩|⟨a,c,rfl,ha⟩
 ·have:l=[]:=List.eq_nil_of_length_eq_zero h0
  subst this;refine ⟨w,_,run_copy_nil (P:=P) w dT dT ty T ⟨g,0,none⟩ 512 512 hu (by rw [hs];rfl),?_,ai.refl w⟩;rw [bJ,List.nil_append,List.take_of_length_le (by rw [aT];exact Nat.le_refl _)];exact h
 ·have:=run_copy_row (P:=P) w dT dT ty T g 0 512 512 a l.length c (dp (zs 512)) T ((l.take 512).map u8) hu hs h.heap (by simp [Nat.min_comm]) (by rw [List.map_take];exact ha.take 512)
   (by simp [ez,aT];omega) (pT _)
  refine ⟨_,_,this,?_,(ai.refl w).setRow _ _⟩;have h2:=h.setRow (cs':=((dp (zs 512)).toList.take 0++(l.take 512).map u8++(dp (zs 512)).toList.drop (0+((l.take 512).map u8).length)).toArray);refine h2.to ?_;congr 3;simp only [dp,bJ,zs,List.take_zero,List.nil_append,Nat.zero_add,List.length_map,List.length_take,List.map_append,List.map_take,List.take_append,List.map_replicate,List.drop_replicate,List.take_replicate,List.toList_toArray];congr 3;omega
def kH (v:Value) (w:World) (e:Ending) (w':World):Prop:=e = .returned v∧Sat w' (whole w)∧ai w w'
def cZ (n:Int) (j:Nat):List UInt8:=(List.range j).map fun i=>UInt8.ofInt (n/(256:Int) ^ i)
theorem aS (n:Int) (j:Nat):(cZ n j).length=j:=by simp [cZ]
theorem yV (n:Int) (j:Nat):cZ n (j+1)=cZ n j++[UInt8.ofInt (n/(256:Int) ^ j)]:=by simp [cZ,List.range_succ]
theorem Sat.dO {w w':World} {Q:ah} (h:Sat w' (SL.whole w)) (g:Sat w Q):Sat w' Q:=(Sat.under (h.to (cU _).symm) g).to (cU _)
def ia (l:List UInt8):Nat→Int
 | 0=>0
 | j+1=>ia l j+((l.getD j 0).toNat:Int)*(256:Int) ^ j
theorem gy (l:List UInt8) (j:Nat):0≤ia l j∧ia l j<(256:Int) ^ j:=by
 induction j with
 | zero=>simp [ia]
 | succ j ih=>
  have h1:((l.getD j 0).toNat:Int)<256:=by have:=UInt8.toNat_lt (l.getD j 0);omega
  have h0:0≤((l.getD j 0).toNat:Int):=by omega
  have hp:0<(256:Int) ^ j:=Int.pow_pos (by decide);rw [ia,Int.pow_succ];generalize ((l.getD j 0).toNat:Int)=x at *;generalize (256:Int) ^ j=p at *;have h2:0≤x*p:=Int.mul_nonneg h0 (by omega);have h3:x*p≤255*p:=Int.mul_le_mul_of_nonneg_right (by omega) (by omega);omega
theorem ve {j:Nat} (h:j≤6):(256:Int) ^ j≤281474976710656:=by
 obtain rfl|rfl|rfl|rfl|rfl|rfl|rfl:j=0∨j=1∨j=2∨j=3∨j=4∨j=5∨j=6:=by omega
 all_goals decide
theorem I3 {a x:Int} {i:Nat} (ha0:0≤a) (ha:a<2 ^ i) (hx0:0≤x) (hs:x*2 ^ i+a<18446744073709551616):bits .or .u64 a (x*2 ^ i)=a+x*2 ^ i:=by
 obtain ⟨A,rfl⟩:=Int.eq_ofNat_of_zero_le ha0;obtain ⟨X,rfl⟩:=Int.eq_ofNat_of_zero_le hx0;have e2:(X:Int)*2 ^ i=((2 ^ i*X:Nat):Int):=by rw [Nat.mul_comm];simp
 rw [e2] at hs ⊢
 have hA:A<2 ^ i:=by
  have:((2 ^ i:Nat):Int)=(2:Int) ^ i:=by simp
  omega
 have hor:=Nat.two_pow_add_eq_or_of_lt hA X;show IntKind.u64.wrap ((BitVec.ofInt 64 (A:Int) ||| BitVec.ofInt 64 ((2 ^ i*X:Nat):Int)).toNat:Nat)=_
 rw [BitVec.toNat_or,BitVec.toNat_ofInt,BitVec.toNat_ofInt];have f1:((A:Int)%((2 ^ 64:Nat):Int)).toNat=A:=by omega
 have f2:(((2 ^ i*X:Nat):Int)%((2 ^ 64:Nat):Int)).toNat=2 ^ i*X:=by omega
 rw [f1,f2,Nat.or_comm,← hor,IntKind.wrap_u64];omega
theorem MG (l:List UInt8) (off j:Nat) (hj:j<6) :
  bits .or .u64 (ia (l.drop off) j) (IntKind.u64.wrap (IntKind.u64.wrap ((l[off+j]?.getD 0).toNat:Int)*2 ^ (8*j)))=ia (l.drop off) (j+1):=by
 have hx1:((l[off+j]?.getD 0).toNat:Int)<256:=by have:=UInt8.toNat_lt (l[off+j]?.getD 0);omega
 have hx0:0≤((l[off+j]?.getD 0).toNat:Int):=by omega
 obtain ⟨r0,r1⟩:=gy (l.drop off) j;have hd:(l.drop off).getD j 0=l[off+j]?.getD 0:=by simp [List.getD]
 rw [ia,hd];have hpow:(256:Int) ^ j=2 ^ (8*j):=by rw [Int.pow_mul];rfl
 have hp:=ve (j:=j) (by omega);have hp0:0<(256:Int) ^ j:=Int.pow_pos (by decide);generalize ((l[off+j]?.getD 0).toNat:Int)=x at *;rw [hpow] at r1 hp hp0 ⊢;have h2:0≤x*2 ^ (8*j):=Int.mul_nonneg hx0 (by omega);have h3:x*2 ^ (8*j)≤255*2 ^ (8*j):=Int.mul_le_mul_of_nonneg_right (by omega) (by omega);have e1:IntKind.u64.wrap x=x:=by rw [IntKind.wrap_u64];omega
 have e2:IntKind.u64.wrap (x*2 ^ (8*j))=x*2 ^ (8*j):=by rw [IntKind.wrap_u64];omega
 rw [e1,e2];exact I3 r0 r1 hx0 (by omega)
theorem uE (n:Int) (j:Nat):n%(256:Int) ^ (j+1)=n%(256:Int) ^ j+(n/(256:Int) ^ j%256)*(256:Int) ^ j:=by
 have hp:0<(256:Int) ^ j:=Int.pow_pos (by decide);rw [Int.pow_succ];generalize (256:Int) ^ j=p at hp;have h1:=Int.emod_add_mul_ediv n p;have h2:=Int.emod_add_mul_ediv (n/p) 256;have h3:=Int.emod_nonneg n (by omega:p≠0);have h4:=Int.emod_lt_of_pos n hp;have h5:=Int.emod_nonneg (n/p) (by decide:(256:Int)≠0);have h6:=Int.emod_lt_of_pos (n/p) (by decide:(0:Int)<256);have h7:0≤(n/p%256)*p:=Int.mul_nonneg h5 (by omega);have h8:(n/p%256)*p≤255*p:=Int.mul_le_mul_of_nonneg_right (by omega) (by omega)
 have e:n=(n%p+(n/p%256)*p)+(p*256)*(n/p/256):=by
  have h9:p*(n/p)=(n/p%256)*p+(p*256)*(n/p/256):=by
   conv=>lhs;rw [← h2]
   rw [Int.mul_add,← Int.mul_assoc,Int.mul_comm p]
  omega
 generalize hq:n/p/256=q at e;generalize hx:n%p+n/p%256*p=x at e;have h10:0≤x:=by omega
 have h11:x<p*256:=by omega
 rw [e,Int.add_mul_emod_self_left,Int.emod_eq_of_lt h10 h11]
theorem HU (n:Int):((UInt8.ofInt n).toNat:Int)=n%256:=by
 simp [UInt8.ofInt,UInt8.toNat_ofNat'];omega
theorem lo (n:Int) (s:Nat) (rest:List UInt8):∀ j,j≤s→ia (cZ n s++rest) j=n%(256:Int) ^ j:=by
 intro j
 induction j with
 | zero=>intro _;simp [ia]
 | succ j ih=>
  intro hj;rw [ia,ih (by omega),uE];congr 1
  have:(cZ n s++rest).getD j 0=UInt8.ofInt (n/(256:Int) ^ j):=by
   rw [List.getD,List.getElem?_append_left (by rw [aS];omega)];simp [cZ,List.getElem?_map,List.getElem?_range (show j<s by omega)]
  rw [this,HU]
def ints (l:List Int):Array Value:=(l.map (Value.int .i64)).toArray
theorem dw (l:List Int):(ints l).size=l.length:=by simp [ints]
theorem dm (l:List Int) (i:Nat):(ints l)[i]?=l[i]?.map (Value.int .i64):=by simp [ints]
theorem fZ (l:List Int) (i:Nat) (x:Int):(ints l).setIfInBounds i (.int .i64 x)=ints (l.set i x):=by simp [ints,List.map_set]
theorem bA {l:List Int} {i:Nat} (h:i<l.length):(ints l)[i]?=some (.int .i64 (l.getD i 0)):=by
 rw [dm,List.getD,List.getElem?_eq_getElem h];rfl
theorem EN (n:Nat):madeCells (Value.int .i64 0).cells (n*1)=ints (List.replicate n 0):=by
 apply Array.ext
 ·simp [size_madeCells,dw]
 ·intro i h1 h2
  simp [madeCells,ints,Value.cells,Nat.mod_one]
def mr (n:Int) (w:World) (e:Ending) (w':World):Prop:=e = .returned (.int .i64 n)∧w=w'
abbrev ax (b:Nat):Value:=.pointer (some ⟨b,0,none⟩)
def nC (w:World) (v:Value) (l:List Int):Prop:=
 (∃ x c,v = .slice x 0 c∧l=[])∨∃ g o c,v = .slice (some ⟨g,o,none⟩) l.length c∧l.length≤c∧c≤maxLen∧∀ k,k<l.length→w.cell? ⟨g,o+k,none⟩=some (.int .i64 (l.getD k 0))
def fp:Array Value→Nat→List Value→Array Value
 | cs,_,[]=>cs
 | cs,o,v :: vs=>fp (cs.setIfInBounds o v) (o+1) vs
theorem sb:∀ (vs:List Value) (cs:Array Value) (o:Nat),(fp cs o vs).size=cs.size
 | [],cs,o=>rfl
 | v :: vs,cs,o=>by rw [fp,sb vs];simp
theorem il:∀ (vs:List Value) (cs:Array Value) (o k:Nat),o+vs.length≤cs.size→(fp cs o vs)[k]?=if o≤k∧k<o+vs.length then vs[k-o]? else cs[k]?
 | [],cs,o,k,h=>by rw [fp,if_neg (by simp)]
 | v :: vs,cs,o,k,h=>by
  simp only [List.length_cons] at h;rw [fp,il vs _ (o+1) k (by simp;omega)]
  by_cases h1:k=o
  ·subst h1
   rw [if_neg (by omega),if_pos (by simp)];simp [Array.getElem?_setIfInBounds,show k<cs.size by omega]
  ·by_cases h2:o≤k∧k<o+(v :: vs).length
   ·simp only [List.length_cons] at h2
    rw [if_pos (by omega),if_pos (by simp only [List.length_cons];omega)];rw [show k-o=(k-(o+1))+1 by omega,List.getElem?_cons_succ]
   ·simp only [List.length_cons] at h2
    rw [if_neg (by omega),if_neg (by simp only [List.length_cons];omega)];rw [Array.getElem?_setIfInBounds,if_neg (by omega)]
theorem Sat.setCells:∀ (vs:List Value) (o:Nat) {w:World} {g:Nat} {cs:Array Value} {T:TypeId} {F:ah},Sat w (pt g (.cells cs T (0,0))*F)→Sat (w.setCells g o vs) (pt g (.cells (fp cs o vs) T (0,0))*F)
 | [],o,w,g,cs,T,F,h=>h
 | v :: vs,o,w,g,cs,T,F,h=>Sat.setCells vs (o+1) (h.setCell o v)
theorem ai.setCells:∀ (vs:List Value) (o:Nat) {a b:World} (g:Nat),ai a b→ai a (b.setCells g o vs)
 | [],o,a,b,g,h=>h
 | v :: vs,o,a,b,g,h=>ai.setCells vs (o+1) g (h.setCell ⟨g,o,none⟩ v)
theorem Sat.there {w:World} {g:Nat} {cs:Array Value} {T:TypeId} {F:ah} (h:Sat w (pt g (.cells cs T (0,0))*F)) {o n:Nat} (hn:o+n≤cs.size):w.there g o n:=fun j hj=>
 ⟨by rw [h.cell,Array.getElem?_eq_getElem (by omega)];rfl,h.frozen _⟩
end Go.SL
namespace Go.Ba
open Go.RowKit Go.SL
theorem gg:(Tryz.prog.info? 5).map (fun i=>(i.zero,i.size,i.bytes))=some (some (.int .u8 0),1,1):=by kernel_rfl
theorem er (n:Nat) (hn:n≤281474976710656) (w:World):(Instr.makeSlice 37 (.int .i64 n) (.int .i64 n)).run Tryz.prog w =
  .ok (.slice (some ⟨w.heap.size,0,none⟩) n n) (w.alloc (.cells (dp (zs n)) 5 (0,0))):=by
 obtain ⟨i,hi,hz,hs,hb⟩:=info_parts gg;have:=run_make (P:=Tryz.prog) w 37 5 i _ Tryz.underlying37 hi hz .i64 .i64 n n (by omega) (by omega) (by rw [hb];omega) (by omega);rw [this,hs];simp only [Int.toNat_natCast];rw [iS]
def O7 (w:World) (l:List UInt8) (e:Ending) (w':World):Prop:=∃ v,e = .returned v∧Sat w' (bs 5 v l*whole w)∧ai w w'
theorem iY (w:World) (v:Value) (l:List UInt8) (hr:Rd w v l) (hl:l.length≤1000000000) :
  Calls Tryz.prog 183 #[v] w (O7 w l):=by
 obtain ⟨i0,hi,hz,hs0,hb0⟩:=info_parts gg;obtain ⟨hlen,hr⟩:=hr;rcases hr with ⟨rfl,h0⟩|⟨a,c,rfl,ha⟩
 ·have:l=[]:=List.eq_nil_of_length_eq_zero h0
  subst this;have hq:=fun w=>Lib.run_eql_slice_nil (P:=Tryz.prog) w 37 5 none 0 0 0 0 Tryz.underlying37;clear hl
  go_enter Tryz.func183,Tryz.ntmps183
  go_wp2
  go_ret
  exact ⟨_,rfl,(Sat.whole w).eA _ _,ai.refl w⟩
 ·have hR:nA (w.alloc (.cells #[] 5 (0,0))) 1 (.slice (some a) l.length c) l.length (l.map u8):=
   nA.alloc ⟨hlen,.inr ⟨a,c,rfl,ha⟩⟩ _
  have hA:=(Sat.whole w).alloc (.cells #[] 5 (0,0));have hA':=Sat.l7 (n:=0) (cap:=0) (sz:=1) hA (Nat.le_refl _) (by decide) rfl;obtain ⟨v',w',hrun,hsat',hside'⟩:=Sat.append (P:=Tryz.prog) (ty:=37) Tryz.underlying37 hi hz hs0 hb0 rfl hA' hR (by simp [u8,Value.oneCell']) (by unfold maxLen;omega) (by omega);have Hrun:=ae hrun;clear hrun hA hA' hR hi hz hs0 hb0 hl;have hq:=fun w=>Lib.run_eql_slice_nil (P:=Tryz.prog) w 37 5 (some a) l.length c 0 0 Tryz.underlying37
  go_enter Tryz.func183,Tryz.ntmps183
  go_wp2_with (at_builtin;refine wpList_append_run Hrun.out _ _ rfl rfl rfl rfl rfl ?_)
  go_ret
  refine ⟨v',rfl,hsat'.to ?_,((ai.refl w).alloc _).trans hside'⟩;simp [bs]
def LD (w:World) (M:KV) (e:Ending) (w':World):Prop:=∃ c D,e = .returned (.map (some c))∧D.Perm M∧Sat w' (mp c D*whole w)∧ai w w'
def E6 (w:World) (b:Nat) (o:Obj) (M:KV) (k:Nat) (wr:World):Prop:=
 ∃ D it,M.length≤D.length+k∧Iter b o M D it∧Sat wr (pt (w.heap.size+1) it*(mp w.heap.size D*whole w))∧ai w wr
theorem kT (w:World) (v:Value) (M:KV) (hr:Q5 w v M) :
  Calls Tryz.prog 180 #[v] w (LD w M):=by
 have hmm:=@iq Tryz.prog _ _ _ Tryz.underlying172;rcases hr with ⟨rfl,rfl⟩|⟨b,o,rfl,hb,hm⟩
 ·have hrg:∀ w,(Instr.range 172 (.map none)).run Tryz.prog w = .ok (.pointer (some ⟨w.heap.size,0,none⟩)) (w.alloc (.mapIter none 0 #[] 0)):=by
   intro w;simp [Instr.range,run_underlying Tryz.underlying172]
  have hnx:∀ ty,(Instr.next (.pointer (some ⟨w.heap.size+1,0,none⟩)) false ty).run Tryz.prog ((w.alloc (.map #[] 0)).alloc (.mapIter none 0 #[] 0)) = .ok (.tuple #[.bool false]) ((w.alloc (.map #[] 0)).alloc (.mapIter none 0 #[] 0)):=by
   intro ty;have:=(Sat.whole (w.alloc (.map #[] 0))).alloc (.mapIter none 0 #[] 0);have h:=this.heap;rw [World.size_alloc] at h;simp only [Instr.next,getObj,Sem.run_bind,Sem.run,h,Result.andThen]
   rfl
  go_enter Tryz.func180,Tryz.ntmps180
  go_wp2
  refine wp_loop_rounds 1 ?_;rw [rounds_succ]
  go_wp2
  go_ret
  exact ⟨_,[],rfl,List.Perm.refl _,(((Sat.whole w).alloc (.map #[] 0)).tH isMap_empty |>.alloc (.mapIter none 0 #[] 0)).right,((ai.refl w).alloc _).alloc _⟩
 ·have hA:=((Sat.whole w).alloc (.map #[] 0)).tH isMap_empty
  have hb1:(w.alloc (.map #[] 0)).heap[b]?=some o:=hA.CZ hb;obtain ⟨it,hrg,hit⟩:=nG (P:=Tryz.prog) Tryz.underlying172 hb1 hm;rw [World.size_alloc] at hrg;have hln:=Ag (P:=Tryz.prog) hb hm Tryz.underlying172 3;have H1:=ae hb1;clear hb1
  go_enter Tryz.func180,Tryz.ntmps180
  go_wp2
  go_loopg [] M.length (fun k wr=>E6 w b o M k wr)
  case atStart=>
   have h2:=hA.alloc it;rw [World.size_alloc] at h2;exact ⟨[],it,by simp,hit,h2,((ai.refl w).alloc _).alloc _⟩
  case round=>
   obtain ⟨D,it',hlen,hit',hsat,hside⟩:=hrel;clear hrg hmm hln;have hbr:wr.heap[b]?=some o:=(hsat.to (aw _ _ _).symm).CZ hb;rcases hsat.next (P:=Tryz.prog) hbr hit' with ⟨hperm,hnx⟩|⟨p,it2,w2,hp,hpD,hnx,hsat2,hit2,hside2,hb2,hen⟩
   ·have Hp:=ae hperm;clear hperm
    go_wp2
    go_ret
    exact ⟨_,D,rfl,Hp.out,hsat.right,hside⟩
   ·obtain ⟨w3,hup,hsat3,hside3,_⟩:=Sat.mapUpdate (P:=Tryz.prog) Tryz.underlying172 Tryz.underlying3 (hsat2.to (aD _ _ _)) p.1 p.2
    clear hbr
    go_wp2
    have hle:=CM hit2;rw [List.length_append,List.length_singleton] at hle
    go_roundg (gk-1)
    case measure=>omega
    case rel=>
     refine ⟨D++[p],it2,by simp;omega,hit2,?_,(hside.trans hside2).trans hside3⟩;rw [KN hpD] at hsat3;exact hsat3.to (aD _ _ _)
end Go.Ba
namespace Go.SL
open Go.RowKit
abbrev CB:=List (Int × List UInt8)
def aJ (T:TypeId) (S:Hp) (v:Value) (sh:Bool) (C:CB):ah:=fun h=>∃ Z:List (Int × Value × List UInt8),
  (Z.map fun z=>(z.1,z.2.2)).Perm C∧(Z.map Prod.fst).Nodup∧(∀ z ∈ Z,oV T S z.2.1 z.2.2) ∧
  ((v = .map none∧Z=[]∧h=fun _=>none) ∨
   (∃ m o,v = .map (some m)∧sh=true∧S m=some o∧IsMap o (Z.map fun z=>(z.1,z.2.1))∧h=fun _=>none) ∨
   (∃ m,v = .map (some m)∧sh=false∧mp m (Z.map fun z=>(z.1,z.2.1)) h))
theorem gv {T:TypeId} {S S':Hp} {v:Value} {sh:Bool} {C:CB} (e:Ext S S') (h:Hp) (b:aJ T S v sh C h):aJ T S' v sh C h:=by
 obtain ⟨Z,h1,h2,h3,h4⟩:=b;refine ⟨Z,h1,h2,fun z hz=>(h3 z hz).mono e,?_⟩;rcases h4 with h4|⟨m,o,h5,h6,h7,h8⟩|h4
 ·exact .inl h4
 ·exact .inr (.inl ⟨m,o,h5,h6,e _ _ h7,h8⟩)
 ·exact .inr (.inr h4)
theorem EK (T:TypeId) (S:Hp) (sh:Bool):aJ T S (.map none) sh [] (fun _=>none):=⟨[],List.Perm.refl _,List.nodup_nil,by simp,.inl ⟨rfl,rfl,rfl⟩⟩
theorem Sat.kr {T:TypeId} {w:World} {S:Hp} {v:Value} {sh:Bool} {C:CB} {F:ah} (h:Sat w (aJ T S v sh C*(aj S*F))) :
    ∃ Z:List (Int × Value × List UInt8),(Z.map fun z=>(z.1,z.2.2)).Perm C∧(Z.map Prod.fst).Nodup∧(∀ z ∈ Z,oV T S z.2.1 z.2.2) ∧
      Q5 w v (Z.map fun z=>(z.1,z.2.1)) ∧
      ((v = .map none∧Sat w (aj S*F))∨(sh=true∧Sat w (aj S*F)) ∨
       (∃ m,v = .map (some m)∧sh=false∧Sat w (mp m (Z.map fun z=>(z.1,z.2.1))*(aj S*F)))):=by
  obtain ⟨k,a,h1,h2,⟨Z,z1,z2,z3,z4⟩,f,d,rfl⟩:=h;have hr:Sat w (aj S*F):=⟨h2,fun b o hb=>a b o (by rcases d b with e|e <;> simp_all [join]),f⟩
  refine ⟨Z,z1,z2,z3,?_,?_⟩
  · rcases z4 with ⟨rfl,rfl,_⟩|⟨m,o,rfl,_,hm,ho,_⟩|⟨m,rfl,_,hm⟩
    · exact .inl ⟨rfl,rfl⟩
    · exact .inr ⟨m,o,rfl,hr.Di hm,ho⟩
    · obtain ⟨o,ho,rfl⟩:=hm
      exact .inr ⟨m,o,rfl,a m o (by simp [join,one]),ho⟩
  · rcases z4 with ⟨rfl,rfl,_⟩|⟨m,o,rfl,rfl,hm,ho,_⟩|⟨m,rfl,rfl,hm⟩
    · exact .inl ⟨rfl,hr⟩
    · exact .inr (.inl ⟨rfl,hr⟩)
    · exact .inr (.inr ⟨m,rfl,rfl,_,a,h1,h2,hm,f,d,rfl⟩)
theorem Sat.wW {T:TypeId} {w:World} {S:Hp} {C:CB} {F:ah} {m:Nat} {Z:List (Int × Value × List UInt8)} (h:Sat w (mp m (Z.map fun z=>(z.1,z.2.1))*F))
  (h1:(Z.map fun z=>(z.1,z.2.2)).Perm C) (h2:(Z.map Prod.fst).Nodup) (h3:∀ z ∈ Z,oV T S z.2.1 z.2.2):Sat w (aJ T S (.map (some m)) false C*F):=
 h.fh fun k hk=>⟨Z,h1,h2,h3,.inr (.inr ⟨m,rfl,rfl,hk⟩)⟩
structure Bx where
 wv:Value
 ws:Bool
 tv:Value
 ts:Bool
 av:Value
def eP (av:Value):ah:=fun h=>(av = .map none∧h=fun _=>none)∨∃ m,av = .map (some m)∧mp m [] h
def Bx.cells (x:Bx) (rd:Value) (err:Int):Array Value:=#[rd,.int .i64 err,x.wv,.bool x.ws,x.tv,.bool x.ts,x.av]
def az (TB T:TypeId) (S:Hp) (b:Nat) (rd:Value) (err:Int) (W D:CB):ah:=
 ex fun x:Bx=>pt b (.cells (x.cells rd err) TB (0,0))*(aJ T S x.wv x.ws W*(aJ T S x.tv x.ts D*eP x.av))
theorem Sat.dH {w:World} {TB T:TypeId} {S:Hp} {b:Nat} {rd:Value} {err:Int} {W D:CB} {F:ah} (h:Sat w (az TB T S b rd err W D*F)) :
  ∃ x:Bx,Sat w (pt b (.cells (x.cells rd err) TB (0,0))*(aJ T S x.wv x.ws W*(aJ T S x.tv x.ts D*(eP x.av*F)))):=by
 obtain ⟨x,h⟩:=Sat.au.1 h;exact ⟨x,h.to (by ac_rfl)⟩
theorem Sat.gE {w:World} {TB T:TypeId} {S:Hp} {b:Nat} {rd:Value} {err:Int} {W D:CB} {F:ah} (x:Bx)
  (h:Sat w (pt b (.cells (x.cells rd err) TB (0,0))*(aJ T S x.wv x.ws W*(aJ T S x.tv x.ts D*(eP x.av*F))))):Sat w (az TB T S b rd err W D*F):=
 Sat.au.2 ⟨x,h.to (by ac_rfl)⟩
theorem dD {TB T:TypeId} {S S':Hp} {b:Nat} {rd:Value} {err:Int} {W D:CB} (e:Ext S S') (h:Hp) (p:az TB T S b rd err W D h):az TB T S' b rd err W D h:=by
 obtain ⟨x,h1,h2,p1,⟨h3,h4,p3,⟨h5,h6,p5,p6,d6,j6⟩,d4,j4⟩,d2,j2⟩:=p;exact ⟨x,h1,h2,p1,⟨h3,h4,gv e _ p3,⟨h5,h6,gv e _ p5,p6,d6,j6⟩,d4,j4⟩,d2,j2⟩
theorem Sat.Jn {w w1:World} {T:TypeId} {S:Hp} {b:Nat} {o:Obj} {x:Bx} {W D:CB} {F:ah} {v:Value} {l:List UInt8}
  (hx:Sat w (pt b o*(aJ T S x.wv x.ws W*(aJ T S x.tv x.ts D*(eP x.av*(aj S*F))))))
  (hs:Sat w1 (bs T v l*SL.whole w)) (hl:small l) :
  ∃ S',Ext S S'∧oV T S' v l∧Sat w1 (pt b o*(aJ T S' x.wv x.ws W*(aj S'*(aJ T S' x.tv x.ts D*(eP x.av*F))))) ∧
   Sat w1 (pt b o*(aJ T S' x.tv x.ts D*(aj S'*(aJ T S' x.wv x.ws W*(eP x.av*F))))):=by
 have h1:=hs.under hx;obtain ⟨S',hE,hV,h2⟩:=Sat.xM (S:=S) (F:=pt b o*(aJ T S x.wv x.ws W*(aJ T S x.tv x.ts D*(eP x.av*F)))) (h1.to (by ac_rfl)) hl;refine ⟨S',hE,hV,?_⟩;have h3:Sat w1 (aJ T S x.wv x.ws W*(pt b o*(aJ T S x.tv x.ts D*(eP x.av*(aj S'*F))))):=h2.to (by ac_rfl);have h4:=h3.fh (gv hE);have h5:Sat w1 (aJ T S x.tv x.ts D*(pt b o*(aJ T S' x.wv x.ws W*(eP x.av*(aj S'*F))))):=h4.to (by ac_rfl);have h6:=h5.fh (gv hE);exact ⟨h6.to (by ac_rfl),h6.to (by ac_rfl)⟩
theorem zg {P:Program} {w:World} {t kt e:TypeId} {k:IntKind} (ht:P.underlying t=some (.map kt e)) (hk:P.underlying kt=some (.int k)) {z:Value} (hz:(zeroValue e).run P w = .ok z w)
  {v:Value} {M:KV} (h:Q5 w v M) (x:Int) (ok:Bool) :
  (Instr.lookup t v (.int .i64 x) ok).run P w = .ok (if ok then .tuple #[(aH M x).getD z,.bool (aH M x).isSome] else (aH M x).getD z) w:=by
 rcases h with ⟨rfl,rfl⟩|⟨b,o,rfl,hb,hm⟩
 ·rw [jq ht hk hz];rfl
 ·exact gK ht hk hz hb hm x ok
theorem Sat.jr {P:Program} {T:TypeId} {w:World} {S:Hp} {v:Value} {sh:Bool} {C:CB} {F:ah} (h:Sat w (aJ T S v sh C*(aj S*F)))
  {t kt e:TypeId} {k:IntKind} (ht:P.underlying t=some (.map kt e)) (hk:P.underlying kt=some (.int k)) (hz:(zeroValue e).run P w = .ok (.slice none 0 0) w) (id:Int) :
  (aH C id=none→(Instr.lookup t v (.int .i64 id) true).run P w = .ok (.tuple #[.slice none 0 0,.bool false]) w) ∧
  (∀ l,aH C id=some l→∃ dv,(Instr.lookup t v (.int .i64 id) true).run P w = .ok (.tuple #[dv,.bool true]) w∧oV T S dv l):=by
 obtain ⟨Z,z1,z2,z3,hrd,_⟩:=h.kr
 have hC:aH C id=(aH Z id).map fun z=>z.2:=by
  rw [← mM z1 (by rw [List.map_map];exact z2),ju (fun z:Value × List UInt8=>z.2)]
 have hL:aH (Z.map fun z=>(z.1,z.2.1)) id=(aH Z id).map fun z=>z.1:=ju (fun z:Value × List UInt8=>z.1) Z id;rw [zg ht hk hz hrd id true,hL];constructor
 ·intro hn
  have:aH Z id=none:=by rw [hC] at hn;simpa using hn
  rw [this];rfl
 ·intro l hl
  rw [hC] at hl;obtain ⟨z,hz,rfl⟩:=Option.map_eq_some_iff.1 hl;exact ⟨z.1,by rw [hz];rfl,z3 _ (lZ hz)⟩
theorem Sat.rP {T:TypeId} {w:World} {S:Hp} {v:Value} {sh:Bool} {C:CB} {F:ah} (h:Sat w (aJ T S v sh C*F)):∃ r,v = .map r:=by
 obtain ⟨k,a,h1,h2,⟨Z,z1,z2,z3,z4⟩,f,d,rfl⟩:=h;rcases z4 with ⟨rfl,_⟩|⟨m,o,rfl,_⟩|⟨m,rfl,_⟩ <;> exact ⟨_,rfl⟩
theorem Sat.wb {T:TypeId} {w:World} {S:Hp} {v:Value} {sh:Bool} {C:CB} {F:ah} (h:Sat w (aJ T S v sh C*(aj S*F))) :
  ∃ S',Ext S S'∧Sat w (aJ T S' v true C*(aJ T S' v true C*(aj S'*F))):=by
 obtain ⟨k,a,h1,h2,⟨Z,z1,z2,z3,z4⟩,f,d,rfl⟩:=h;have hr:Sat w (aj S*F):=⟨h2,fun b o hb=>a b o (by rcases d b with e|e <;> simp_all [join]),f⟩
 have two:∀ {S':Hp} {G:ah},(aJ T S' v true C (fun _=>none))→Sat w G→Sat w (aJ T S' v true C*G):=fun p q=>(q.to (cU _).symm).fh fun k hk=>by rw [hk];exact p
 rcases z4 with ⟨rfl,rfl,_⟩|⟨m,o,rfl,rfl,hm,ho,_⟩|⟨m,rfl,rfl,hm⟩
 ·have p:aJ T S (.map none) true C (fun _=>none):=⟨[],z1,z2,z3,.inl ⟨rfl,rfl,rfl⟩⟩
  exact ⟨S,Ext.refl S,two p (two p hr)⟩
 ·have p:aJ T S (.map (some m)) true C (fun _=>none):=⟨Z,z1,z2,z3,.inr (.inl ⟨m,o,rfl,rfl,hm,ho,rfl⟩)⟩
  exact ⟨S,Ext.refl S,two p (two p hr)⟩
 ·obtain ⟨o,ho,rfl⟩:=hm
  have hs:Sat w (aj S*(pt m o*F)):=Sat.to (⟨_,a,one m o,h2,rfl,f,d,rfl⟩:Sat w (pt m o*(aj S*F))) (aD _ _ _);obtain ⟨h3,h4⟩:=hs.CV;have p:aJ T (join S (one m o)) (.map (some m)) true C (fun _=>none):=⟨Z,z1,z2,fun z hz=>(z3 z hz).mono (uq _ _ _),.inr (.inl ⟨m,o,rfl,rfl,h4,ho,rfl⟩)⟩
  exact ⟨_,uq _ _ _,two p (two p h3)⟩
theorem Sat.zS {T:TypeId} {w:World} {S:Hp} {v v':Value} {sh sh':Bool} {C C':CB} {F:ah} (h:Sat w (aJ T S v sh C*(aJ T S v' sh' C'*(aj S*F)))) :
  ∃ S',Ext S S'∧Sat w (aJ T S' v true C*(aJ T S' v true C*(aJ T S' v' true C'*(aJ T S' v' true C'*(aj S'*F))))):=by
 obtain ⟨S1,e1,h1⟩:=Sat.wb (T:=T) (S:=S) (v:=v) (sh:=sh) (C:=C) (F:=aJ T S v' sh' C'*F) (h.to (by ac_rfl));have h2:Sat w (aJ T S1 v' sh' C'*(aJ T S1 v true C*(aJ T S1 v true C*(aj S1*F)))):=Sat.fh (P:=aJ T S v' sh' C') (h1.to (by ac_rfl)) (gv e1);obtain ⟨S2,e2,h3⟩:=Sat.wb (T:=T) (S:=S1) (v:=v') (sh:=sh') (C:=C') (F:=aJ T S1 v true C*(aJ T S1 v true C*F)) (h2.to (by ac_rfl));have h4:Sat w (aJ T S2 v true C*(aJ T S1 v true C*(aJ T S2 v' true C'*(aJ T S2 v' true C'*(aj S2*F))))):=Sat.fh (P:=aJ T S1 v true C) (h3.to (by ac_rfl)) (gv e2);have h5:Sat w (aJ T S2 v true C*(aJ T S2 v true C*(aJ T S2 v' true C'*(aJ T S2 v' true C'*(aj S2*F))))):=Sat.fh (P:=aJ T S1 v true C) (h4.to (by ac_rfl)) (gv e2);exact ⟨S2,e1.trans e2,h5⟩
end Go.SL
namespace Go.Ba
open Go.RowKit Go.SL
def QL (S:Hp) (b o:Nat) (cs:Array Value) (C:CB) (id:Int) (l:List UInt8) (F:ah) (w:World) (e:Ending) (w':World):Prop:=
 ∃ m,e = .returned (.tuple #[])∧Sat w' (pt b (.cells ((cs.setIfInBounds o (.map (some m))).setIfInBounds (o+1) (.bool false)) 176 (0,0))*(aJ 5 S (.map (some m)) false (SL.fw C id l)*(aj S*F)))∧ai w w'
theorem zP {cs:Array Value} {o:Nat} {v:Value} (h:cs[o]?=some v):cs.setIfInBounds o v=cs:=by
 apply Array.ext_getElem?;intro i;rw [Array.getElem?_setIfInBounds]
 split
 ·rename_i e;subst e;split
  ·exact h.symm
  ·rename_i h2;exact absurd (Array.getElem?_eq_some_iff.1 h).1 h2
 ·rfl
theorem qB {α β:Type} (f:α→β) {D E:List β} (h:D.Perm E):∀ {Z:List α},Z.map f=E→∃ Z':List α,Z'.Perm Z∧Z'.map f=D:=by
 induction h with
 | nil=>intro Z e;exact ⟨Z,List.Perm.refl _,e⟩
 | cons x h ih=>
  intro Z e
  cases Z with
  | nil=>cases e
  | cons z Z=>
   simp only [List.map_cons,List.cons.injEq] at e;obtain ⟨Z',h1,h2⟩:=ih e.2;exact ⟨z :: Z',h1.cons z,by simp [h2,e.1]⟩
 | swap x y l=>
  intro Z e
  match Z,e with
  | a :: c :: Z,e=>
   simp only [List.map_cons,List.cons.injEq] at e;exact ⟨c :: a :: Z,List.Perm.swap _ _ _,by simp [e.1,e.2.1,e.2.2]⟩
 | trans h1 h2 ih1 ih2=>
  intro Z e;obtain ⟨Z1,p1,e1⟩:=ih2 e;obtain ⟨Z2,p2,e2⟩:=ih1 e1;exact ⟨Z2,p2.trans p1,e2⟩
theorem oI {Z:List (Int × Value × List UInt8)} {C:CB} {S:Hp} {T:TypeId} (h1:(Z.map fun z=>(z.1,z.2.2)).Perm C) (h2:(Z.map Prod.fst).Nodup) (h3:∀ z ∈ Z,oV T S z.2.1 z.2.2) (id:Int) {dv:Value} {l:List UInt8} (hv:oV T S dv l) :
  ((SL.fw Z id (dv,l)).map fun z=>(z.1,z.2.2)).Perm (SL.fw C id l)∧((SL.fw Z id (dv,l)).map Prod.fst).Nodup∧(∀ z ∈ SL.fw Z id (dv,l),oV T S z.2.1 z.2.2) ∧
  SL.fw (Z.map fun z=>(z.1,z.2.1)) id dv=(SL.fw Z id (dv,l)).map fun z=>(z.1,z.2.1):=by
 refine ⟨?_,qI h2 _ _,?_,?_⟩
 ·rw [← xA (fun z:Value × List UInt8=>z.2) Z id (dv,l)]
  exact Jd h1 (by rw [List.map_map];exact h2) id l
 ·intro z hz
  rcases xK hz with rfl|hz
  ·exact hv
  ·exact h3 z hz
 ·exact xA (fun z:Value × List UInt8=>z.1) Z id (dv,l)
theorem eM (w:World) (S:Hp) (b o:Nat) (cs:Array Value) (bv:Value) (sh:Bool) (C:CB) (id:Int) (dv:Value) (l:List UInt8) (F:ah)
  (h:Sat w (pt b (.cells cs 176 (0,0))*(aJ 5 S bv sh C*(aj S*F)))) (h0:cs[o]?=some bv) (h1:cs[o+1]?=some (.bool sh)) (hv:oV 5 S dv l) :
  Calls Tryz.prog 207 #[.pointer (some ⟨b,o,none⟩),.int .i64 id,dv] w (QL S b o cs C id l F w):=by
 have hc0:w.cell? ⟨b,o,none⟩=some bv:=(h.cell o).trans h0;have hc1:w.cell? ⟨b,o+1,none⟩=some (.bool sh):=(h.cell (o+1)).trans h1;have hf0:∀ o,w.frozen? ⟨b,o,none⟩=false:=h.frozen;have hneq:o≠o+1:=by omega
 obtain ⟨Z,z1,z2,z3,hrd,hcase⟩:=(h.to (by ac_rfl:_=aJ 5 S bv sh C*(aj S*(pt b (.cells cs 176 (0,0))*F)))).kr;rcases hcase with ⟨rfl,hs⟩|⟨rfl,hs⟩|⟨m,rfl,rfl,hs⟩
 ·skip
  have hnil:∀ w,(binOp .eql 172 (.map none) (.map none)).run Tryz.prog w = .ok (.bool true) w:=fun w=>run_eql_map_nil (P:=Tryz.prog) w 172 3 37 _ Tryz.underlying172;have hlt:b<w.heap.size:=h.lt;have H:=ae h0;have H1:=ae h1;clear h0 h1;have hne:(o == o+1)=false:=by simp
  go_enter Tryz.func207,Tryz.ntmps207
  go_wp2_with fail
  refine (kT w _ _ hrd).mono ?_;rintro e w1 ⟨c,D,rfl,hperm,hsat,hside⟩;have Hp:=ae hperm;clear hperm;have hS1:=hsat.under h;have g0:w1.cell? ⟨b,o,none⟩=some (.map none):=hsat.bD hc0;have g1:w1.cell? ⟨b,o+1,none⟩=some (.bool sh):=hsat.bD hc1;have gf:∀ o,w1.frozen? ⟨b,o,none⟩=false:=fun o=>(hsat.qN hlt).trans (hf0 o);clear hc0 hc1 hf0;have hS2:=((hS1.to (aD _ _ _)).setCell o (.map (some c))).setCell (o+1) (.bool false);have hS3:=hS2.to (aD _ _ _);obtain ⟨w2,hrun,hsat2,hside2,_⟩:=Sat.mapUpdate (P:=Tryz.prog) Tryz.underlying172 Tryz.underlying3 hS3 id dv;clear hS1 hS2 hS3 h hsat hs
  go_wp2
  go_end0
  obtain ⟨Z',p1,p2⟩:=qB _ Hp.out rfl;subst p2;obtain ⟨u1,u2,u3,u4⟩:=oI ((p1.map _).trans z1) ((p1.map Prod.fst).nodup_iff.2 z2) (fun z hz=>z3 z (p1.mem_iff.1 hz)) id hv;refine ⟨c,rfl,?_,((hside.setCell _ _).setCell _ _).trans hside2⟩;rw [u4] at hsat2;have:=Sat.wW hsat2 u1 u2 u3;exact (this.to (by ac_rfl:_=aJ 5 S (.map none) sh C*(pt b (.cells ((cs.setIfInBounds o (.map (some c))).setIfInBounds (o+1) (.bool false)) 176 (0,0))*(aJ 5 S (.map (some c)) false (SL.fw C id l)*(aj S*F))))).right
 ·obtain ⟨mo,rfl⟩:∃ mo,bv = .map mo:=by
   rcases hrd with ⟨rfl,_⟩|⟨m,_,rfl,_⟩
   ·exact ⟨_,rfl⟩
   ·exact ⟨_,rfl⟩
  rcases mo with _|mo
  ·skip
   have hnil:∀ w,(binOp .eql 172 (.map none) (.map none)).run Tryz.prog w = .ok (.bool true) w:=fun w=>run_eql_map_nil (P:=Tryz.prog) w 172 3 37 _ Tryz.underlying172;have hlt:b<w.heap.size:=h.lt;have H:=ae h0;have H1:=ae h1;clear h0 h1;have hne:(o == o+1)=false:=by simp
   go_enter Tryz.func207,Tryz.ntmps207
   go_wp2_with fail
   refine (kT w _ _ hrd).mono ?_;rintro e w1 ⟨c,D,rfl,hperm,hsat,hside⟩;have Hp:=ae hperm;clear hperm;have hS1:=hsat.under h;have g0:w1.cell? ⟨b,o,none⟩=some (.map none):=hsat.bD hc0;have g1:w1.cell? ⟨b,o+1,none⟩=some (.bool true):=hsat.bD hc1;have gf:∀ o,w1.frozen? ⟨b,o,none⟩=false:=fun o=>(hsat.qN hlt).trans (hf0 o);clear hc0 hc1 hf0;have hS2:=((hS1.to (aD _ _ _)).setCell o (.map (some c))).setCell (o+1) (.bool false);have hS3:=hS2.to (aD _ _ _);obtain ⟨w2,hrun,hsat2,hside2,_⟩:=Sat.mapUpdate (P:=Tryz.prog) Tryz.underlying172 Tryz.underlying3 hS3 id dv;clear hS1 hS2 hS3 h hsat hs
   go_wp2
   go_end0
   obtain ⟨Z',p1,p2⟩:=qB _ Hp.out rfl;subst p2;obtain ⟨u1,u2,u3,u4⟩:=oI ((p1.map _).trans z1) ((p1.map Prod.fst).nodup_iff.2 z2) (fun z hz=>z3 z (p1.mem_iff.1 hz)) id hv;refine ⟨c,rfl,?_,((hside.setCell _ _).setCell _ _).trans hside2⟩;rw [u4] at hsat2;have:=Sat.wW hsat2 u1 u2 u3;exact (this.to (by ac_rfl:_=aJ 5 S (.map none) true C*(pt b (.cells ((cs.setIfInBounds o (.map (some c))).setIfInBounds (o+1) (.bool false)) 176 (0,0))*(aJ 5 S (.map (some c)) false (SL.fw C id l)*(aj S*F))))).right
  ·skip
   have hnil:∀ w,(binOp .eql 172 (.map (some mo)) (.map none)).run Tryz.prog w = .ok (.bool false) w:=fun w=>run_eql_map_nil (P:=Tryz.prog) w 172 3 37 _ Tryz.underlying172;have hlt:b<w.heap.size:=h.lt;have H:=ae h0;have H1:=ae h1;clear h0 h1;have hne:(o == o+1)=false:=by simp
   go_enter Tryz.func207,Tryz.ntmps207
   go_wp2_with fail
   refine (kT w _ _ hrd).mono ?_;rintro e w1 ⟨c,D,rfl,hperm,hsat,hside⟩;have Hp:=ae hperm;clear hperm;have hS1:=hsat.under h;have g0:w1.cell? ⟨b,o,none⟩=some (.map (some mo)):=hsat.bD hc0;have g1:w1.cell? ⟨b,o+1,none⟩=some (.bool true):=hsat.bD hc1;have gf:∀ o,w1.frozen? ⟨b,o,none⟩=false:=fun o=>(hsat.qN hlt).trans (hf0 o);clear hc0 hc1 hf0;have hS2:=((hS1.to (aD _ _ _)).setCell o (.map (some c))).setCell (o+1) (.bool false);have hS3:=hS2.to (aD _ _ _);obtain ⟨w2,hrun,hsat2,hside2,_⟩:=Sat.mapUpdate (P:=Tryz.prog) Tryz.underlying172 Tryz.underlying3 hS3 id dv;clear hS1 hS2 hS3 h hsat hs
   go_wp2
   go_end0
   obtain ⟨Z',p1,p2⟩:=qB _ Hp.out rfl;subst p2;obtain ⟨u1,u2,u3,u4⟩:=oI ((p1.map _).trans z1) ((p1.map Prod.fst).nodup_iff.2 z2) (fun z hz=>z3 z (p1.mem_iff.1 hz)) id hv;refine ⟨c,rfl,?_,((hside.setCell _ _).setCell _ _).trans hside2⟩;rw [u4] at hsat2;have:=Sat.wW hsat2 u1 u2 u3;exact (this.to (by ac_rfl:_=aJ 5 S (.map (some mo)) true C*(pt b (.cells ((cs.setIfInBounds o (.map (some c))).setIfInBounds (o+1) (.bool false)) 176 (0,0))*(aJ 5 S (.map (some c)) false (SL.fw C id l)*(aj S*F))))).right
 ·obtain ⟨u1,u2,u3,u4⟩:=oI z1 z2 z3 id hv
  obtain ⟨w',hrun,hsat',hside,_⟩:=Sat.mapUpdate (P:=Tryz.prog) Tryz.underlying172 Tryz.underlying3 hs id dv;have hnil:=run_eql_map_nil (P:=Tryz.prog) w 172 3 37 (some m) Tryz.underlying172;have H:=ae h0;have H1:=ae h1;have U:=ae u4;clear h0 h1 u4 hneq hs
  go_enter Tryz.func207,Tryz.ntmps207
  go_wp2
  go_end0
  refine ⟨m,rfl,?_,hside⟩;rw [zP H.out,zP H1.out];rw [U.out] at hsat';exact (Sat.wW hsat' u1 u2 u3).to (by ac_rfl)
def fR (err id:Int) (l:List UInt8):Int:=if err≠0 then err else if id<0∨l.length≠480 then 1 else 0
def sn (err id:Int) (l:List UInt8) (W:CB):CB:=if err=0∧0≤id∧l.length=480 then SL.fw W id l else W
theorem ng {err id:Int} {l:List UInt8} {W:CB} (h:¬ (err=0∧0≤id∧l.length=480)):sn err id l W=W:=if_neg h
theorem uu {err id:Int} {l:List UInt8} {W:CB} (h:err=0∧0≤id∧l.length=480):sn err id l W=SL.fw W id l:=if_pos h
def gp (S:Hp) (b:Nat) (rd:Value) (err:Int) (W D:CB) (id:Int) (l:List UInt8) (F:ah) (w:World) (e:Ending) (w':World):Prop:=
 ∃ S',Ext S S'∧e = .returned (.int .i64 (fR err id l))∧Sat w' (az 176 5 S' b rd err (sn err id l W) D*(aj S'*F))∧ai w w'
theorem mO (w:World) (S:Hp) (b:Nat) (rd:Value) (err:Int) (W D:CB) (id:Int) (dv:Value) (l:List UInt8) (F:ah)
  (h:Sat w (az 176 5 S b rd err W D*(aj S*F))) (hr:Rd w dv l) :
  Calls Tryz.prog 150 #[.pointer (some ⟨b,0,none⟩),.int .i64 id,dv] w (gp S b rd err W D id l F w):=by
 obtain ⟨x,hx⟩:=h.dH;have hc1:w.cell? ⟨b,1,none⟩=some (.int .i64 err):=hx.cell 1
 obtain ⟨a,c,rfl⟩:∃ a c,dv = .slice a l.length c:=by
  rcases hr.2 with ⟨rfl,h0⟩|⟨a,c,rfl,_⟩
  ·exact ⟨none,0,by rw [h0]⟩
  ·exact ⟨_,_,rfl⟩
 by_cases he:err=0
 ·subst he
  by_cases hid:id<0
  ·go_enter Tryz.func150,Tryz.ntmps150
   have H:=ae hr;clear hr
   go_wp2
   go_ret
   exact ⟨S,Ext.refl S,by simp [fR,hid],by rw [ng (by omega)];exact h,ai.refl w⟩
  ·by_cases hl:l.length=480
   ·have hid':0≤id:=by omega
    have hb1:((480:Int) != 480)=false:=by decide
    have hr':Rd w (.slice a 480 c) l:=by rw [← hl];exact hr
    have Hr:=ae hr';have HL:=ae hl;clear hr hr' hl;have hsm:small l:=by unfold small;rw [HL.out];decide
    have hbg:Hid (l.length≤1000000000):=by show l.length≤_;rw [HL.out];decide
    go_enter Tryz.func150,Tryz.ntmps150
    rw [HL.out]
    go_wp2
    go_region_held3 (fun _=>True) (trivial)
     (first
      | (go_at_call 183;refine (iY w.drew _ l (nA.drew Hr.out) hbg).mono ?_;rintro e w1 ⟨v1,rfl,hs1,hd1⟩)
      | (go_at_call 207;obtain ⟨S',hE,hV,hS,_⟩:=Sat.Jn (w:=w.drew) hx hs1 hsm;refine (eM _ S' b 2 _ _ _ W id v1 l (aJ 5 S' x.tv x.ts D*(eP x.av*F)) hS rfl rfl hV).mono ?_;rintro e w2 ⟨m,rfl,hs2,hd2⟩))
    go_wp2
    go_ret
    refine ⟨S',hE,?_,?_,((ai.refl w).drew.trans hd1).trans hd2⟩
    ·simp [fR,hid',HL.out,Int.not_lt.2 hid']
    ·rw [uu ⟨rfl,hid',HL.out⟩]
     exact Sat.gE { x with wv:=.map (some m),ws:=false } (hs2.to (by ac_rfl))
   ·have hl1:((l.length:Int) != 480)=true:=by rw [bne_iff_ne];omega
    go_enter Tryz.func150,Tryz.ntmps150
    have H:=ae hr;have HL:=ae hl;clear hr hl
    go_wp2
    go_ret
    exact ⟨S,Ext.refl S,by simp [fR,HL.out],by rw [ng (fun hh=>HL.out hh.2.2)];exact h,ai.refl w⟩
 ·have he1:(err != 0)=true:=by simpa using he
  go_enter Tryz.func150,Tryz.ntmps150
  have H:=ae hr;clear hr
  go_wp2
  go_ret
  exact ⟨S,Ext.refl S,by simp [fR,he],by rw [ng (fun hh=>he hh.1)];exact h,ai.refl w⟩
def sorted (l:List Int):List Int:=l.mergeSort fun x y=>decide (x≤y)
theorem ee (l:List Int):(sorted l).length=l.length:=List.length_mergeSort ..
theorem sorted_perm (l:List Int):(sorted l).Perm l:=List.mergeSort_perm ..
theorem lv (l:List Int):(sorted l).Pairwise (·≤·):=by
 have:=List.pairwise_mergeSort (le:=fun x y:Int=>decide (x≤y)) (by intro a b c h1 h2;simp at *;omega) (by intro a b;simp;omega) l;exact this.imp (by simp)
theorem xI {l m:List Int} (h:l.Perm m):sorted l=sorted m:=
 List.Perm.eq_of_pairwise (le:=(·≤·)) (fun a b _ _ h1 h2=>by omega) (lv l) (lv m) ((sorted_perm l).trans (h.trans (sorted_perm m).symm))
def gH (C:CB):CB:=(sorted (C.map Prod.fst)).map fun k=>(k,(aH C k).getD [])
end Go.Ba
namespace Go.SL
open Go.RowKit
abbrev bU (n:Int):Int:=wrap64 n
structure ay where
 sec:List (List UInt8)
 wait:List (Int × List UInt8)
 torn:List (Int × Unit)
 cr:Int
 cw:Int
 cf:Int
 down:Bool
 armed:Bool
 left:Int
 aX:List Int
def ay.fresh (n:Nat):ay:=⟨List.replicate n [],[],[],0,0,0,false,false,0,[]⟩
def ay.done (D:ay) (x:Int × List UInt8):ay:={ D with sec:=D.sec.set x.1.toNat x.2,torn:=del D.torn x.1 }
def ay.bC (D:ay) (l:List (Int × List UInt8)):ay:=l.foldl ay.done D
def ay.Oj (D:ay) (x:Int × List UInt8):ay:={ D with torn:=SL.fw D.torn x.1 () }
def ay.qi (D:ay) (f:Int) (x:Int × List UInt8):ay:=if f=1 then D.done x else if f=2 then D.Oj x else D
def ay.dU (D:ay) (aX:List Int):Nat→ay
 | 0=>D
 | k+1=>match D.wait[k]? with
  | some p=>(D.dU aX k).qi (aX.getD k 0) p
  | none=>D.dU aX k
def ay.fm (D:ay) (aX:List Int):ay:={ D.dU aX D.wait.length with wait:=[],down:=true,armed:=false,left:=0,aX:=[] }
def ay.cV (D:ay):ay:=if !D.down && D.armed && D.left == 0 then D.fm D.aX else D
def ay.begun (D:ay):ay:=if D.cV.down then D.cV else if D.cV.armed then { D.cV with left:=bU (D.cV.left-1) } else D.cV
def ay.cD (D:ay):Int:=if D.cV.down then 2 else 0
def ay.has (D:ay) (at':Int):Prop:=0≤at'∧at'<D.sec.length
instance (D:ay) (a:Int):Decidable (D.has a):=inferInstanceAs (Decidable (_∧_))
def dQ (l:List (Int × List UInt8)) (a:Int):Option (List UInt8):=(l.reverse.find? fun x=>x.1 == a).map Prod.snd
def ay.bT (D:ay) (a:Int):Int × List UInt8:=
 match dQ D.wait a with
 | some l=>(0,bJ 512 l)
 | none=>if (aH D.torn a).isSome then (3,[]) else (0,bJ 512 (D.sec.getD a.toNat []))
def ay.read (D:ay) (a:Int):(Int × List UInt8) × ay:=
 if D.has a then (if D.cD=0 then (D.begun.bT a,{ D.begun with cr:=bU (D.begun.cr+1) }) else ((2,[]),D.begun)) else ((1,[]),D)
def ay.write (D:ay) (a:Int) (l:List UInt8):Int × ay:=
 if D.has a∧l.length=512 then (if D.cD=0 then (0,{ D.begun with cw:=bU (D.begun.cw+1),wait:=D.begun.wait++[(a,l)] }) else (2,D.begun)) else (1,D)
def ay.aE (D:ay):ay:={ ({ D with cf:=bU (D.cf+1) }:ay).bC D.wait with wait:=[] }
def ay.flush (D:ay):Int × ay:=if D.cD=0 then (0,D.begun.aE) else (2,D.begun)
structure ay.Ok (D:ay):Prop where
 n:D.sec.length≤20000
 wait:∀ x ∈ D.wait,D.has x.1
 many:D.wait.length≤1000000
 aX:D.aX.length≤4611686018427387904
theorem ay.Dt {D:ay} (h:D.cD=0):D.cV=D:=by
 unfold ay.cD at h
 by_cases h1:(!D.down && D.armed && D.left == 0)=true
 ·rw [ay.cV,if_pos h1] at h;simp [ay.fm] at h
 ·rw [ay.cV,if_neg h1]
theorem ay.yW {D:ay} (h:D.cD=0):D.begun={ D with left:=D.begun.left }:=by
 have hs:=ay.Dt h
 have hd:D.down=false:=by
  unfold ay.cD at h;rw [hs] at h
  cases hD:D.down with
  | false=>rfl
  | true=>simp [hD] at h
 obtain ⟨sec,wait,torn,cr,cw,cf,down,armed,left,aX⟩:=D;simp only at hd;subst hd;unfold ay.begun;rw [hs];cases armed <;> rfl
theorem ay.Ok.up {D:ay} (h:D.Ok) (e:D.cD=0):D.begun.Ok:=by
 rw [ay.yW e];exact ⟨h.n,h.wait,h.many,h.aX⟩
theorem ay.kP (D:ay):D.cD=0∨D.cD=2:=by
 unfold ay.cD;split <;> simp
abbrev Zs:=List (Int × Value × List UInt8)
def bB (Z:Zs):List Value:=Z.flatMap fun z=>[.int .i64 z.1,z.2.1]
theorem oF (Z:Zs):(bB Z).length=Z.length*2:=by
 induction Z with
 | nil=>rfl
 | cons z Z ih=>simp only [bB,List.flatMap_cons,List.length_append,List.length_cons,List.length_nil] at ih ⊢;omega
theorem wo:∀ (Z:Zs) (i:Nat) (h:i<Z.length),(bB Z)[i*2]?=some (.int .i64 Z[i].1)∧(bB Z)[i*2+1]?=some Z[i].2.1:=by
 intro Z
 induction Z with
 | nil=>intro i h;simp at h
 | cons z Z ih=>
  intro i h
  cases i with
  | zero=>simp [bB]
  | succ i=>
   have:=ih i (by simpa using h);rw [show (i+1)*2=i*2+1+1 by omega];simpa [bB] using this
theorem Sat.jm {w:World} {TW:TypeId} {n:Nat} {Z:Zs} {F:ah} {g c m:Nat} (h:Sat w (sl TW 2 (.slice (some ⟨g,0,none⟩) m c) n (bB Z)*F)) {i:Nat} (hi:i<Z.length) :
  w.cell? ⟨g,i*2,none⟩=some (.int .i64 Z[i].1)∧w.cell? ⟨g,i*2+1,none⟩=some Z[i].2.1:=by
 obtain ⟨a,b⟩:=wo Z i hi;obtain ⟨_,hr⟩:=h.nB;rcases hr with ⟨hv,h0⟩|⟨ad,c',he,ha⟩
 ·cases hv
 ·cases he
  exact ⟨by have:=ha _ _ a;rwa [Addr.add_lit,Nat.zero_add] at this,by have:=ha _ _ b;rwa [Addr.add_lit,Nat.zero_add] at this⟩
structure Dx where
 sg:Nat
 tm:Nat
 wv:Value
 kv:Value
 Y:List (Value × List UInt8)
 Z:Zs
def Dx.cells (x:Dx) (D:ay):Array Value:=
 #[.slice (some ⟨x.sg,0,none⟩) x.Y.length x.Y.length,x.wv,.map (some x.tm),.int .i64 D.cr,.int .i64 D.cw,.int .i64 D.cf,.bool D.down,.bool D.armed,.int .i64 D.left,x.kv]
def gq (t:List (Int × Unit)):KV:=t.map fun p=>(p.1,.agg #[])
def gX (l:List Int):List Value:=l.map (Value.int .i64)
structure Dx.Fit (x:Dx) (T:TypeId) (S:Hp) (D:ay):Prop where
 sec:x.Y.map Prod.snd=D.sec
 vals:∀ y ∈ x.Y,oV T S y.1 y.2
 wait:x.Z.map (fun z=>(z.1,z.2.2))=D.wait
 wvals:∀ z ∈ x.Z,oV T S z.2.1 z.2.2
theorem Dx.Fit.mono {x:Dx} {T:TypeId} {S S':Hp} {D:ay} (h:x.Fit T S D) (e:Ext S S'):x.Fit T S' D:=
 ⟨h.sec,fun y hy=>(h.vals y hy).mono e,h.wait,fun z hz=>(h.wvals z hz).mono e⟩
theorem A6 (t:List (Int × Unit)) (a:Int):SL.fw (gq t) a (.agg #[])=gq (SL.fw t a ()):=by
 have:=xA (fun _:Unit=>Value.agg #[]) t a ();simpa [gq] using this
theorem BQ (t:List (Int × Unit)) (a:Int):del (gq t) a=gq (del t a):=by
 simp only [gq,del,List.filter_map];rfl
theorem AD (t:List (Int × Unit)) (a:Int):(aH (gq t) a).isSome=(aH t a).isSome:=by
 have:=ju (fun _:Unit=>Value.agg #[]) t a;rw [gq,this,Option.isSome_map]
def MH (x:Dx) (D:ay) (d:Nat):ah:=
 pt d (.cells (x.cells D) 107 (0,0))*(pt x.sg (.cells (x.Y.map Prod.fst).toArray 37 (0,0))*(sl 230 2 x.wv x.Z.length (bB x.Z)*(mp x.tm (gq D.torn)*sl 3 1 x.kv D.aX.length (gX D.aX))))
def fO (x:Dx) (S:Hp) (d:Nat) (D:ay):ah:=fact (x.Fit 5 S D)*MH x D d
def aK (S:Hp) (d:Nat) (D:ay):ah:=ex fun x:Dx=>fO x S d D
section
variable {w:World} {S S':Hp} {d:Nat} {D:ay} {F:ah} {x:Dx}
theorem Sat.bd (h:Sat w (fO x S d D*F)):x.Fit 5 S D∧Sat w (pt d (.cells (x.cells D) 107 (0,0))*(pt x.sg (.cells (x.Y.map Prod.fst).toArray 37 (0,0))*(sl 230 2 x.wv x.Z.length (bB x.Z)*(mp x.tm (gq D.torn)*(sl 3 1 x.kv D.aX.length (gX D.aX)*F))))):=by
 obtain ⟨h1,h2⟩:=Sat.ak.1 (h.to (aw _ _ _));exact ⟨h1,h2.to (by unfold MH;ac_rfl)⟩
theorem Sat.iC (hf:x.Fit 5 S D) (h:Sat w (pt d (.cells (x.cells D) 107 (0,0))*(pt x.sg (.cells (x.Y.map Prod.fst).toArray 37 (0,0))*(sl 230 2 x.wv x.Z.length (bB x.Z)*(mp x.tm (gq D.torn)*(sl 3 1 x.kv D.aX.length (gX D.aX)*F)))))):Sat w (fO x S d D*F):=
 (Sat.ak.2 ⟨hf,h.to (by unfold MH;ac_rfl:_=MH x D d*F)⟩:Sat w (fact _*_)).to (aw _ _ _).symm
theorem Sat.vz (h:Sat w (aK S d D*F)):∃ x,Sat w (fO x S d D*F):=Sat.au.1 h
theorem Sat.devOf (h:Sat w (fO x S d D*F)):Sat w (aK S d D*F):=Sat.au.2 ⟨x,h⟩
theorem DT (e:Ext S S') (h:Hp) (p:fO x S d D h):fO x S' d D h:=by
 obtain ⟨h1,h2,⟨p1,p2⟩,p3,p4,p5⟩:=p;exact ⟨h1,h2,⟨p1.mono e,p2⟩,p3,p4,p5⟩
theorem vY (e:Ext S S') (h:Hp) (p:aK S d D h):aK S' d D h:=by
 obtain ⟨x,p⟩:=p;exact ⟨x,DT e h p⟩
theorem Sat.cM (h:Sat w (fO x S d D*F)) (i:Nat):w.cell? ⟨d,i,none⟩=(x.cells D)[i]?:=h.bd.2.cell i
theorem Sat.nt (h:Sat w (fO x S d D*F)) (i:Nat):w.frozen? ⟨d,i,none⟩=false:=h.bd.2.frozen i
theorem Sat.Co (h:Sat w (fO x S d D*F)):x.Y.length=D.sec.length:=by rw [← h.bd.1.sec,List.length_map]
theorem Sat.oE (h:Sat w (fO x S d D*F)):x.Z.length=D.wait.length:=by rw [← h.bd.1.wait,List.length_map]
theorem Sat.Ov (h:Sat w (fO x S d D*F)):∃ a c,x.wv = .slice a D.wait.length c:=by
 have:=aB h.bd.2.aq
 rwa [h.oE] at this
end
end Go.SL
namespace Go.Nn
open Go.RowKit Go.SL
theorem mg (w:World) (S:Hp) (d:Nat) (D:ay) (F:ah) (h:Sat w (aK S d D*F)) :
  Calls Tryz.prog 109 #[.pointer (some ⟨d,0,none⟩)] w fun e w'=>e = .returned (.int .i64 D.sec.length)∧w=w':=by
 obtain ⟨x,h⟩:=h.vz;have hc:w.cell? ⟨d,0,none⟩=some (.slice (some ⟨x.sg,0,none⟩) D.sec.length D.sec.length):=by rw [h.cM,← h.Co];rfl
 clear h
 go_enter Tryz.func109,Tryz.ntmps109
 go_wp2
 go_ret
 exact ⟨rfl,rfl⟩
def tR (b:Bool) (w:World) (e:Ending) (w':World):Prop:=e = .returned (.bool b)∧w=w'
theorem mH (w:World) (S:Hp) (d:Nat) (D:ay) (a:Int) (F:ah) (h:Sat w (aK S d D*F)) :
  Calls Tryz.prog 216 #[.pointer (some ⟨d,0,none⟩),.int .i64 a] w (tR (decide (D.has a)) w):=by
 have hs:=mg w S d D F h;clear h
 by_cases h0:0≤a
 ·by_cases h1:a<D.sec.length
  ·have hd:decide (D.has a)=true:=by simp [ay.has,h0,h1]
   rw [hd];clear hd
   go_enter Tryz.func216,Tryz.ntmps216
   go_wp2_with (go_at_call 109;refine hs.mono ?_;rintro e w1 ⟨rfl,rfl⟩)
   go_ret
   exact ⟨rfl,rfl⟩
  ·have hd:decide (D.has a)=false:=by simp [ay.has,h1]
   rw [hd];clear hd;have hd2:decide (a<D.sec.length)=false:=by simpa using h1
   go_enter Tryz.func216,Tryz.ntmps216
   go_wp2_with (go_at_call 109;refine hs.mono ?_;rintro e w1 ⟨rfl,rfl⟩)
   go_ret
   exact ⟨rfl,rfl⟩
 ·have hd:decide (D.has a)=false:=by simp [ay.has,h0]
  rw [hd];clear hd hs
  go_enter Tryz.func216,Tryz.ntmps216
  go_wp2
  go_ret
  exact ⟨rfl,rfl⟩
def JG (w:World) (l:List UInt8) (e:Ending) (w':World):Prop:=∃ g,e = .returned (.slice (some ⟨g,0,none⟩) 512 512)∧Sat w' (pt g (.cells (dp (bJ 512 l)) 5 (0,0))*whole w)∧ai w w'
theorem gg:(Tryz.prog.info? 5).map (fun i=>(i.zero,i.size,i.bytes))=some (some (.int .u8 0),1,1):=by kernel_rfl
theorem Ej:(Tryz.prog.info? 5).map (·.size)=some 1:=by kernel_rfl
theorem B6:(Tryz.prog.info? 37).map (fun i=>(i.zero,i.size,i.bytes))=some (some (.slice none 0 0),1,24):=by kernel_rfl
theorem er (n:Nat) (hn:n≤281474976710656) (w:World):(Instr.makeSlice 37 (.int .i64 n) (.int .i64 n)).run Tryz.prog w =
  .ok (.slice (some ⟨w.heap.size,0,none⟩) n n) (w.alloc (.cells (dp (zs n)) 5 (0,0))):=by
 obtain ⟨i,hi,hz,hs,hb⟩:=info_parts gg;have:=run_make (P:=Tryz.prog) w 37 5 i _ Tryz.underlying37 hi hz .i64 .i64 n n (by omega) (by omega) (by rw [hb];omega) (by omega);rw [this,hs];simp only [Int.toNat_natCast];rw [iS]
theorem jI (w:World) (v:Value) (l:List UInt8) (hr:Rd w v l) (hl:l.length≤9223372036854775807) :
  Calls Tryz.prog 217 #[v] w (JG w l):=by
 have hmk:∀ w,(Instr.makeSlice 37 (.int .i64 512) (.int .i64 512)).run Tryz.prog w =
  .ok (.slice (some ⟨w.heap.size,0,none⟩) 512 512) (w.alloc (.cells (dp (zs 512)) 5 (0,0))):=er 512 (by omega)
 have hr':Rd (w.alloc (.cells (dp (zs 512)) 5 (0,0))) v l:=nA.alloc hr _;have hA:=(Sat.whole w).alloc (.cells (dp (zs 512)) 5 (0,0));obtain ⟨w2,v2,hrun,h2,d2⟩:=Je (P:=Tryz.prog) (dT:=37) (T:=5) Tryz.underlying37 Ej hA hr' 3;have d1:=(ai.refl w).alloc (.cells (dp (zs 512)) 5 (0,0));have Hrun:=ae hrun;clear hrun hr' hA
 go_enter Tryz.func217,Tryz.ntmps217
 go_wp2_with (refine eU Hrun.out _ _ rfl rfl rfl rfl rfl ?_)
 go_ret
 exact ⟨_,rfl,h2,d1.trans d2⟩
theorem ij {T:TypeId} {S:Hp} {v:Value} {l:List UInt8} (h:oV T S v l):∃ a c,v = .slice a l.length c:=by
 rcases h.2 with ⟨rfl,rfl⟩|⟨g,cap,cur,rfl,_⟩
 ·exact ⟨_,_,rfl⟩
 ·exact ⟨_,_,rfl⟩
def QA (x:Dx) (S:Hp) (d:Nat) (D:ay) (p:Int × List UInt8) (dv:Value) (F:ah) (w:World) (e:Ending) (w':World):Prop:=
 e = .returned (.tuple #[])∧Sat w' (fO { x with Y:=x.Y.set p.1.toNat (dv,p.2) } S d (D.done p)*F)∧ai w w'
theorem yy (w:World) (S:Hp) (d:Nat) (D:ay) (x:Dx) (p:Int × List UInt8) (dv:Value) (F:ah) (h:Sat w (fO x S d D*F)) (hv:oV 5 S dv p.2) (hh:D.has p.1) :
  Calls Tryz.prog 163 #[.pointer (some ⟨d,0,none⟩),.agg #[.int .i64 p.1,dv]] w (QA x S d D p dv F w):=by
 obtain ⟨q,l⟩:=p;obtain ⟨a,rfl⟩:=Int.eq_ofNat_of_zero_le hh.1;have hlt:(a:Int)<(x.Y.length:Int):=by rw [h.Co];exact hh.2
 have hlt':a<x.Y.length:=by omega
 obtain ⟨hf,hs⟩:=h.bd;obtain ⟨da,dc,rfl⟩:=ij hv;obtain ⟨va,ha⟩:∃ va,(x.Y.map Prod.fst)[a]?=some va:=⟨_,List.getElem?_eq_getElem (by simpa using hlt')⟩
 have hA:=hs.alloc (.cells #[.int .i64 a,.slice da l.length dc] 230 (0,0));have hside:=(ai.refl w).alloc (.cells #[.int .i64 a,.slice da l.length dc] 230 (0,0))
 go_enter Tryz.func163,Tryz.ntmps163
 go_wp2
 generalize hw1:w.alloc (.cells #[.int .i64 a,.slice da l.length dc] 230 (0,0))=w1 at hA hside ⊢;generalize w.heap.size=bx at hA ⊢;have k0:w1.cell? ⟨d,0,none⟩=some (.slice (some ⟨x.sg,0,none⟩) x.Y.length x.Y.length):=hA.ag.cell 0;have kb0:w1.cell? ⟨bx,0,none⟩=some (.int .i64 a):=hA.cell 0;have kb1:w1.cell? ⟨bx,1,none⟩=some (.slice da l.length dc):=hA.cell 1;have ks:w1.cell? ⟨x.sg,a,none⟩=some va:=(hA.aq.cell a).trans (by simpa using ha);have kf:w1.frozen? ⟨x.sg,a,none⟩=false:=hA.aq.frozen a;have H2:=(hA.aq.setCell a (.slice da l.length dc)).vG;have s0:(w1.setCell ⟨x.sg,a,none⟩ (.slice da l.length dc)).cell? ⟨d,0,none⟩=some (.slice (some ⟨x.sg,0,none⟩) x.Y.length x.Y.length):=H2.ag.cell 0;have sb0:(w1.setCell ⟨x.sg,a,none⟩ (.slice da l.length dc)).cell? ⟨bx,0,none⟩=some (.int .i64 a):=H2.cell 0;have sb1:(w1.setCell ⟨x.sg,a,none⟩ (.slice da l.length dc)).cell? ⟨bx,1,none⟩=some (.slice da l.length dc):=H2.cell 1;have s2:(w1.setCell ⟨x.sg,a,none⟩ (.slice da l.length dc)).cell? ⟨d,2,none⟩=some (.map (some x.tm)):=H2.ag.cell 2;clear ha hlt'
 go_region_held3 (fun w'=>w'.cell? ⟨d,0,none⟩=some (.slice (some ⟨x.sg,0,none⟩) x.Y.length x.Y.length)∧w'.cell? ⟨bx,0,none⟩=some (.int .i64 a)∧w'.cell? ⟨bx,1,none⟩=some (.slice da l.length dc)) (first|go_keep|exact ⟨k0,kb0,kb1⟩|exact ⟨s0,sb0,sb1⟩) (fail)
 have hside2:=(hside.setCell ⟨x.sg,a,none⟩ (.slice da l.length dc)).drew;generalize hw2:(w1.setCell ⟨x.sg,a,none⟩ (.slice da l.length dc))=w2 at H2 hside2 s0 sb0 sb1 s2 ⊢;obtain ⟨w3,hrun,H3,hside3,_⟩:=Sat.delete (P:=Tryz.prog) Tryz.underlying102 Tryz.underlying3 0 3 (w:=w2.drew.drew) (Sat.aG H2) (a:Int);have H4:=H3.vp;have t0:w3.cell? ⟨bx,0,none⟩=some (.int .i64 a):=H4.cell 0;have t2:w3.cell? ⟨d,2,none⟩=some (.map (some x.tm)):=H4.ag.cell 2
 go_wp2
 go_region_held3 (fun w'=>w'.cell? ⟨bx,0,none⟩=some (.int .i64 a)∧w'.cell? ⟨d,2,none⟩=some (.map (some x.tm))) (first|go_keep|exact ⟨sb0,s2⟩|exact ⟨t0,t2⟩) (fail)
 go_wp2
 go_end0
 refine ⟨rfl,Sat.iC ⟨?_,?_,hf.wait,hf.wvals⟩ (H4.right.to ?_),hside2.drew.trans hside3⟩
 ·show (x.Y.set (a:Int).toNat (.slice da l.length dc,l)).map Prod.snd=D.sec.set (a:Int).toNat l
  rw [List.map_set,hf.sec]
 ·intro y hy
  rcases List.mem_or_eq_of_mem_set hy with hy|rfl
  ·exact hf.vals y hy
  ·exact hv
 ·simp only [BQ,Dx.cells,ay.done,List.length_set,Int.toNat_natCast,List.map_set,List.setIfInBounds_toArray]
def M7 (x:Dx) (S:Hp) (d:Nat) (D:ay) (F:ah) (kv:Value) (aX:List Int):Prop:=
 ∃ a c,kv = .slice a aX.length c∧aX.length≤9223372036854775807∧∀ i,i<aX.length→∃ b off,a=some ⟨b,off,none⟩ ∧
  ∀ w' Y D',D'.aX=D.aX→Sat w' (fO { x with Y:=Y } S d D'*F)→w'.cell? ⟨b,off+i,none⟩=some (.int .i64 (aX.getD i 0))
def NX (x:Dx) (S:Hp) (d:Nat) (D:ay) (aX:List Int) (F:ah) (w:World) (e:Ending) (w':World):Prop:=
 e = .returned (.tuple #[])∧Sat w' (aK S d (D.fm aX)*F)∧ai w w'
def IU (x:Dx) (S:Hp) (d:Nat) (D:ay) (aX:List Int) (F:ah) (w:World) (n:Nat) (u:Value) (wr:World):Prop:=
 ∃ (k:Nat) (Y:List (Value × List UInt8)),k≤n∧u = .int .i64 k∧Sat wr (fO { x with Y:=Y } S d (D.dU aX k)*F)∧ai w wr
theorem oa (D:ay) (aX:List Int):∀ k,(D.dU aX k).aX=D.aX∧(D.dU aX k).wait=D.wait∧(D.dU aX k).sec.length=D.sec.length
 | 0=>⟨rfl,rfl,rfl⟩
 | k+1=>by
  obtain ⟨h1,h2,h3⟩:=oa D aX k;unfold ay.dU
  split
  ·unfold ay.qi
   split
   ·exact ⟨h1,h2,by simp [ay.done,h3]⟩
   ·split
    ·exact ⟨h1,h2,h3⟩
    ·exact ⟨h1,h2,h3⟩
  ·exact ⟨h1,h2,h3⟩
theorem El (w:World) (S:Hp) (d:Nat) (D:ay) (x:Dx) (aX:List Int) (kv:Value) (F:ah) (h:Sat w (fO x S d D*F)) (hD:D.Ok) (hk:M7 x S d D F kv aX) :
  Calls Tryz.prog 218 #[.pointer (some ⟨d,0,none⟩),kv] w (NX x S d D aX F w):=by
 obtain ⟨ka,kc,rfl,hkl,hcell⟩:=hk;obtain ⟨wa,wc,hwv⟩:=h.Ov;have hn:(D.wait.length:Int)≤1000000:=by have:=hD.many;omega
 have k1:w.cell? ⟨d,1,none⟩=some (.slice wa D.wait.length wc):=(h.cM 1).trans (by simp only [Dx.cells,hwv];rfl);have Hwv:=ae hwv;have Hcell:=ae hcell;clear hwv hcell
 go_enter Tryz.func218,Tryz.ntmps218
 go_wp2
 go_loopw [14] (fun u wr=>IU x S d D aX F w D.wait.length u wr) (fun u _=>D.wait.length-(intOf u).toNat)
 case atStart=>exact ⟨0,x.Y,Nat.zero_le _,rfl,h,ai.refl w⟩
 case round=>
  obtain ⟨k,Y,hkn,rfl,hsat,hside⟩:=hrel;clear k1;obtain ⟨e1,e2,e3⟩:=oa D aX k
  by_cases hlt:k<D.wait.length
  ·have hlt':(k:Int)<(D.wait.length:Int):=by omega
   have hzn:x.Z.length=D.wait.length:=hsat.oE.trans (by rw [e2]);have hzl:k<x.Z.length:=by omega
   obtain ⟨g,hwa⟩:∃ g,wa=some ⟨g,0,none⟩:=by
    have hpos:0<x.Z.length:=by omega
    have:=po hsat.bd.2.aq hpos;obtain ⟨g,c,hh⟩:=this;rw [Hwv.out] at hh;exact ⟨_,(Value.slice.inj hh).1⟩
   subst hwa
   have hcz:wr.cell? ⟨g,k*2,none⟩=some (.int .i64 x.Z[k].1)∧wr.cell? ⟨g,k*2+1,none⟩=some x.Z[k].2.1:=by
    have:=hsat.bd.2.aq;simp only [Hwv.out] at this;exact this.jm hzl
   obtain ⟨hc0,hc1⟩:=hcz
   have hwk:D.wait[k]?=some (x.Z[k].1,x.Z[k].2.2):=by
    rw [← e2,← hsat.bd.1.wait];simp [hzl]
   have hval:oV 5 S x.Z[k].2.1 x.Z[k].2.2:=hsat.bd.1.wvals _ (List.getElem_mem hzl);obtain ⟨da,dc,hdv⟩:=ij hval;rw [hdv] at hc1 hval
   have hhas:(D.dU aX k).has x.Z[k].1:=by
    have:=hD.wait _ (List.mem_of_getElem? hwk);unfold ay.has at this ⊢;rw [e3];exact this
   generalize x.Z[k].1=at' at hc0 hwk hhas;generalize x.Z[k].2.2=dl at hc1 hwk hval;have Hwk:=ae hwk;have hwg:∀ (cs:Array Value),(wr.alloc (.cells cs 230 (0,0))).cell? ⟨wr.heap.size,0,none⟩=cs[0]?:=fun cs=>(hsat.alloc (.cells cs 230 (0,0))).cell 0;clear hwk hdv e1 e2 e3 hwg;have hgl:g<wr.heap.size:=World.block_lt_of_cell? wr _ hc0;have hA:=hsat.alloc (.cells #[.int .i64 at',.slice da dl.length dc] 230 (0,0));have hsA:=hside.alloc (.cells #[.int .i64 at',.slice da dl.length dc] 230 (0,0))
   by_cases hkk:k<aX.length
   ·have hkk':(k:Int)<(aX.length:Int):=by omega
    obtain ⟨kb,ko,rfl,hkf⟩:=Hcell.out k hkk;have hkc:=hkf wr Y _ (oa D aX k).1 hsat;have hkb:kb<wr.heap.size:=World.block_lt_of_cell? wr _ hkc;clear hkf;generalize hf:aX.getD k 0=f at hkc;have Hf:=ae hf;clear hf
    by_cases hf1:f=1
    ·subst hf1
     go_wp2_with (go_at_call 163;refine (yy _ S d _ _ (at',dl) _ _ hA.right hval hhas).mono ?_;rintro e w2 ⟨rfl,h2,d2⟩)
     go_roundw
     case rel=>
      refine ⟨k+1,Y.set at'.toNat (.slice da dl.length dc,dl),by omega,by go_num,?_,hsA.trans d2⟩
      have e:D.dU aX (k+1)=(D.dU aX k).done (at',dl):=by
       rw [ay.dU,Hwk.out];simp only [ay.qi,Hf.out,if_true]
      rw [e];exact h2
     case measure=>simp [intOf];omega
    ·by_cases hf2:f=2
     ·subst hf2
      have hfit:=hA.ag.bd.1;obtain ⟨w2,hrun,h2,d2,hce⟩:=Sat.mapUpdate (P:=Tryz.prog) Tryz.underlying102 Tryz.underlying3 (w:=(wr.alloc (.cells #[.int .i64 at',.slice da dl.length dc] 230 (0,0))).drew) hA.ag.bd.2.aC at' (.agg #[]);have c2:(wr.alloc (.cells #[.int .i64 at',.slice da dl.length dc] 230 (0,0))).cell? ⟨d,2,none⟩=some (.map (some x.tm)):=hA.ag.cM 2;have cb:(wr.alloc (.cells #[.int .i64 at',.slice da dl.length dc] 230 (0,0))).cell? ⟨wr.heap.size,0,none⟩=some (.int .i64 at'):=hA.cell 0;have c2':w2.cell? ⟨d,2,none⟩=some (.map (some x.tm)):=(hce.1 _).trans c2;have cb':w2.cell? ⟨wr.heap.size,0,none⟩=some (.int .i64 at'):=(hce.1 _).trans cb;clear hce
      go_wp2_with fail
      generalize hW1:wr.alloc (.cells #[.int .i64 at',.slice da dl.length dc] 230 (0,0))=W1 at hrun c2 cb d2 hsA ⊢;clear hW1
      go_region_held3 (fun w'=>w'.cell? ⟨d,2,none⟩=some (.map (some x.tm))∧w'.cell? ⟨wr.heap.size,0,none⟩=some (.int .i64 at')) (first|go_keep|exact ⟨c2',cb'⟩) (fail)
      go_wp2
      go_roundw
      case rel=>
       refine ⟨k+1,Y,by omega,by go_num,?_,hsA.drew.trans d2⟩
       have e:D.dU aX (k+1)=(D.dU aX k).Oj (at',dl):=by
        rw [ay.dU,Hwk.out];simp only [ay.qi,Hf.out];rfl
       rw [e];rw [A6] at h2;exact (Sat.iC (D:=(D.dU aX k).Oj (at',dl)) ⟨hfit.sec,hfit.vals,hfit.wait,hfit.wvals⟩ h2.rB).gZ
      case measure=>simp [intOf];omega
     ·go_wp2
      go_roundw
      case rel=>
       refine ⟨k+1,Y,by omega,by go_num,?_,hsA⟩
       have e:D.dU aX (k+1)=D.dU aX k:=by
        rw [ay.dU,Hwk.out];simp only [ay.qi,Hf.out,if_neg hf1,if_neg hf2]
       rw [e];exact hA.right
      case measure=>simp [intOf];omega
   ·have hkk':¬ (k:Int)<(aX.length:Int):=by omega
    go_wp2
    go_roundw
    case rel=>
     refine ⟨k+1,Y,by omega,by go_num,?_,hsA⟩
     have e:D.dU aX (k+1)=D.dU aX k:=by
      rw [ay.dU,Hwk.out];simp [ay.qi,List.getD,List.getElem?_eq_none (Nat.le_of_not_lt hkk)]
     rw [e];exact hA.right
    case measure=>simp [intOf];omega
  ·obtain rfl:k=D.wait.length:=by omega
   have k1:=hsat.cM 1;have k6:=hsat.cM 6;have k7:=hsat.cM 7;have k8:=hsat.cM 8;have k9:=hsat.cM 9;have kf:=hsat.nt;simp only [Dx.cells] at k1 k6 k7 k8 k9;have hfit:=hsat.bd.1;have H2:=((((hsat.bd.2.setCell 1 (.slice none 0 0)).setCell 6 (.bool true)).setCell 7 (.bool false)).setCell 8 (.int .i64 0)).setCell 9 (.slice none 0 0);clear e1 e2 e3
   go_wp2
   go_end0
   refine ⟨rfl,?_,((((hside.setCell _ _).setCell _ _).setCell _ _).setCell _ _).setCell _ _⟩;have H3:=((H2.kD).aC.right.eA 230 2).eA 3 1;refine Sat.devOf (x:={ x with Y:=Y,wv:=.slice none 0 0,Z:=[],kv:=.slice none 0 0 }) (Sat.iC ⟨hfit.sec,hfit.vals,rfl,by simp⟩ ?_)
   exact H3.to (by
    simp only [Dx.cells,ay.fm,List.length_nil,bB,gX,List.flatMap_nil,List.map_nil]
    ac_rfl)
end Go.Nn
