/- Steps. -/
import Derived.Test.YtacliaemfegopaaGreatDoorKP15
import Derived.Test.YtacliaemfegopaaGreatDoorKP8
import Derived.Test.YtacliaemfegopaaGreatDoorKP4
import Derived.TacticsInMore
import Derived.LoopNIn
import Derived.LoopIn
set_option linter.unusedVariables false
set_option linter.unusedSimpArgs false
set_option maxRecDepth 100000
set_option maxHeartbeats 40000000
open Go.Proofs Go.SL
namespace Go.Ba
open Go.RowKit Go.SL Go.Sort
def gX (l:List Int):List Value:=l.map (Value.int .i64)
theorem ti (d:List Int) (c:Array Value) (h:d.length≤c.size) :
  putCells (Value.int .i64) 0 d.toArray c=(gX d++c.toList.drop d.length).toArray:=by
 apply Array.ext_getElem?;intro k;simp only [putCells,Array.getElem?_mapIdx,gX,List.getElem?_toArray,List.getElem?_append,List.length_map,List.getElem?_map,List.getElem?_drop,List.size_toArray]
 by_cases hk:k<d.length
 ·rw [if_pos hk,Array.getElem?_eq_getElem (by omega),List.getElem?_eq_getElem hk]
  simp [hk]
 ·rw [if_neg hk,show d.length+(k-d.length)=k by omega]
  cases hc:c[k]? with
  | none=>simp [← Array.getElem?_toList] at hc ⊢;omega
  | some x=>
   simp only [Option.map_some];rw [if_neg (by omega),← hc];simp
theorem Sat.putRow {w:World} {b:Nat} {c:Array Value} {T:TypeId} {fr:Nat × Nat} {Fr:ah} (h:Sat w (pt b (.cells c T fr)*Fr)) (d:List Int) (n:Nat) (os:Array Obj) (hd:d.length≤c.size) :
  Sat (grow (putRow (Value.int .i64) (Go.Sort.ahead w n) b 0 d.toArray) os) (pt b (.cells (gX d++c.toList.drop d.length).toArray T fr)*Fr)∧ai w (grow (putRow (Value.int .i64) (Go.Sort.ahead w n) b 0 d.toArray) os):=by
 have hh:∀ k,k<w.heap.size→(grow (Go.Sort.putRow (Value.int .i64) (Go.Sort.ahead w n) b 0 d.toArray) os).heap[k]?=(Go.Sort.putRow (Value.int .i64) (Go.Sort.ahead w n) b 0 d.toArray).heap[k]?:=fun k hk=>by
  rw [show (grow (Go.Sort.putRow (Value.int .i64) (Go.Sort.ahead w n) b 0 d.toArray) os).heap=(Go.Sort.putRow (Value.int .i64) (Go.Sort.ahead w n) b 0 d.toArray).heap++os from rfl];exact Array.getElem?_append_left (by rw [size_putRow];exact hk)
 have h1:Sat (Go.Sort.putRow (Value.int .i64) (Go.Sort.ahead w n) b 0 d.toArray) (pt b (.cells (gX d++c.toList.drop d.length).toArray T fr)*Fr):=by
  refine h.fw ?_ fun k hk=>?_
  ·show (w.heap.modify b _)[b]?=_
   rw [Array.getElem?_modify,if_pos rfl,h.heap,← ti d c hd]
   rfl
  ·show (w.heap.modify b _)[k]?=_
   rw [Array.getElem?_modify,if_neg (fun e=>hk e.symm)]
 refine ⟨h1.carry fun k o hk=>?_,⟨rfl,rfl,rfl,by rw [size_grow,size_putRow];exact Nat.le_add_right _ _⟩⟩;have:=(Array.getElem?_eq_some_iff.1 hk).1;rw [size_putRow] at this;rw [hh k this];exact hk
theorem GX (v:Value) (zs:List Int) (w:World) (Fr:ah) (h:Sat w (sl 3 1 v zs.length (gX zs)*Fr)) (hsz:zs.length<4611686018427387904) :
  Calls Tryz.prog 234 #[v] w fun e w'=>e = .returned (.tuple #[])∧Sat w' (sl 3 1 v zs.length (gX (sorted zs))*Fr)∧ai w w':=by
 rcases h.cX with ⟨rfl,hn,hz,hF⟩|⟨g,cap,cur,rfl,h3,h4,h5,h6,hF⟩
 ·obtain rfl:zs=[]:=List.eq_nil_of_length_eq_zero hn
  refine (Tryz.slices_Sort_int_none _ _ _).mono ?_;rintro e w' ⟨rfl,rfl⟩;exact ⟨rfl,by simpa [sorted] using h,ai.refl _⟩
 ·have hc:∀ j,j<zs.length→cur[j]?=some (.int .i64 zs[j]!):=fun j hj=>by
   have e:=congrArg (·[j]?) h6;simp only [gX,List.getElem?_take,Nat.mul_one,hj,if_true,List.getElem?_map,Array.getElem?_toList] at e;rw [e,List.getElem?_eq_getElem hj];simp [hj]
  refine (Tryz.slices_Sort_int g 0 cap zs w (fun j hj=>?_) hF.lt hsz).mono ?_
  ·have hj':j<zs.length:=by simpa using hj
   refine ⟨?_,hF.frozen _⟩;rw [hF.cell,Nat.zero_add,hc j hj'];simp
  ·rintro e w' ⟨rfl,n,os,rfl⟩
   obtain ⟨H,hs⟩:=Sat.putRow hF (sorted zs) n os (by rw [ee,h5];omega);refine ⟨rfl,?_,hs⟩
   have:=Sat.l7 (sz:=1) (n:=zs.length) (cap:=cap) H h3 h4 (by
    simp only [List.size_toArray,List.length_append,gX,List.length_map,ee,List.length_drop,Array.length_toList,h5];omega)
   refine this.to ?_;congr 2;rw [Nat.mul_one];exact List.take_left' (by rw [gX,List.length_map,ee])
end Go.Ba
namespace Go.Ba
open Go.RowKit Go.SL
attribute [local go_sem] Oper.semAt_some
def AX (x:Int) (vs:Array Value):ah:=fact (vs=#[.int .i64 x])
theorem Sat.AX {w:World} {Fr:ah} (x:Int) (h:Sat w Fr):Sat w (AX x #[.int .i64 x]*Fr):=Sat.ak.2 ⟨rfl,h⟩
def rX (b r bx:Nat) (o:Obj) (M:KV) (A:List Int→ah) (G:ah) (w0:World) (k:Nat) (wr:World):Prop:=
 ∃ D it,M.length≤D.length+k∧Iter b o M D it∧ai w0 wr∧Sat wr (pt r it*(pt b o*(pt bx (.cells #[.map (some b)] 172 (0,0))*(A (D.map Prod.fst)*G))))
def qv (M:KV):List Int:=M.map Prod.fst
def partOf (M:KV) (ys:List Int):Prop:=ys.Nodup∧∀ x ∈ ys,x ∈ qv M
theorem Eb (n:Nat) (bx b:Nat) (M:KV) :
  fE Fence.wide n Tryz.prog 235 #[.pointer (some ⟨bx,0,none⟩)] (pt bx (.cells #[.map (some b)] 172 (0,0))*mp b M)
   AX (fun ys=>ys.Perm (qv M)) (partOf M):=by
 intro l A Ax G w0 w hY hs h0;obtain ⟨o,hm,hb,hS⟩:=Sat.od (F:=pt bx (.cells #[.map (some b)] 172 (0,0))*(A []*G)) (h0.to (by ac_rfl));obtain ⟨it,hrg,hit⟩:=nG (P:=Tryz.prog) Tryz.underlying172 hb hm;have hcell:=hS.ag.cell 0;have hA:=hS.alloc it;have hs1:ai w0 (w.alloc it):=hs.alloc _;refine callsIn_of_wp Tryz.func235 rfl trivial ?_ rfl;simp only [Tryz.ntmps235,List.size_toArray,List.length_cons,List.length_nil,Nat.reduceAdd,Nat.reduceSub,Array.replicate_succ,Array.replicate_zero,List.push_toArray,List.append_toArray,List.nil_append,List.cons_append]
 gi_wp2
 gi_loopw [] (fun wr=>∃ k,rX b w.heap.size bx o M A G w0 k wr) (fun wr=>leastOf (fun k=>rX b w.heap.size bx o M A G w0 k wr))
 case atStart=>exact ⟨M.length,[],it,by simp,hit,hs1,hA⟩
 case round=>
  obtain ⟨hk,hmin⟩:=leastOf_spec hrel;generalize leastOf (fun k=>rX b w.heap.size bx o M A G w0 k wr)=gk at hk hmin ⊢;obtain ⟨D,it',hlen,hit',hside,hsat⟩:=hk;have hbr:=hsat.ag.heap;rcases hsat.next (P:=Tryz.prog) hbr hit' with ⟨hperm,hnx⟩|⟨p,it2,w2,hp,hpD,hnx,hsat2,hit2,hside2,hb2,hen⟩
  ·have Hp:=ae hperm;clear hperm
   gi_wp2
   go_end0
   refine ⟨⟨_,rfl⟩,hside,.inl ⟨D.map Prod.fst,Hp.out.map _,?_⟩⟩;have:=hsat.right;exact (Sat.tH this hm).to (by ac_rfl)
  ·have hnd:=kU hit2
   have hSp:partOf M (D.map Prod.fst++[p.1]):=⟨by simpa using hnd.1,fun x hx=>by
    have:x ∈ (D++[p]).map Prod.fst:=by simpa using hx
    obtain ⟨q,hq,rfl⟩:=List.mem_map.1 this;exact List.mem_map.2 ⟨q,hnd.2 q hq,rfl⟩⟩
   have hle:=CM hit2;rw [List.length_append,List.length_singleton] at hle
   obtain ⟨fn,tmps,assign,body,hy,hR⟩:=hY (D.map Prod.fst) p.1 #[.int .i64 p.1] (pt w.heap.size it2*(pt b o*(pt bx (.cells #[.map (some b)] 172 (0,0))*G))) w2 hSp (hside.trans hside2)
    ((Sat.AX p.1 hsat2).to (by ac_rfl))
   have K:=ae hlen;have K2:=ae hle;have K3:=ae hm
   gi_wp2
   refine ⟨fun h=>(by cases h),hR.mono ?_⟩;rintro e W' (⟨rfl,hs3,hsat3⟩|⟨rfl,hs3,hsat3⟩)
   ·have hrel':rX b w.heap.size bx o M A G w0 (gk-1) W':=
     ⟨D++[p],it2,by have:=K.out;simp;omega,hit2,hs3,by rw [List.map_append];exact hsat3.to (by simp only [List.map_cons,List.map_nil];ac_rfl)⟩
    gi_wp2
    go_roundw
    case rel=>exact ⟨_,hrel'⟩
    case measure=>exact Nat.lt_of_le_of_lt ((leastOf_spec ⟨_,hrel'⟩).2 _ hrel') (by have:=K.out;have:=K2.out;omega)
   ·gi_wp2
    refine bodyPost_ret (results_none rfl _ _ _) rfl ?_;refine ⟨⟨_,rfl⟩,hs3,.inr ⟨_,hSp,?_⟩⟩;exact (Sat.tH (hsat3.to (by ac_rfl:_=pt b o*(pt w.heap.size it2*(Ax (D.map Prod.fst++[p.1])*(pt bx (.cells #[.map (some b)] 172 (0,0))*G))))) K3.out).ag.right.to (by ac_rfl)
theorem sM:(Tryz.prog.info? 3).map (fun i=>(i.zero,i.size,i.bytes))=some (some (.int .i64 0),1,8):=by kernel_rfl
def P0 (It G:ah) (S:List Int→Prop) (w0:World) (e:Ending) (w':World):Prop:=
 ∃ v ys,S ys∧e = .returned v∧Sat w' (sl 3 1 v ys.length (gX ys)*(It*G))∧ai w0 w'
def IX (bx:Nat) (ys:List Int):ah:=ex fun v=>pt bx (.cells #[v] 22 (0,0))*sl 3 1 v ys.length (gX ys)
theorem uM {gf:Nat} {lb:Array Value} {It:ah} {S Sp:List Int→Prop} (eg:∀ args w,(callFunc gf args).run Tryz.prog w = .ok (.enter gf args) w)
  (hit:∀ n,fE Fence.wide n Tryz.prog gf lb It AX S Sp) (N:Nat) (hN:N≤1000000000) (hSp:∀ ys,Sp ys→ys.length≤N) (w w0:World) (G:ah) (hs:ai w0 w) (h0:Sat w (It*G)) :
  Calls Tryz.prog 260 #[.slice none 0 0,.func (.func gf) #[] lb] w (P0 It G S w0):=by
 obtain ⟨i0,hi,hz,hs0,hb0⟩:=info_parts sM;refine (callsIn_wide (n:=9)).1 ?_;refine callsIn_of_wp_marks Tryz.func260 rfl trivial ?_ rfl;simp only [Tryz.ntmps260,List.size_toArray,List.length_cons,List.length_nil,Nat.reduceAdd,Nat.reduceSub,Array.replicate_succ,Array.replicate_zero,List.push_toArray,List.append_toArray,List.nil_append,List.cons_append]
 gi_wp2
 have hA:=h0.alloc (.cells #[.slice none 0 0] 22 (0,0));have hs1:=hs.alloc (.cells #[.slice none 0 0] 22 (0,0))
 have hstart:Sat (w.alloc (.cells #[.slice none 0 0] 22 (0,0))) (IX w.heap.size []*(It*G)):=
  Sat.au.2 ⟨.slice none 0 0,(hA.eA 3 1).to (by simp only [gX,List.map_nil,List.length_nil];ac_rfl)⟩
 refine jl (w0:=w0) rfl (by decide) (gf:=gf) (lb:=lb) rfl trivial eg (hit _) (IX w.heap.size) (fun _ _=>fact False)
  (fun pre x a'=>fact (a'={ tmps:=#[.slice none 0 0,.func (.func gf) #[] lb,.pointer (some ⟨w.heap.size,0,none⟩),undef,.slice none 0 0,.int .i64 x,.func (.func gf) #[] lb,.int .i64 x,undef,undef,undef,undef,undef],defers:=[] })*IX w.heap.size pre) G ?hps hs1 hstart ?assign ?body ?done ?stop
 case hps=>
  intro x vs Fr W h;obtain ⟨rfl,_⟩:=Sat.ak.1 h
  rfl
 case assign=>
  intro l r pre x vs Fr W K _ hsd H hK;obtain ⟨rfl,H2⟩:=Sat.ak.1 (H.to (aD _ _ _))
  gi_wp2
  exact hK _ _ hsd ((Sat.ak.2 ⟨rfl,H2⟩:Sat W (fact _*_)).to (aw _ _ _).symm)
 case body=>
  intro l r pre x a' Fr W hp hsd H;obtain ⟨rfl,H2⟩:=Sat.ak.1 (H.to (aw _ _ _));obtain ⟨v,H⟩:=Sat.au.1 H2;have hlen:pre.length+1≤1000000000:=by have:=hSp _ hp;simp at this;omega
  have H1:=H.to (aw _ _ _);have hcell:=H1.cell 0;have hfr:=H1.frozen 0;have hA:=H1.alloc (.cells #[.int .i64 x] 3 (0,0))
  have hR:nA (W.alloc (.cells #[.int .i64 x] 3 (0,0))) 1 (.slice (some ⟨W.heap.size,0,none⟩) 1 1) 1 [.int .i64 x]:=
   ⟨rfl,.inr ⟨_,_,rfl,fun j u hu=>by
    rw [Addr.add_lit,Nat.zero_add];exact (hA.cell j).trans (by simpa using hu)⟩⟩
  obtain ⟨v',w',hrun,hsat',hside'⟩:=Sat.append (P:=Tryz.prog) (ty:=22) (F:=pt w.heap.size (.cells #[v] 22 (0,0))*(pt l (.loop r)*Fr)) Tryz.underlying22 hi hz hs0 hb0 rfl (hA.right.to (by ac_rfl)) hR (by simp [Value.oneCell']) (by unfold maxLen;omega) (by omega);obtain ⟨aa,ac,rfl⟩:=aB hsat';have hcell':=hsat'.ag.cell 0;have hfr':=hsat'.ag.frozen 0;have hset:=hsat'.ag.setCell 0 (.slice aa (pre.length+1) ac);have Hrun:=ae hrun
  gi_wp2_with (gi_at_builtin;refine cY Hrun.out _ _ rfl rfl rfl rfl rfl ?_)
  refine ⟨(hsd.alloc _).trans hside' |>.setCell _ _,Sat.au.2 ⟨.slice aa (pre.length+1) ac,hset.to ?_⟩⟩;simp only [gX,List.map_append,List.length_append,List.map_cons,List.map_nil,List.length_cons,List.length_nil]
  ac_rfl
 case done=>
  intro D ys W hS hsd H;obtain ⟨v,H⟩:=Sat.au.1 H;have hK:=(H.to (by ac_rfl:_=pt D (.deferred (some []))*(pt w.heap.size (.cells #[v] 22 (0,0))*sl 3 1 v ys.length (gX ys)*(It*G)))).heap;have H1:=H.to (aw _ _ _);have hcell:=H1.cell 0;have hfr:=H1.frozen 0;have HD:Sat W (pt D (.deferred (some []))*(sl 3 1 v ys.length (gX ys)*(It*G))):=H1.right.to (by ac_rfl)
  gi_wp2
  refine ⟨by simp,.inl ⟨_,_,rfl,run_takeDeferred hK,?_⟩⟩;exact ⟨_,results_tmp rfl _ _ _,v,ys,hS,rfl,(HD.putObj _).right,hsd.putObj _ _⟩
 case stop=>
  intro D c ys W _ _ H;exact (Sat.ak.1 H).1.elim
theorem yA {gf:Nat} {lb:Array Value} {It:ah} {S Sp:List Int→Prop} (eg:∀ args w,(callFunc gf args).run Tryz.prog w = .ok (.enter gf args) w)
  (hit:∀ n,fE Fence.wide n Tryz.prog gf lb It AX S Sp) (N:Nat) (hN:N≤1000000000) (hSp:∀ ys,Sp ys→ys.length≤N) (w w0:World) (G:ah) (hs:ai w0 w) (h0:Sat w (It*G)) :
  Calls Tryz.prog 233 #[.func (.func gf) #[] lb] w (P0 It G S w0):=by
 have hc:=uM eg hit N hN hSp w w0 G hs h0
 go_enter Tryz.func233,Tryz.ntmps233
 go_wp2_with fail
 refine hc.mono ?_;rintro e w' ⟨v,ys,hS,rfl,H,hsd⟩
 go_wp2
 go_ret
 exact ⟨v,ys,hS,rfl,H,hsd⟩
def wO (It G:ah) (S:List Int→Prop) (w0:World) (e:Ending) (w':World):Prop:=
 ∃ v ys,S ys∧e = .returned v∧Sat w' (sl 3 1 v ys.length (gX (sorted ys))*(It*G))∧ai w0 w'
theorem BE {gf:Nat} {lb:Array Value} {It:ah} {S Sp:List Int→Prop} (eg:∀ args w,(callFunc gf args).run Tryz.prog w = .ok (.enter gf args) w)
  (hit:∀ n,fE Fence.wide n Tryz.prog gf lb It AX S Sp) (N:Nat) (hN:N≤1000000000) (hSp:∀ ys,Sp ys→ys.length≤N) (hS:∀ ys,S ys→ys.length≤N) (w w0:World) (G:ah) (hs:ai w0 w) (h0:Sat w (It*G)) :
  Calls Tryz.prog 181 #[.func (.func gf) #[] lb] w (wO It G S w0):=by
 have hc:=yA eg hit N hN hSp w w0 G hs h0
 go_enter Tryz.func181,Tryz.ntmps181
 go_wp2_with fail
 refine hc.mono ?_;rintro e w' ⟨v,ys,hSy,rfl,H,hsd⟩;have hl:ys.length<4611686018427387904:=by have:=hS _ hSy;omega
 go_wp2_with fail
 refine (GX v ys w' _ H hl).mono ?_;rintro e w2 ⟨rfl,H2,hsd2⟩
 go_wp2
 go_ret
 exact ⟨v,ys,hSy,rfl,H2,hsd.trans hsd2⟩
theorem kh {P:Program} {f:FuncId} {args:Array Value} {w:World} {R R':Ending→World→Prop} {n m:Nat} (h:Calls P f args w R) (hr:∀ e w,R e w→R' e w) :
  Fence.wide.fn f∧(Fence.wide.depth.isSome=true→1≤m)∧CallsIn Fence.wide n P f args w R':=⟨trivial,fun h=>(by cases h),(callsIn_wide.2 h).mono hr⟩
def Me (x:Int × List UInt8) (vs:Array Value):ah:=ex fun dv=>fact (vs=#[.int .i64 x.1,dv])*bs 5 dv x.2
theorem Sat.Me {w:World} {Fr:ah} {dv:Value} (x:Int × List UInt8) (h:Sat w (bs 5 dv x.2*Fr)):Sat w (Me x #[.int .i64 x.1,dv]*Fr):=
 Sat.au.2 ⟨dv,(Sat.ak.2 ⟨rfl,h⟩:Sat w (fact _*_)).to (aw _ _ _).symm⟩
def O4 (c:Nat) (w:World) (e:Ending) (w':World):Prop:=e = .returned (.func (.func 235) #[] #[.pointer (some ⟨w.heap.size,0,none⟩)])∧w'=w.alloc (.cells #[.map (some c)] 172 (0,0))
theorem Ei (w:World) (c:Nat):Calls Tryz.prog 182 #[.map (some c)] w (O4 c w):=by
 go_enter Tryz.func182,Tryz.ntmps182
 go_wp2
 go_ret
 exact ⟨rfl,rfl⟩
def Qn (p:Option Addr) (w:World) (e:Ending) (w':World):Prop:=e = .returned (.func (.func 179) #[] #[.pointer (some ⟨w.heap.size,0,none⟩)])∧w'=w.alloc (.cells #[.pointer p] 81 (0,0))
theorem G5 (w:World) (p:Option Addr):Calls Tryz.prog 131 #[.pointer p] w (Qn p w):=by
 go_enter Tryz.func131,Tryz.ntmps131
 go_wp2
 go_ret
 exact ⟨rfl,rfl⟩
def nE (S:Hp) (bx b:Nat) (rd:Value) (err:Int) (W D:CB):ah:=
 pt bx (.cells #[.pointer (some ⟨b,0,none⟩)] 81 (0,0))*(az 176 5 S b rd err W D*aj S)
def OS (A:List (Int × List UInt8)→ah) (W:CB) (v:Value) (ks:List Int) (X:ah) (w0:World) (i:Value) (wr:World):Prop:=
 ∃ k:Nat,k≤ks.length∧i = .int .i64 k∧ai w0 wr∧Sat wr (A ((gH W).take k)*(sl 3 1 v ks.length (gX ks)*X))
theorem Gl (W:CB) (k:Nat) (h:k<(sorted (W.map Prod.fst)).length) :
  (gH W).take k++[((sorted (W.map Prod.fst))[k],(aH W (sorted (W.map Prod.fst))[k]).getD [])]=(gH W).take (k+1):=by
 have hk:k<(gH W).length:=by simpa [gH] using h
 rw [List.take_succ_eq_append_getElem hk];simp [gH]
theorem Jm (n:Nat) (S:Hp) (bx b:Nat) (rd:Value) (err:Int) (W D:CB) (hW:W.length≤1000000) :
  fE Fence.wide n Tryz.prog 179 #[.pointer (some ⟨bx,0,none⟩)] (nE S bx b rd err W D) Me (fun ys=>ys=gH W) (fun ys=>ys <+: gH W):=by
 intro l A Ax G w0 w hY hs h0;have hB:Sat w (az 176 5 S b rd err W D*(aj S*(pt bx (.cells #[.pointer (some ⟨b,0,none⟩)] 81 (0,0))*(A []*G)))):=h0.to (by unfold nE;ac_rfl);have hbx:=hB.aq.cell 0;obtain ⟨x,hx⟩:=hB.dH;have hc2:w.cell? ⟨b,2,none⟩=some x.wv:=hx.cell 2;obtain ⟨Z,z1,z2,z3,hrd,_⟩:=(hx.to (by ac_rfl:_=aJ 5 S x.wv x.ws W*(aj S*(pt b (.cells (x.cells rd err) 176 (0,0))*(aJ 5 S x.tv x.ts D*(eP x.av*(pt bx (.cells #[.pointer (some ⟨b,0,none⟩)] 81 (0,0))*(A []*G)))))))).kr;clear hB hx;have Hrd:=ae hrd;clear hrd;refine callsIn_of_wp Tryz.func179 rfl trivial ?_ rfl;simp only [Tryz.ntmps179,List.size_toArray,List.length_cons,List.length_nil,Nat.reduceAdd,Nat.reduceSub,Array.replicate_succ,Array.replicate_zero,List.push_toArray,List.append_toArray,List.nil_append,List.cons_append]
 gi_wp2_with fail
 refine kh (kT w x.wv _ Hrd.out) ?_;rintro e w1 ⟨c,Dm,rfl,hperm,hs1,hd1⟩;have H1:=hs1.under h0;clear hbx hc2 h0 hs1
 gi_wp2_with fail
 refine kh (Ei w1 c) ?_;rintro e w2 ⟨rfl,rfl⟩;have H2:=H1.alloc (.cells #[.map (some c)] 172 (0,0))
 have hlen:Dm.length≤1000000:=by
  have e1:=hperm.length_eq;have e2:=z1.length_eq;simp only [List.length_map] at e1 e2;omega
 have Hkl:Hid (∀ ys:List Int,ys.Perm (qv Dm)→ys.length≤1000000):=fun ys h=>by rw [h.length_eq];simpa [qv] using hlen
 have Hpl:Hid (∀ ys:List Int,partOf Dm ys→ys.length≤1000000):=fun ys h=>Nat.le_trans (tM h.1 h.2) (by simpa [qv] using hlen);have hz:(W.map Prod.fst).Perm (Z.map Prod.fst):=by have:=(z1.map Prod.fst).symm;rwa [List.map_map] at this
 have hkz:(qv Dm).Perm (Z.map Prod.fst):=by have:=hperm.map Prod.fst;rwa [List.map_map] at this
 clear H1 hlen
 gi_wp2_with fail
 refine kh (BE (enters_of Tryz.func235 (by kernel_rfl) rfl) (fun n=>Eb n w1.heap.size c Dm) 1000000 (by decide) Hpl.out Hkl.out _ _ (A []*(nE S bx b rd err W D*G)) (ai.refl _) (H2.to (by ac_rfl))) ?_;rintro e w3 ⟨v,ys,hys,rfl,H3,d3⟩;have d4:ai w0 w3:=((hs.trans hd1).alloc _).trans d3;have hks:sorted ys=sorted (W.map Prod.fst):=xI (hys.trans (hkz.trans hz.symm));rw [hks,show ys.length=(sorted (W.map Prod.fst)).length by rw [← hks,ee]] at H3;have hsl:=aB H3;obtain ⟨va,vc,rfl⟩:=hsl;have hasc:=Gl W;have hmem:∀ k ∈ sorted (W.map Prod.fst),k ∈ Z.map Prod.fst:=fun k hk=>hz.mem_iff.1 ((sorted_perm _).mem_iff.1 hk);have hal:(gH W).length=(sorted (W.map Prod.fst)).length:=by simp [gH]
 generalize sorted (W.map Prod.fst)=ks at H3 hasc hmem hal ⊢;have Hkl:Hid (ks.length≤1000000):=by show ks.length≤_;rw [← hal];simp only [gH,List.length_map,ee];exact hW
 have Hasc:=ae hasc;have Hmem:=ae hmem;have Hal:=ae hal;have Hz3:=ae z3;have Hz2:=ae z2;have Hz1:=ae z1;have Hpm:=ae hperm;generalize hX:pt w1.heap.size (.cells #[.map (some c)] 172 (0,0))*mp c Dm=X1 at H3;have H4:Sat w3 (A ((gH W).take 0)*(sl 3 1 (.slice va ks.length vc) ks.length (gX ks)*(X1*(nE S bx b rd err W D*G)))):=H3.to (by simp only [List.take_zero];ac_rfl)
 gi_wp2
 gi_loopw [16] (fun i wr=>OS A W (.slice va ks.length vc) ks (X1*(nE S bx b rd err W D*G)) w0 i wr) (fun i _=>ks.length-(Proofs.intOf i).toNat)
 case atStart=>exact ⟨0,Nat.zero_le _,rfl,d4,H4⟩
 case round=>
  obtain ⟨k,hk,rfl,hside,hsat⟩:=hrel;have hsl:=hsat.ag.nB
  by_cases hlt:k<ks.length
  ·obtain ⟨_,hh⟩:=hsl
   obtain ⟨g,hva,hcell⟩:∃ g,va=some ⟨g,0,none⟩∧wr.cell? ⟨g,k,none⟩=some (.int .i64 ks[k]):=by
    rcases hsat.ag.cX with ⟨_,h0,_,_⟩|⟨g,cap,cur,he,h3,h4,h5,h6,hF⟩
    ·omega
    ·cases he
     refine ⟨g,rfl,?_⟩;rw [hF.cell];have e:=congrArg (·[k]?) h6;simp only [gX,List.getElem?_take,Nat.mul_one,hlt,if_true,List.getElem?_map,Array.getElem?_toList] at e;rw [e,List.getElem?_eq_getElem hlt];rfl
   subst hva
   obtain ⟨z,hz⟩:∃ z,aH Z ks[k]=some z:=by
    match hq:aH Z ks[k] with
    | some z=>exact ⟨z,rfl⟩
    | none=>exact absurd (Hmem.out _ (List.getElem_mem hlt)) (fK.1 hq)
   have hV:=Hz3.out _ (lZ hz)
   have hW2:aH W ks[k]=some z.2:=by
    rw [← mM Hz1.out (by rw [List.map_map];exact Hz2.out),ju (fun z:Value × List UInt8=>z.2),hz];rfl
   have hM:aH Dm ks[k]=some z.1:=by
    rw [mM Hpm.out ((Hpm.out.map _).nodup_iff.2 (by rw [List.map_map];exact Hz2.out)),ju (fun z:Value × List UInt8=>z.1),hz];rfl
   have hS:Sat wr (mp c Dm*(aj S*(A ((gH W).take k)*(sl 3 1 (.slice (some ⟨g,0,none⟩) ks.length vc) ks.length (gX ks)*(pt w1.heap.size (.cells #[.map (some c)] 172 (0,0))*(pt bx (.cells #[.pointer (some ⟨b,0,none⟩)] 81 (0,0))*(az 176 5 S b rd err W D*G))))))):=
    hsat.to (by rw [← hX];unfold nE;ac_rfl)
   have hlook:=(hS.lookup (P:=Tryz.prog) Tryz.underlying172 Tryz.underlying3 (fA wr) ks[k] false)
   rw [hM] at hlook;have hrd:=hV.rd hS.ag;have Hr:=ae hrd;have hbg:Hid (z.2.length≤1000000000):=Nat.le_trans hV.1 (by decide);have hen:(gH W).take k++[(ks[k],z.2)]=(gH W).take (k+1):=by rw [← Hasc.out k hlt,hW2];rfl
   have Hen:=ae hen;have hpre:(gH W).take k++[(ks[k],z.2)] <+: gH W:=by rw [hen];exact List.take_prefix _ _
   have Hpre:=ae hpre;have hkl:=Hkl.out;generalize ks[k]=id at hcell hlook Hen Hpre
   gi_wp2_with fail
   refine kh (iY wr z.1 z.2 Hr.out hbg) ?_;rintro e w4 ⟨v1,rfl,hs4,hd4⟩;have H5:=hs4.under hsat;obtain ⟨fn,tmps,assign,body,hy,hR⟩:=hY _ (id,z.2) #[.int .i64 id,v1] _ w4 Hpre.out (hside.trans hd4) (Sat.Me (id,z.2) H5).ag
   gi_wp2
   refine ⟨fun h=>(by cases h),hR.mono ?_⟩;rintro e W' (⟨rfl,hs5,hsat5⟩|⟨rfl,hs5,hsat5⟩)
   ·gi_wp2
    go_roundw
    case rel=>exact ⟨k+1,by omega,by go_num,hs5,by rw [← Hen.out];exact hsat5⟩
    case measure=>simp [Proofs.intOf];omega
   ·gi_wp2
    refine bodyPost_ret (results_none rfl _ _ _) rfl ?_;exact ⟨⟨_,rfl⟩,hs5,.inr ⟨_,Hpre.out,hsat5.gZ.gZ⟩⟩
  ·have hkn:k=ks.length:=by omega
   subst hkn;have hfin:(gH W).take ks.length=gH W:=by rw [← Hal.out];exact List.take_length
   rw [hfin] at hsat;have hsat':=hsat.gZ.gZ;clear hsl hsat hfin
   gi_wp2
   go_end0
   exact ⟨⟨_,rfl⟩,hside,.inl ⟨_,rfl,hsat'⟩⟩
end Go.Ba
namespace Go.SL
open Go.RowKit
theorem Sat.zi {w:World} {S S2:Hp} {F:ah} (h:Sat w (aj S*(aj S2*F))):Sat w (aj (join S S2)*F)∧Ext S (join S S2)∧Ext S2 (join S S2):=by
 obtain ⟨m,a,h1,h2,rfl,⟨h3,h4,rfl,f,d',rfl⟩,d,rfl⟩:=h;obtain ⟨d1,d2⟩:=fM.1 d;refine ⟨⟨join (join h1 h3) h4,by rw [join_assoc];exact a,join h1 h3,h4,rfl,f,dY.2 ⟨d2,d'⟩,rfl⟩,fun k x hk=>by simp [join,hk],fun k x hk=>?_⟩;rcases d1 k with e|e
 ·simp [join,e,hk]
 ·rw [hk] at e;cases e
theorem Sat.Ek {T:TypeId} {w:World} {S:Hp} {v:Value} {sh:Bool} {C:CB} {F:ah} (h:Sat w (aJ T S v sh C*F)):∀ p ∈ C,small p.2:=by
 obtain ⟨k,a,h1,h2,⟨Z,z1,z2,z3,z4⟩,f,d,rfl⟩:=h;intro p hp;obtain ⟨z,hz,rfl⟩:=List.mem_map.1 (z1.mem_iff.2 hp);exact (z3 z hz).1
def oj (Z:List (Int × Value × List UInt8)):List Value:=Z.flatMap fun z=>[.int .i64 z.1,z.2.1]
def gi (TW T:TypeId) (S:Hp) (v:Value) (L:CB):ah:=ex fun Z:List (Int × Value × List UInt8)=>
 fact (Z.map (fun z=>(z.1,z.2.2))=L∧∀ z ∈ Z,oV T S z.2.1 z.2.2)*sl TW 2 v L.length (oj Z)
theorem Sat.kW {w:World} {TW T:TypeId} {S:Hp} {v:Value} {L:CB} {F:ah} (h:Sat w (gi TW T S v L*F)) :
  ∃ Z:List (Int × Value × List UInt8),Z.map (fun z=>(z.1,z.2.2))=L∧(∀ z ∈ Z,oV T S z.2.1 z.2.2)∧Sat w (sl TW 2 v L.length (oj Z)*F):=by
 obtain ⟨Z,h⟩:=Sat.au.1 h;obtain ⟨⟨h1,h2⟩,h3⟩:=Sat.ak.1 (h.to (aw _ _ _));exact ⟨Z,h1,h2,h3⟩
theorem Sat.nR {w:World} {TW T:TypeId} {S:Hp} {v:Value} {L:CB} {F:ah} (Z:List (Int × Value × List UInt8)) (h1:Z.map (fun z=>(z.1,z.2.2))=L) (h2:∀ z ∈ Z,oV T S z.2.1 z.2.2)
  (h:Sat w (sl TW 2 v L.length (oj Z)*F)):Sat w (gi TW T S v L*F):=
 Sat.au.2 ⟨Z,(Sat.ak.2 ⟨⟨h1,h2⟩,h⟩:Sat w (fact _*_)).to (aw _ _ _).symm⟩
theorem Sat.sV {w:World} {TW T:TypeId} {S S':Hp} {v:Value} {L:CB} {F:ah} (h:Sat w (gi TW T S v L*F)) (e:Ext S S'):Sat w (gi TW T S' v L*F):=by
 obtain ⟨Z,h1,h2,h3⟩:=h.kW;exact Sat.nR Z h1 (fun z hz=>(h2 z hz).mono e) h3
end Go.SL
namespace Go.Ba
open Go.RowKit Go.SL
attribute [local go_sem] Oper.semAt_some
theorem l8 {P:Program} {f:FuncId} {args:Array Value} {w:World} {R R':Ending→World→Prop} {n:Nat} (h:Calls P f args w R) (hr:∀ e w,R e w→R' e w) :
  Fence.wide.fn f∧CallsIn Fence.wide n P f args w R':=⟨trivial,(callsIn_wide.2 h).mono hr⟩
theorem AB:(Tryz.prog.info? 188).map (fun i=>(i.zero,i.size,i.bytes))=some (some (.agg #[.int .i64 0,.slice none 0 0]),2,32):=by kernel_rfl
def Pm (S:Hp) (b:Nat) (rd:Value) (err:Int) (W D:CB) (F:ah) (w:World) (e:Ending) (w':World):Prop:=
 ∃ S' v,Ext S S'∧e = .returned v∧Sat w' (gi 188 5 S' v (gH W)*(az 176 5 S' b rd err W D*(aj S'*F)))∧ai w w'
def CJ (bx:Nat) (ys:CB):ah:=ex fun p:Hp × Value=>pt bx (.cells #[p.2] 126 (0,0))*(gi 188 5 p.1 p.2 ys*aj p.1)
theorem DU {W:CB} (h:∀ p ∈ W,small p.2):∀ p ∈ gH W,small p.2:=by
 intro p hp;obtain ⟨k,_,rfl⟩:=List.mem_map.1 hp
 match hk:aH W k with
 | none=>simp [small]
 | some l=>exact h _ (lZ hk)
def Qb (bx b cx:Nat) (pre:CB) (x:Int × List UInt8) (a':Act):ah:=ex fun dv=>
 fact (a'={ tmps:=#[.pointer (some ⟨b,0,none⟩),undef,.slice none 0 0,.pointer (some ⟨bx,0,none⟩),.int .i64 x.1,dv,.pointer (some ⟨b,0,none⟩),.func (.func 179) #[] #[.pointer (some ⟨cx,0,none⟩)],.int .i64 x.1,dv,undef,undef,undef,undef,undef,undef,undef],defers:=[] })*(bs 5 dv x.2*CJ bx pre)
theorem JH (w:World) (S:Hp) (b:Nat) (rd:Value) (err:Int) (W D:CB) (F:ah) (hW:W.length≤1000000)
  (h:Sat w (az 176 5 S b rd err W D*(aj S*F))) :
  Calls Tryz.prog 75 #[.pointer (some ⟨b,0,none⟩)] w (Pm S b rd err W D F w):=by
 obtain ⟨i0,hi,hz,hs0,hb0⟩:=info_parts AB;have hsm:∀ p ∈ W,small p.2:=by obtain ⟨x,hx⟩:=h.dH;exact hx.ag.Ek
 have hasm:=DU hsm;refine (callsIn_wide (n:=9)).1 ?_;refine callsIn_of_wp_marks Tryz.func75 rfl trivial ?_ rfl;simp only [Tryz.ntmps75,List.size_toArray,List.length_cons,List.length_nil,Nat.reduceAdd,Nat.reduceSub,Array.replicate_succ,Array.replicate_zero,List.push_toArray,List.append_toArray,List.nil_append,List.cons_append];have hA:=h.alloc (.cells #[.slice none 0 0] 126 (0,0));have hs1:=(ai.refl w).alloc (.cells #[.slice none 0 0] 126 (0,0))
 gi_wp2_with fail
 generalize w.alloc (.cells #[.slice none 0 0] 126 (0,0))=w1 at hA hs1 ⊢;refine l8 (G5 w1 _) ?_;rintro e w2 ⟨rfl,rfl⟩;have hB:=hA.alloc (.cells #[.pointer (some ⟨b,0,none⟩)] 81 (0,0));have hs2:=hs1.alloc (.cells #[.pointer (some ⟨b,0,none⟩)] 81 (0,0))
 gi_wp2_with fail
 generalize w1.alloc (.cells #[.pointer (some ⟨b,0,none⟩)] 81 (0,0))=w2 at hB hs2 ⊢
 have hstart:Sat w2 (CJ w.heap.size []*(nE S w1.heap.size b rd err W D*F)):=
  Sat.au.2 ⟨(fun _=>none,.slice none 0 0),by
   have h1:=(hB.xB.eA 188 2)
   have h2:=Sat.nR (T:=5) (S:=fun _=>none) (L:=[]) [] rfl (by simp) h1;exact h2.to (by unfold nE;ac_rfl)⟩
 refine jl (w0:=w) rfl (by decide) (gf:=179) (lb:=#[.pointer (some ⟨w1.heap.size,0,none⟩)]) rfl trivial (enters_of Tryz.func179 (by kernel_rfl) rfl)
  (Jm _ S w1.heap.size b rd err W D hW) (CJ w.heap.size) (fun _ _=>fact False) (Qb w.heap.size b w1.heap.size) F ?hps hs2 hstart ?assign ?body ?done ?stop
 case hps=>
  intro x vs Fr W h;obtain ⟨dv,h⟩:=Sat.au.1 h;obtain ⟨rfl,_⟩:=Sat.ak.1 (h.to (aw _ _ _))
  rfl
 case assign=>
  intro l r pre x vs Fr W K _ hsd H hK;obtain ⟨dv,H1⟩:=Sat.au.1 (H.to (aD _ _ _));obtain ⟨rfl,H2⟩:=Sat.ak.1 (H1.to (aw _ _ _))
  gi_wp2
  exact hK _ _ hsd (Sat.au.2 ⟨dv,(Sat.ak.2 ⟨rfl,H2⟩:Sat W (fact _*_)).to (by ac_rfl)⟩)
 case body=>
  intro l r pre x a' Fr W0 hp hsd H;obtain ⟨dv,H1⟩:=Sat.au.1 H;obtain ⟨rfl,H2⟩:=Sat.ak.1 (H1.to (aw _ _ _));have hx:x ∈ gH W:=by obtain ⟨t,ht⟩:=hp;rw [← ht];simp
  have hlen:pre.length+1≤1000000:=by
   have:=hp.length_le;simp [gH,ee] at this;omega
  obtain ⟨⟨S2,v⟩,H3⟩:=Sat.au.1 (H2.to (by ac_rfl:_=CJ w.heap.size pre*(bs 5 dv x.2*(pt l (.loop r)*Fr))));obtain ⟨S3,hE,hV,H4⟩:=Sat.xM (S:=S2) (T:=5) (v:=dv) (l:=x.2) (F:=pt w.heap.size (.cells #[v] 126 (0,0))*(gi 188 5 S2 v pre*(pt l (.loop r)*Fr))) (H3.to (by ac_rfl)) (hasm x hx);obtain ⟨Z,hZ1,hZ2,H5⟩:=(Sat.sV (H4.to (by ac_rfl:_=gi 188 5 S2 v pre*(aj S3*(pt w.heap.size (.cells #[v] 126 (0,0))*(pt l (.loop r)*Fr))))) hE).kW
  obtain ⟨da,dc,rfl⟩:∃ da dc,dv = .slice da x.2.length dc:=by
   rcases hV.2 with ⟨rfl,h0⟩|⟨g,cap,cur,rfl,_⟩
   ·exact ⟨_,_,by rw [h0];rfl⟩
   ·exact ⟨_,_,rfl⟩
  have hcell:=H5.aq.cell 0;have hfr:=H5.aq.frozen 0;have hA2:=H5.alloc (.cells #[.int .i64 x.1,.slice da x.2.length dc] 188 (0,0))
  have hR:nA (W0.alloc (.cells #[.int .i64 x.1,.slice da x.2.length dc] 188 (0,0))) 2 (.slice (some ⟨W0.heap.size,0,none⟩) 1 1) 1 [.int .i64 x.1,.slice da x.2.length dc]:=
   ⟨rfl,.inr ⟨_,_,rfl,fun j u hu=>by
    rw [Addr.add_lit,Nat.zero_add];exact (hA2.cell j).trans (by simpa using hu)⟩⟩
  obtain ⟨v',w',hrun,hsat',hside'⟩:=Sat.append (P:=Tryz.prog) (ty:=126) Tryz.underlying126 hi hz hs0 hb0 rfl hA2.right hR (by simp [Value.oneCell']) (by unfold maxLen;omega) (by omega);obtain ⟨aa,ac,rfl⟩:=aB hsat';have hcell':=hsat'.aq.cell 0;have hfr':=hsat'.aq.frozen 0;have hset:=hsat'.aq.setCell 0 (.slice aa (pre.length+1) ac);have Hrun:=ae hrun;have HV:=ae hV;have HZ1:=ae hZ1;have HZ2:=ae hZ2
  gi_wp2_with (gi_at_builtin;refine cY Hrun.out _ _ rfl rfl rfl rfl rfl ?_)
  refine ⟨(hsd.alloc _).trans hside' |>.setCell _ _,Sat.au.2 ⟨(S3,.slice aa (pre.length+1) ac),?_⟩⟩
  have h6:=Sat.nR (TW:=188) (T:=5) (S:=S3) (v:=.slice aa (pre.length+1) ac) (L:=pre++[x]) (Z++[(x.1,.slice da x.2.length dc,x.2)]) (by rw [List.map_append,HZ1.out];rfl)
   (fun z hz=>by
    rcases List.mem_append.1 hz with hz|hz
    ·exact (HZ2.out z hz)
    ·rw [List.mem_singleton.1 hz];exact HV.out)
   (hset.ag.to (by rw [List.length_append,oj,oj,List.flatMap_append];rfl))
  exact h6.to (by simp only [List.setIfInBounds_toArray,List.set_cons_zero];ac_rfl)
 case done=>
  intro D2 ys W0 hS hsd H;subst hS;obtain ⟨⟨S2,v⟩,H1⟩:=Sat.au.1 H;have H2:Sat W0 (pt w.heap.size (.cells #[v] 126 (0,0))*(pt D2 (.deferred (some []))*(gi 188 5 S2 v (gH W)*(aj S2*(nE S w1.heap.size b rd err W D*F))))):=H1.to (by ac_rfl);have hcell:=H2.cell 0;have hfr:=H2.frozen 0;have hK:=H2.ag.heap;have HD:=(H2.right.putObj (.deferred none)).right
  obtain ⟨va,vc,rfl⟩:∃ a c,v = .slice a (gH W).length c:=by
   obtain ⟨Z,_,_,h⟩:=H2.right.right.kW;exact aB h
  gi_wp2
  refine ⟨by simp,.inl ⟨_,_,rfl,run_takeDeferred hK,?_⟩⟩;obtain ⟨h3,e1,e2⟩:=(HD.to (by unfold nE;ac_rfl:_=aj S*(aj S2*(gi 188 5 S2 (.slice va (gH W).length vc) (gH W)*(pt w1.heap.size (.cells #[.pointer (some ⟨b,0,none⟩)] 81 (0,0))*(az 176 5 S b rd err W D*F)))))).zi;have h4:=(h3.ag.sV e2).aC.fh (dD e1);exact ⟨_,results_tmp rfl _ _ _,_,_,e1,rfl,(h4.jE).to (by ac_rfl),hsd.putObj _ _⟩
 case stop=>
  intro D2 c ys W0 _ _ H;exact (Sat.ak.1 H).1.elim
end Go.Ba
