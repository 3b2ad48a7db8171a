/- Steps. -/
import Derived.Test.YtacliaemfegopaaGreatDoorKP26
import Derived.Test.YtacliaemfegopaaGreatDoorKP11
set_option linter.unusedVariables false
set_option linter.unusedSimpArgs false
set_option maxRecDepth 100000
set_option maxHeartbeats 40000000
open Go.Proofs Go.SL
namespace Go.SL
open Go.RowKit
def CF (r:List UInt8):List UInt8:=(r.drop 1).take ((r.drop 1).findIdx (· == 47))
def qY (r:List UInt8):List UInt8:=(r.drop 1).drop ((r.drop 1).findIdx (· == 47))
theorem zt {r:List UInt8} (h:r≠[]):(qY r).length<r.length:=by
 unfold qY;have:0<r.length:=List.length_pos_iff.2 h;simp only [List.length_drop];omega
def df:Nat→List UInt8→List (List UInt8)
 | 0,_=>[]
 | f+1,r=>if r=[] then [] else CF r :: df f (qY r)
theorem j5:∀ (f:Nat) (r:List UInt8),(df f r).length≤f
 | 0,_=>Nat.le_refl _
 | f+1,r=>by
  unfold df
  split
  ·exact Nat.zero_le _
  ·have:=j5 f (qY r);rw [List.length_cons];omega
theorem kS (f:Nat):df f []=[]:=by cases f <;> rfl
theorem mq {f:Nat} {r:List UInt8} (h:r≠[]):df (f+1) r=CF r :: df f (qY r):=if_neg h
theorem yY:∀ (f g:Nat) (r:List UInt8),r.length≤f→r.length≤g→df f r=df g r:=by
 intro f
 induction f with
 | zero=>
  intro g r h _;have:r=[]:=List.eq_nil_of_length_eq_zero (by omega);subst this;rw [kS,kS]
 | succ f ih=>
  intro g r h1 h2
  by_cases hr:r=[]
  ·rw [hr,kS,kS]
  ·cases g with
   | zero=>exact absurd (List.eq_nil_of_length_eq_zero (by omega)) hr
   | succ g=>
    have:=zt hr;rw [mq hr,mq hr,ih g (qY r) (by omega) (by omega)]
def aV (p:List UInt8):Option (List (List UInt8)):=
 if 1000<p.length∨p.getD 0 0≠47 then none else if p=[47] then some [] else if (df p.length p).all cy=true then some (df p.length p) else none
theorem tO (c:UInt8):∀ l:List UInt8,(if Lib.indexByte l c<0 then (l.length:Int) else Lib.indexByte l c)=(l.findIdx (· == c):Nat)
 | []=>rfl
 | b :: l=>by
  have ih:=tO c l;have hge:=Lib.indexByte_ge l c;unfold Lib.indexByte;rw [List.findIdx_cons]
  cases hb:b == c with
  | true=>simp
  | false=>
   simp only [Bool.false_eq_true,if_false,cond_false,List.length_cons]
   by_cases h:Lib.indexByte l c=-1
   ·rw [h] at ih ⊢
    simp only [BEq.rfl,if_true];simp at ih ⊢;omega
   ·have h2:(Lib.indexByte l c == -1)=false:=by simpa using h
    rw [h2];simp only [Bool.false_eq_true,if_false];rw [if_neg (by omega)] at ih ⊢;omega
def strs (l:List (List UInt8)):List Value:=l.map fun x=>.string (str x)
theorem Gz (l:List UInt8) (k:Nat):(str l).extract 0 k=str (l.take k):=by
 apply ByteArray.ext;simp [str]
theorem F8 (l:List UInt8) (k:Nat):(str l).extract k l.length=str (l.drop k):=by
 apply ByteArray.ext;simp [str];exact List.take_of_length_le (by simp)
end Go.SL
namespace Go.Cl
open Go.RowKit Go.SL Go.Nn Go.Ba Go.Fs
theorem tV (l:List UInt8) (k:Nat) (hk:k≤l.length) (w:World):(Instr.slice 9 (.string (str l)) (some (.int .i64 (k:Int))) none none).run Tryz.prog w = .ok (.string (str (l.drop k))) w:=by
 rw [← F8];simp [Instr.slice,Instr.sliceBounds,Instr.sliceBound,run_underlying Tryz.underlying9,go_sem,gS,hk,Result.andThen]
theorem GP (l:List UInt8) (k:Nat) (hk:k≤l.length) (w:World):(Instr.slice 9 (.string (str l)) none (some (.int .i64 (k:Int))) none).run Tryz.prog w = .ok (.string (str (l.take k))) w:=by
 rw [← Gz];simp [Instr.slice,Instr.sliceBounds,Instr.sliceBound,run_underlying Tryz.underlying9,go_sem,gS,hk,Result.andThen]
attribute [local go_sem] Oper.semAt_some
def PH (p:List UInt8) (vs:Array Value):ah:=fact (vs=#[.string (str p)])
def uQ (pc:Nat) (p:List UInt8):ah:=pt pc (.cells #[.string (str p)] 9 (0,0))
def Nc (AA:List (List UInt8)→ah) (p:List UInt8) (X:ah) (w0:World) (u:Value) (wr:World):Prop:=
 ∃ (r:List UInt8) (ys:List (List UInt8)),r.length≤p.length∧u = .string (str r)∧df p.length p=ys++df r.length r∧ai w0 wr∧Sat wr (AA ys*X)
def B4:Value→Nat
 | .string s=>s.size
 | _=>0
theorem xw (r:List UInt8):((str r).toList == [])=decide (r=[]):=by
 have:=rU r [];rw [show (str []).toList=[] by rw [Lib.toList_data];rfl] at this;exact this
theorem AV (q:Nat) (p:List UInt8) (pc:Nat) :
  fE Fence.wide q Tryz.prog 184 #[ax pc] (uQ pc p) PH (fun ys=>ys=df p.length p) (fun ys=>ys <+: df p.length p):=by
 intro lp AA Ax G w0 w hY hs h;have c0:=h.ag.cell 0;refine callsIn_of_wp Tryz.func184 rfl trivial ?_ rfl;simp only [Tryz.ntmps184,List.size_toArray,List.length_cons,List.length_nil,Nat.reduceAdd,Nat.reduceSub,Array.replicate_succ,Array.replicate_zero,List.push_toArray,List.append_toArray,List.nil_append,List.cons_append]
 gi_wp2_with fail
 gi_loopw [3] (fun u wr=>Nc AA p (uQ pc p*G) w0 u wr) (fun u _=>B4 u)
 case atStart=>exact ⟨p,[],Nat.le_refl _,rfl,rfl,hs,h⟩
 case round=>
  obtain ⟨r,ys,hle,rfl,hys,hside,hsat⟩:=hrel
  by_cases hr:r=[]
  ·subst hr
   have hs0:((str []).toList == [])=true:=xw [];have HY:Hid (ys=df p.length p):=by show _=_;rw [hys];simp [df]
   have HS:=ae hsat
   gi_wp2_with fail
   go_end0
   exact ⟨⟨_,rfl⟩,hside,.inl ⟨_,HY.out,HS.out⟩⟩
  ·have hs0:((str r).toList == [])=false:=by rw [xw];exact decide_eq_false hr
   have hlen:=List.length_pos_iff.2 hr;obtain ⟨t,ht⟩:∃ t,r.drop 1=t:=⟨_,rfl⟩
   have h1:∀ w,(Instr.slice 9 (.string (str r)) (some (.int .i64 1)) none none).run Tryz.prog w = .ok (.string (str t)) w:=by rw [← ht];exact tV r 1 hlen
   obtain ⟨m,hm⟩:∃ m,t.findIdx (· == 47)=m:=⟨_,rfl⟩
   have hmle:m≤t.length:=by rw [← hm];exact List.findIdx_le_length
   have hpr:df r.length r=t.take m :: df (t.drop m).length (t.drop m):=by
    obtain ⟨k,hk⟩:∃ k,r.length=k+1:=⟨r.length-1,by omega⟩
    have hlt:=zt hr;rw [hk,mq hr];have e1:CF r=t.take m:=by unfold CF;rw [ht,hm]
    have e2:qY r=t.drop m:=by unfold qY;rw [ht,hm]
    rw [e2] at hlt;rw [e1,e2,yY k (t.drop m).length (t.drop m) (by omega) (Nat.le_refl _)]
   have hpre:df p.length p=(ys++[t.take m])++df (t.drop m).length (t.drop m):=by rw [hys,hpr];simp
   have hrl:(t.drop m).length<r.length:=by rw [← ht];simp;omega
   have h2:=GP t m hmle;have h3:=tV t m hmle;have hib:=Tryz.strings_IndexByte (str t) 47;have e47:(47:Int).toNat.toUInt8=(47:UInt8):=rfl;have e1:(str t).data.toList=t:=rfl;rw [e47,e1] at hib;have hfi:=tO 47 t;obtain ⟨ix,hix⟩:∃ ix,Lib.indexByte t 47=ix:=⟨_,rfl⟩
   rw [hix,hm] at hfi;rw [hix] at hib;have Hib:=ae hib;have Hpre:=ae hpre;have Hrl:=ae hrl;have HS:=ae hsat
   gi_wp2_with fail
   refine Ba.kh (Hib.out _) ?_;rintro e w2 ⟨rfl,rfl⟩;have hsz:=gS t;have fin:∀ (w3:World),ai w0 w3→Sat w3 (AA (ys++[t.take m])*(uQ pc p*G))→Nc AA p (uQ pc p*G) w0 (.string (str (t.drop m))) w3:=fun w3 a b=>⟨_,_,by have:=Hrl.out;omega,rfl,Hpre.out,a,b⟩
   have Hfin:=ae fin
   obtain ⟨fn,tmps,assign,body,hy,hR⟩:=hY ys (t.take m) #[.string (str (t.take m))] _ w2 (by rw [Hpre.out];exact List.prefix_append _ _) hside (by
    have h4:Sat w2 (PH (t.take m) #[.string (str (t.take m))]*(AA ys*(uQ pc p*G))):=(Sat.ak.2 ⟨rfl,HS.out⟩:Sat w2 (fact _*_))
    exact h4.ag)
   have hmeas:B4 (.string (str (t.drop m)))<B4 (.string (str r)):=by
    show (str _).size<(str _).size
    rw [gS,gS];exact Hrl.out
   have Hmeas:=ae hmeas
   by_cases hneg:ix<0
   ·rw [if_pos hneg] at hfi
    have hfi':t.length=m:=by omega
    rw [hfi'] at hsz
    gi_wp2_with fail
    refine ⟨fun h=>(by cases h),hR.mono ?_⟩;rintro e W' (⟨rfl,hs5,hsat5⟩|⟨rfl,hs5,hsat5⟩)
    ·gi_wp2_with fail
     go_roundw
     case rel=>exact Hfin.out _ hs5 hsat5
     case measure=>exact Hmeas.out
    ·gi_wp2_with fail
     refine bodyPost_ret (results_none rfl _ _ _) rfl ?_;exact ⟨⟨_,rfl⟩,hs5,.inr ⟨_,by rw [Hpre.out];exact List.prefix_append _ _,hsat5⟩⟩
   ·rw [if_neg hneg] at hfi
    subst hfi
    gi_wp2_with fail
    refine ⟨fun h=>(by cases h),hR.mono ?_⟩;rintro e W' (⟨rfl,hs5,hsat5⟩|⟨rfl,hs5,hsat5⟩)
    ·gi_wp2_with fail
     go_roundw
     case rel=>exact Hfin.out _ hs5 hsat5
     case measure=>exact Hmeas.out
    ·gi_wp2_with fail
     refine bodyPost_ret (results_none rfl _ _ _) rfl ?_;exact ⟨⟨_,rfl⟩,hs5,.inr ⟨_,by rw [Hpre.out];exact List.prefix_append _ _,hsat5⟩⟩
theorem Bu (w:World) (p:List UInt8):Calls Tryz.prog 132 #[.string (str p)] w fun e w'=>e = .returned (.func (.func 184) #[] #[ax w.heap.size])∧w'=w.alloc (.cells #[.string (str p)] 9 (0,0)):=by
 go_enter Tryz.func132,Tryz.ntmps132
 go_wp2
 go_ret
 exact ⟨rfl,rfl⟩
def eK (v:Value) (l:List (List UInt8)):ah:=sl 9 1 v l.length (strs l)
def BG (p:List UInt8) (w:World) (e:Ending) (w':World):Prop:=
 ∃ v,e = .returned (.tuple #[v,.int .i64 (if (aV p).isSome=true then 0 else 1)])∧ai w w'∧Sat w' (eK v ((aV p).getD [])*whole w)
theorem jY {w:World} {tmps:Array Value} {a b:Nat} {v e:Value} {F:ah} (h2:tmps[2]?=some (ax a)) (h3:tmps[3]?=some (ax b)) (h:Sat w (pt a (.cells #[v] 52 (0,0))*(pt b (.cells #[e] 28 (0,0))*F))) :
  (results Tryz.f77 tmps).run Tryz.prog w = .ok (.tuple #[v,e]) w:=by
 have c0:=h.cell 0;have c1:=h.ag.cell 0;simp [results,Tryz.results77,h2,h3,asAddr,ax,go_sem,c0,c1]
def Q0 (lc:Nat) (ys:List (List UInt8)):ah:=ex fun v=>pt lc (.cells #[v] 52 (0,0))*eK v ys
def zu (lc r0 r1:Nat) (ys:List (List UInt8)):ah:=fact (ys.all cy=true)*(Q0 lc ys*(pt r0 (.cells #[.slice none 0 0] 52 (0,0))*pt r1 (.cells #[.int .i64 0] 28 (0,0))))
def OM (r0 r1:Nat) (p:List UInt8) (c:Code):ah:=fact (c = .ret∧(df p.length p).all cy=false)*(pt r0 (.cells #[.slice none 0 0] 52 (0,0))*pt r1 (.cells #[.int .i64 1] 28 (0,0)))
theorem ph:(Tryz.prog.info? 9).map (fun i=>(i.zero,i.size,i.bytes))=some (some (.string ⟨#[]⟩),1,16):=by kernel_rfl
theorem vu (w:World) (p:List UInt8):Calls Tryz.prog 77 #[.string (str p)] w (BG p w):=by
 refine aI fun Q HQ=>?_
 have fin:∀ c:Int,∀ wx,wx=(w.alloc (.cells #[.slice none 0 0] 52 (0,0))).alloc (.cells #[.int .i64 c] 28 (0,0))→∀ tmps:Array Value,tmps[2]?=some (ax w.heap.size)→tmps[3]?=some (ax (w.heap.size+1))→c=(if (aV p).isSome=true then 0 else 1)→(aV p).getD []=[] →
   ∃ v,(results Tryz.f77 tmps).run Tryz.prog wx = .ok v wx∧Q (.returned v) wx:=by
  intro c wx hw tmps t2 t3 hc he;have hA:=((Sat.whole w).alloc (.cells #[.slice none 0 0] 52 (0,0))).alloc (.cells #[.int .i64 c] 28 (0,0));have dA:=((ai.refl w).alloc (.cells #[.slice none 0 0] 52 (0,0))).alloc (.cells #[.int .i64 c] 28 (0,0));rw [World.size_alloc] at hA;subst hw;refine ⟨_,jY t2 t3 hA.ag,HQ.out _ _ ⟨.slice none 0 0,by rw [hc],dA,?_⟩⟩;rw [he];exact (hA.right.right).eA 9 1
 have Fin:=ae fin;clear fin;have hsz:=gS p;obtain ⟨m,hm⟩:∃ m,p.length=m:=⟨_,rfl⟩
 rw [hm] at hsz;have HM:=ae hm;clear hm;have e0:=xw p
 have e1:((str p).toList == [47])=decide (p=[47]):=by
  have:=rU p [47];rw [show (str [47]).toList=[47] by rw [Lib.toList_data];rfl] at this;exact this
 refine (callsIn_wide (n:=9)).1 ?_;refine callsIn_of_wp_marks Tryz.func77 rfl trivial ?_ rfl;simp only [Tryz.ntmps77,List.size_toArray,List.length_cons,List.length_nil,Nat.reduceAdd,Nat.reduceSub,Array.replicate_succ,Array.replicate_zero,List.push_toArray,List.append_toArray,List.nil_append,List.cons_append];refine wpIn_wide.2 ?_
 by_cases h1:(1000:Int)<(m:Int)
 ·have hS:aV p=none:=if_pos (.inl (by rw [HM.out];omega))
  have HS:=ae hS;clear hS e0 e1
  go_wp2_with fail
  exact Fin.out 1 _ rfl _ rfl rfl (by rw [HS.out];rfl) (by rw [HS.out];rfl)
 by_cases h2:p=[]
 ·subst h2
  have HS:Hid (aV []=none):=if_pos (.inr (by decide));have e0':((str []).toList == [])=true:=e0;clear e0 e1
  go_wp2_with fail
  exact Fin.out 1 _ rfl _ rfl rfl (by rw [HS.out];rfl) (by rw [HS.out];rfl)
 have e0':((str p).toList == [])=false:=by rw [e0];exact decide_eq_false h2
 have hm0:0<m:=by rw [← HM.out];exact List.length_pos_iff.2 h2
 have hget:∀ hx:0<(str p).size,(str p)[0].toNat=(p.getD 0 0).toNat:=fun hx=>by
  cases p with
  | nil=>exact absurd rfl h2
  | cons b l=>rfl
 have Hne:=ae h2;clear e0 h2
 by_cases h3:p.getD 0 0=47
 ·have hget':∀ hx:0<(str p).size,(str p)[0].toNat=47:=fun hx=>by rw [hget hx,h3];rfl
  clear hget;have H3:=ae h3;clear h3
  by_cases h4:p=[47]
  ·have HS:Hid (aV p=some []):=by
    show _=_
    unfold aV;rw [if_neg (by rw [HM.out];intro h;rcases h with h|h;omega;exact h H3.out),if_pos h4]
   have e1':((str p).toList == [47])=true:=by rw [e1];exact decide_eq_true h4
   clear e1 h4
   go_wp2_with fail
   exact Fin.out 0 _ rfl _ rfl rfl (by rw [HS.out];rfl) (by rw [HS.out];rfl)
  ·have HS:Hid (aV p=if (df p.length p).all cy=true then some (df p.length p) else none):=by
    show _=_
    unfold aV;rw [if_neg (by rw [HM.out];intro h;rcases h with h|h;omega;exact h H3.out),if_neg h4]
   have e1':((str p).toList == [47])=false:=by rw [e1];exact decide_eq_false h4
   have hA:=(((Sat.whole w).alloc (.cells #[.slice none 0 0] 52 (0,0))).alloc (.cells #[.int .i64 0] 28 (0,0))).alloc (.cells #[.slice none 0 0] 52 (0,0));have dA:=(((ai.refl w).alloc (.cells #[.slice none 0 0] 52 (0,0))).alloc (.cells #[.int .i64 0] 28 (0,0))).alloc (.cells #[.slice none 0 0] 52 (0,0));simp only [World.size_alloc] at hA;have hpf:=Bu (((w.alloc (.cells #[.slice none 0 0] 52 (0,0))).alloc (.cells #[.int .i64 0] 28 (0,0))).alloc (.cells #[.slice none 0 0] 52 (0,0))) p;clear e1 h4 Fin
   go_wp2_with fail
   (with_reducible refine hpf.mono ?_)
   rintro e w2 ⟨rfl,rfl⟩;clear hpf;generalize ((w.alloc (.cells #[.slice none 0 0] 52 (0,0))).alloc (.cells #[.int .i64 0] 28 (0,0))).alloc (.cells #[.slice none 0 0] 52 (0,0))=w3 at *;generalize w.heap.size+1+1=lc at *;generalize w.heap.size+1=r1 at *;generalize w.heap.size=r0 at *;have hB:=hA.alloc (.cells #[.string (str p)] 9 (0,0));have dB:=dA.alloc (.cells #[.string (str p)] 9 (0,0))
   go_wp2_with fail
   generalize hw4:w3.alloc (.cells #[.string (str p)] 9 (0,0))=w4 at *;generalize w3.heap.size=pc at *;rename_i K hK
   have h5:Sat w4 (zu lc r0 r1 []*(uQ pc p*whole w)):=by
    refine (Sat.ak.2 ⟨rfl,?_⟩:Sat w4 (fact _*_)).to (by unfold zu;exact (aw _ _ _).symm);refine (Sat.au.2 ⟨.slice none 0 0,(hB.eA 9 1).to ?_⟩:Sat w4 (Q0 lc []*_)).to (aw _ _ _).symm;unfold uQ eK;show sl _ 1 _ 0 []*_=_*sl _ 1 _ 0 []*_
    ac_rfl
   have Hh:=ae hK;have Hml:Hid (m≤1000):=by show m≤1000;omega
   clear hB hA dA hw4 hget' e0' e1' hsz h1 hm0 hK;refine (wpIn_wide (n:=9)).1 ?_
   refine kN (C:=fun _=>True) (w0:=w) rfl (by decide) (gf:=184) (lb:=#[ax pc]) rfl trivial (enters Tryz.func184 (by kernel_rfl) rfl)
    (fun l A Ax G w0 w _=>AV _ p pc l A Ax G w0 w) (fun x t=>(t.setIfInBounds 22 (.string (str x))).setIfInBounds 5 (.string (str x))) (zu lc r0 r1) (fun _=>trivial) (fun c _=>OM r0 r1 p c) (fun pre x=>zu lc r0 r1 pre) (whole w) ?hps dB h5 ?assign ?body ?done ?stop
   case hps=>
    intro x vs Fr W h;unfold PH at h;obtain ⟨rfl,_⟩:=Sat.ak.1 h
    rfl
   case assign=>
    intro lp r pre x vs Fr W K _ hsd H hK;have H1:Sat W (PH x vs*(zu lc r0 r1 pre*(pt lp (.loop r)*Fr))):=H.ag;unfold PH at H1;obtain ⟨rfl,H2⟩:=Sat.ak.1 H1;clear H H1
    gi_wp2
    exact hK _ hsd H2
   case body=>
    intro lp r pre x Fr W hp hsd H;unfold zu at H;obtain ⟨hok,H1⟩:=Sat.ak.1 (H.to (aw _ _ _));obtain ⟨v,H2⟩:=Sat.au.1 (H1.to (aw _ _ _));have H3:Sat W (eK v pre*(pt lc (.cells #[v] 52 (0,0))*(pt r0 (.cells #[.slice none 0 0] 52 (0,0))*(pt r1 (.cells #[.int .i64 0] 28 (0,0))*(pt lp (.loop r)*Fr))))):=H2.to (by ac_rfl);clear H H1 H2
    have hall:(df p.length p).all cy=true→cy x=true:=fun h=>by
     obtain ⟨t,ht⟩:=hp;rw [← ht] at h;rw [List.all_append,List.all_append] at h;simp only [Bool.and_eq_true,List.all_cons,List.all_nil,and_true] at h;exact h.1.2
    have hplen:pre.length<1000000:=by
     have hl:=hp.length_le;rw [List.length_append,List.length_singleton] at hl;have hle:=j5 p.length p;have:=HM.out;have:=Hml.out;omega
    have hnm:=pP W x;have c0:W.cell? ⟨lc,0,none⟩=some v:=H3.ag.cell 0
    by_cases hx:cy x=true
    ·rw [hx] at hnm
     have hA3:=H3.alloc (.cells #[.string (str x)] 9 (0,0))
     have hR:nA (W.alloc (.cells #[.string (str x)] 9 (0,0))) 1 (.slice (some ⟨W.heap.size,0,none⟩) 1 1) 1 [.string (str x)]:=
      ⟨rfl,.inr ⟨_,_,rfl,fun j u hu=>by
       rw [Addr.add_lit,Nat.zero_add];exact (hA3.cell j).trans (by simpa using hu)⟩⟩
     have hA4:Sat (W.alloc (.cells #[.string (str x)] 9 (0,0))) (sl 9 1 v pre.length (strs pre)*(pt lc (.cells #[v] 52 (0,0))*(pt r0 (.cells #[.slice none 0 0] 52 (0,0))*(pt r1 (.cells #[.int .i64 0] 28 (0,0))*(pt W.heap.size (.cells #[.string (str x)] 9 (0,0))*(pt lp (.loop r)*Fr)))))):=hA3.to (by unfold eK;ac_rfl);obtain ⟨i0,hi,hz,hs0,hb0⟩:=info_parts ph;obtain ⟨v',w',hrun,hsat',hside'⟩:=Sat.append (P:=Tryz.prog) (ty:=52) Tryz.underlying52 hi hz hs0 hb0 rfl hA4 hR (by intro u hu;rw [List.mem_singleton.1 hu];rfl) (by unfold maxLen;omega) (by omega);obtain ⟨aa,ac,rfl⟩:=aB hsat';have c0':w'.cell? ⟨lc,0,none⟩=some v:=hsat'.ag.cell 0;have f0':=hsat'.ag.frozen 0;have hset:=hsat'.ag.setCell 0 (.slice aa (pre.length+1) ac);have Hset:=ae hset;have Hrun:=ae hrun;have Hok:=ae hok;have Hx:=ae hx;have Hsd:=ae (((hsd.alloc (.cells #[.string (str x)] 9 (0,0))).trans hside').setCell ⟨lc,0,none⟩ (.slice aa (pre.length+1) ac));have Hnm:=ae hnm
     gi_wp2_with fail
     refine qF Hnm.out ?_;rintro e w2 ⟨rfl,rfl⟩;clear Hnm
     gi_wp2_with (gi_at_builtin;refine cY Hrun.out _ _ rfl rfl rfl rfl rfl ?_)
     refine ⟨Hsd.out,?_⟩;unfold zu;refine (Sat.ak.2 ⟨by rw [List.all_append,Hok.out];simp [Hx.out],?_⟩:Sat _ (fact _*_)).to (aw _ _ _).symm;refine (Sat.au.2 ⟨.slice aa (pre.length+1) ac,?_⟩:Sat _ (Q0 lc (pre++[x])*_)).to (aw _ _ _).symm;have h6:=Hset.out;have e:strs pre++[.string (str x)]=strs (pre++[x]):=by unfold strs;rw [List.map_append];rfl
     rw [e] at h6;unfold eK;rw [List.length_append,List.length_singleton];exact (h6.to (by ac_rfl:_=pt W.heap.size (.cells #[.string (str x)] 9 (0,0))*(pt lc (.cells #[.slice aa (pre.length+1) ac] 52 (0,0))*sl 9 1 (.slice aa (pre.length+1) ac) (pre.length+1) (strs (pre++[x]))*(pt r0 (.cells #[.slice none 0 0] 52 (0,0))*(pt r1 (.cells #[.int .i64 0] 28 (0,0))*(pt lp (.loop r)*Fr)))))).right.to (by ac_rfl)
    ·have hx':cy x=false:=by simpa using hx
     rw [hx'] at hnm;have hno:(df p.length p).all cy=false:=by grind
     have z0:=H3.aq.cell 0;have z1:=H3.aC.cell 0;have f0:=H3.aq.frozen 0;have f1:=H3.aC.frozen 0;have H4:=H3.aq.setCell 0 (.slice none 0 0);have z1':=H4.aC.cell 0;have f1':=H4.aC.frozen 0;have H5:=ae (H4.aC.setCell 0 (.int .i64 1));have Hsd:=ae ((hsd.setCell ⟨r0,0,none⟩ (.slice none 0 0)).setCell ⟨r1,0,none⟩ (.int .i64 1));have Hno:=ae hno;have Hnm:=ae hnm;simp at z0 z1 z1';clear H3 H4 hsd hno hall hp hnm hok hx hx' hplen
     gi_wp2_with fail
     refine qF Hnm.out ?_;rintro e w2 ⟨rfl,rfl⟩;clear Hnm
     gi_wp2_with fail
     refine ⟨Hsd.out,?_⟩;have h6:=H5.out;unfold OM;refine (Sat.ak.2 ⟨⟨rfl,Hno.out⟩,?_⟩:Sat _ (fact _*_)).to (aw _ _ _).symm;exact (h6.to (by unfold eK;ac_rfl:_=(pt lc (.cells #[v] 52 (0,0))*eK v pre)*(pt r0 (.cells #[.slice none 0 0] 52 (0,0))*pt r1 (.cells #[.int .i64 1] 28 (0,0))*(pt lp (.loop r)*Fr)))).right.to (by ac_rfl)
   case done=>
    intro D2 ys W hS hsd H;subst hS;unfold zu at H;obtain ⟨hall,H1⟩:=Sat.ak.1 (H.to (aw _ _ _));obtain ⟨v,H2⟩:=Sat.au.1 (H1.to (aw _ _ _));have hsp:aV p=some (df p.length p):=by rw [HS.out,if_pos hall]
    have Hsp:=ae hsp;generalize df p.length p=l at *;have H3:Sat W (pt D2 (.deferred (some []))*(pt lc (.cells #[v] 52 (0,0))*(pt r0 (.cells #[.slice none 0 0] 52 (0,0))*(pt r1 (.cells #[.int .i64 0] 28 (0,0))*(sl 9 1 v l.length (strs l)*(uQ pc p*whole w)))))):=H2.to (by unfold eK;ac_rfl);obtain ⟨aa,ac,rfl⟩:=aB H3.aG;have c0:W.cell? ⟨lc,0,none⟩=some (.slice aa l.length ac):=H3.ag.cell 0;have z0:W.cell? ⟨r0,0,none⟩=some (.slice none 0 0):=H3.aq.cell 0;have z1:W.cell? ⟨r1,0,none⟩=some (.int .i64 0):=H3.aC.cell 0;have f0:=H3.aq.frozen 0;have f1:=H3.aC.frozen 0;have H4:=H3.aq.setCell 0 (.slice aa l.length ac);have z1':=H4.aC.cell 0;have f1':=H4.aC.frozen 0;have H5:=ae (H4.aC.setCell 0 (.int .i64 0));have Hsd:=ae ((hsd.setCell ⟨r0,0,none⟩ (.slice aa l.length ac)).setCell ⟨r1,0,none⟩ (.int .i64 0));clear H H1 H2 H3 H4 hall hsp HS dB h5 hsd;refine Hh.out _ _ ?_;clear Hh
    go_wp2_with fail
    have h6:=H5.out;simp only [List.setIfInBounds_toArray,List.set_cons_zero] at h6;have h7:=h6.to (by ac_rfl:_=pt D2 (.deferred (some []))*(pt r0 (.cells #[.slice aa l.length ac] 52 (0,0))*(pt r1 (.cells #[.int .i64 0] 28 (0,0))*((sl 9 1 (.slice aa l.length ac) l.length (strs l)*whole w)*(uQ pc p*pt lc (.cells #[.slice aa l.length ac] 52 (0,0)))))));have hK:=h7.heap;have h8:=(h7.putObj (.deferred none)).right;clear h6 h7;refine ⟨by simp,.inl ⟨_,_,rfl,run_takeDeferred hK,?_⟩⟩;refine ⟨_,jY rfl rfl h8,HQ.out _ _ ⟨.slice aa l.length ac,by rw [Hsp.out];rfl,Hsd.out.putObj _ _,?_⟩⟩;rw [Hsp.out];exact h8.right.right.left
   case stop=>
    intro D2 c ys W hSp hsd H;unfold OM at H;obtain ⟨⟨rfl,hno⟩,H1⟩:=Sat.ak.1 (H.to (aw _ _ _));have hsp:aV p=none:=by rw [HS.out,if_neg (by rw [hno];decide)]
    have H2:Sat W (pt D2 (.deferred (some []))*(pt r0 (.cells #[.slice none 0 0] 52 (0,0))*(pt r1 (.cells #[.int .i64 1] 28 (0,0))*(whole w*uQ pc p)))):=H1.to (by ac_rfl);have Hsp:=ae hsp;have Hsd:=ae hsd;have hK:=H2.heap;have h8:=ae (H2.putObj (.deferred none)).right;clear H H1 H2 hno hsp HS dB h5 hsd hSp
    gi_wp2
    refine ⟨by simp,.inl ⟨_,_,rfl,run_takeDeferred hK,?_⟩⟩;refine ⟨_,jY rfl rfl h8.out,HQ.out _ _ ⟨.slice none 0 0,by rw [Hsp.out];rfl,Hsd.out.putObj _ _,?_⟩⟩;rw [Hsp.out];exact h8.out.right.right.left.eA 9 1
 ·have HS:Hid (aV p=none):=if_pos (.inr h3)
  obtain ⟨q,hq⟩:∃ q,(p.getD 0 0).toNat=q:=⟨_,rfl⟩
  rw [hq] at hget;have hq0:¬ q=47:=fun h=>h3 (UInt8.toNat_inj.1 (by rw [hq,h];rfl));have hne3:(((q:Nat):Int) != 47)=true:=by simpa using (show ¬ (q:Int)=47 by omega)
  clear hq hq0;clear h3 e1
  go_wp2_with fail
  exact Fin.out 1 _ rfl _ rfl rfl (by rw [HS.out];rfl) (by rw [HS.out];rfl)
end Go.Cl
