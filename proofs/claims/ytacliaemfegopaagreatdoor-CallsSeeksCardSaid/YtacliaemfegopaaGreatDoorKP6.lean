/- Steps. -/
import Derived.Test.YtacliaemfegopaaGreatDoorKP5
import Derived.Deep.DeepCutAuto
import Derived.BigQuiet
import Derived.Deep.QuietTactic
import Derived.Deep.CutBlock
import Derived.Deep.CutRange
set_option linter.unusedVariables false
set_option linter.unusedSimpArgs false
set_option maxRecDepth 100000
set_option maxHeartbeats 40000000
open Go.Proofs Go.SL
namespace Go.SL
open Go.RowKit
structure Nd where
 kd:Int
 lk:Int
 sz:Int
 dr:List Int
 rw:Int
def Nd.l (n:Nd):List Int:=n.kd :: n.lk :: n.sz :: (n.dr++[n.rw])
def Nd.v (n:Nd):Value:=.agg (ints n.l)
def cP (p:Int):Bool:=decide (0≤p) && decide (p<3840)
def cJ (sz:Int):Int:=(min (max sz 0) 122880+479)/480
def Nd.ok (n:Nd):Bool:=(decide (n.kd=1) || decide (n.kd=2)) && decide (0≤n.lk) && decide (n.lk≤65535) && decide (0≤n.sz) && decide (n.sz≤122880) && n.dr.all cP && cP n.rw &&
 (decide (16<cJ n.sz) || decide (n.rw=0)) && (List.range 16).all fun i=>decide ((i:Int)<cJ n.sz) || decide (n.dr.getD i 0=0)
theorem nC.Bn {w:World} {v:Value} {l:List Int} (h:nC w v l):∃ a c,v = .slice a l.length c:=by
 rcases h with ⟨x,c,rfl,rfl⟩|⟨g,o,c,rfl,_⟩
 ·exact ⟨_,_,rfl⟩
 ·exact ⟨_,_,rfl⟩
theorem nC.QO {w:World} {v:Value} {l:List Int} (h:nC w v l) {k:Nat} (hk:k<l.length):∃ g o c,v = .slice (some ⟨g,o,none⟩) l.length c∧w.cell? ⟨g,o+k,none⟩=some (.int .i64 (l.getD k 0)):=by
 rcases h with ⟨x,c,rfl,rfl⟩|⟨g,o,c,rfl,_,_,hc⟩
 ·simp at hk
 ·exact ⟨_,_,_,rfl,hc k hk⟩
theorem nC.row {w:World} {g:Nat} {xs:List Int} {T:TypeId} {F:ah} (h:Sat w (pt g (.cells (ints xs) T (0,0))*F)) (o n:Nat) (hn:o+n≤xs.length) (hm:n≤maxLen):nC w (.slice (some ⟨g,o,none⟩) n n) ((xs.drop o).take n):=by
 have hl:((xs.drop o).take n).length=n:=by rw [List.length_take,List.length_drop];omega
 refine .inr ⟨g,o,n,by rw [hl],by omega,hm,fun k hk=>?_⟩;rw [hl] at hk;rw [h.cell,bA (by omega)];simp [List.getD,List.getElem?_take,List.getElem?_drop,hk]
theorem uk {P:Program} {t e:TypeId} {n:Nat} {l:List Int} (h:P.underlying t=some (.array n e)) (he:P.underlying e=some (.int .i64)) (hs:(P.info? e).map (·.size)=some 1) (hl:l.length=n) (k:Nat) (hk:k<n) (w:World) :
  (Instr.index t (.agg (ints l)) (.int .i64 (k:Int))).run P w = .ok (.int .i64 (l.getD k 0)) w:=by
 have hg:=bA (l:=l) (i:=k) (by omega)
 cases hq:P.info? e with
 | none=>simp [hq] at hs
 | some i=>
  have hs1:i.size=1:=by simpa [hq] using hs
  simp [Instr.index,asIntOf,run_underlying h,isAgg,run_underlying he,sizeOf,typeInfo,hq,hs1,part,hg,show k<n from hk,go_sem]
theorem Nd.cells {n:Nd} (h:n.dr.length=16):n.l.length=20:=by simp [Nd.l,h]
theorem Nd.Ev {n:Nd} (h:n.dr.length=16):(ints n.l)[19]?=some (.int .i64 n.rw):=by
 rw [dm];simp [Nd.l,h]
theorem Nd.kD {n:Nd} (h:n.dr.length=16):(n.l.drop 3).take 16=n.dr:=by
 simp only [Nd.l,List.drop_succ_cons,List.drop_zero];rw [← h,List.take_left]
end Go.SL
namespace Go.Fs
open Go.RowKit Go.SL Go.Ba
theorem AZ (w:World) (n:Int):Calls Tryz.prog 191 #[.int .i64 n] w (mr (cJ n) w):=by
 have e:∀ m:Int,0≤m→(m+479).tdiv 480=(m+479)/480:=fun m h=>Int.tdiv_eq_ediv_of_nonneg (by omega);unfold cJ
 by_cases h0:n<0
 ·rw [show min (max n 0) 122880=0 by omega]
  go_enter Tryz.func191,Tryz.ntmps191
  go_wp2
  go_ret
  exact ⟨rfl,rfl⟩
 ·by_cases h1:n≤122880
  ·rw [show min (max n 0) 122880=n by omega]
   go_enter Tryz.func191,Tryz.ntmps191
   go_wp2
   go_ret
   exact ⟨by show Ending.returned (.int .i64 ((n+480-1)/480))=_;rw [show n+480-1=n+479 by omega],rfl⟩
  ·rw [show min (max n 0) 122880=122880 by omega]
   go_enter Tryz.func191,Tryz.ntmps191
   go_wp2
   go_ret
   exact ⟨rfl,rfl⟩
def OP (l:List Int) (u:Value):Prop:=∃ k:Nat,k≤l.length∧u = .int .i64 (k:Int)∧(l.take k).all cP=true
theorem sZ {l:List Int} {k:Nat} (h:k<l.length):l.take (k+1)=l.take k++[l.getD k 0]:=by simp_all
theorem gJ (w:World) (v:Value) (l:List Int) (h:nC w v l) (hl:l.length≤1000) :
  Calls Tryz.prog 203 #[v] w fun e w'=>e = .returned (.bool (l.all cP))∧w=w':=by
 have H0:=ae h;obtain ⟨a,c,rfl⟩:=h.Bn
 go_enter Tryz.func203,Tryz.ntmps203
 go_wp2_with fail
 go_loop [7] (fun u=>OP l u) (fun u=>l.length-(intOf u).toNat)
 case atStart=>exact ⟨0,Nat.zero_le _,rfl,rfl⟩
 case round=>
  obtain ⟨k,hk,rfl,hall⟩:=hrel
  by_cases hlt:k<l.length
  ·have hlt':(k:Int)<(l.length:Int):=by omega
   obtain ⟨g,o,c',hv,hc⟩:=H0.out.QO hlt;cases hv
   have hts:=sZ hlt;have hmem:l.getD k 0 ∈ l:=by rw [List.getD,List.getElem?_eq_getElem hlt];exact List.getElem_mem hlt
   have Hts:=ae hts;have Hall:=ae hall;have Hmem:=ae hmem;generalize l.getD k 0=p at *;have Hno:Hid (cP p=false→l.all cP=false):=ae fun h=>List.all_eq_false.2 ⟨p,Hmem.out,by simp [h]⟩
   by_cases h1:p<0
   ·have e:=ae (Hno.out (by simp [cP];omega))
    go_wp2_with fail
    go_ret
    exact ⟨by rw [e.out];rfl,rfl⟩
   ·by_cases h2:3840≤p
    ·have e:=ae (Hno.out (by simp [cP];omega))
     go_wp2_with fail
     go_ret
     exact ⟨by rw [e.out];rfl,rfl⟩
    ·have e:Hid ((l.take (k+1)).all cP=true):=ae (by rw [Hts.out,List.all_append,Hall.out];simp [cP];omega)
     go_wp2_with fail
     go_round
     case rel=>exact ⟨k+1,by omega,by go_num,e.out⟩
     case measure=>simp [intOf];omega
  ·obtain rfl:k=l.length:=by omega
   rw [List.take_length] at hall;have Hall:=ae hall;clear hall
   go_wp2_with fail
   go_ret
   exact ⟨by rw [Hall.out];rfl,rfl⟩
theorem LQ:(Tryz.prog.info? 71).map (·.size)=some 16:=by kernel_rfl
def Fg (dr:List Int) (sz:Int) (u:Value):Prop:=∃ k:Nat,k≤16∧u = .int .i64 (k:Int)∧∀ j:Nat,j<k→(decide ((j:Int)<cJ sz) || decide (dr.getD j 0=0))=true
theorem je (w:World) (n:Nd) (h16:n.dr.length=16) :
  Calls Tryz.prog 199 #[n.v] w (kH (.bool n.ok) w):=by
 have hA:=(Sat.whole w).alloc (.cells (ints n.l) 73 (0,0));have dA:=(ai.refl w).alloc (.cells (ints n.l) 73 (0,0));have hB:=hA.alloc (.cells #[.int .i64 n.rw] 3 (0,0));have dB:=dA.alloc (.cells #[.int .i64 n.rw] 3 (0,0));have c0:(w.alloc (.cells (ints n.l) 73 (0,0))).cell? ⟨w.heap.size,0,none⟩=some (.int .i64 n.kd):=(hA.cell 0).trans (by rw [dm];rfl);have c1:(w.alloc (.cells (ints n.l) 73 (0,0))).cell? ⟨w.heap.size,1,none⟩=some (.int .i64 n.lk):=(hA.cell 1).trans (by rw [dm];rfl);have c2:(w.alloc (.cells (ints n.l) 73 (0,0))).cell? ⟨w.heap.size,2,none⟩=some (.int .i64 n.sz):=(hA.cell 2).trans (by rw [dm];rfl);have c19:=(hA.cell 19).trans (Nd.Ev h16);have hp1:=gJ _ _ _ (nC.row hA 3 16 (by rw [Nd.cells h16];decide) (by decide)) (by rw [Nd.kD h16,h16];decide);rw [Nd.kD h16] at hp1
 have hp2:=gJ _ (.slice (some ⟨(w.alloc (.cells (ints n.l) 73 (0,0))).heap.size,0,none⟩) 1 1) [n.rw] (.inr ⟨_,0,1,rfl,Nat.le_refl 1,by decide,fun k hk=>by
  have:k=0:=by simpa using hk
  subst this;exact hB.cell 0⟩) (by simp)
 have e2:[n.rw].all cP=cP n.rw:=by simp
 rw [e2] at hp2;rw [World.size_alloc] at hB hp2
 have hrow:((w.alloc (.cells (ints n.l) 73 (0,0))).alloc (.cells #[.int .i64 n.rw] 3 (0,0))).rangeAt w.heap.size 3 (n.dr.map (Value.int .i64)):=fun j v hv=>by
  rw [hB.ag.cell,dm];rw [List.getElem?_map] at hv
  have:n.l[3+j]?=n.dr[j]?∨16≤j:=by
   by_cases h:j<16
   ·left
    rw [show 3+j=j+3 by omega];simp only [Nd.l,List.getElem?_cons_succ];rw [List.getElem?_append_left (by omega)]
   ·exact .inr (by omega)
  rcases this with h|h
  ·rw [h];exact hv
  ·rw [List.getElem?_eq_none (by omega)] at hv;cases hv
 have hix:=fun (k:Nat) (hk:k<16) (w:World)=>uk (P:=Tryz.prog) (t:=71) (e:=3) Tryz.underlying71 Tryz.underlying3 (by kernel_rfl) h16 k hk w;obtain ⟨kd,lk,sz,dr,rw'⟩:=n;dsimp only at *;have hv:Nd.v ⟨kd,lk,sz,dr,rw'⟩ = .agg (ints (Nd.l ⟨kd,lk,sz,dr,rw'⟩)):=rfl;rw [hv];obtain ⟨B,hB0⟩:∃ B,Nd.ok ⟨kd,lk,sz,dr,rw'⟩=B:=⟨_,rfl⟩
 rw [hB0];generalize ints (Nd.l ⟨kd,lk,sz,dr,rw'⟩)=X at *;have Hrow:=ae hrow;have Hix:=ae hix;have HB0:=ae hB0;have Hp1:=ae hp1;have Hp2:=ae hp2;have HBs:=ae hB;have hbl:=fun w=>AZ w sz;have Hbl:=ae hbl
 by_cases hk:kd=1∨kd=2
 ·rcases hk with rfl|rfl
  all_goals
   by_cases h1:lk<0
   ·have e:B=false:=by rw [← HB0.out];simp [Nd.ok,show ¬ 0≤lk by omega]
    subst e
    go_enter Tryz.func199,Tryz.ntmps199
    go_wp2
    go_ret
    exact ⟨rfl,hA.right,dA⟩
   by_cases h2:65535<lk
   ·have e:B=false:=by rw [← HB0.out];simp [Nd.ok,show ¬ lk≤65535 by omega]
    subst e
    go_enter Tryz.func199,Tryz.ntmps199
    go_wp2
    go_ret
    exact ⟨rfl,hA.right,dA⟩
   by_cases h3:sz<0
   ·have e:B=false:=by rw [← HB0.out];simp [Nd.ok,show ¬ 0≤sz by omega]
    subst e
    go_enter Tryz.func199,Tryz.ntmps199
    go_wp2
    go_ret
    exact ⟨rfl,hA.right,dA⟩
   by_cases h4:122880<sz
   ·have e:B=false:=by rw [← HB0.out];simp [Nd.ok,show ¬ sz≤122880 by omega]
    subst e
    go_enter Tryz.func199,Tryz.ntmps199
    go_wp2
    go_ret
    exact ⟨rfl,hA.right,dA⟩
   go_enter Tryz.func199,Tryz.ntmps199
   go_wp2_with fail
   cases hb1:dr.all cP with
   | false=>
    have e:B=false:=by rw [← HB0.out];simp only [Nd.ok,hb1];simp
    subst e;have hp1:=Hp1.out;rw [hb1] at hp1
    (with_reducible refine hp1.mono ?_)
    rintro e w3 ⟨rfl,rfl⟩;clear hp1
    go_wp2
    go_ret
    exact ⟨rfl,hA.right,dA⟩
   | true=>
    have hp1:=Hp1.out;rw [hb1] at hp1
    (with_reducible refine hp1.mono ?_)
    rintro e w3 ⟨rfl,rfl⟩;clear hp1
    go_wp2_with fail
    cases hb2:cP rw' with
    | false=>
     have e:B=false:=by rw [← HB0.out];simp only [Nd.ok,hb2];simp
     subst e;have hp2:=Hp2.out;rw [hb2] at hp2
     (with_reducible refine hp2.mono ?_)
     rintro e w3 ⟨rfl,rfl⟩;clear hp2
     go_wp2
     go_ret
     exact ⟨rfl,HBs.out.right.right,dB⟩
    | true=>
     have hp2:=Hp2.out;rw [hb2] at hp2
     (with_reducible refine hp2.mono ?_)
     rintro e w3 ⟨rfl,rfl⟩;clear hp2;have d2:((w.alloc (.cells X 73 (0,0))).alloc (.cells #[.int .i64 rw'] 3 (0,0))).cell? ⟨w.heap.size,2,none⟩=some (.int .i64 sz):=((Sat.whole _).alloc _).bD c2;have d19:((w.alloc (.cells X 73 (0,0))).alloc (.cells #[.int .i64 rw'] 3 (0,0))).cell? ⟨w.heap.size,19,none⟩=some (.int .i64 rw'):=((Sat.whole _).alloc _).bD c19;generalize (w.alloc (.cells X 73 (0,0))).alloc (.cells #[.int .i64 rw'] 3 (0,0))=w4 at *;clear c0 c1 c2 c19 hA dA
     go_wp2_with fail
     have hbl:=Hbl.out w4;have hb0:0≤cJ sz:=by unfold cJ;omega
     obtain ⟨nb,hnb⟩:∃ nb,cJ sz=nb:=⟨_,rfl⟩
     rw [hnb] at hbl hb0;have Hnb:=ae hnb;clear hnb
     (with_reducible refine hbl.mono ?_)
     rintro e w3 ⟨rfl,rfl⟩;clear hbl Hp1 Hp2
     by_cases h5:nb≤16∧rw'≠0
     ·obtain ⟨h5,h6⟩:=h5
      have hne:(rw' == 0)=false:=by simpa using h6
      have e:B=false:=by rw [← HB0.out];simp only [Nd.ok,Hnb.out];simp [show ¬ 16<nb by omega,h6]
      subst e
      go_wp2
      go_ret
      exact ⟨rfl,HBs.out.right.right,dB⟩
     ·have hrest:B=(List.range 16).all fun i=>decide ((i:Int)<nb) || decide (dr.getD i 0=0):=by
       rw [← HB0.out];simp only [Nd.ok,Hnb.out,hb1,hb2,decide_eq_true (show 0≤lk by omega),decide_eq_true (show lk≤65535 by omega),decide_eq_true (show 0≤sz by omega),decide_eq_true (show sz≤122880 by omega)];have:(decide (16<nb) || decide (rw'=0))=true:=by grind
       rw [this];simp
      have Hrest:=ae hrest;clear hrest;have hway:(nb≤16∧rw'=0)∨(16<nb):=by omega
      clear h5;rcases hway with ⟨h6,rfl⟩|h6
      all_goals
       first|(have hd9:decide (nb≤16)=false:=decide_eq_false (by omega))|skip
       obtain ⟨V,hV⟩:∃ V,V=(dr.map (Value.int .i64)).toArray:=⟨_,rfl⟩
       have hix:∀ k:Nat,k<16→∀ w,(Instr.index 71 (.agg V) (.int .i64 (k:Int))).run Tryz.prog w = .ok (.int .i64 (dr.getD k 0)) w:=fun k hk w=>by rw [hV];exact Hix.out k hk w
       have Hix2:=ae hix;have HV:=ae hV;have hinfo:(Tryz.prog.info? 71).map (·.size)=some (dr.map (Value.int .i64)).length:=by rw [List.length_map,h16];exact LQ
       have Hinfo:=ae hinfo;clear hix Hix hV hinfo
       go_wp2_with (refine wpList_load_mid (by exact rfl) 71 (.tmp 48) (by exact rfl) w.heap.size 3 (by exact rfl) (dr.map (Value.int .i64)) _ (by with_reducible exact Hrow.out) Tryz.underlying71 rfl (by with_reducible exact Hinfo.out) ?_)
       rw [← HV.out]
       go_loop [50] (fun u=>Fg dr sz u) (fun u=>16-(intOf u).toNat)
       case atStart=>exact ⟨0,Nat.zero_le _,rfl,fun j hj=>absurd hj (Nat.not_lt_zero _)⟩
       case round=>
        obtain ⟨k,hk,rfl,hall⟩:=hrel;have Hall:=ae hall;clear hall
        by_cases hlt:k<16
        ·have hlt':(k:Int)<16:=by omega
         have hik:=Hix2.out k hlt
         have Hno:Hid ((decide ((k:Int)<nb) || decide (dr.getD k 0=0))=false→B=false):=ae fun h=>by
          rw [Hrest.out];exact List.all_eq_false.2 ⟨k,List.mem_range.2 hlt,by rw [h];simp⟩
         have Hyes:Hid ((decide ((k:Int)<nb) || decide (dr.getD k 0=0))=true→∀ j:Nat,j<k+1→(decide ((j:Int)<cJ sz) || decide (dr.getD j 0=0))=true):=ae fun h j hj=>by
          rcases Nat.lt_or_eq_of_le (Nat.le_of_lt_succ hj) with h9|h9
          ·exact Hall.out j h9
          ·rw [h9,Hnb.out];exact h
         generalize dr.getD k 0=p at *
         by_cases h6:nb≤(k:Int)
         ·by_cases h7:p=0
          ·subst h7
           have e:=ae (Hyes.out (by simp))
           go_wp2_with fail
           go_round
           case rel=>exact ⟨k+1,by omega,by go_num,e.out⟩
           case measure=>simp [intOf];omega
          ·have hne:(p == 0)=false:=by simpa using h7
           have e:B=false:=Hno.out (by simp [h7];omega);subst e
           go_wp2_with fail
           all_goals
            go_ret
            exact ⟨rfl,HBs.out.right.right,dB⟩
         ·have hd:decide (nb≤(k:Int))=false:=decide_eq_false h6
          have e:=ae (Hyes.out (by simp;omega))
          go_wp2_with fail
          go_round
          case rel=>exact ⟨k+1,by omega,by go_num,e.out⟩
          case measure=>simp [intOf];omega
        ·obtain rfl:k=16:=by omega
         have e:B=true:=by
          rw [Hrest.out];refine List.all_eq_true.2 fun j hj=>?_;have:=Hall.out j (List.mem_range.1 hj)
          rwa [Hnb.out] at this
         subst e
         go_wp2_with fail
         go_ret
         exact ⟨rfl,HBs.out.right.right,dB⟩
 ·have hk1:(kd == 1)=false:=by simp;omega
  have hk2:(kd == 2)=false:=by simp;omega
  have hk3:(kd != 1)=true:=by simp;omega
  have hk4:(kd != 2)=true:=by simp;omega
  have e:B=false:=by rw [← HB0.out];simp [Nd.ok,show ¬ kd=1 by omega,show ¬ kd=2 by omega]
  subst e
  go_enter Tryz.func199,Tryz.ntmps199
  go_wp2
  go_ret
  exact ⟨rfl,hA.right,dA⟩
end Go.Fs
namespace Go.SL
open Go.RowKit
def jg (xs:List Int):List UInt8:=xs.flatMap fun p=>cZ p 2
theorem iv (xs:List Int):(jg xs).length=2*xs.length:=by
 induction xs with
 | nil=>rfl
 | cons x xs ih=>rw [jg,List.flatMap_cons,List.length_append,aS];show 2+(jg xs).length=_;rw [ih,List.length_cons];omega
theorem Kn (xs:List Int) (p:Int):jg (xs++[p])=jg xs++cZ p 2:=by simp [jg]
def MQ (n:Nd):List UInt8:=((((cZ n.kd 1++cZ n.lk 2)++cZ n.sz 4)++jg n.dr)++jg [n.rw])
def ic (n:Nd):List UInt8:=bJ 480 (MQ n)
theorem om (n:Nd):(ic n).length=480:=bR _ _
theorem iE {p:Int} (h:cP p=true):0≤p∧p<3840:=by simpa [cP] using h
theorem Nd.pE {n:Nd} (h:n.ok=true):(n.kd=1∨n.kd=2)∧0≤n.lk∧n.lk≤65535∧0≤n.sz∧n.sz≤122880∧n.dr.all cP=true∧cP n.rw=true∧(16<cJ n.sz∨n.rw=0)∧∀ i:Nat,i<16→(i:Int)<cJ n.sz∨n.dr.getD i 0=0:=by
 unfold Nd.ok at h;simp only [Bool.and_eq_true,Bool.or_eq_true,decide_eq_true_eq] at h;obtain ⟨⟨⟨⟨⟨⟨⟨⟨h1,h2⟩,h3⟩,h4⟩,h5⟩,h6⟩,h7⟩,h8⟩,h9⟩:=h;refine ⟨h1,h2,h3,h4,h5,h6,h7,h8,fun i hi=>?_⟩;have:=List.all_eq_true.1 h9 i (List.mem_range.2 hi);simpa using this
end Go.SL
namespace Go.Fs
open Go.RowKit Go.SL Go.Ba
def Dl (v:Value) (l:List UInt8) (xs:List Int) (w:World) (u0 u9:Value) (wr:World):Prop:=
 ∃ k:Nat,k≤xs.length∧u9 = .int .i64 (k:Int)∧Rd wr u0 (l++jg (xs.take k))∧Sat wr (whole w)∧(0<k→Sat wr (bs 5 u0 (l++jg (xs.take k))*whole w))∧ai w wr
theorem sy (w:World) (v xv:Value) (l:List UInt8) (xs:List Int) (hr:Rd w v l) (hx:nC w xv xs) (h1:1≤xs.length) (hl:l.length+2*xs.length≤1000) (hall:xs.all cP=true) :
  Calls Tryz.prog 204 #[v,xv] w (xd (l++jg xs) w):=by
 have HX:=ae hx;obtain ⟨xa,xc,rfl⟩:=hx.Bn;have Hall:=ae hall
 go_enter Tryz.func204,Tryz.ntmps204
 go_wp2_with fail
 go_loopw [0,9] (fun u0 u9 wr=>Dl v l xs w u0 u9 wr) (fun _ u _=>xs.length-(intOf u).toNat)
 case atStart=>exact ⟨0,Nat.zero_le _,rfl,by simpa [jg] using hr,Sat.whole w,fun h=>absurd h (by omega),ai.refl w⟩
 case round=>
  obtain ⟨k,hk,rfl,hrd,hsat,hown,hside⟩:=hrel
  by_cases hlt:k<xs.length
  ·have hlt':(k:Int)<(xs.length:Int):=by omega
   have hxr:nC wr (.slice xa xs.length xc) xs:=by
    rcases HX.out with ⟨x,c,h1,h2⟩|⟨g,o,c,h1,h2,h3,h4⟩
    ·exact .inl ⟨x,c,h1,h2⟩
    ·exact .inr ⟨g,o,c,h1,h2,h3,fun j hj=>(hsat.to (cU _).symm).bD (h4 j hj)⟩
   obtain ⟨g,o,c',hv,hc⟩:=hxr.QO hlt;cases hv
   have hts:=sZ hlt;have hmem:xs.getD k 0 ∈ xs:=by rw [List.getD,List.getElem?_eq_getElem hlt];exact List.getElem_mem hlt
   obtain ⟨p0,p1⟩:=iE (List.all_eq_true.1 Hall.out _ hmem);obtain ⟨ra,rc,rfl⟩:=hrd.shape;have hLl:(l++jg (xs.take k)).length≤998:=by rw [List.length_append,iv,List.length_take];omega
   have hnx:l++jg (xs.take (k+1))=(l++jg (xs.take k))++cZ (xs.getD k 0) 2:=by rw [hts,Kn,List.append_assoc]
   generalize l++jg (xs.take k)=LK at *;have hpt:Calls Tryz.prog 164 #[.slice ra LK.length rc,.int .i64 2,.int .u64 (xs.getD k 0)] wr (xd (LK++cZ (xs.getD k 0) 2) wr):=eM wr _ LK 2 (xs.getD k 0) hrd (by omega) (by omega) p0 (by omega);rw [← hnx] at hpt;have Hs:=ae hsat;clear hts hmem hrd hown hsat hxr hnx hLl;generalize xs.getD k 0=p at *;generalize hLN:l++jg (xs.take (k+1))=LN at *;have HLN:=ae hLN
   go_wp2_with fail
   (refine hpt.mono ?_)
   rintro e w2 ⟨v2,rfl,h2,d2⟩;have H2:=h2.under Hs.out;obtain ⟨a2,c2,rfl⟩:=aB H2;have hfin:Dl v l xs w (.slice a2 LN.length c2) (.int .i64 ((k:Int)+1)) w2:=⟨k+1,by omega,by go_num,by rw [HLN.out];exact H2.nB,H2.right,fun _=>by rw [HLN.out];exact H2,hside.trans d2⟩
   have Hfin:=ae hfin
   go_wp2_with fail
   go_roundw
   case rel=>exact Hfin.out
   case measure=>simp [intOf];omega
  ·obtain rfl:k=xs.length:=by omega
   have H:=hown (by omega);rw [List.take_length] at H hrd;obtain ⟨ra,rc,rfl⟩:=hrd.shape
   go_wp2_with fail
   go_ret
   exact ⟨_,rfl,H,hside⟩
theorem aY:(Tryz.prog.info? 73).map (·.size)=some 20:=by kernel_rfl
def MX (l:List UInt8) (w:World) (e:Ending) (w':World):Prop:=∃ v,e = .returned (.tuple #[v,.int .i64 0])∧Sat w' (bs 5 v l*whole w)∧ai w w'
theorem pV (w:World) (n:Nd) (h16:n.dr.length=16) (hok:n.ok=false) :
  Calls Tryz.prog 146 #[n.v] w (kH (.tuple #[.slice none 0 0,.int .i64 1]) w):=by
 have hA:=(Sat.whole w).alloc (.cells (ints n.l) 73 (0,0));have dA:=(ai.refl w).alloc (.cells (ints n.l) 73 (0,0));have hri:=je (w.alloc (.cells (ints n.l) 73 (0,0))) n h16
 have hrow:(w.alloc (.cells (ints n.l) 73 (0,0))).rangeAt w.heap.size 0 (n.l.map (Value.int .i64)):=fun j v hv=>by
  rw [Nat.zero_add,hA.cell,dm,← List.getElem?_map];exact hv
 have hinfo:(Tryz.prog.info? 73).map (·.size)=some (n.l.map (Value.int .i64)).length:=by rw [List.length_map,Nd.cells h16];exact aY
 rw [hok] at hri;have Hrow:=ae hrow;have Hinfo:=ae hinfo;have hv:n.v = .agg (n.l.map (Value.int .i64)).toArray:=rfl;rw [hv] at hri ⊢;have hi:ints n.l=(n.l.map (Value.int .i64)).toArray:=rfl;rw [hi] at hA dA hri Hrow;generalize n.l.map (Value.int .i64)=X at *
 go_enter Tryz.func146,Tryz.ntmps146
 go_wp2_with (refine wpList_load_mid (by exact rfl) 73 (.tmp 1) (by exact rfl) w.heap.size 0 (by exact rfl) X _ (by with_reducible exact Hrow.out) Tryz.underlying73 rfl (by with_reducible exact Hinfo.out) ?_)
 (refine hri.mono ?_)
 rintro e w2 ⟨rfl,h2,d2⟩;have H2:=(h2.dO hA).right
 go_wp2
 go_ret2
 exact ⟨rfl,H2,dA.trans d2⟩
theorem lj (w:World) (n:Nd) (h16:n.dr.length=16) (hok:n.ok=true) :
  Calls Tryz.prog 146 #[n.v] w (MX (ic n) w):=by
 have hA:=(Sat.whole w).alloc (.cells (ints n.l) 73 (0,0));have dA:=(ai.refl w).alloc (.cells (ints n.l) 73 (0,0));have hri:=je (w.alloc (.cells (ints n.l) 73 (0,0))) n h16
 have hrow:(w.alloc (.cells (ints n.l) 73 (0,0))).rangeAt w.heap.size 0 (n.l.map (Value.int .i64)):=fun j v hv=>by
  rw [Nat.zero_add,hA.cell,dm,← List.getElem?_map];exact hv
 have hinfo:(Tryz.prog.info? 73).map (·.size)=some (n.l.map (Value.int .i64)).length:=by rw [List.length_map,Nd.cells h16];exact aY
 rw [hok] at hri;have Hrow:=ae hrow;have Hinfo:=ae hinfo;obtain ⟨f1,f2,f3,f4,f5,f6,f7,-,-⟩:=Nd.pE hok;have hk0:0≤n.kd:=by omega
 have hk1:n.kd≤2:=by omega
 have hv:n.v = .agg (n.l.map (Value.int .i64)).toArray:=rfl;rw [hv] at hri ⊢;have hi:ints n.l=(n.l.map (Value.int .i64)).toArray:=rfl;rw [hi] at hA dA hri Hrow
 have G:Hid (∀ (w':World) (P:ah),Sat w' (pt w.heap.size (.cells (n.l.map (Value.int .i64)).toArray 73 (0,0))*P)→w'.cell? ⟨w.heap.size,0,none⟩=some (.int .i64 n.kd)∧w'.cell? ⟨w.heap.size,1,none⟩=some (.int .i64 n.lk) ∧
   w'.cell? ⟨w.heap.size,2,none⟩=some (.int .i64 n.sz)∧w'.cell? ⟨w.heap.size,19,none⟩=some (.int .i64 n.rw)∧nC w' (.slice (some ⟨w.heap.size,3,none⟩) 16 16) n.dr):=ae fun w' P h=>by
  have h16':=nC.row (xs:=n.l) h 3 16 (by rw [Nd.cells h16];decide) (by decide);rw [Nd.kD h16] at h16';exact ⟨h.cell 0,h.cell 1,h.cell 2,(h.cell 19).trans (Nd.Ev h16),h16'⟩
 generalize n.l.map (Value.int .i64)=X at *
 go_enter Tryz.func146,Tryz.ntmps146
 go_wp2_with (refine wpList_load_mid (by exact rfl) 73 (.tmp 1) (by exact rfl) w.heap.size 0 (by exact rfl) X _ (by with_reducible exact Hrow.out) Tryz.underlying73 rfl (by with_reducible exact Hinfo.out) ?_)
 (refine hri.mono ?_)
 rintro e w2 ⟨rfl,h2,d2⟩;have H2:=h2.dO hA;have D2:=dA.trans d2;have He:=ae (show ic n=bJ 480 ((((cZ n.kd 1++cZ n.lk 2)++cZ n.sz 4)++jg n.dr)++jg [n.rw]) from rfl);have c0:=(G.out _ _ H2).1;have hp:Calls Tryz.prog 164 #[.slice none 0 0,.int .i64 1,.int .u64 n.kd] w2 (xd ([]++cZ n.kd 1) w2):=eM w2 _ [] 1 n.kd (H2.eA 5 1).nB (by decide) (by decide) hk0 (by omega);rw [List.nil_append] at hp
 go_wp2_with fail
 (refine hp.mono ?_)
 rintro e w3 ⟨v3,rfl,h3,d3⟩;have H3:=h3.under H2;have D3:=D2.trans d3;have c1:=(G.out _ _ H3.ag).2.1;have l3:Hid ((cZ n.kd 1).length=1):=ae (aS _ _);generalize cZ n.kd 1=L3 at *;have hp4:Calls Tryz.prog 164 #[v3,.int .i64 2,.int .u64 n.lk] w3 (xd (L3++cZ n.lk 2) w3):=eM w3 v3 L3 2 n.lk H3.nB (by have:=l3.out;omega) (by decide) f2 (by omega)
 go_wp2_with fail
 (refine hp4.mono ?_)
 rintro e w4 ⟨v4,rfl,h4,d4⟩;have H4:=h4.under H3.right;have D4:=D3.trans d4;have c2:=(G.out _ _ H4.ag).2.2.1;have l4:Hid ((L3++cZ n.lk 2).length=3):=ae (by rw [List.length_append,aS,l3.out]);generalize L3++cZ n.lk 2=L4 at *;have hp5:Calls Tryz.prog 164 #[v4,.int .i64 4,.int .u64 n.sz] w4 (xd (L4++cZ n.sz 4) w4):=eM w4 v4 L4 4 n.sz H4.nB (by have:=l4.out;omega) (by decide) f4 (by omega)
 go_wp2_with fail
 (refine hp5.mono ?_)
 rintro e w5 ⟨v5,rfl,h5,d5⟩;have H5:=h5.under H4.right;have D5:=D4.trans d5;have l5:Hid ((L4++cZ n.sz 4).length=7):=ae (by rw [List.length_append,aS,l4.out]);generalize L4++cZ n.sz 4=L5 at *;have hp6:=sy w5 v5 _ L5 n.dr H5.nB (G.out _ _ H5.ag).2.2.2.2 (by omega) (by have:=l5.out;omega) f6
 go_wp2_with fail
 (refine hp6.mono ?_)
 rintro e w6 ⟨v6,rfl,h6,d6⟩;have H6:=h6.under H5.right;have D6:=D5.trans d6;have c19:=(G.out _ _ H6.ag).2.2.2.1;have l6:Hid ((L5++jg n.dr).length=39):=ae (by rw [List.length_append,iv,l5.out,h16]);generalize L5++jg n.dr=L6 at *;obtain ⟨a6,n6,rfl⟩:=aB H6;have H7:=H6.alloc (.cells #[.int .i64 n.rw] 3 (0,0));have D7:=D6.alloc (.cells #[.int .i64 n.rw] 3 (0,0))
 have hp7:=sy (w6.alloc (.cells #[.int .i64 n.rw] 3 (0,0))) (.slice a6 L6.length n6) (.slice (some ⟨w6.heap.size,0,none⟩) 1 1) L6 [n.rw] H7.ag.nB (.inr ⟨_,0,1,rfl,Nat.le_refl 1,by decide,fun k hk=>by
  have:k=0:=by simpa using hk
  subst this;exact H7.cell 0⟩) (by simp) (by have:=l6.out;simp;omega) (by simpa using f7)
 go_wp2_with fail
 (refine hp7.mono ?_)
 rintro e w8 ⟨v8,rfl,h8,d8⟩;have H8:=h8.under H7.right.right.right;have D8:=D7.trans d8;generalize L6++jg [n.rw]=L8 at *;have hp9:Calls Tryz.prog 165 #[v8,.int .i64 480] w8 (xd (bJ 480 L8) w8):=mE w8 v8 L8 H8.nB 480 (by decide)
 go_wp2_with fail
 (refine hp9.mono ?_)
 rintro e w9 ⟨v9,rfl,h9,d9⟩;have H9:=h9.under H8.right;have D9:=D8.trans d9
 go_wp2
 go_ret2
 exact ⟨_,rfl,by rw [He.out];exact H9,D9⟩
theorem kn:(Tryz.prog.info? 135).map (·.size)=some 240:=by kernel_rfl
theorem wQ (w:World) (l:List Int) (hl:l.length=240) (hok:l.all cP=false) :
  Calls Tryz.prog 147 #[.agg (ints l)] w (kH (.tuple #[.slice none 0 0,.int .i64 1]) w):=by
 have hA:=(Sat.whole w).alloc (.cells (ints l) 135 (0,0));have dA:=(ai.refl w).alloc (.cells (ints l) 135 (0,0));have hrd:=nC.row hA 0 240 (by omega) (by decide);rw [List.drop_zero,List.take_of_length_le (by omega)] at hrd;have hp:=gJ _ _ l hrd (by omega);rw [hok] at hp
 go_enter Tryz.func147,Tryz.ntmps147
 go_wp2_with fail
 (refine hp.mono ?_)
 rintro e w2 ⟨rfl,rfl⟩
 go_wp2
 go_ret2
 exact ⟨rfl,hA.right,dA⟩
theorem uz (w:World) (l:List Int) (hl:l.length=240) (hok:l.all cP=true) :
  Calls Tryz.prog 147 #[.agg (ints l)] w (MX (jg l) w):=by
 have hA:=(Sat.whole w).alloc (.cells (ints l) 135 (0,0));have dA:=(ai.refl w).alloc (.cells (ints l) 135 (0,0));have hrd:=nC.row hA 0 240 (by omega) (by decide);rw [List.drop_zero,List.take_of_length_le (by omega)] at hrd;have hp:=gJ _ _ l hrd (by omega);rw [hok] at hp;have hq:=sy (w.alloc (.cells (ints l) 135 (0,0))) (.slice none 0 0) _ [] l (hA.eA 5 1).nB hrd (by omega) (by simp;omega) hok;rw [List.nil_append] at hq
 go_enter Tryz.func147,Tryz.ntmps147
 go_wp2_with fail
 (refine hp.mono ?_)
 rintro e w2 ⟨rfl,rfl⟩
 go_wp2_with fail
 (refine hq.mono ?_)
 rintro e w3 ⟨v3,rfl,h3,d3⟩;have H3:=h3.under hA.right
 go_wp2
 go_ret2
 exact ⟨_,rfl,H3,dA.trans d3⟩
end Go.Fs
namespace Go.SL
open Go.RowKit
def bu (l:List UInt8) (o m:Nat):List Int:=(List.range m).map fun i=>ia (l.drop (o+2*i)) 2
theorem yI (l:List UInt8) (o m:Nat):bu l o (m+1)=bu l o m++[ia (l.drop (o+2*m)) 2]:=by simp [bu,List.range_succ]
theorem bf (l:List UInt8) (o m:Nat):(bu l o m).length=m:=by simp [bu]
def gP (l:List UInt8):Nd:=⟨ia l 1,ia (l.drop 1) 2,ia (l.drop 3) 4,bu l 7 16,ia (l.drop 39) 2⟩
theorem ud:∀ (vs:List Value) (cs:Array Value) (o:Nat) (v:Value),fp cs o (vs++[v])=(fp cs o vs).setIfInBounds (o+vs.length) v
 | [],cs,o,v=>rfl
 | x :: vs,cs,o,v=>by
  show fp (cs.setIfInBounds o x) (o+1) (vs++[v])=(fp (cs.setIfInBounds o x) (o+1) vs).setIfInBounds (o+(vs.length+1)) v
  rw [ud vs _ (o+1) v,show o+1+vs.length=o+(vs.length+1) by omega]
end Go.SL
namespace Go.Fs
open Go.RowKit Go.SL Go.Ba
def sU (r g cap:Nat) (cur:Array Value) (L:List UInt8) (o b:Nat) (cs:Array Value) (T:TypeId) (off k:Nat) (F:ah):ah:=
 bQ r g cap cur L (o+2*k)*(pt b (.cells (fp cs off ((bu L o k).map (Value.int .i64))) T (0,0))*F)
def Iz (r g cap:Nat) (cur:Array Value) (L:List UInt8) (o b:Nat) (cs:Array Value) (T:TypeId) (off m:Nat) (F:ah) (w:World) (u7:Value) (wr:World):Prop:=
 ∃ k:Nat,k≤m∧u7 = .int .i64 (k:Int)∧Sat wr (sU r g cap cur L o b cs T off k F)∧ai w wr
theorem qH (w:World) (r g cap:Nat) (cur:Array Value) (L:List UInt8) (o b:Nat) (cs:Array Value) (T:TypeId) (off m c:Nat) (F:ah) (h:Sat w (bQ r g cap cur L o*(pt b (.cells cs T (0,0))*F))) (hm:off+m≤cs.size) (hn:o+2*m≤L.length) (hl:L.length≤1000000) (hc:m≤c) (hcm:c≤maxLen)
  (hcell:∀ i,i<m→(cs[off+i]?).isSome=true) :
  Calls Tryz.prog 196 #[ax r,.slice (some ⟨b,off,none⟩) m c] w fun e w'=>e = .returned (.tuple #[])∧Sat w' (sU r g cap cur L o b cs T off m F)∧ai w w':=by
 have hcc:(c:Int)≤9223372036854775807:=by unfold maxLen at hcm;omega
 have H0:=h
 go_enter Tryz.func196,Tryz.ntmps196
 go_wp2_with fail
 go_loopw [7] (fun u wr=>Iz r g cap cur L o b cs T off m F w u wr) (fun u _=>m-(intOf u).toNat)
 case atStart=>exact ⟨0,Nat.zero_le _,rfl,H0,ai.refl w⟩
 case round=>
  obtain ⟨k,hk,rfl,hsat,hside⟩:=hrel
  by_cases hlt:k<m
  ·have hlt':(k:Int)<(m:Int):=by omega
   have hnum:Calls Tryz.prog 195 #[ax r,.int .i64 2] wr (xp r g cap cur L (o+2*k) 2 wr (pt b (.cells (fp cs off ((bu L o k).map (Value.int .i64))) T (0,0))*F)):=im wr r g cap cur L (o+2*k) 2 _ hsat (by omega) (by omega) (by decide) hl;obtain ⟨v0,v1⟩:=gy (L.drop (o+2*k)) 2;have v2:=v1
   have hsn:fp cs off ((bu L o (k+1)).map (Value.int .i64))=(fp cs off ((bu L o k).map (Value.int .i64))).setIfInBounds (off+k) (.int .i64 (ia (L.drop (o+2*k)) 2)):=by
    rw [yI,List.map_append,List.map_cons,List.map_nil,ud,List.length_map,bf]
   have hold:∃ x,(fp cs off ((bu L o k).map (Value.int .i64)))[off+k]?=some x:=by
    rw [il _ _ _ _ (by rw [List.length_map,bf];omega),if_neg (by rw [List.length_map,bf];omega)];exact Option.isSome_iff_exists.1 (hcell k hlt)
   have hfin:∀ w',Sat w' (bQ r g cap cur L (o+2*k+2)*(pt b (.cells (fp cs off ((bu L o (k+1)).map (Value.int .i64))) T (0,0))*F))→Sat w' (sU r g cap cur L o b cs T off (k+1) F):=fun w' h=>h;rw [hsn] at hfin;unfold xp at hnum;have Hfin:=ae hfin;generalize ia (L.drop (o+2*k)) 2=v at *;obtain ⟨x,hx⟩:=hold;have Hx:=ae hx
   go_wp2_with fail
   (refine hnum.mono ?_)
   rintro e w2 ⟨rfl,h2,d2⟩;have cx:=(h2.ag.cell _).trans Hx.out;have fx:=h2.ag.frozen (off+k);have H3:=h2.ag.setCell (off+k) (.int .i64 v);have H4:=ae (Hfin.out _ (H3.to (by ac_rfl)))
   go_wp2_with fail
   go_roundw
   case rel=>exact ⟨k+1,by omega,by go_num,H4.out,(hside.trans d2).setCell _ _⟩
   case measure=>simp [intOf];omega
  ·obtain rfl:k=m:=by omega
   go_wp2_with fail
   go_end0
   exact ⟨rfl,hsat,hside⟩
theorem Od (w:World) (c:Int):Calls Tryz.prog 201 #[.int .u8 c] w fun e w'=>e = .returned (.bool (c != 0))∧w=w':=by
 go_enter Tryz.func201,Tryz.ntmps201
 go_wp2
 go_ret
 exact ⟨rfl,rfl⟩
def Md (l:List UInt8) (k:Nat):Prop:=(l.take k).all (· == 0)=true
def NI (l:List UInt8) (u:Value):Prop:=∃ k:Nat,k≤l.length∧u = .int .i64 (k:Int)∧Md l k
def QN (l:List UInt8) (w:World) (e:Ending) (w':World):Prop:=∃ n:Int,e = .returned (.int .i64 n)∧(0≤n↔l.all (· == 0)=false)∧w=w'
theorem zy (w:World) (v:Value) (l:List UInt8) (hr:Rd w v l) (hl:l.length≤1000000) :
  Calls Tryz.prog 240 #[v,.func (.func 201) #[] #[]] w (QN l w):=by
 have Hr:=ae hr;obtain ⟨va,vc,rfl⟩:=hr.shape;have hln:(l.length:Int)≤1000000:=by omega
 clear hr
 go_enter Tryz.func240,Tryz.ntmps240
 go_wp2_with fail
 go_loop [8] (fun u=>NI l u) (fun u=>l.length-(intOf u).toNat)
 case atStart=>exact ⟨0,Nat.zero_le _,rfl,rfl⟩
 case round=>
  obtain ⟨k,hk,rfl,hall⟩:=hrel
  by_cases hlt:k<l.length
  ·have hlt':(k:Int)<(l.length:Int):=by omega
   obtain ⟨g,o,rfl,hcell⟩:=Hr.out.at (by omega);have hck:=hcell k l[k] (List.getElem?_eq_getElem hlt);have hnz:=Od w (l[k].toNat:Int)
   have hz:(l[k].toNat:Int)=0↔l[k]=0:=by
    constructor
    ·intro h;exact UInt8.toNat_inj.1 (by have:(0:UInt8).toNat=0:=rfl;omega)
    ·intro h;rw [h];rfl
   have hts:Md l (k+1)↔l[k]=0:=by
    unfold Md at hall ⊢;rw [List.take_add_one,List.getElem?_eq_getElem hlt,List.all_append,hall];simp
   have hno:l[k]≠0→l.all (· == 0)=false:=fun h=>List.all_eq_false.2 ⟨l[k],List.getElem_mem hlt,by simpa using h⟩;have Hno:=ae hno;have Hts:=ae hts;have Hz:=ae hz;unfold u8 at hck;generalize (l[k].toNat:Int)=c at *;clear hcell hall hno hts hz
   by_cases hc:c=0
   ·subst hc
    have hall2:=ae (Hts.out.2 (Hz.out.1 rfl))
    go_wp2_with fail
    (with_reducible refine hnz.mono ?_)
    rintro e w2 ⟨rfl,rfl⟩;clear hnz
    go_wp2_with fail
    go_round
    case rel=>exact ⟨k+1,by omega,by go_num,hall2.out⟩
    case measure=>simp [intOf];omega
   ·have hcb:(c != 0)=true:=by simpa using hc
    have hn:=ae (Hno.out (fun h=>hc (Hz.out.2 h)));rw [hcb] at hnz
    go_wp2_with fail
    (with_reducible refine hnz.mono ?_)
    rintro e w2 ⟨rfl,rfl⟩;clear hnz
    go_wp2_with fail
    go_ret
    exact ⟨(k:Int),rfl,⟨fun _=>hn.out,fun _=>by omega⟩,rfl⟩
  ·obtain rfl:k=l.length:=by omega
   unfold Md at hall;rw [List.take_length] at hall;have Hall:=ae hall;clear hall
   go_wp2_with fail
   go_ret
   exact ⟨-1,rfl,⟨fun h=>absurd h (by decide),fun h=>by rw [Hall.out] at h;cases h⟩,rfl⟩
def Rp (l:List UInt8) (w:World) (e:Ending) (w':World):Prop:=e = .returned (.bool (!(l.all (· == 0))))∧w=w'
theorem tq (w:World) (v:Value) (l:List UInt8) (hr:Rd w v l) (hl:l.length≤1000000) :
  Calls Tryz.prog 200 #[v,.func (.func 201) #[] #[]] w (Rp l w):=by
 have hix:=zy w v l hr hl;obtain ⟨va,vc,rfl⟩:=hr.shape;clear hr
 go_enter Tryz.func200,Tryz.ntmps200
 go_wp2_with fail
 (with_reducible refine hix.mono ?_)
 rintro e w2 ⟨n,rfl,hn,rfl⟩;have Hn:=ae hn;clear hix hn
 by_cases h:0≤n
 ·have e:=ae (Hn.out.1 h)
  go_wp2
  go_ret
  exact ⟨by rw [e.out];rfl,rfl⟩
 ·have e:l.all (· == 0)=true:=by
   cases hb:l.all (· == 0) with
   | true=>rfl
   | false=>exact absurd (Hn.out.2 hb) h
  have He:=ae e;have hd:decide (0≤n)=false:=decide_eq_false h;clear e
  go_wp2
  go_ret
  exact ⟨by rw [He.out];rfl,rfl⟩
theorem AU (a b c:Int) (dr:List Int) (r:Int) (h16:dr.length=16):(fp #[.int .i64 a,.int .i64 b,.int .i64 c,.int .i64 0,.int .i64 0,.int .i64 0,.int .i64 0,.int .i64 0,.int .i64 0,.int .i64 0,.int .i64 0,.int .i64 0,.int .i64 0,.int .i64 0,.int .i64 0,.int .i64 0,.int .i64 0,.int .i64 0,.int .i64 0,.int .i64 0] 3 (dr.map (Value.int .i64))).setIfInBounds 19 (.int .i64 r)=ints (Nd.l ⟨a,b,c,dr,r⟩):=by
 have hs:(fp #[.int .i64 a,.int .i64 b,.int .i64 c,.int .i64 0,.int .i64 0,.int .i64 0,.int .i64 0,.int .i64 0,.int .i64 0,.int .i64 0,.int .i64 0,.int .i64 0,.int .i64 0,.int .i64 0,.int .i64 0,.int .i64 0,.int .i64 0,.int .i64 0,.int .i64 0,.int .i64 0] 3 (dr.map (Value.int .i64))).size=20:=by rw [sb];rfl
 apply Array.ext_getElem?;intro k;rw [Array.getElem?_setIfInBounds,dm]
 by_cases h19:19=k
 ·subst h19
  rw [if_pos rfl,if_pos (by rw [hs];decide)];simp [Nd.l,h16]
 ·rw [if_neg h19,il _ _ _ _ (by rw [List.length_map,h16];show 3+16≤20;decide),List.length_map,h16]
  by_cases h3:3≤k∧k<3+16
  ·rw [if_pos h3,List.getElem?_map]
   congr 1;obtain ⟨j,rfl⟩:∃ j,k=j+3:=⟨k-3,by omega⟩
   simp only [Nd.l,List.getElem?_cons_succ,Nat.add_sub_cancel];rw [List.getElem?_append_left (by omega)]
  ·rw [if_neg h3]
   rcases (by omega:k=0∨k=1∨k=2∨20≤k) with rfl|rfl|rfl|h
   ·rfl
   ·rfl
   ·rfl
   ·rw [Array.getElem?_eq_none (by show 20≤k;exact h),List.getElem?_eq_none (by simp [Nd.l,h16];omega)];rfl
theorem C5:(#[.int .i64 0,.int .i64 0,.int .i64 0,.int .i64 0,.int .i64 0,.int .i64 0,.int .i64 0,.int .i64 0,.int .i64 0,.int .i64 0,.int .i64 0,.int .i64 0,.int .i64 0,.int .i64 0,.int .i64 0,.int .i64 0,.int .i64 0,.int .i64 0,.int .i64 0,.int .i64 0]:Array Value).all (·.oneCell')=true:=by simp [Value.oneCell']
theorem jV {tmps:Array Value} {w:World} {z:Nat} {v:Value} {F:ah} {C:Array Value} (h2:tmps[2]?=some (ax z)) (h3:tmps[3]?=some v) (h:Sat w (pt z (.cells C 73 (0,0))*F)) (hs:C.size=20:=by rfl) :
  (results Tryz.f141 tmps).run Tryz.prog w = .ok (.tuple #[.agg C,v]) w:=by
 have hl:=run_loadVar_row (P:=Tryz.prog) w z 73 73 C (0,0) _ h.heap Tryz.underlying73 rfl (by rw [hs];exact aY);have hp:tmps.getD 2 undef = .pointer (some ⟨z,0,none⟩):=by simp [h2]
 simp [results,Tryz.results141,h2,h3,asAddr,hl]
def JA:Nd:=⟨0,0,0,List.replicate 16 0,0⟩
theorem nU (w:World) (v:Value) (L:List UInt8) (hr:Rd w v L) (hL:L.length=480) (Q:Ending→World→Prop)
  (hY:(gP L).ok=true→(L.drop 41).all (· == 0)=true→∀ w',Sat w' (whole w)→ai w w'→Q (.returned (.tuple #[(gP L).v,.int .i64 0])) w')
  (hN:(gP L).ok=false∨(L.drop 41).all (· == 0)=false→∀ w',Sat w' (whole w)→ai w w'→Q (.returned (.tuple #[JA.v,.int .i64 4])) w') :
  Calls Tryz.prog 141 #[v] w Q:=by
 obtain ⟨va,vc,rfl⟩:=hr.shape;rw [hL] at hr ⊢;have Hr:=ae hr;have HY:=ae hY;have HN:=ae hN;have HL:=ae hL;clear hr hY hN hL
 go_enter Tryz.func141,Tryz.ntmps141
 go_wp2_with fail
 have H1:=(((Sat.whole w).alloc (.cells #[.int .i64 0,.int .i64 0,.int .i64 0,.int .i64 0,.int .i64 0,.int .i64 0,.int .i64 0,.int .i64 0,.int .i64 0,.int .i64 0,.int .i64 0,.int .i64 0,.int .i64 0,.int .i64 0,.int .i64 0,.int .i64 0,.int .i64 0,.int .i64 0,.int .i64 0,.int .i64 0] 73 (0,0))).alloc (.cells #[.int .i64 0,.int .i64 0,.int .i64 0,.int .i64 0,.int .i64 0,.int .i64 0,.int .i64 0,.int .i64 0,.int .i64 0,.int .i64 0,.int .i64 0,.int .i64 0,.int .i64 0,.int .i64 0,.int .i64 0,.int .i64 0,.int .i64 0,.int .i64 0,.int .i64 0,.int .i64 0] 73 (0,0))).alloc (.cells #[.int .i64 0] 260 (0,0));have D1:=(((ai.refl w).alloc (.cells #[.int .i64 0,.int .i64 0,.int .i64 0,.int .i64 0,.int .i64 0,.int .i64 0,.int .i64 0,.int .i64 0,.int .i64 0,.int .i64 0,.int .i64 0,.int .i64 0,.int .i64 0,.int .i64 0,.int .i64 0,.int .i64 0,.int .i64 0,.int .i64 0,.int .i64 0,.int .i64 0] 73 (0,0))).alloc (.cells #[.int .i64 0,.int .i64 0,.int .i64 0,.int .i64 0,.int .i64 0,.int .i64 0,.int .i64 0,.int .i64 0,.int .i64 0,.int .i64 0,.int .i64 0,.int .i64 0,.int .i64 0,.int .i64 0,.int .i64 0,.int .i64 0,.int .i64 0,.int .i64 0,.int .i64 0,.int .i64 0] 73 (0,0))).alloc (.cells #[.int .i64 0] 260 (0,0));simp only [World.size_alloc] at H1;generalize ((w.alloc (.cells #[.int .i64 0,.int .i64 0,.int .i64 0,.int .i64 0,.int .i64 0,.int .i64 0,.int .i64 0,.int .i64 0,.int .i64 0,.int .i64 0,.int .i64 0,.int .i64 0,.int .i64 0,.int .i64 0,.int .i64 0,.int .i64 0,.int .i64 0,.int .i64 0,.int .i64 0,.int .i64 0] 73 (0,0))).alloc (.cells #[.int .i64 0,.int .i64 0,.int .i64 0,.int .i64 0,.int .i64 0,.int .i64 0,.int .i64 0,.int .i64 0,.int .i64 0,.int .i64 0,.int .i64 0,.int .i64 0,.int .i64 0,.int .i64 0,.int .i64 0,.int .i64 0,.int .i64 0,.int .i64 0,.int .i64 0,.int .i64 0] 73 (0,0))).alloc (.cells #[.int .i64 0] 260 (0,0))=w1 at H1 D1 ⊢;generalize w.heap.size+1+1=rb at H1 ⊢;generalize w.heap.size+1=nb at H1 ⊢;generalize w.heap.size=zb at H1 ⊢;obtain ⟨kd,hkd⟩:∃ x,x=ia L 1:=⟨_,rfl⟩
 obtain ⟨lk,hlk⟩:∃ x,x=ia (L.drop 1) 2:=⟨_,rfl⟩
 obtain ⟨sz,hsz⟩:∃ x,x=ia (L.drop 3) 4:=⟨_,rfl⟩
 obtain ⟨rw',hrw⟩:∃ x,x=ia (L.drop 39) 2:=⟨_,rfl⟩
 have a0:0≤kd∧kd<256:=by rw [hkd];exact gy L 1
 have b0:0≤lk∧lk<65536:=by rw [hlk];exact gy (L.drop 1) 2
 have q0:0≤sz∧sz<4294967296:=by rw [hsz];exact gy (L.drop 3) 4
 obtain ⟨a0,a2⟩:=a0;obtain ⟨b0,b2⟩:=b0;obtain ⟨q0,q2⟩:=q0;have Hkd:=ae hkd;have Hlk:=ae hlk;have Hsz:=ae hsz;have Hrw:=ae hrw;clear hkd hlk hsz hrw;have hrd:=lN w1 (.slice va 480 vc) L (Hr.out.aX (H1.to (by ac_rfl:_=(pt rb (.cells #[.int .i64 0] 260 (0,0))*(pt nb (.cells #[.int .i64 0,.int .i64 0,.int .i64 0,.int .i64 0,.int .i64 0,.int .i64 0,.int .i64 0,.int .i64 0,.int .i64 0,.int .i64 0,.int .i64 0,.int .i64 0,.int .i64 0,.int .i64 0,.int .i64 0,.int .i64 0,.int .i64 0,.int .i64 0,.int .i64 0,.int .i64 0] 73 (0,0))*pt zb (.cells #[.int .i64 0,.int .i64 0,.int .i64 0,.int .i64 0,.int .i64 0,.int .i64 0,.int .i64 0,.int .i64 0,.int .i64 0,.int .i64 0,.int .i64 0,.int .i64 0,.int .i64 0,.int .i64 0,.int .i64 0,.int .i64 0,.int .i64 0,.int .i64 0,.int .i64 0,.int .i64 0] 73 (0,0))))*whole w))) (by rw [HL.out];decide) (by rw [HL.out];decide)
 (with_reducible refine hrd.mono ?_)
 rintro e w2 ⟨r,g,cap,cur,rfl,h2,d2⟩;obtain ⟨Z,hZ⟩:∃ Z,Z=pt rb (.cells #[.int .i64 0] 260 (0,0))*(pt zb (.cells #[.int .i64 0,.int .i64 0,.int .i64 0,.int .i64 0,.int .i64 0,.int .i64 0,.int .i64 0,.int .i64 0,.int .i64 0,.int .i64 0,.int .i64 0,.int .i64 0,.int .i64 0,.int .i64 0,.int .i64 0,.int .i64 0,.int .i64 0,.int .i64 0,.int .i64 0,.int .i64 0] 73 (0,0))*whole w):=⟨_,rfl⟩
 have H2:Sat w2 (bQ r g cap cur L 0*(pt nb (.cells #[.int .i64 0,.int .i64 0,.int .i64 0,.int .i64 0,.int .i64 0,.int .i64 0,.int .i64 0,.int .i64 0,.int .i64 0,.int .i64 0,.int .i64 0,.int .i64 0,.int .i64 0,.int .i64 0,.int .i64 0,.int .i64 0,.int .i64 0,.int .i64 0,.int .i64 0,.int .i64 0] 73 (0,0))*Z)):=(h2.under H1).to (by rw [hZ];ac_rfl);have D2:=D1.trans d2;have HZ:=ae hZ;clear hrd h2 d2 H1 D1 hZ;have hn1:Calls Tryz.prog 195 #[ax r,.int .i64 1] w2 (xp r g cap cur L 0 1 w2 _):=im w2 r g cap cur L 0 1 _ H2 (by rw [HL.out];decide) (by rw [HL.out];decide) (by decide) (by rw [HL.out];decide);unfold xp at hn1;rw [List.drop_zero,← Hkd.out] at hn1
 go_wp2_with fail
 (with_reducible refine hn1.mono ?_)
 rintro e w3 ⟨rfl,h3,d3⟩;have n0:w3.cell? ⟨nb,0,none⟩=some (.int .i64 0):=h3.ag.cell 0;have f0:w3.frozen? ⟨nb,0,none⟩=false:=h3.ag.frozen 0;have H3:=h3.ag.setCell 0 (.int .i64 kd);have D3:=(D2.trans d3).setCell ⟨nb,0,none⟩ (.int .i64 kd);simp only [List.setIfInBounds_toArray,List.set_cons_zero,List.set_cons_succ] at H3;have hn2:Calls Tryz.prog 195 #[ax r,.int .i64 2] (w3.setCell ⟨nb,0,none⟩ (.int .i64 kd)) (xp r g cap cur L 1 2 _ _):=im _ r g cap cur L 1 2 _ H3.ag (by rw [HL.out];decide) (by rw [HL.out];decide) (by decide) (by rw [HL.out];decide);unfold xp at hn2;rw [← Hlk.out] at hn2;clear hn1 h3 d3 D2 H2
 go_wp2_with fail
 generalize w3.setCell ⟨nb,0,none⟩ (.int .i64 kd)=w4 at *
 (with_reducible refine hn2.mono ?_)
 rintro e w5 ⟨rfl,h5,d5⟩;have n1:w5.cell? ⟨nb,1,none⟩=some (.int .i64 0):=h5.ag.cell 1;have f1:w5.frozen? ⟨nb,1,none⟩=false:=h5.ag.frozen 1;have H5:=h5.ag.setCell 1 (.int .i64 lk);have D5:=(D3.trans d5).setCell ⟨nb,1,none⟩ (.int .i64 lk);simp only [List.setIfInBounds_toArray,List.set_cons_zero,List.set_cons_succ] at H5;have hn3:Calls Tryz.prog 195 #[ax r,.int .i64 4] (w5.setCell ⟨nb,1,none⟩ (.int .i64 lk)) (xp r g cap cur L 3 4 _ _):=im _ r g cap cur L 3 4 _ H5.ag (by rw [HL.out];decide) (by rw [HL.out];decide) (by decide) (by rw [HL.out];decide);unfold xp at hn3;rw [← Hsz.out] at hn3;clear hn2 h5 d5 D3 H3 n0 f0
 go_wp2_with fail
 generalize w5.setCell ⟨nb,1,none⟩ (.int .i64 lk)=w6 at *
 (with_reducible refine hn3.mono ?_)
 rintro e w7 ⟨rfl,h7,d7⟩;have n2:w7.cell? ⟨nb,2,none⟩=some (.int .i64 0):=h7.ag.cell 2;have f2:w7.frozen? ⟨nb,2,none⟩=false:=h7.ag.frozen 2;have H7:=h7.ag.setCell 2 (.int .i64 sz);have D7:=(D5.trans d7).setCell ⟨nb,2,none⟩ (.int .i64 sz);simp only [List.setIfInBounds_toArray,List.set_cons_zero,List.set_cons_succ] at H7
 have hz:∀ k,k<20→(#[.int .i64 kd,.int .i64 lk,.int .i64 sz,.int .i64 0,.int .i64 0,.int .i64 0,.int .i64 0,.int .i64 0,.int .i64 0,.int .i64 0,.int .i64 0,.int .i64 0,.int .i64 0,.int .i64 0,.int .i64 0,.int .i64 0,.int .i64 0,.int .i64 0,.int .i64 0,.int .i64 0]:Array Value)[k]?.isSome=true:=fun k hk=>by
  rw [Array.getElem?_eq_getElem (by show k<20;exact hk)];rfl
 have htk:=qH _ r g cap cur L 7 nb _ 73 3 16 16 Z H7.ag (by show 3+16≤20;decide) (by rw [HL.out];decide) (by rw [HL.out];decide) (Nat.le_refl _) (by decide) (fun k hk=>hz _ (by omega));clear hn3 h7 d7 D5 H5 n1 f1 hz
 go_wp2_with fail
 generalize w7.setCell ⟨nb,2,none⟩ (.int .i64 sz)=w8 at *
 (with_reducible refine htk.mono ?_)
 rintro e w9 ⟨rfl,h9,d9⟩;obtain ⟨C,hC⟩:∃ C,C=fp #[.int .i64 kd,.int .i64 lk,.int .i64 sz,.int .i64 0,.int .i64 0,.int .i64 0,.int .i64 0,.int .i64 0,.int .i64 0,.int .i64 0,.int .i64 0,.int .i64 0,.int .i64 0,.int .i64 0,.int .i64 0,.int .i64 0,.int .i64 0,.int .i64 0,.int .i64 0,.int .i64 0] 3 ((bu L 7 16).map (Value.int .i64)):=⟨_,rfl⟩
 have hbuilt:=AU kd lk sz (bu L 7 16) rw' (bf _ _ _);rw [← hC] at hbuilt
 have hc19:∃ y,C[19]?=some y:=by
  rw [hC,il _ _ _ _ (by rw [List.length_map,bf];show 3+16≤20;decide),if_neg (by rw [List.length_map,bf];decide)];exact ⟨_,rfl⟩
 unfold sU at h9;rw [← hC,HZ.out] at h9;have H9:Sat w9 (bQ r g cap cur L 39*(pt rb (.cells #[.int .i64 0] 260 (0,0))*(pt nb (.cells C 73 (0,0))*(pt zb (.cells #[.int .i64 0,.int .i64 0,.int .i64 0,.int .i64 0,.int .i64 0,.int .i64 0,.int .i64 0,.int .i64 0,.int .i64 0,.int .i64 0,.int .i64 0,.int .i64 0,.int .i64 0,.int .i64 0,.int .i64 0,.int .i64 0,.int .i64 0,.int .i64 0,.int .i64 0,.int .i64 0] 73 (0,0))*whole w)))):=h9.to (by ac_rfl);have D9:=D7.trans d9;have htk2:=qH w9 r g cap cur L 39 rb _ 260 0 1 1 _ H9 (by decide) (by rw [HL.out];decide) (by rw [HL.out];decide) (Nat.le_refl _) (by decide) (fun k hk=>by obtain rfl:k=0:=(by omega);rfl);have Hbuilt:=ae hbuilt;clear htk h9 d9 D7 H7 n2 f2 hC hbuilt
 go_wp2_with fail
 (with_reducible refine htk2.mono ?_)
 rintro e w10 ⟨rfl,h10,d10⟩;have hrow:fp #[.int .i64 0] 0 ((bu L 39 1).map (Value.int .i64))=#[.int .i64 rw']:=by rw [Hrw.out];rfl
 unfold sU at h10;rw [hrow] at h10;have D10:=D9.trans d10;have r0:w10.cell? ⟨rb,0,none⟩=some (.int .i64 rw'):=h10.ag.cell 0;obtain ⟨y,hy⟩:=hc19;have n19:w10.cell? ⟨nb,19,none⟩=some y:=(h10.aq.cell 19).trans hy;have f19:w10.frozen? ⟨nb,19,none⟩=false:=h10.aq.frozen 19;have H11:=h10.aq.setCell 19 (.int .i64 rw');rw [Hbuilt.out] at H11;have hnd:(⟨kd,lk,sz,bu L 7 16,rw'⟩:Nd)=gP L:=by rw [Hkd.out,Hlk.out,Hsz.out,Hrw.out];rfl
 rw [hnd] at H11;have D11:=D10.setCell ⟨nb,19,none⟩ (.int .i64 rw');have hle:((L.length-41:Nat):Int)=439:=by rw [HL.out];rfl
 have hlf:=yJ _ r g cap cur L 41 _ H11.ag;have hby:=B1 _ r g cap cur L 41 _ H11.ag (by rw [HL.out];decide) (by rw [HL.out];decide);rw [hle] at hlf hby;have Hy:=ae hy;clear htk2 h10 d10 H9 D9 D10 hrow hy hnd
 go_wp2_with fail
 generalize w10.setCell ⟨nb,19,none⟩ (.int .i64 rw')=w11 at *
 (with_reducible refine hlf.mono ?_)
 rintro e w12 ⟨rfl,rfl⟩;clear hlf r0 n19 f19 hle
 go_wp2_with fail
 (with_reducible refine hby.mono ?_)
 rintro e w13 ⟨bv,rfl,h13,d13⟩;have h16:(gP L).dr.length=16:=bf _ _ _;have hri:=je w13 (gP L) h16;have H13:Sat w13 (pt nb (.cells (ints (gP L).l) 73 (0,0))*(bs 5 bv (L.drop 41)*(pt zb (.cells #[.int .i64 0,.int .i64 0,.int .i64 0,.int .i64 0,.int .i64 0,.int .i64 0,.int .i64 0,.int .i64 0,.int .i64 0,.int .i64 0,.int .i64 0,.int .i64 0,.int .i64 0,.int .i64 0,.int .i64 0,.int .i64 0,.int .i64 0,.int .i64 0,.int .i64 0,.int .i64 0] 73 (0,0))*whole w))):=(h13.to (by ac_rfl:_=pt rb (.cells #[.int .i64 rw'] 260 (0,0))*(pt nb (.cells (ints (gP L).l) 73 (0,0))*(bs 5 bv (L.drop 41)*(pt zb (.cells #[.int .i64 0,.int .i64 0,.int .i64 0,.int .i64 0,.int .i64 0,.int .i64 0,.int .i64 0,.int .i64 0,.int .i64 0,.int .i64 0,.int .i64 0,.int .i64 0,.int .i64 0,.int .i64 0,.int .i64 0,.int .i64 0,.int .i64 0,.int .i64 0,.int .i64 0,.int .i64 0] 73 (0,0))*whole w))))).right;have D13:=D11.trans d13
 have hrow:w13.rangeAt nb 0 ((gP L).l.map (Value.int .i64)):=fun j v hv=>by
  rw [Nat.zero_add,H13.cell,dm,← List.getElem?_map];exact hv
 have hinfo:(Tryz.prog.info? 73).map (·.size)=some ((gP L).l.map (Value.int .i64)).length:=by rw [List.length_map,Nd.cells h16];exact aY
 have hone:((gP L).l.map (Value.int .i64)).toArray.all (·.oneCell')=true:=by simp [Value.oneCell']
 have hv:(gP L).v = .agg ((gP L).l.map (Value.int .i64)).toArray:=rfl;have hi:ints (gP L).l=((gP L).l.map (Value.int .i64)).toArray:=rfl;rw [hv] at hri;rw [hi] at H13;have HYv:=ae (fun h1 h2 w' h3 h4=>hv▸HY.out h1 h2 w' h3 h4);have Hrow:=ae hrow;have Hinfo:=ae hinfo;have Hone:=ae hone;have hsz:JA.v = .agg #[.int .i64 0,.int .i64 0,.int .i64 0,.int .i64 0,.int .i64 0,.int .i64 0,.int .i64 0,.int .i64 0,.int .i64 0,.int .i64 0,.int .i64 0,.int .i64 0,.int .i64 0,.int .i64 0,.int .i64 0,.int .i64 0,.int .i64 0,.int .i64 0,.int .i64 0,.int .i64 0]:=rfl;obtain ⟨ba,bc,rfl⟩:=aB H13.ag;have hlen:(L.drop 41).length=439:=by rw [List.length_drop,HL.out]
 rw [hlen] at H13 ⊢;have hcn:=fun w' (h:Rd w' (.slice ba 439 bc) (L.drop 41))=>tq w' _ _ h (by rw [hlen];decide);have Hcn:=ae hcn;clear hby h13 d13 D11 H11 hrow hinfo hone hv hi hcn hlen hsz
 go_wp2_with (refine wpList_load_mid (by exact rfl) 73 (.tmp 4) (by exact rfl) nb 0 (by exact rfl) ((gP L).l.map (Value.int .i64)) _ (by with_reducible exact Hrow.out) Tryz.underlying73 rfl (by with_reducible exact Hinfo.out) ?_)
 have hfin:∀ w',Sat w' (pt zb (.cells #[.int .i64 0,.int .i64 0,.int .i64 0,.int .i64 0,.int .i64 0,.int .i64 0,.int .i64 0,.int .i64 0,.int .i64 0,.int .i64 0,.int .i64 0,.int .i64 0,.int .i64 0,.int .i64 0,.int .i64 0,.int .i64 0,.int .i64 0,.int .i64 0,.int .i64 0,.int .i64 0] 73 (0,0))*whole w)→Sat (w'.setRow zb #[.int .i64 0,.int .i64 0,.int .i64 0,.int .i64 0,.int .i64 0,.int .i64 0,.int .i64 0,.int .i64 0,.int .i64 0,.int .i64 0,.int .i64 0,.int .i64 0,.int .i64 0,.int .i64 0,.int .i64 0,.int .i64 0,.int .i64 0,.int .i64 0,.int .i64 0,.int .i64 0]) (pt zb (.cells #[.int .i64 0,.int .i64 0,.int .i64 0,.int .i64 0,.int .i64 0,.int .i64 0,.int .i64 0,.int .i64 0,.int .i64 0,.int .i64 0,.int .i64 0,.int .i64 0,.int .i64 0,.int .i64 0,.int .i64 0,.int .i64 0,.int .i64 0,.int .i64 0,.int .i64 0,.int .i64 0] 73 (0,0))*whole w):=fun w' h=>h.setRow
 cases hok:(gP L).ok with
 | false=>
  have HNf:=ae (HN.out (.inl hok));rw [hok] at hri
  (with_reducible refine hri.mono ?_)
  rintro e w14 ⟨rfl,h14,d14⟩;have H14:=(h14.dO H13).right.right;have D14:=D13.trans d14;have Hz:=ae H14.heap;have HF:=ae (hfin _ H14);clear hri h14 H14 hfin hok HYv
  go_wp2_with (refine wpList_store_row (by exact rfl) 73 (.tmp 2) (.tmp 47) (by exact rfl) zb #[.int .i64 0,.int .i64 0,.int .i64 0,.int .i64 0,.int .i64 0,.int .i64 0,.int .i64 0,.int .i64 0,.int .i64 0,.int .i64 0,.int .i64 0,.int .i64 0,.int .i64 0,.int .i64 0,.int .i64 0,.int .i64 0,.int .i64 0,.int .i64 0,.int .i64 0,.int .i64 0] (by exact rfl) (by exact rfl) 73 #[.int .i64 0,.int .i64 0,.int .i64 0,.int .i64 0,.int .i64 0,.int .i64 0,.int .i64 0,.int .i64 0,.int .i64 0,.int .i64 0,.int .i64 0,.int .i64 0,.int .i64 0,.int .i64 0,.int .i64 0,.int .i64 0,.int .i64 0,.int .i64 0,.int .i64 0,.int .i64 0] (by with_reducible exact Hz.out) aY rfl C5 ?_)
  exact bodyPost_ret (jV rfl rfl HF.out) rfl (HNf.out _ HF.out.right (D14.setRow _ _))
 | true=>
  rw [hok] at hri
  (with_reducible refine hri.mono ?_)
  rintro e w14 ⟨rfl,h14,d14⟩;have H14:=h14.dO H13;have D14:=D13.trans d14;have hc:=Hcn.out w14 H14.ag.nB;unfold Rp at hc
  cases hz:(L.drop 41).all (· == 0) with
  | false=>
   have HNf:=ae (HN.out (.inr hz));rw [hz] at hc;have H15:=H14.right.right;have Hz:=ae H15.heap;have HF:=ae (hfin _ H15);clear hri h14 H15 hfin hok HYv hz
   go_wp2_with (first|(refine wpList_store_row (by exact rfl) 73 (.tmp 2) (.tmp 47) (by exact rfl) zb #[.int .i64 0,.int .i64 0,.int .i64 0,.int .i64 0,.int .i64 0,.int .i64 0,.int .i64 0,.int .i64 0,.int .i64 0,.int .i64 0,.int .i64 0,.int .i64 0,.int .i64 0,.int .i64 0,.int .i64 0,.int .i64 0,.int .i64 0,.int .i64 0,.int .i64 0,.int .i64 0] (by exact rfl) (by exact rfl) 73 #[.int .i64 0,.int .i64 0,.int .i64 0,.int .i64 0,.int .i64 0,.int .i64 0,.int .i64 0,.int .i64 0,.int .i64 0,.int .i64 0,.int .i64 0,.int .i64 0,.int .i64 0,.int .i64 0,.int .i64 0,.int .i64 0,.int .i64 0,.int .i64 0,.int .i64 0,.int .i64 0] (by with_reducible exact Hz.out) aY rfl C5 ?_)|(go_at_call 200;(with_reducible refine hc.mono ?_);rintro e w15 ⟨rfl,rfl⟩))
   exact bodyPost_ret (jV rfl rfl HF.out) rfl (HNf.out _ HF.out.right (D14.setRow _ _))
  | true=>
   have HYf:=ae (HYv.out hok hz);rw [hz] at hc;have H15:=H14;have H16:Sat w14 (pt zb (.cells #[.int .i64 0,.int .i64 0,.int .i64 0,.int .i64 0,.int .i64 0,.int .i64 0,.int .i64 0,.int .i64 0,.int .i64 0,.int .i64 0,.int .i64 0,.int .i64 0,.int .i64 0,.int .i64 0,.int .i64 0,.int .i64 0,.int .i64 0,.int .i64 0,.int .i64 0,.int .i64 0] 73 (0,0))*(pt nb (.cells ((gP L).l.map (Value.int .i64)).toArray 73 (0,0))*whole w)):=(H14.to (by ac_rfl:_=bs 5 (.slice ba 439 bc) (L.drop 41)*(pt zb (.cells #[.int .i64 0,.int .i64 0,.int .i64 0,.int .i64 0,.int .i64 0,.int .i64 0,.int .i64 0,.int .i64 0,.int .i64 0,.int .i64 0,.int .i64 0,.int .i64 0,.int .i64 0,.int .i64 0,.int .i64 0,.int .i64 0,.int .i64 0,.int .i64 0,.int .i64 0,.int .i64 0] 73 (0,0))*(pt nb (.cells ((gP L).l.map (Value.int .i64)).toArray 73 (0,0))*whole w)))).right
   have hrow2:w14.rangeAt nb 0 ((gP L).l.map (Value.int .i64)):=fun j v hv=>by
    rw [Nat.zero_add,H14.cell,List.getElem?_toArray];exact hv
   have Hrow2:=ae hrow2;have Hz:=ae H16.heap;have H17:=H16.setRow (cs':=((gP L).l.map (Value.int .i64)).toArray);have HF:=ae H17;have hsz2:((gP L).l.map (Value.int .i64)).toArray.size=20:=by simp [Nd.cells h16]
   have Hsz2:=ae hsz2;have hst:(Tryz.prog.info? 73).map (·.size)=some ((gP L).l.map (Value.int .i64)).toArray.size:=by rw [hsz2];exact aY
   have Hst:=ae hst;clear hri h14 H14 H15 H16 H17 hfin hok hz hrow2 hst hsz2;generalize (gP L).l.map (Value.int .i64)=X at *
   go_wp2_with (first
    | (refine wpList_load_mid (by exact rfl) 73 (.tmp 4) (by exact rfl) nb 0 (by exact rfl) X _ (by with_reducible exact Hrow2.out) Tryz.underlying73 rfl (by with_reducible exact Hinfo.out) ?_)
    | (refine wpList_store_row (by exact rfl) 73 (.tmp 2) (.tmp 48) (by exact rfl) zb X.toArray (by exact rfl) (by exact rfl) 73 #[.int .i64 0,.int .i64 0,.int .i64 0,.int .i64 0,.int .i64 0,.int .i64 0,.int .i64 0,.int .i64 0,.int .i64 0,.int .i64 0,.int .i64 0,.int .i64 0,.int .i64 0,.int .i64 0,.int .i64 0,.int .i64 0,.int .i64 0,.int .i64 0,.int .i64 0,.int .i64 0] (by with_reducible exact Hz.out) Hst.out (by rw [Hsz2.out];rfl) Hone.out ?_)
    | (go_at_call 200;(with_reducible refine hc.mono ?_);rintro e w15 ⟨rfl,rfl⟩))
   exact bodyPost_ret (jV rfl rfl HF.out Hsz2.out) rfl (HYf.out _ HF.out.right.right (D14.setRow _ _))
def jM:List Int:=List.replicate 240 0
theorem Lv:Tryz.zeroCells135=ints jM:=by kernel_rfl
theorem F6:(Tryz.prog.built 135 []).isSome=true:=by kernel_rfl
theorem Fz:(Tryz.prog.built 135 []).getD #[]=ints jM:=by kernel_rfl
theorem DX:(Tryz.prog.info? 135).map (·.size)=some (ints jM).size:=by rw [dw];exact kn
theorem NV:(ints jM).all (·.oneCell')=true:=by simp [ints,Value.oneCell']
theorem pQ {tmps:Array Value} {w:World} {z:Nat} {v:Value} {F:ah} {C:Array Value} (h2:tmps[2]?=some (ax z)) (h3:tmps[3]?=some v) (h:Sat w (pt z (.cells C 135 (0,0))*F)) (hs:C.size=240) :
  (results Tryz.f145 tmps).run Tryz.prog w = .ok (.tuple #[.agg C,v]) w:=by
 have hl:=run_loadVar_row (P:=Tryz.prog) w z 135 135 C (0,0) _ h.heap Tryz.underlying135 rfl (by rw [hs];exact kn);have hp:tmps.getD 2 undef = .pointer (some ⟨z,0,none⟩):=by simp [h2]
 simp [results,Tryz.results145,h2,h3,asAddr,hl]
theorem uO (w:World) (v:Value) (L:List UInt8) (hr:Rd w v L) (hL:L.length=480) (Q:Ending→World→Prop)
  (hY:(bu L 0 240).all cP=true→∀ w',Sat w' (whole w)→ai w w'→Q (.returned (.tuple #[.agg (ints (bu L 0 240)),.int .i64 0])) w')
  (hN:(bu L 0 240).all cP=false→∀ w',Sat w' (whole w)→ai w w'→Q (.returned (.tuple #[.agg (ints jM),.int .i64 4])) w') :
  Calls Tryz.prog 145 #[v] w Q:=by
 obtain ⟨va,vc,rfl⟩:=hr.shape;rw [hL] at hr ⊢;have Hr:=ae hr;have HY:=ae hY;have HN:=ae hN;have HL:=ae hL;clear hr hY hN hL
 go_enter Tryz.func145,Tryz.ntmps145
 go_wp2_with fail
 have H1:=((Sat.whole w).alloc (.cells Tryz.zeroCells135 135 (0,0))).alloc (.cells Tryz.zeroCells135 135 (0,0));have D1:=((ai.refl w).alloc (.cells Tryz.zeroCells135 135 (0,0))).alloc (.cells Tryz.zeroCells135 135 (0,0));simp only [World.size_alloc] at H1;generalize (w.alloc (.cells Tryz.zeroCells135 135 (0,0))).alloc (.cells Tryz.zeroCells135 135 (0,0))=w1 at H1 D1 ⊢;rw [Lv] at H1;generalize w.heap.size+1=rb at H1 ⊢;generalize w.heap.size=zb at H1 ⊢;obtain ⟨ZR,hZR⟩:∃ Z,Z=ints jM:=⟨_,rfl⟩
 have hzs:ZR.size=240:=by rw [hZR,dw];rfl
 rw [← hZR] at H1;have HZR:=ae hZR;have hrd:=lN w1.drew (.slice va 480 vc) L (Hr.out.aX (H1.to (by ac_rfl:_=(pt rb (.cells ZR 135 (0,0))*pt zb (.cells ZR 135 (0,0)))*whole w)):Rd w1 _ _) (by rw [HL.out];decide) (by rw [HL.out];decide);have Hd:=ae (Sat.drew H1)
 have htk:∀ w' r g cap cur,Sat w' (bQ r g cap cur L 0*(pt rb (.cells ZR 135 (0,0))*(pt zb (.cells ZR 135 (0,0))*whole w)))→Calls Tryz.prog 196 #[ax r,.slice (some ⟨rb,0,none⟩) 240 240] w' fun e w2=>e = .returned (.tuple #[])∧Sat w2 (sU r g cap cur L 0 rb ZR 135 0 240 (pt zb (.cells ZR 135 (0,0))*whole w))∧ai w' w2:=fun w' r g cap cur h=>
  qH w' r g cap cur L 0 rb ZR 135 0 240 240 _ h (by omega) (by rw [HL.out];decide) (by rw [HL.out];decide) (Nat.le_refl _) (by decide) (fun i hi=>by rw [Array.getElem?_eq_getElem (by omega)];rfl)
 have Htk:=ae htk
 have hfull:fp ZR 0 ((bu L 0 240).map (Value.int .i64))=ints (bu L 0 240):=by
  apply Array.ext_getElem?;intro k;rw [il _ _ _ _ (by rw [List.length_map,bf];omega),List.length_map,bf,dm,← List.getElem?_map]
  by_cases hk:k<240
  ·rw [if_pos ⟨Nat.zero_le _,by omega⟩,Nat.sub_zero]
  ·rw [if_neg (by omega),Array.getElem?_eq_none (by omega),List.getElem?_eq_none (by rw [List.length_map,bf];omega)]
 have Hfull:=ae hfull;clear hZR htk hfull
 go_region_held3 (fun _=>True) (trivial) (first
  | (go_at_call 194;(with_reducible refine hrd.mono ?_);rintro e w2 ⟨r,g,cap,cur,rfl,h2,d2⟩;have H2:=h2.under Hd.out)
  | (go_at_call 196;(with_reducible refine (Htk.out _ r g cap cur H2).mono ?_);rintro e w3 ⟨rfl,h3,d3⟩))
 all_goals
  unfold sU at h3;rw [Hfull.out] at h3;have H3:=h3.ag;have D3:=ae (((D1.drew).trans d2).trans d3);have hpr:=nC.row H3 0 240 (by rw [bf];decide) (by decide);rw [List.drop_zero,List.take_of_length_le (by rw [bf];decide)] at hpr;have hpt:=gJ _ _ _ hpr (by rw [bf];decide);have H4:Sat w3 (pt zb (.cells ZR 135 (0,0))*(pt rb (.cells (ints (bu L 0 240)) 135 (0,0))*whole w)):=(H3.to (by ac_rfl:_=bQ r g cap cur L (0+2*240)*(pt zb (.cells ZR 135 (0,0))*(pt rb (.cells (ints (bu L 0 240)) 135 (0,0))*whole w)))).right
  have hrow2:w3.rangeAt rb 0 ((bu L 0 240).map (Value.int .i64)):=fun j v hv=>by
   rw [Nat.zero_add,H4.ag.cell,dm,← List.getElem?_map];exact hv
  have Hz:=ae H4.heap;have HF1:=ae (H4.setRow (cs':=ints jM));have HF2:=ae (H4.setRow (cs':=ints (bu L 0 240)));have Hrow2:=ae hrow2;have hl:(bu L 0 240).length=240:=bf _ _ _;have Hl:=ae hl
  cases hok:(bu L 0 240).all cP with
  | false=>
   have HNf:=ae (HN.out hok);rw [hok] at hpt;clear hrd H1 Hd Htk h2 d2 H2 h3 d3 H3 hpr H4 hrow2 hl hok D1
   go_wp2_with fail
   (with_reducible refine hpt.mono ?_)
   rintro e w4 ⟨rfl,rfl⟩;clear hpt
   go_wp2_with (first
    | (refine wpList_build (by exact rfl) 135 #[] (by exact rfl) (by exact F6) ?_)
    | (refine wpList_store_row (by exact rfl) 135 (.tmp 2) (.tmp 16) (by exact rfl) zb (ints jM) (by exact rfl) (by exact congrArg Value.agg Fz) 135 ZR (by with_reducible exact Hz.out) DX hzs (by exact NV) ?_))
   exact bodyPost_ret (pQ rfl rfl HF1.out (by rw [dw];rfl)) rfl (HNf.out _ HF1.out.right.right (D3.out.setRow _ _))
  | true=>
   have HYf:=ae (HY.out hok);rw [hok] at hpt;have hinfo:(Tryz.prog.info? 135).map (·.size)=some ((bu L 0 240).map (Value.int .i64)).length:=by rw [List.length_map,hl];exact kn
   have hinfo2:(Tryz.prog.info? 135).map (·.size)=some (ints (bu L 0 240)).size:=by rw [dw,hl];exact kn
   have hone:(ints (bu L 0 240)).all (·.oneCell')=true:=by simp [ints,Value.oneCell']
   have hi:ints (bu L 0 240)=((bu L 0 240).map (Value.int .i64)).toArray:=rfl;have hs2:(ints (bu L 0 240)).size=240:=by rw [dw,hl]
   rw [hi] at hinfo2 hone hs2 HF2 HYf;have Hinfo:=ae hinfo;have Hinfo2:=ae hinfo2;have Hone:=ae hone;have Hs2:=ae hs2;clear hrd H1 Hd Htk h2 d2 H2 h3 d3 H3 hpr H4 hrow2 hl hok D1 hinfo hinfo2 hone hi HF1 hs2 Hfull;generalize (bu L 0 240).map (Value.int .i64)=X at *
   go_wp2_with fail
   (with_reducible refine hpt.mono ?_)
   rintro e w4 ⟨rfl,rfl⟩;clear hpt
   go_wp2_with (first
    | (refine wpList_load_mid (by exact rfl) 135 (.tmp 4) (by exact rfl) rb 0 (by exact rfl) X _ (by with_reducible exact Hrow2.out) Tryz.underlying135 rfl (by with_reducible exact Hinfo.out) ?_)
    | (refine wpList_store_row (by exact rfl) 135 (.tmp 2) (.tmp 17) (by exact rfl) zb X.toArray (by exact rfl) (by exact rfl) 135 ZR (by with_reducible exact Hz.out) Hinfo2.out (by rw [Hs2.out];exact hzs) Hone.out ?_))
   exact bodyPost_ret (pQ rfl rfl HF2.out Hs2.out) rfl (HYf.out _ HF2.out.right.right (D3.out.setRow _ _))
end Go.Fs
