/- Steps. -/
import Derived.Test.YtacliaemfegopaaGreatDoorKP5
import Derived.Recover
import Derived.Lib.SlBytesConst
set_option linter.unusedVariables false
set_option linter.unusedSimpArgs false
set_option maxRecDepth 100000
set_option maxHeartbeats 40000000
open Go.Proofs Go.SL
namespace Go.SL
open Go.RowKit
theorem nZ.oz {w w':World} {P:ah} (h:nZ w) (s:Sat w' (P*whole w)):nZ w':=fun k hk=>s.bD (h k hk)
def qC:List UInt8:=[72,65,82,82,79,87,32,49]
def pY (n P:Nat):List UInt8:=bJ 508 (qC++cZ n 4++cZ P 4)
def cO (n P:Nat):List UInt8:=pY n P++cZ (Fh (pY n P)) 4
theorem nF (n P:Nat):(pY n P).length=508:=bR _ _
theorem iw (n P:Nat):(cO n P).length=512:=by unfold cO;rw [List.length_append,nF,aS]
end Go.SL
namespace Go.Su
open Go.RowKit Go.SL Go.Ba Go.Fs
theorem rY {T:TypeId} {w:World} {g:Nat} {l:List UInt8} {c:Nat} {fr:Nat × Nat} (h:w.heap[g]?=some (.cells (dp l) T fr)):Rd w (.slice (some ⟨g,0,none⟩) l.length c) l:=by
 refine ⟨by simp,.inr ⟨_,_,rfl,?_⟩⟩;have:=tD (n:=l.length) h
 rwa [show (dp l).toList.take l.length=l.map u8 from by simp [dp,List.take_of_length_le]] at this
theorem zp (w:World) (n P:Nat) (hg:lT n P=true) (hh:nZ w):Calls Tryz.prog 115 #[Kz n P] w (xd (cO n P) w):=by
 have hG:=dZ.1 hg;have h1:=(Sat.whole w).alloc (.cells #[.int .i64 (n:Int),.int .i64 (P:Int)] 119 (0,0));have d1:=(ai.refl w).alloc (.cells #[.int .i64 (n:Int),.int .i64 (P:Int)] 119 (0,0));unfold Kz
 go_enter Tryz.func115,Tryz.ntmps115
 go_wp2_with fail
 generalize w.alloc (.cells #[.int .i64 (n:Int),.int .i64 (P:Int)] 119 (0,0))=w1 at h1 d1 ⊢;generalize w.heap.size=b at h1 ⊢;have hR:=sF w1 n P;unfold Kz at hR
 (with_reducible refine hR.mono ?_)
 rintro e w2 ⟨rfl,h2,d2⟩;rw [if_pos hg];have H2:=h2.dO h1;have D2:=d1.trans d2;clear hR h2 d2 h1 d1;have c0:w2.cell? ⟨b,0,none⟩=some (.int .i64 (n:Int)):=H2.cell 0;obtain ⟨C,hC⟩:∃ C:Array Value,C=#[.int .u8 72,.int .u8 65,.int .u8 82,.int .u8 82,.int .u8 79,.int .u8 87,.int .u8 32,.int .u8 49]:=⟨_,rfl⟩
 have h3:=H2.alloc (.cells C 5 (8,9));have d3:=D2.alloc (.cells C 5 (8,9))
 have hcv:(convert 37 37 (.slice (some ⟨w2.heap.size,0,none⟩) 8 8)).run Tryz.prog (w2.alloc (.cells C 5 (0,0))) = .ok (.slice (some ⟨w2.heap.size,0,none⟩) 8 8) (w2.alloc (.cells C 5 (8,9))):=by
  have:=Go.Lib.run_convert_bytes_const (P:=Tryz.prog) w2 37 5 C 8 8 Tryz.underlying37 Tryz.underlying5;have e:C.size=8:=by rw [hC];rfl
  rw [e] at this;exact this
 have c0':(w2.alloc (.cells C 5 (8,9))).cell? ⟨b,0,none⟩=some (.int .i64 (n:Int)):=h3.right.cell 0;have hw1:IntKind.u64.wrap (n:Int)=(n:Int):=by rw [IntKind.wrap_u64];omega
 have hw2:IntKind.u64.wrap (P:Int)=(P:Int):=by rw [IntKind.wrap_u64];omega
 rw [hC] at hcv c0' h3 d3;clear hg c0
 go_wp2_with fail
 clear c0' hcv;generalize w2.alloc (.cells #[.int .u8 72,.int .u8 65,.int .u8 82,.int .u8 82,.int .u8 79,.int .u8 87,.int .u8 32,.int .u8 49] 5 (8,9))=w3 at h3 d3 ⊢;generalize w2.heap.size=mb at h3 ⊢;have hrm:Rd w3 (.slice (some ⟨mb,0,none⟩) 8 8) qC:=rY (c:=8) (l:=qC) h3.heap;have hp1:Calls Tryz.prog 164 #[.slice (some ⟨mb,0,none⟩) 8 8,.int .i64 4,.int .u64 (n:Int)] w3 (xd (qC++cZ n 4) w3):=eM w3 _ qC 4 (n:Int) hrm (by decide) (by decide) (by omega) (by omega)
 (with_reducible refine hp1.mono ?_)
 rintro e w4 ⟨v4,rfl,h4,d4⟩;obtain ⟨l4,hl4⟩:∃ l,l=qC++cZ n 4:=⟨_,rfl⟩
 have hl4n:l4.length=12:=by rw [hl4,List.length_append,aS];rfl
 rw [← hl4] at h4;have H4:=h4.under h3.right;have D4:=d3.trans d4;have hp2:Calls Tryz.prog 164 #[v4,.int .i64 4,.int .u64 (P:Int)] w4 (xd (l4++cZ P 4) w4):=eM w4 v4 l4 4 (P:Int) h4.oZ (by omega) (by decide) (by omega) (by omega);have c1:w4.cell? ⟨b,1,none⟩=some (.int .i64 (P:Int)):=H4.ag.cell 1;have hl4h:=ae hl4n;have Hl4:=ae hl4;clear hp1 h4 d4 h3 d3 hrm hl4n hl4 D2
 go_wp2_with fail
 (with_reducible refine hp2.mono ?_)
 rintro e w5 ⟨v5,rfl,h5,d5⟩;obtain ⟨l5,hl5⟩:∃ l,l=l4++cZ P 4:=⟨_,rfl⟩
 rw [← hl5] at h5;have H5:=h5.under H4.right;have D5:=D4.trans d5;have hp3:Calls Tryz.prog 165 #[v5,.int .i64 508] w5 (xd (bJ 508 l5) w5):=mE w5 v5 l5 h5.oZ 508 (by omega);have Hl5:=ae hl5;clear hp2 h5 d5 H4 D4 c1 hl5
 go_wp2_with fail
 (with_reducible refine hp3.mono ?_)
 rintro e w6 ⟨v6,rfl,h6,d6⟩;have el6:bJ 508 l5=pY n P:=by rw [Hl5.out,Hl4.out];rfl
 rw [el6] at h6;have H6:=h6.under H5.right;have D6:=D5.trans d6;have hhalf:nZ w6:=hh.oz (H6.to (by ac_rfl:_=(bs 5 v6 (pY n P)*pt b (.cells #[.int .i64 (n:Int),.int .i64 (P:Int)] 119 (0,0)))*whole w));obtain ⟨lb,hlb⟩:∃ l,l=pY n P:=⟨_,rfl⟩
 have hlbn:lb.length=508:=by rw [hlb];exact nF n P
 rw [← hlb] at H6;have hs:=KL w6 v6 lb H6.oZ (by omega) hhalf;have Hlb:=ae hlb;have Hlbn:=ae hlbn;clear hp3 h6 d6 H5 D5 el6 hhalf hlb hlbn
 go_wp2_with fail
 (with_reducible refine hs.mono ?_)
 rintro e w7 ⟨rfl,rfl⟩;obtain ⟨c,hc⟩:∃ c,c=Fh lb:=⟨_,rfl⟩
 obtain ⟨c0,c1⟩:=BJ lb;rw [← hc] at c0 c1 ⊢;have hw3:IntKind.u64.wrap c=c:=by rw [IntKind.wrap_u64];omega
 have hp4:Calls Tryz.prog 164 #[v6,.int .i64 4,.int .u64 c] w6 (xd (lb++cZ c 4) w6):=eM w6 v6 lb 4 c H6.oZ (by rw [Hlbn.out];decide) (by decide) (by omega) (by omega);have Hc:=ae hc;clear hs hc
 go_wp2_with fail
 (with_reducible refine hp4.mono ?_)
 rintro e w8 ⟨v8,rfl,h8,d8⟩;have H8:=h8.under H6.right.right;have D8:=D6.trans d8;have e8:lb++cZ c 4=cO n P:=by rw [Hc.out,Hlb.out];rfl
 rw [e8] at H8;clear hp4 h8 d8 H6 D6 e8 Hlb Hlbn hw3
 go_wp2_with fail
 go_ret
 exact ⟨_,rfl,H8,D8⟩
end Go.Su
