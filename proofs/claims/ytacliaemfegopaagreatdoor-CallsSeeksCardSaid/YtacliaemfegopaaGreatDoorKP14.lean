/- Steps. -/
import Derived.Test.YtacliaemfegopaaGreatDoorKP1
import Derived.Lib.AppendZeros
set_option linter.unusedVariables false
set_option linter.unusedSimpArgs false
set_option maxRecDepth 100000
set_option maxHeartbeats 40000000
open Go.Proofs Go.SL
namespace Go.SL
open Go.RowKit
theorem wX (n:Nat):Builtin.zeroCells (Value.int .u8 0).cells n=dp (zs n):=by
 have hc:(Value.int .u8 0).cells=#[Value.int .u8 0]:=by simp [Value.cells]
 rw [hc];apply Array.ext
 ·simp [Builtin.zeroCells,dp,zs]
 ·intro i h1 h2
  simp [Builtin.zeroCells,dp,zs,SL.u8];rw [Nat.mod_one];rfl
theorem nT {P:Program} {w w':World} {ops:Array Oper} {rest:List Oper} {o:Oper} {a:Act} {Q:Exit→Act→World→Prop} {v xv v':Value} {t tn ty:TypeId}
  (hrun:(Builtin.append_ #[t,tn] ty #[v,xv]).run P w = .ok v' w') (s x:Operand)
  (hg:o.guard=none) (hty:o.type=ty) (hop:o.op=Op.call { callee:=Callee.builtin Builtin.append,args:=#[s,x],argTypes:=#[t,tn] })
  (hs:a.eval s=v) (hx:a.eval x=xv)
  (hK:wpList P ops Q rest (a.put o.dst v') w'):wpList P ops Q (o :: rest) a w:=by
 refine wpList_plain hg fun K hK'=>?_;subst hty hs hx;unfold Oper.wp;simp [execOp,hop,resolve,invoke,builtin,hrun,Result.andThen];exact hK' _ _ hK
section
variable {P:Program} {w:World} {F:ah}
theorem FJ (s:List UInt8):((str s).extract 0 (str s).size).data.map (fun b=>Value.int .u8 b.toNat)=dp s:=by
 have e:(str s).extract 0 (str s).size=str s:=ByteArray.extract_zero_size;rw [e];simp [str,dp,SL.u8]
theorem Sat.Lw {t u ty e:TypeId} {i:TypeInfo} (ht:P.underlying t=some (.slice e)) (hu:P.underlying u=some .string) (hi:P.info? e=some i) (hz:i.zero=some (.int .u8 0))
  (hsize:i.size=1) (hby:i.bytes=1) {v:Value} {l:List UInt8} (h:Sat w (bs e v l*F)) (s:List UInt8) (hb:l.length+s.length≤140737488355328) :
  ∃ v' w',(Builtin.append_ #[t,u] ty #[v,.string (str s)]).run P w = .ok v' w'∧Sat w' (bs e v' (l++s)*F)∧ai w w':=by
 have hss:(str s).size=s.length:=by simp [str,ByteArray.size]
 have hcl:=FJ s;rw [hss] at hcl;have hlen:(l++s).length=l.length+s.length:=List.length_append;have hzl:(dp s).toList=s.map SL.u8:=by simp [dp]
 have fin:∀ (oz:Nat) (F':ah),Sat w F'→Sat (w.drew.alloc (.cells (dp l++(dp s++dp (zs (grownCap w (l.length+s.length) oz e-(l.length+s.length))))) e)) (bs e (.slice (some ⟨w.heap.size,0,none⟩) (l.length+s.length) (grownCap w (l.length+s.length) oz e)) (l++s)*F'):=by
  intro oz F' hF;have hge:=grownCap_ge w (l.length+s.length) oz e;have hcm:grownCap w (l.length+s.length) oz e≤maxLen:=grownCap_le_maxLen w (l.length+s.length) oz e (by unfold maxLen;omega);have hA:=hF.drew.alloc (.cells (dp l++(dp s++dp (zs (grownCap w (l.length+s.length) oz e-(l.length+s.length))))) e);have:=Sat.l7 (sz:=1) (n:=l.length+s.length) hA hge hcm (by rw [Array.size_append,Array.size_append,ez,ez,ez,aT];omega);refine this.to ?_;unfold bs;rw [hlen];congr 2;rw [Array.toList_append,Array.toList_append];unfold dp;simp only [List.map_append];rw [← List.append_assoc,List.take_left' (by simp)]
 have hzc2:∀ m,Builtin.zeroCells #[Value.int .u8 0] m=dp (zs m):=fun m=>by have:=wX m;simpa [Value.cells] using this
 by_cases hk:s.length=0
 ·obtain rfl:s=[]:=List.eq_nil_of_length_eq_zero hk
  refine ⟨v,w,?_,by simpa using h,ai.refl w⟩;rcases h.cX with ⟨rfl,hl,-,-⟩|⟨g,cap,cur,rfl,h3,h4,h5,h6,hF⟩
  ·simp [Builtin.append_,run_underlying ht,run_underlying hu,sizeOf,typeInfo,zeroValue,hi,hz,Builtin.lenOf,hss,Builtin.firstCells]
  ·simp [Builtin.append_,run_underlying ht,run_underlying hu,sizeOf,typeInfo,zeroValue,hi,hz,Builtin.lenOf,hss,Builtin.firstCells,h3,storeCells]
 ·have h63:¬ (9223372036854775807<(l.length:Int)+(s.length:Int)):=by omega
  rcases h.cX with ⟨rfl,hl,-,hF⟩|⟨g,cap,cur,rfl,h3,h4,h5,h6,hF⟩
  ·obtain rfl:l=[]:=List.eq_nil_of_length_eq_zero hl
   have h48':¬ (281474976710656<Builtin.nextslicecap s.length 0):=by rw [nextslicecap_zero (by omega)];omega
   have h63':¬ (9223372036854775807<(s.length:Int)):=by omega
   have hr:(Builtin.append_ #[t,u] ty #[.slice none 0 0,.string (str s)]).run P w = .ok (.slice (some ⟨w.heap.size,0,none⟩) s.length (grownCap w s.length 0 e)) (w.drew.alloc (.cells (dp s++dp (zs (grownCap w s.length 0 e-s.length))) e)):=by
    simp [Builtin.append_,run_underlying ht,run_underlying hu,sizeOf,typeInfo,zeroValue,hi,hz,hsize,hby,Builtin.lenOf,Builtin.firstCells,hss,hk,h63',h48',Question.forced,Value.cells,hzc2,newRow,grownCap,← hcl]
   have:=fin 0 F hF;simp only [List.length_nil,Nat.zero_add,List.nil_append,show dp []=#[] from rfl,Array.empty_append] at this;exact ⟨_,_,hr,this,((ai.refl w).drew).alloc _⟩
  ·have hgs:w.heap[g]?=some (.cells cur e (0,0)):=hF.heap
   by_cases hroom:l.length+s.length≤cap
   ·have hst:=run_storeCells_at P g l.length e (s.map SL.u8) 0 cur w hgs (by rw [List.length_map];omega) (fun u hu=>by obtain ⟨c,_,rfl⟩:=List.mem_map.1 hu;rfl)
    simp only [Nat.add_zero] at hst;refine ⟨.slice (some ⟨g,0,none⟩) (l.length+s.length) cap,w.setRow g (cur.toList.take l.length++s.map SL.u8++cur.toList.drop (l.length+(s.map SL.u8).length)).toArray,?_,?_,(ai.refl w).setRow _ _⟩
    ·have hcl2:((str s).extract 0 s.length).data.toList.map (fun b=>Value.int .u8 b.toNat)=s.map SL.u8:=by
      have:=congrArg Array.toList hcl
      rwa [Array.toList_map,hzl] at this
     simp [Builtin.append_,run_underlying ht,run_underlying hu,sizeOf,typeInfo,zeroValue,hi,hz,hsize,hby,Builtin.lenOf,Builtin.firstCells,hss,hroom,Addr.add_lit,hcl2]
     have hcl3:List.take s.length (List.map (fun b:UInt8=>Value.int .u8 (b.toNat:Int)) (str s).data.toList)=s.map SL.u8:=by
      rw [List.take_of_length_le (by simp [str])];rfl
     simp only [List.length_map,List.append_assoc] at hst ⊢;rw [hcl3,hst];rfl
    ·have hS:=Sat.l7 (sz:=1) (n:=l.length+s.length) (cap:=cap) (hF.setRow (cs':=(cur.toList.take l.length++s.map SL.u8++cur.toList.drop (l.length+(s.map SL.u8).length)).toArray)) hroom h4 (by simp;omega)
     refine hS.to ?_;unfold bs;rw [hlen];congr 2;simp only [Nat.mul_one] at h6 ⊢;rw [h6,List.map_append,List.take_left' (by simp)]
   ·have holds:∀ j u,(l.map SL.u8)[j]?=some u→w.cell? ((⟨g,0,none⟩:Addr).add j)=some u:=by
     have:=h.nB.2;rcases this with ⟨h,_⟩|⟨a',c',h,h'⟩
     ·cases h
     ·cases h;exact h'
    have hfo:=run_firstCells_some (P:=P) w.drew 1 l.length ⟨g,0,none⟩ l.length cap (l.map SL.u8) (by simp) (by simpa using holds);have hfit:Builtin.nextslicecap (l.length+s.length) cap*1≤281474976710656:=growslice_fits (by omega) (by omega);have h48':¬ (281474976710656<Builtin.nextslicecap (l.length+s.length) cap):=by omega
    have hr:(Builtin.append_ #[t,u] ty #[.slice (some ⟨g,0,none⟩) l.length cap,.string (str s)]).run P w =
      .ok (.slice (some ⟨w.heap.size,0,none⟩) (l.length+s.length) (grownCap w (l.length+s.length) cap e)) (w.drew.alloc (.cells (dp l++(dp s++dp (zs (grownCap w (l.length+s.length) cap e-(l.length+s.length))))) e)):=by
     have hfs:(Builtin.firstCells 1 s.length (.string (str s))).run P w.drew = .ok (dp s) w.drew:=by
      simp [Builtin.firstCells,← hcl]
     simp [Builtin.append_,run_underlying ht,run_underlying hu,sizeOf,typeInfo,zeroValue,hi,hz,hsize,hby,Builtin.lenOf,hss,hk,h48',h63,hroom,Question.forced,Value.cells,hzc2,hfo,hfs,newRow,grownCap,dp]
    exact ⟨_,_,hr,fin cap F hF.right,((ai.refl w).drew).alloc _⟩
end
theorem n9 {P:Program} {w w':World} {ops:Array Oper} {rest:List Oper} {o:Oper} {a:Act} {Q:Exit→Act→World→Prop} {v xv v':Value} {t tn ty:TypeId}
  (hrun:(Builtin.append_ #[t,tn] ty #[v,xv]).run P w = .ok v' w') (s x:Operand)
  (hg:o.guard=none) (hty:o.type=ty) (hop:o.op=Op.call { callee:=Callee.builtin Builtin.append,args:=#[s,x],argTypes:=#[t,tn] })
  (hs:a.eval s=v) (hx:a.eval x=xv)
  (hK:wpList P ops Q rest (a.put o.dst v') w'):wpList P ops Q (o :: rest) a w:=nT hrun s x hg hty hop hs hx hK
end Go.SL
