/- Steps. -/
import Derived.Test.YtebfaobobccikaaGreatDoorLP1
import Derived.Lib.AppendZeros
set_option linter.all false
set_option maxRecDepth 99999
set_option maxHeartbeats 0
open Go.SL
open Go.Value renaming int->D0,cells->F0
open Array renaming toList_append->G0
open List renaming eq_nil_of_length_eq_zero->H0
namespace Go.SL
open RowKit
variable {ops:Array Oper} {rest:List Oper} {o:Oper} {a:Act} {v v' xv:Value} {t tn ty:TypeId}
theorem yF (n:Nat):Builtin.zeroCells (D0 .u8 0).cells n=dP (zs n):=by
 have a:(D0 .u8 0).cells=#[D0 .u8 0]:=by simp [F0]
 rw [a];apply Array.ext
 .simp [Builtin.zeroCells,dP,zs]
 .intro i b c
  simp [Builtin.zeroCells,dP,zs,SL.u8];rw [Nat.mod_one];rfl
theorem pK {P:Program} {w b:World} {Q:Exit->Act->World->Prop}
  (g:(Builtin.append_ #[t,ty] tn #[v,xv]).run P w = .ok v' b) (s x:Operand)
  (e:o.guard=none) (i:o.type=tn) (f:o.op=Op.call { callee:=Callee.builtin Builtin.append,args:=#[s,x],argTypes:=#[t,ty] })
  (h:a.eval s=v) (j:a.eval x=xv)
  (c:wpList P ops Q rest (a.put o.dst v') b):wpList P ops Q (o :: rest) a w:=by
 refine wpList_plain e fun K d=>?_;subst i h j;unfold Oper.wp;simp [execOp,f,resolve,invoke,builtin,g,Result.andThen];exact d _ _ c
section
variable {P:Program} {w:World} {F:ai}
theorem GR (s:List UInt8):((str s).extract 0 (str s).size).data.map (fun b=>D0 .u8 b.toNat)=dP s:=by
 have e:(str s).extract 0 (str s).size=str s:=ByteArray.extract_zero_size;rw [e];simp [str,dP,SL.u8]
theorem ag.OP {t u ty e:TypeId} {i:TypeInfo} (o:P.underlying t=some (.slice e)) (f:P.underlying u=some .string) (n:P.info? e=some i) (p:i.zero=some (.int .u8 0))
  (D:i.size=1) (z:i.bytes=1) {l:List UInt8} (h:ag w (bs e v l*F)) (s:List UInt8) (hb:l.length+s.length<=140737488355328) :
  ∃ N G,(Builtin.append_ #[t,u] ty #[v,.string (str s)]).run P w = .ok N G/\ag G (bs e N (l++s)*F)/\aj w G:=by
 have k:(str s).size=s.length:=by simp [str,ByteArray.size]
 have q:=GR s;rw [k] at q;have L:(l++s).length=l.length+s.length:=List.length_append;have e0:(dP s).toList=s.map SL.u8:=by simp [dP]
 have H:∀ (pQ:Nat) (r:ai),ag w r->ag (w.drew.alloc (.cells (dP l++(dP s++dP (zs (grownCap w (l.length+s.length) pQ e-(l.length+s.length))))) e)) (bs e (.slice (some ⟨w.heap.size,0,none⟩) (l.length+s.length) (grownCap w (l.length+s.length) pQ e)) (l++s)*r):=by
  intro pQ r c;have b0:=grownCap_ge w (l.length+s.length) pQ e;have X:grownCap w (l.length+s.length) pQ e<=maxLen:=grownCap_le_maxLen w (l.length+s.length) pQ e (by unfold maxLen;omega);have T:=c.drew.alloc (.cells (dP l++(dP s++dP (zs (grownCap w (l.length+s.length) pQ e-(l.length+s.length))))) e);have:=ag.nj (sz:=1) (n:=l.length+s.length) T b0 X (by rw [Array.size_append,Array.size_append,eO,eO,eO,bh];omega);refine this.to ?_;unfold bs;rw [L];congr 2;rw [G0,G0];unfold dP;simp only [List.map_append];rw [<- List.append_assoc,List.take_left' (by simp)]
 have M:∀ m,Builtin.zeroCells #[D0 .u8 0] m=dP (zs m):=fun m=>by have:=yF m;simpa [F0] using this
 by_cases A:s.length=0
 .obtain rfl:s=[]:=H0 A
  refine ⟨v,w,?_,by simpa using h,aj.refl w⟩;rcases h.cW with ⟨rfl,K,-,-⟩|⟨g,a,d,rfl,I,J,Q,y,c⟩
  .simp [Builtin.append_,run_underlying o,run_underlying f,sizeOf,typeInfo,zeroValue,n,p,Builtin.lenOf,k,Builtin.firstCells]
  .simp [Builtin.append_,run_underlying o,run_underlying f,sizeOf,typeInfo,zeroValue,n,p,Builtin.lenOf,k,Builtin.firstCells,I,storeCells]
 .have R:¬ (9223372036854775807<(l.length:Int)+(s.length:Int)):=by omega
  rcases h.cW with ⟨rfl,K,-,c⟩|⟨g,a,d,rfl,I,J,Q,y,c⟩
  .obtain rfl:l=[]:=H0 K
   have x:¬ (281474976710656<Builtin.nextslicecap s.length 0):=by rw [nextslicecap_zero (by omega)];omega
   have S:¬ (9223372036854775807<(s.length:Int)):=by omega
   have B:(Builtin.append_ #[t,u] ty #[.slice none 0 0,.string (str s)]).run P w = .ok (.slice (some ⟨w.heap.size,0,none⟩) s.length (grownCap w s.length 0 e)) (w.drew.alloc (.cells (dP s++dP (zs (grownCap w s.length 0 e-s.length))) e)):=by
    simp [Builtin.append_,run_underlying o,run_underlying f,sizeOf,typeInfo,zeroValue,n,p,D,z,Builtin.lenOf,Builtin.firstCells,k,A,S,x,Question.forced,F0,M,newRow,grownCap,<- q]
   have:=H 0 F c;simp only [List.length_nil,Nat.zero_add,List.nil_append,show dP []=#[] from rfl,Array.empty_append] at this;exact ⟨_,_,B,this,((aj.refl w).drew).alloc _⟩
  .have c0:w.heap[g]?=some (.cells d e (0,0)):=c.heap
   by_cases C:l.length+s.length<=a
   .have E:=run_storeCells_at P g l.length e (s.map SL.u8) 0 d w c0 (by rw [List.length_map];omega) (fun u f=>by obtain ⟨f0,_,rfl⟩:=List.mem_map.1 f;rfl)
    simp only [Nat.add_zero] at E;refine ⟨.slice (some ⟨g,0,none⟩) (l.length+s.length) a,w.setRow g (d.toList.take l.length++s.map SL.u8++d.toList.drop (l.length+(s.map SL.u8).length)).toArray,?_,?_,(aj.refl w).setRow _ _⟩
    .have V:((str s).extract 0 s.length).data.toList.map (fun b=>D0 .u8 b.toNat)=s.map SL.u8:=by
      have:=congrArg Array.toList q
      rwa [Array.toList_map,e0] at this
     simp [Builtin.append_,run_underlying o,run_underlying f,sizeOf,typeInfo,zeroValue,n,p,D,z,Builtin.lenOf,Builtin.firstCells,k,C,Addr.add_lit,V]
     have W:List.take s.length (List.map (fun b:UInt8=>D0 .u8 (b.toNat:Int)) (str s).data.toList)=s.map SL.u8:=by
      rw [List.take_of_length_le (by simp [str])];rfl
     simp only [List.length_map,List.append_assoc] at E ⊢;rw [W,E];rfl
    .have U:=ag.nj (sz:=1) (n:=l.length+s.length) (cap:=a) (c.setRow (cs':=(d.toList.take l.length++s.map SL.u8++d.toList.drop (l.length+(s.map SL.u8).length)).toArray)) C J (by simp;omega)
     refine U.to ?_;unfold bs;rw [L];congr 2;simp only [Nat.mul_one] at y ⊢;rw [y,List.map_append,List.take_left' (by simp)]
   .have d0:∀ j u,(l.map SL.u8)[j]?=some u->w.cell? ((⟨g,0,none⟩:Addr).add j)=some u:=by
     have:=h.oD.2;rcases this with ⟨h,_⟩|⟨a',c',h,O⟩
     .cases h
     .cases h;exact O
    have Y:=run_firstCells_some (P:=P) w.drew 1 l.length ⟨g,0,none⟩ l.length a (l.map SL.u8) (by simp) (by simpa using d0);have g0:Builtin.nextslicecap (l.length+s.length) a*1<=281474976710656:=growslice_fits (by omega) (by omega);have x:¬ (281474976710656<Builtin.nextslicecap (l.length+s.length) a):=by omega
    have B:(Builtin.append_ #[t,u] ty #[.slice (some ⟨g,0,none⟩) l.length a,.string (str s)]).run P w =
      .ok (.slice (some ⟨w.heap.size,0,none⟩) (l.length+s.length) (grownCap w (l.length+s.length) a e)) (w.drew.alloc (.cells (dP l++(dP s++dP (zs (grownCap w (l.length+s.length) a e-(l.length+s.length))))) e)):=by
     have Z:(Builtin.firstCells 1 s.length (.string (str s))).run P w.drew = .ok (dP s) w.drew:=by
      simp [Builtin.firstCells,<- q]
     simp [Builtin.append_,run_underlying o,run_underlying f,sizeOf,typeInfo,zeroValue,n,p,D,z,Builtin.lenOf,k,A,x,R,C,Question.forced,F0,M,Y,Z,newRow,grownCap,dP]
    exact ⟨_,_,B,H a F c.right,((aj.refl w).drew).alloc _⟩
end
theorem pA {P:Program} {w b:World} {Q:Exit->Act->World->Prop}
  (f:(Builtin.append_ #[t,tn] ty #[v,xv]).run P w = .ok v' b) (s x:Operand)
  (d:o.guard=none) (h:o.type=ty) (e:o.op=Op.call { callee:=Callee.builtin Builtin.append,args:=#[s,x],argTypes:=#[t,tn] })
  (g:a.eval s=v) (i:a.eval x=xv)
  (c:wpList P ops Q rest (a.put o.dst v') b):wpList P ops Q (o :: rest) a w:=pK f s x d h e g i c
end Go.SL
