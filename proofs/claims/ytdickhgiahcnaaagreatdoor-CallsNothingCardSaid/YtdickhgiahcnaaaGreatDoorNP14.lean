/- Steps. -/
import Derived.Test.YtdickhgiahcnaaaGreatDoorNP1
import Derived.Lib.AppendZeros
set_option linter.all false
set_option maxRecDepth 99999
set_option maxHeartbeats 0
open Go.SL
open Go.Value renaming int->A3,cells->A2
open Array renaming toList_append->A1
open List renaming eq_nil_of_length_eq_zero->B3
namespace Go.SL
open RowKit
variable {ops:Array Oper} {rest:List Oper} {o:Oper} {a:Act} {v v' xv:Value} {t tn ty:TypeId}
def zT (n:Nat):Builtin.zeroCells (A3 .u8 0).cells n=ed (zs n):=by
 have a:(A3 .u8 0).cells=#[A3 .u8 0]:=by simp [A2]
 rw [a];apply Array.ext
 .simp [Builtin.zeroCells,ed,zs]
 .intro i b c
  simp [Builtin.zeroCells,ed,zs,SL.u8];rw [Nat.mod_one];rfl
def pZ {P:Program} {w b:World} {Q:Exit->Act->World->Prop}
  (g:(Builtin.append_ #[t,ty] tn #[v,xv]).run P w = .ok v' b) (s x:Operand)
  (e:o.guard=none) (i:o.type=tn) (f:o.op=Op.call { callee:=Callee.builtin Builtin.append,args:=#[s,x],argTypes:=#[t,ty] })
  (h:a.eval s=v) (j:a.eval x=xv)
  (c:wpList P ops Q rest (a.put o.dst v') b):wpList P ops Q (o :: rest) a w:=by
 refine wpList_plain e fun K d=>?_;subst i h j;unfold Oper.wp;simp [execOp,f,resolve,invoke,builtin,g,Result.andThen];exact d _ _ c
section
variable {P:Program} {w:World} {F:ai}
def Jw (s:List UInt8):((str s).extract 0 (str s).size).data.map (fun b=>A3 .u8 b.toNat)=ed s:=by
 have e:(str s).extract 0 (str s).size=str s:=ByteArray.extract_zero_size;rw [e];simp [str,ed,SL.u8]
def ag.PI {t u ty e:TypeId} {i:TypeInfo} (p:P.underlying t=some (.slice e)) (k:P.underlying u=some .string) (o:P.info? e=some i) (q:i.zero=some (.int .u8 0))
  (E:i.size=1) (A:i.bytes=1) {l:List UInt8} (h:ag w (bs e v l*F)) (s:List UInt8) (hb:l.length+s.length<=140737488355328) :
  ∃ N H,(Builtin.append_ #[t,u] ty #[v,.string (str s)]).run P w = .ok N H/\ag H (bs e N (l++s)*F)/\aj w H:=by
 have n:(str s).size=s.length:=by simp [str,ByteArray.size]
 have r:=Jw s;rw [n] at r;have L:(l++s).length=l.length+s.length:=List.length_append;have d0:(ed s).toList=s.map SL.u8:=by simp [ed]
 have I:∀ (qz:Nat) (x:ai),ag w x->ag (w.drew.alloc (.cells (ed l++(ed s++ed (zs (grownCap w (l.length+s.length) qz e-(l.length+s.length))))) e)) (bs e (.slice (some ⟨w.heap.size,0,none⟩) (l.length+s.length) (grownCap w (l.length+s.length) qz e)) (l++s)*x):=by
  intro qz x d;have Z:=grownCap_ge w (l.length+s.length) qz e;have W:grownCap w (l.length+s.length) qz e<=maxLen:=grownCap_le_maxLen w (l.length+s.length) qz e (by unfold maxLen;omega);have S:=d.drew.alloc (.cells (ed l++(ed s++ed (zs (grownCap w (l.length+s.length) qz e-(l.length+s.length))))) e);have:=ag.nM (sz:=1) (n:=l.length+s.length) S Z W (by rw [Array.size_append,Array.size_append,fj,fj,fj,bg];omega);refine this.to ?_;unfold bs;rw [L];congr 2;rw [A1,A1];unfold ed;simp only [List.map_append];rw [<- List.append_assoc,List.take_left' Si0]
 have M:∀ m,Builtin.zeroCells #[A3 .u8 0] m=ed (zs m):=fun m=>by have:=zT m;simpa [A2] using this
 by_cases B:s.length=0
 .obtain rfl:s=[]:=B3 B
  refine ⟨v,w,?_,by simpa using h,aj.refl w⟩;rcases h.dq with ⟨rfl,K,-,-⟩|⟨g,a,f,rfl,J,h4,h5,z,d⟩
  .simp [Builtin.append_,run_underlying p,run_underlying k,sizeOf,typeInfo,zeroValue,o,q,Builtin.lenOf,n,Builtin.firstCells]
  .simp [Builtin.append_,run_underlying p,run_underlying k,sizeOf,typeInfo,zeroValue,o,q,Builtin.lenOf,n,Builtin.firstCells,J,storeCells]
 .have Q:¬ (9223372036854775807<(l.length:Int)+(s.length:Int)):=Om0
  rcases h.dq with ⟨rfl,K,-,d⟩|⟨g,a,f,rfl,J,h4,h5,z,d⟩
  .obtain rfl:l=[]:=B3 K
   have y:¬ (281474976710656<Builtin.nextslicecap s.length 0):=by rw [nextslicecap_zero Om0];omega
   have R:¬ (9223372036854775807<(s.length:Int)):=Om0
   have C:(Builtin.append_ #[t,u] ty #[.slice none 0 0,.string (str s)]).run P w = .ok (.slice (some ⟨w.heap.size,0,none⟩) s.length (grownCap w s.length 0 e)) (w.drew.alloc (.cells (ed s++ed (zs (grownCap w s.length 0 e-s.length))) e)):=by
    simp [Builtin.append_,run_underlying p,run_underlying k,sizeOf,typeInfo,zeroValue,o,q,E,A,Builtin.lenOf,Builtin.firstCells,n,B,R,y,Question.forced,A2,M,newRow,grownCap,<- r]
   have:=I 0 F d;simp only [List.length_nil,Nat.zero_add,List.nil_append,show ed []=#[] from rfl,Array.empty_append] at this;exact ⟨_,_,C,this,((aj.refl w).drew).alloc _⟩
  .have b0:w.heap[g]?=some (.cells f e (0,0)):=d.heap
   by_cases D:l.length+s.length<=a
   .have G:=run_storeCells_at P g l.length e (s.map SL.u8) 0 f w b0 (by rw [List.length_map];omega) (fun u k=>by obtain ⟨c,_,rfl⟩:=List.mem_map.1 k;rfl)
    simp only [Nat.add_zero] at G;refine ⟨.slice (some ⟨g,0,none⟩) (l.length+s.length) a,w.setRow g (f.toList.take l.length++s.map SL.u8++f.toList.drop (l.length+(s.map SL.u8).length)).toArray,?_,?_,(aj.refl w).setRow _ _⟩
    .have U:((str s).extract 0 s.length).data.toList.map (fun b=>A3 .u8 b.toNat)=s.map SL.u8:=by
      have:=congrArg Array.toList r
      rwa [Array.toList_map,d0] at this
     simp [Builtin.append_,run_underlying p,run_underlying k,sizeOf,typeInfo,zeroValue,o,q,E,A,Builtin.lenOf,Builtin.firstCells,n,D,Addr.add_lit,U]
     have V:List.take s.length (List.map (fun b:UInt8=>A3 .u8 (b.toNat:Int)) (str s).data.toList)=s.map SL.u8:=by
      rw [List.take_of_length_le (by simp [str])];rfl
     simp only [List.length_map,List.append_assoc] at G ⊢;rw [V,G];rfl
    .have T:=ag.nM (sz:=1) (n:=l.length+s.length) (cap:=a) (d.setRow (cs':=(f.toList.take l.length++s.map SL.u8++f.toList.drop (l.length+(s.map SL.u8).length)).toArray)) D h4 (by simp;omega)
     refine T.to ?_;unfold bs;rw [L];congr 2;simp only [Nat.mul_one] at z ⊢;rw [z,List.map_append,List.take_left' Si0]
   .have c0:∀ j u,(l.map SL.u8)[j]?=some u->w.cell? ((⟨g,0,none⟩:Addr).add j)=some u:=by
     have:=h.oa.2;rcases this with ⟨h,_⟩|⟨a',c',h,O⟩
     .cases h
     .cases h;exact O
    have X:=run_firstCells_some (P:=P) w.drew 1 l.length ⟨g,0,none⟩ l.length a (l.map SL.u8) Si0 (by simpa using c0);have e0:Builtin.nextslicecap (l.length+s.length) a*1<=281474976710656:=growslice_fits Om0 Om0;have y:¬ (281474976710656<Builtin.nextslicecap (l.length+s.length) a):=Om0
    have C:(Builtin.append_ #[t,u] ty #[.slice (some ⟨g,0,none⟩) l.length a,.string (str s)]).run P w =
      .ok (.slice (some ⟨w.heap.size,0,none⟩) (l.length+s.length) (grownCap w (l.length+s.length) a e)) (w.drew.alloc (.cells (ed l++(ed s++ed (zs (grownCap w (l.length+s.length) a e-(l.length+s.length))))) e)):=by
     have Y:(Builtin.firstCells 1 s.length (.string (str s))).run P w.drew = .ok (ed s) w.drew:=by
      simp [Builtin.firstCells,<- r]
     simp [Builtin.append_,run_underlying p,run_underlying k,sizeOf,typeInfo,zeroValue,o,q,E,A,Builtin.lenOf,n,B,y,Q,D,Question.forced,A2,M,X,Y,newRow,grownCap,ed]
    exact ⟨_,_,C,I a F d.right,((aj.refl w).drew).alloc _⟩
end
def qv {P:Program} {w b:World} {Q:Exit->Act->World->Prop}
  (f:(Builtin.append_ #[t,tn] ty #[v,xv]).run P w = .ok v' b) (s x:Operand)
  (d:o.guard=none) (h:o.type=ty) (e:o.op=Op.call { callee:=Callee.builtin Builtin.append,args:=#[s,x],argTypes:=#[t,tn] })
  (g:a.eval s=v) (i:a.eval x=xv)
  (c:wpList P ops Q rest (a.put o.dst v') b):wpList P ops Q (o :: rest) a w:=pZ f s x d h e g i c
end Go.SL
