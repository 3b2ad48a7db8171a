/- Steps. -/
import Derived.Test.YtdickhgiahcnaaaGreatDoorNP17
import Derived.Lib.IndexLaws
set_option linter.all false
set_option maxRecDepth 99999
set_option maxHeartbeats 0
open Go.SL
open Go renaming World->Z'
open Go.Proofs.Tryz renaming prog->Z
open Go.Proofs.Tryz
namespace Go.Proofs.Su
open RowKit SL Proofs.Ba Proofs.Fs
def Oj (X:Array Value) (a:X.size=2):(prog.info? 117).map (·.size)=some X.size:=by rw [a];kernel_rfl
def WZ (c:Int):List PanicEntry:=[{ v:=.iface 31 (.int .i64 c),recovered:=false }]
def J1 (w:Z') (v:Value) (l:List UInt8) (h:Rd w v l):(convert 23 9 v).run Z w = .ok (.string (str l)) w:=by
 have vU:∀ (l:List UInt8) (s:ByteArray),(l.map fun x=>(x.toNat:Int)).foldl (fun r n=>r.push (UInt8.ofNat n.toNat)) s=⟨s.data++l.toArray⟩:=by
  intro l
  induction l with
  | nil=>intro s;simp
  | cons a l g=>intro s;simp only [List.map_cons,List.foldl_cons,g];simp [ByteArray.push]
 obtain ⟨_,f⟩:=h;rcases f with ⟨rfl,d⟩|⟨a,c,rfl,e⟩
 .have:l=[]:=List.eq_nil_of_length_eq_zero d
  subst this;rw [run_convert_bytes_string w _ _ 5 none 0 0 underlying23 underlying5 underlying9]
  rfl
 .rw [run_convert_bytes_string w _ _ 5 (some a) _ c underlying23 underlying5 underlying9]
  have b:=run_loadCells_list (P:=Z) (w:=w) a (l.map SL.u8) e;rw [List.length_map] at b
  have:=run_bytesToString (P:=Z) w a l.length c (l.map fun x=>(x.toNat:Int)) (by
   rw [b];simp [SL.u8,Function.comp_def])
  rw [this,vU];simp [str]
def CZ (w:Z'):Calls Z 111 #[.int .i64 0] w fun e a=>e = .returned (.tuple #[])/\w=a:=by
 go_in
 go_wp2
 go_end0
 exact ⟨rfl,rfl⟩
def SV (f:FuncId) (first d:Array Value) (A B C:Z'->Prop):Prop:=
 (∀ (b:Array Value) (w:Z'),(callFunc f b).run Z w = .ok (.enter f b) w) /\
 ∀ w,A w->Calls Z f (first++d) w fun e c=>∃ a:Int,e = .returned (.int .i64 a)/\((a=0/\B c)\/(a≠0/\C c))
def Ay (B C:Z'->Prop) (e:Ending) (a:Z'):Prop:=(e = .returned (.tuple #[])/\B a)\/(e = .panicked (WZ 2)/\C a)
def SI (m:Nat) (I:Nat->Z'->Prop) (u:Value) (wr:Z'):Prop:=∃ k:Nat,k<=m/\u = .int .i64 (k:Int)/\I k wr
def OV (m:Nat) (a:Nat->FuncId × Array Value × Array Value) (I:Nat->Z'->Prop) (C:Z'->Prop) (g:Nat) (N:m<=10)
  (t:∀ i k w,i<=m->I i w->k<m->w.cell? ⟨g,k,none⟩=some (.func (.func (a k).1) (a k).2.1 (a k).2.2)) (y:∀ k,k<m->SV (a k).1 (a k).2.1 (a k).2.2 (I k) (I (k+1)) C)
  (w:Z') (b:I 0 w):Calls Z 113 #[.slice (some ⟨g,0,none⟩) m m] w (Ay (I m) C):=by
 have O:(m:Int)<=10:=Om0
 have G:=ae t;have H:=ae y;have n:=ae b;clear t y b
 go_in
 go_wp2_with fail
 go_loopw [6] (fun u wr=>SI m I u wr) (fun u _=>m-(intOf u).toNat)
 case atStart=>exact ⟨0,Nat.zero_le _,rfl,n.o⟩
 case round=>
  clear n;obtain ⟨k,J,rfl,c⟩:=hrel
  by_cases v:k<m
  .have M:(k:Int)<(m:Int):=Om0
   have j:=G.o k k wr J c v;obtain ⟨l,z⟩:=H.o k v;have d:=z wr c;generalize a k=q at j l d;obtain ⟨f,first,K⟩:=q;dsimp only at j l d;have p:=ae d;clear z d c
   go_wp2_with fail
   (with_reducible refine p.o.mono ?_)
   rintro e B ⟨A,rfl,x⟩;have o:=ae x;clear j l x p
   by_cases b:A=0
   .subst b
    have s:I (k+1) B:=by
     rcases o.o with ⟨_,h⟩|⟨h,_⟩
     .exact h
     .exact absurd rfl h
    have F:=ae s;clear s
    go_wp2_with fail
    go_roundw
    case rel=>exact ⟨k+1,Om0,by go_num,F.o⟩
    case measure=>simp [intOf];omega
   .have r:C B:=by
     rcases o.o with ⟨h,_⟩|⟨_,h⟩
     .exact absurd h b
     .exact h
    have D:=ae r;have L:(A != 0)=true:=by simpa using b
    clear r
    go_wp2_with fail
    exact ⟨rfl,.inr ⟨rfl,D.o⟩⟩
  .obtain rfl:k=m:=Om0
   have E:=ae c;clear c
   go_wp2_with fail
   go_end0
   exact .inl ⟨rfl,E.o⟩
def U8 (d:Nat) (a:Int) (v:Value) (w:Z') (e:Ending) (b:Z'):Prop:=
 e = .returned (.func (.func 163) #[] #[.pointer (some ⟨w.heap.size,0,none⟩),.pointer (some ⟨w.heap.size+1,0,none⟩),.pointer (some ⟨w.heap.size+1+1,0,none⟩)]) /\
 b=((w.alloc (.cells #[az d] 27 (0,0))).alloc (.cells #[.int .i64 a] 3 (0,0))).alloc (.cells #[v] 23 (0,0))
def uT (w:Z') (d:Nat) (a:Int) (b:Option Addr) (n c:Nat):Calls Z 114 #[az d,.int .i64 a,.slice b n c] w (U8 d a (.slice b n c) w):=by
 have e:=nH Z
 go_in
 go_wp2
 go_ret
 exact ⟨rfl,rfl⟩
end Go.Proofs.Su
