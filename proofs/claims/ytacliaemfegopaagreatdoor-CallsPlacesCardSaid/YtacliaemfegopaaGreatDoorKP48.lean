/- Steps. -/
import Derived.Test.YtacliaemfegopaaGreatDoorKP47
import Derived.Test.YtacliaemfegopaaGreatDoorKP21
set_option linter.all false
set_option maxRecDepth 99999
set_option maxHeartbeats 0
open Go.SL
open Go.Value renaming int->Z'
open Go.Proofs.Tryz
open List renaming length_drop->D0,length_take->G0,take_of_length_le->H0
open Nat renaming add_sub_cancel_left->F0
open Int renaming tmod_eq_emod_of_nonneg->K0
namespace Go.Proofs.Cl
open Go.RowKit Go.SL Go.Proofs.Nn Go.Proofs.Ba Go.Proofs.Su Go.Proofs.Fs
variable {w w':World} {a:Option Addr} {B cap k len m:Nat} {l:List UInt8} {t:Pl} {T:Tr} {F:ai} {e:Ending}
theorem Ki (h:Su.iY w a cap len l):l.length=cap/\cap<=len/\len<=9223372036854775807:=by
 rcases h with ⟨rfl,rfl,rfl,rfl⟩|⟨x,rfl,b,c,d,e⟩
 .exact ⟨rfl,by omega,by omega⟩
 .exact ⟨d,b,by simpa [maxLen] using c⟩
theorem Lh (h:Su.iY w a cap len l) (g:m<=cap):Su.iY w a m len (l.take m):=by
 rcases h with ⟨rfl,rfl,rfl,rfl⟩|⟨x,rfl,e,c,f,d⟩
 .exact .inl ⟨rfl,by omega,rfl,by simp⟩
 .refine .inr ⟨x,rfl,by omega,c,by rw [G0];omega,fun j u b=>d j u ?_⟩
  rw [List.map_take,List.getElem?_take] at b
  split at b
  .exact b
  .cases b
theorem Iq (h:Su.iY w a cap len l):Rd w (.slice a cap len) l:=by
 rcases h with ⟨rfl,rfl,rfl,rfl⟩|⟨x,rfl,d,e,b,c⟩
 .exact ⟨rfl,.inl ⟨rfl,rfl⟩⟩
 .exact ⟨by simp,.inr ⟨x,len,by rw [b],c⟩⟩
theorem C5 {n c x h:Nat} (f:Su.iY w a n c l) (t:x<=h) (q:h<=n) :
  Su.iY w (if c=x then a else a.map (·.add x)) (h-x) (c-x) ((l.drop x).take (h-x)):=by
 obtain ⟨r,p,s⟩:=Ki f;rcases f with ⟨rfl,rfl,rfl,rfl⟩|⟨y,rfl,k,m,o,g⟩
 .obtain rfl:h=0:=by omega
  obtain rfl:x=0:=by omega
  exact .inl ⟨by simp,rfl,rfl,by simp⟩
 .have d:((l.drop x).take (h-x)).length=h-x:=by rw [G0,D0];omega
  by_cases e:c=x
  .rw [if_pos e]
   exact .inr ⟨y,rfl,by omega,by unfold maxLen at *;omega,d,fun j u b=>by
    rw [List.getElem?_eq_none (by rw [List.length_map,d];omega)] at b;cases b⟩
  .rw [if_neg e]
   refine .inr ⟨y.add x,rfl,by omega,by unfold maxLen at *;omega,d,fun j u b=>?_⟩;have i:(y.add x).add j=y.add (x+j):=by cases y;rcases j with _|j <;> rcases x with _|x <;> simp [Addr.add,Nat.add_assoc]
   rw [i];refine g (x+j) u ?_;rw [List.map_take,List.getElem?_take] at b
   split at b
   .rw [List.map_drop,List.getElem?_drop] at b;exact b
   .cases b
theorem J8 {n:Nat} {q:Dk t.n} {p:List UInt8} {f:AF} (h:I2 t q m T k B [(0,(cap,0))] p F w e w') (b:bX T p=(0,cap)) (l:T cap=some (.file f)) :
  e = .returned (.tuple #[Z' .i64 1,Z' .i64 0])/\aj w w'/\ag w' (gK t q m T k B [(0,(cap,0)),(1,(cap,0))]*F):=by
 have o:fZ T [(0,(cap,0))] p=0:=by unfold fZ;rw [b,if_neg (by simp),l];rfl
 obtain ⟨d,⟨j,_⟩|⟨_,a,g,i,rfl,c⟩⟩:=h
 .exact absurd o j
 .have:a=1:=by
   rcases Nat.lt_trichotomy a 1 with h|h|h
   .obtain rfl:a=0:=by omega
    cases i
   .exact h
   .exact absurd (g 1 h) (by simp [aG])
  subst this;rw [b] at c;exact ⟨rfl,d,c⟩
theorem yy {q:Dk t.n} {m k B b a at' a2:Nat} {O:kg} {fd o wh:Int} (i:NM t q m T k B O fd b a at' o wh F w e w') (h:ez a at' o wh=0) (g:cP a at' o wh=(a2:Int)) :
  e = .returned (.tuple #[Z' .i64 (a2:Int),Z' .i64 0])/\aj w w'/\ag w' (gK t q m T k B (bq O fd (b,a2))*F):=by
 obtain ⟨d,⟨f,_⟩|⟨_,rfl,c⟩⟩:=i
 .exact absurd h f
 .rw [g] at c ⊢;exact ⟨rfl,d,c⟩
theorem Pf (w:World):(Instr.makeSlice 22 (Z' .i64 2) (Z' .i64 2)).run prog w = .ok (.slice (some ⟨w.heap.size,0,none⟩) 2 2) (w.alloc (.cells #[Z' .i64 0,Z' .i64 0] 3 (0,0))):=by
 kernel_rfl
def Rb (t:Pl) (q:Dk t.n) (m b k n a:Nat) (T:Tr) (w:World) (u17:Value) (wr:World):Prop:=
 ∃ (i x y:Nat) (O:kg),i<=20/\x<=n/\y<=n/\u17 = Z' .i64 (i:Int)/\aG O 0=some (b,x)/\aG O 1=some (b,y)/\aj w wr/\ag wr (gK t q m T k 8 O*(pt a (.cells #[Z' .i64 (x:Int),Z' .i64 (y:Int)] 3 (0,0))*whole w))
def AS:List UInt8:=[109,111,114,101]
theorem xj (w:World) (hh:nZ w) (a0:Option Addr) (len0 cap0:Nat) (l0:List UInt8) (a1:Option Addr) (len1 cap1:Nat) (zs1:List Int) (hb0:Su.iY w a0 len0 cap0 l0) (hz1:qm w a1 len1 cap1 zs1) :
    Calls prog 6 #[.slice a0 len0 cap0,.slice a1 len1 cap1] w (Rv w):=by
  refine aJ fun Q HQ=>?_;obtain ⟨hl0,hlc,hcap⟩:=Ki hb0;obtain ⟨n,hn⟩:∃ n,n=min len0 3000:=⟨_,rfl⟩
  have hb1:=Lh hb0 (show n<=len0 by omega);obtain ⟨l,hl⟩:∃ l,l=l0.take n:=⟨_,rfl⟩
  have hln:l.length=n:=by rw [hl,G0];omega
  rw [<- hl] at hb1;have Hz1:=ae hz1;have HH:=ae hh;have HR:=ae hb1;have HLN:=ae hln;have hn3:n<=3000:=by omega
  have hnl:n<=len0:=by omega
  have hmin:min (len0:Int) 3000=(n:Int):=by omega
  have hnc:(n:Int)<=(cap0:Int):=by omega
  have hlc':(len0:Int)<=(cap0:Int):=by omega
  have hcap':(cap0:Int)<=9223372036854775807:=by omega
  have hm:=Al w hh;clear hz1 hh hb0 hb1 hl hn hln
  go_enter func6,ntmps6
  go_wp2_with fail
  refine hm.mono ?_;rintro e w1 ⟨rfl,h1,d1⟩;have hmd:=Au w1 (HH.out.pL (h1.to (cV _).symm)) 30 (by decide) (by decide);rw [show ((30:Nat):Int)=30 from rfl] at hmd;have H1:=ae h1;have D1:=ae d1;clear hm h1 d1 HH
  go_wp2_with fail
  refine hmd.mono ?_;rintro e w2 ⟨d,t,q,m,hn,-,rfl,d2,h2⟩;have h2:ag w2 (gK t q m fG 28 3 []*whole w1):=h2;have h3:ag w2 (gK t q m fG 28 3 []*whole w):=h2.under H1.out;have D2:=ae (D1.out.trans d2);have k1:Calls prog 9 #[ay t.f,.string ⟨#[47,97]⟩] w2 _:=zu (p:=pA) (by decide) (NF lr (by decide)) h3;clear hmd h2 h3 hn d2 D1 H1
  go_wp2_with fail
  refine k1.mono ?_;rintro e w3 hq;obtain ⟨T1,n1,hR,rfl,d3,h3⟩:=hq.ok fun c T' k' hr=>hr.1.trans (NF lr (by decide));obtain ⟨⟨b,hT1⟩,rfl⟩:=O8 lr hR rfl;have D3:=ae (D2.out.trans d3);have k2:Calls prog 11 #[ay t.f,.string ⟨#[47,97]⟩] w3 _:=Bo (p:=pA) (by decide) (by decide) h3;have HT1:=ae hT1;clear k1 hq hR d3 h3 D2 hT1
  go_wp2_with fail
  refine k2.mono ?_;rintro e w4 hq;obtain ⟨rfl,d4,h4⟩:=wM (n:=t.n) hq (by rw [pE lr HT1.out]) (by rw [pE lr HT1.out];exact HT1.out.b);rw [pE lr HT1.out] at h4;have D4:=ae (D3.out.trans d4);have k3:Calls prog 11 #[ay t.f,.string ⟨#[47,97]⟩] w4 _:=Bo (p:=pA) (by decide) (by simp) h4;clear k2 hq d4 h4 D3
  go_wp2_with fail
  refine k3.mono ?_;rintro e w5 hq;obtain ⟨rfl,d5,h5⟩:=J8 (n:=t.n) hq (pE lr HT1.out) HT1.out.b;have D5:=ae (D4.out.trans d5);have h5:ag w5 (gK t q m T1 26 4 [(0,(b,0)),(1,(b,0))]*whole w):=h5;have k4:=yh (k:=26) (B:=4) (va:=a0) (vc:=cap0) (l:=l) (fd:=0) (id:=b) (at':=0) (f:=iM 1) (D:=whole w) (F:=emp) (by decide) (xq qW (by rw [HLN.out];omega) (by decide)) rfl HT1.out.b (by decide) (by rw [HLN.out];omega) (by rw [HLN.out];omega) (fun W P hs=>by rw [HLN.out];exact (Iq HR.out).carry fun a u hu=>(hs.to (ee _ _)).bT hu) (h5.to (by rw [ku]));rw [HLN.out] at k4;clear k3 hq d5 h5 D4
  go_wp2_with fail
  refine k4.mono ?_;rintro e w6 hq;obtain ⟨T4,n4,hR,rfl,d6,h6⟩:=hq.ok fun c T' k' hr=>hr.1.trans (xq qW (by rw [HLN.out];omega) (by decide));obtain ⟨f4,hT4,hB4,hk4⟩:=Iy HT1.out FP (show ([]:List UInt8).length+l.length<=3100 by rw [HLN.out];simp;omega) (by decide) hR rfl;have D6:=ae (D5.out.trans d6);have h6:ag w6 (gK t q m T4 n4 5 [(0,(b,0+n)),(1,(b,0))]*whole w):=by rw [ku] at h6;exact h6
  rw [Nat.zero_add] at h6;have k5:=tx (fd:=0) (o:=0) (wh:=0) (by decide) rfl hT4.b (by omega) (by decide) h6;have hc5:ez f4.sz n 0 0=0:=by simp [ez,cP]
  have HT4:=ae hT4;have HB4:=ae (show n9 f4 l from hB4);have HC5:=ae hc5;clear k4 hq hR d6 h6 D5 HT1 hT4 hB4 hc5
  go_wp2_with fail
  refine k5.mono ?_;rintro e w7 hq;obtain ⟨rfl,d7,h7⟩:=yy (a2:=0) hq HC5.out (by simp [cP]);have h7:ag w7 (gK t q m T4 n4 5 [(0,(b,0)),(1,(b,0))]*whole w):=h7;have D7:=ae ((D6.out.trans d7).alloc (.cells #[.int .i64 0,.int .i64 0] 3 (0,0)));have H7:=ae ((h7.alloc (.cells #[.int .i64 0,.int .i64 0] 3 (0,0))).to (by ac_rfl:_=gK t q m T4 n4 5 [(0,(b,0)),(1,(b,0))]*(pt w7.heap.size (.cells #[.int .i64 0,.int .i64 0] 3 (0,0))*whole w)));have hmk:=Pf w7;clear k5 hq d7 h7 D6
  go_wp2_with fail
  generalize (w7.alloc (.cells #[.int .i64 0,.int .i64 0] 3 (0,0)))=w8 at *;generalize w7.heap.size=tb at *;have HK4:=ae hk4;clear h2 h5 h6 h7 hmk hk4
  go_loopw [17] (fun u17 wr=>Rb t q m b n4 n tb T4 w u17 wr) (fun u17 _=>len1-(intOf u17).toNat)
  case atStart=>exact ⟨0,0,0,_,by decide,Nat.zero_le _,Nat.zero_le _,rfl,rfl,rfl,D7.out,LU (B':=8) (by decide) H7.out⟩
  case round=>
    clear H7 D7;obtain ⟨i,x,y,O,hi,hx,hy,rfl,hkx,hky,ds,hs⟩:=hrel;have HS:=ae hs;have DS:=ae ds;clear hs ds
    by_cases hlt:i<len1/\i<20
    · obtain ⟨hl1,h20⟩:=hlt
      have hl1':(i:Int)<(len1:Int):=by omega
      have h20':(i:Int)<20:=by omega
      obtain ⟨ab,ao,rfl,hcell,hlc1,hcap1⟩:=Hz1.out.cell hl1;have hcap1':(cap1:Int)<=9223372036854775807:=by omega
      have hlc1':(len1:Int)<=(cap1:Int):=by omega
      have cL:wr.cell? ⟨ab,ao+i,none⟩=some (.int .i64 (zs1.getD i 0)):=(HS.out.to (ax _ _ _).symm).bT hcell;obtain ⟨z,hz⟩:∃ z,zs1.getD i 0=z:=⟨_,rfl⟩
      rw [hz] at cL;have hand:=PR z;have htm:(z%65536).tmod 400=z%65536%400:=K0 (by omega);obtain ⟨s,hq⟩:∃ n:Nat,z%65536%400=(n:Int):=⟨(z%65536%400).toNat,by omega⟩
      rw [hq] at htm;have hs4:s<400:=by omega
      have hi2:(i:Int).tmod 2=(i:Int)%2:=K0 (by omega);clear hcell hz hq hlc1 hcap1;rcases Nat.mod_two_eq_zero_or_one i with hp|hp
      · have hp':(i:Int)%2=0:=by omega
        rw [hp'] at hi2;have k6:=BO (fd:=0) (c:=(s:Int)) (by decide) hkx HT4.out.b (by omega) HS.out;have K6:=ae k6;clear k6 hp'
        go_wp2_with fail
        refine K6.out.mono ?_;clear K6;rintro e w9 ⟨d9,⟨h0,_⟩|⟨_,u,rfl,h9⟩⟩
        · exact absurd (show iP (s:Int)=0 by unfold iP;simp;omega) h0
        rw [Int.toNat_natCast,qq HB4.out] at h9;obtain ⟨r,hr⟩:∃ r,r=min s (n-x):=⟨_,rfl⟩
        have hlr:((l.drop x).take s).length=r:=by rw [G0,D0,HLN.out,hr]
        have hmn:min ((x:Int)+(s:Int)) (n:Int)=(x:Int)+(r:Int):=by omega
        have hxr:x+r<=n:=by omega
        have hgx':(x:Int)<=(x:Int)+(r:Int):=by omega
        have hgc':(x:Int)+(r:Int)<=(cap0:Int):=by omega
        have hx0':(0:Int)<=(x:Int):=by omega
        have hwr:IntKind.i64.wrap ((x:Int)+(s:Int))=(x:Int)+(s:Int):=by rw [IntKind.wrap_i64];omega
        obtain ⟨v,hv⟩:∃ v,v=x+r:=⟨_,rfl⟩
        have hvn:v<=n:=by omega
        have hwr2:IntKind.i64.wrap ((x:Int)+(r:Int))=(v:Int):=by rw [IntKind.wrap_i64];omega
        have hvb:=Iq (C5 HR.out (show x<=x+r by omega) hxr)
        have hlv:(l.drop x).take (x+r-x)=(l.drop x).take s:=by
          rw [F0];rcases Nat.le_total (x+s) n with h|h
          · rw [show r=s by omega]
          · rw [H0 (by rw [D0,HLN.out];omega),H0 (by rw [D0,HLN.out];omega)]
        rw [hlv] at hvb;obtain ⟨ua,uc,rfl⟩:=h9.lC.shape;generalize (l.drop x).take s=L at h9 hvb hlr;rw [hlr,<- hv] at h9;rw [hlr];have D9:=ae (DS.out.trans d9).drew;have c9:w9.cell? ⟨tb,0,none⟩=some (.int .i64 (x:Int)):=h9.aq.cell 0;have cx:(convert 37 9 (.slice ua r uc)).run prog w9.drew = .ok (.string (str L)) w9.drew:=kK _ _ _ h9.drew.lC;have cw:=kK _ _ _ (hvb.aZ (h9.drew.to ((ax _ _ _).symm.trans (ax _ _ _).symm)));have f9:w9.frozen? ⟨tb,0,none⟩=false:=h9.aq.frozen 0;have H10:=ae (((h9.aq.setCell 0 (.int .i64 (v:Int))).to (aE _ _ _)).right.drew);have D10:=ae ((DS.out.trans d9).setCell ⟨tb,0,none⟩ (.int .i64 (v:Int))).drew;have hkv:aG (bq O 0 (b,v)) 0=some (b,v):=by unfold bq;rw [dp,if_pos rfl]
        have hky2:aG (bq O 0 (b,v)) 1=some (b,y):=by unfold bq;rw [dp,if_neg (by decide)];exact hky
        have H11:ag _ (pt tb (.cells #[.int .i64 (v:Int),.int .i64 (y:Int)] 3 (0,0))*(gK t q m T4 n4 8 (bq O 0 (b,v))*whole w)):=H10.out;have K7:=ae (tx (fd:=0) (o:=0) (wh:=1) (by decide) hkv HT4.out.b (by omega) (by decide) (H11.to (aE _ _ _)));have HC7:=ae (show ez f4.sz v 0 1=0 by simp [ez,cP];omega);have HKY:=ae hky2;have hcx:cap0=x\/¬ cap0=x:=by omega
        clear h9 d9 HS DS cL hvb hlv hr hlr hkx hky hkv hky2 H10 H11
        go_wp2_with fail
        have hcx2:cap0=x->r=0/\IntKind.i64.wrap (x:Int)=(v:Int):=fun h=>⟨by omega,by rw [IntKind.wrap_i64];omega⟩
        rcases hcx with hcx|hcx
        all_goals
          first
            | rw [if_neg hcx,F0] at cw
            | (obtain ⟨hr0,hx64⟩:=hcx2 hcx
               rw [if_pos hcx,F0,hcx,Nat.sub_self,hr0] at cw;clear hr0)
          clear hcx2 hv
          go_region_held (fun w'=>w'.cell? ⟨tb,0,none⟩=some (.int .i64 (x:Int))) (first|exact c9|go_keep) (fail)
          rename_i hHeld
          first|subst hcx|rw [show ((x:Int)+(r:Int)).toNat-x=r by omega]
          go_wp2_with fail
          refine K7.out.mono ?_;clear K7;rintro e w11 hq;obtain ⟨rfl,d11,h11⟩:=yy (a2:=v) hq HC7.out (by simp [cP]);have D11:=ae (D10.out.trans d11);have c11:w11.cell? ⟨tb,0,none⟩=some (.int .i64 (v:Int)):=h11.ah.cell 0;have H12:=ae h11;clear hq d11 h11 D10 c9 f9 cx cw hHeld
          go_wp2_with fail
          refine ⟨⟨i+1,v,y,_,by omega,hvn,hy,by simp,(show aG (bq (bq O 0 (b,v)) 0 (b,v)) 0=some (b,v) by unfold bq;rw [dp,if_pos rfl]),(show aG (bq (bq O 0 (b,v)) 0 (b,v)) 1=some (b,y) by rw [show bq (bq O 0 (b,v)) 0 (b,v)=fm (bq O 0 (b,v)) 0 (b,v) from rfl,dp,if_neg (by decide)];exact HKY.out),D11.out,H12.out⟩,?_⟩;simp [intOf];omega
      · have hp':(i:Int)%2=1:=by omega
        rw [hp'] at hi2;have k6:=BO (fd:=1) (c:=(s:Int)) (by decide) hky HT4.out.b (by omega) HS.out;have K6:=ae k6;clear k6 hp'
        go_wp2_with fail
        refine K6.out.mono ?_;clear K6;rintro e w9 ⟨d9,⟨h0,_⟩|⟨_,u,rfl,h9⟩⟩
        · exact absurd (show iP (s:Int)=0 by unfold iP;simp;omega) h0
        rw [Int.toNat_natCast,qq HB4.out] at h9;obtain ⟨r,hr⟩:∃ r,r=min s (n-y):=⟨_,rfl⟩
        have hlr:((l.drop y).take s).length=r:=by rw [G0,D0,HLN.out,hr]
        have hmn:min ((y:Int)+(s:Int)) (n:Int)=(y:Int)+(r:Int):=by omega
        have hxr:y+r<=n:=by omega
        have hgx':(y:Int)<=(y:Int)+(r:Int):=by omega
        have hgc':(y:Int)+(r:Int)<=(cap0:Int):=by omega
        have hx0':(0:Int)<=(y:Int):=by omega
        have hwr:IntKind.i64.wrap ((y:Int)+(s:Int))=(y:Int)+(s:Int):=by rw [IntKind.wrap_i64];omega
        obtain ⟨v,hv⟩:∃ v,v=y+r:=⟨_,rfl⟩
        have hvn:v<=n:=by omega
        have hwr2:IntKind.i64.wrap ((y:Int)+(r:Int))=(v:Int):=by rw [IntKind.wrap_i64];omega
        have hvb:=Iq (C5 HR.out (show y<=y+r by omega) hxr)
        have hlv:(l.drop y).take (y+r-y)=(l.drop y).take s:=by
          rw [F0];rcases Nat.le_total (y+s) n with h|h
          · rw [show r=s by omega]
          · rw [H0 (by rw [D0,HLN.out];omega),H0 (by rw [D0,HLN.out];omega)]
        rw [hlv] at hvb;obtain ⟨ua,uc,rfl⟩:=h9.lC.shape;generalize (l.drop y).take s=L at h9 hvb hlr;rw [hlr,<- hv] at h9;rw [hlr];have D9:=ae (DS.out.trans d9).drew;have c9:w9.cell? ⟨tb,1,none⟩=some (.int .i64 (y:Int)):=h9.aq.cell 1;have cx:(convert 37 9 (.slice ua r uc)).run prog w9.drew = .ok (.string (str L)) w9.drew:=kK _ _ _ h9.drew.lC;have cw:=kK _ _ _ (hvb.aZ (h9.drew.to ((ax _ _ _).symm.trans (ax _ _ _).symm)));have f9:w9.frozen? ⟨tb,1,none⟩=false:=h9.aq.frozen 1;have H10:=ae (((h9.aq.setCell 1 (.int .i64 (v:Int))).to (aE _ _ _)).right.drew);have D10:=ae ((DS.out.trans d9).setCell ⟨tb,1,none⟩ (.int .i64 (v:Int))).drew;have hkv:aG (bq O 1 (b,v)) 1=some (b,v):=by unfold bq;rw [dp,if_pos rfl]
        have hkx2:aG (bq O 1 (b,v)) 0=some (b,x):=by unfold bq;rw [dp,if_neg (by decide)];exact hkx
        have H11:ag _ (pt tb (.cells #[.int .i64 (x:Int),.int .i64 (v:Int)] 3 (0,0))*(gK t q m T4 n4 8 (bq O 1 (b,v))*whole w)):=H10.out;have K7:=ae (tx (fd:=1) (o:=0) (wh:=1) (by decide) hkv HT4.out.b (by omega) (by decide) (H11.to (aE _ _ _)));have HC7:=ae (show ez f4.sz v 0 1=0 by simp [ez,cP];omega);have HKY:=ae hkx2;have hcx:cap0=y\/¬ cap0=y:=by omega
        clear h9 d9 HS DS cL hvb hlv hr hlr hky hkx hkv hkx2 H10 H11
        go_wp2_with fail
        have hcx2:cap0=y->r=0/\IntKind.i64.wrap (y:Int)=(v:Int):=fun h=>⟨by omega,by rw [IntKind.wrap_i64];omega⟩
        rcases hcx with hcx|hcx
        all_goals
          first
            | rw [if_neg hcx,F0] at cw
            | (obtain ⟨hr0,hx64⟩:=hcx2 hcx
               rw [if_pos hcx,F0,hcx,Nat.sub_self,hr0] at cw;clear hr0)
          clear hcx2 hv
          go_region_held (fun w'=>w'.cell? ⟨tb,1,none⟩=some (.int .i64 (y:Int))) (first|exact c9|go_keep) (fail)
          rename_i hHeld
          first|subst hcx|rw [show ((y:Int)+(r:Int)).toNat-y=r by omega]
          go_wp2_with fail
          refine K7.out.mono ?_;clear K7;rintro e w11 hq;obtain ⟨rfl,d11,h11⟩:=yy (a2:=v) hq HC7.out (by simp [cP]);have D11:=ae (D10.out.trans d11);have c11:w11.cell? ⟨tb,1,none⟩=some (.int .i64 (v:Int)):=h11.ah.cell 1;have H12:=ae h11;clear hq d11 h11 D10 c9 f9 cx cw hHeld
          go_wp2_with fail
          refine ⟨⟨i+1,x,v,_,by omega,hx,hvn,by simp,(show aG (bq (bq O 1 (b,v)) 1 (b,v)) 0=some (b,x) by rw [show bq (bq O 1 (b,v)) 1 (b,v)=fm (bq O 1 (b,v)) 1 (b,v) from rfl,dp,if_neg (by decide)];exact HKY.out),(show aG (bq (bq O 1 (b,v)) 1 (b,v)) 1=some (b,v) by unfold bq;rw [dp,if_pos rfl]),D11.out,H12.out⟩,?_⟩;simp [intOf];omega
    · have hout:(¬ (i:Int)<(len1:Int))\/((i:Int)<(len1:Int)/\¬ (i:Int)<20):=by omega
      have K6:=ae (tx (fd:=0) (o:=0) (wh:=2) (by decide) hkx HT4.out.b (by omega) (by decide) HS.out);have hsz:f4.sz=n:=by rw [HB4.out.sz,HLN.out]
      have HC6:=ae (show ez f4.sz x 0 2=0 by rw [hsz];simp [ez,cP];omega);have HT6:=ae (show cP f4.sz x 0 2=(n:Int) by rw [hsz];simp [cP]);have HKY:=ae hky;clear hlt hi hx hkx hky hsz;rcases hout with ho|⟨ho1,ho2⟩
      all_goals
        go_wp2_with fail
        refine K6.out.mono ?_;clear K6;rintro e w9 hq;obtain ⟨rfl,d9,h9⟩:=yy (a2:=n) hq HC6.out HT6.out;have D9:=ae ((DS.out.trans d9).alloc (.cells (dG AS) 5 (4,5)));have hk9:aG (bq O 0 (b,n)) 0=some (b,n):=by unfold bq;rw [dp,if_pos rfl]
        have hy9:aG (bq O 0 (b,n)) 1=some (b,y):=by unfold bq;rw [dp,if_neg (by decide)];exact HKY.out
        generalize bq O 0 (b,n)=O9 at h9 hk9 hy9;have hml:AS.length=4:=rfl;have hgd:gN n4 n f4 AS=0:=xq HB4.out.small (by rw [hml];omega) (by have:=HK4.out;omega);have K8:=ae (yh (va:=some ⟨w9.heap.size,0,none⟩) (vc:=AS.length) (l:=AS) (fd:=0) (id:=b) (at':=n) (f:=f4) (D:=pt w9.heap.size (.cells (dG AS) 5 (4,5))) (B:=8) (by decide) hgd hk9 HT4.out.b (by omega) (by decide) (Nat.le_refl _) (fun W P hs=>sm hs.heap) ((h9.alloc (.cells (dG AS) 5 (4,5))).to (aE _ _ _)));have hcv:(convert 37 37 (.slice (some ⟨w9.heap.size,0,none⟩) 4 4)).run prog (w9.alloc (.cells #[.int .u8 109,.int .u8 111,.int .u8 114,.int .u8 101] 5 (0,0))) = .ok (.slice (some ⟨w9.heap.size,0,none⟩) 4 4) (w9.alloc (.cells #[.int .u8 109,.int .u8 111,.int .u8 114,.int .u8 101] 5 (4,5))):=Go.Lib.run_convert_bytes_const (P:=prog) w9 37 5 #[.int .u8 109,.int .u8 111,.int .u8 114,.int .u8 101] 4 4 underlying37 underlying5;have HGD:=ae hgd;have HY9:=ae hy9;clear hq d9 h9 HS DS hgd hy9 hk9 hml
        go_wp2_with fail
        refine K8.out.mono ?_;clear K8;rintro e w10 hq;obtain ⟨T8,n8,hR,rfl,d10,h10⟩:=hq.ok fun c T' k' hr=>hr.1.trans HGD.out;obtain ⟨f8,hT8,hB8,-⟩:=Iy (k:=n4) (k':=n8) (T4:=T8) (c:=0) HT4.out HB4.out (m:=AS) (by rw [HLN.out];show n+4<=3100;omega) (by have:=HK4.out;omega) (by rw [HLN.out];exact hR) rfl;have D10:=ae (D9.out.trans d10);have hk10:aG (bq O9 0 (b,n+AS.length)) 0=some (b,n+AS.length):=by unfold bq;rw [dp,if_pos rfl]
        have hy10:aG (bq O9 0 (b,n+AS.length)) 1=some (b,y):=by unfold bq;rw [dp,if_neg (by decide)];exact HY9.out
        generalize bq O9 0 (b,n+AS.length)=O10 at h10 hk10 hy10;have k9:=MJ (fd:=0) h10;rw [hk10] at k9;have K9:=ae k9;have HT8:=ae hT8;have HB8:=ae hB8;have HY10:=ae (show aG (nV O10 0) 1=some (b,y) by unfold nV;rw [sK,if_neg (by decide)];exact hy10);clear hcv hq hR d10 h10 D9 hk10 hy10 k9 hT8 hB8 HT4 HB4
        go_wp2_with fail
        refine K9.out.mono ?_;clear K9;rintro e w11 ⟨rfl,d11,h11⟩;have D11:=ae (D10.out.trans d11);have K12:=ae (tx (fd:=1) (o:=(n:Int)) (wh:=0) (by decide) HY10.out HT8.out.b (by omega) (by omega) h11);have HC12:=ae (show ez f8.sz y (n:Int) 0=0 by simp [ez,cP];omega);clear d11 h11 D10
        go_wp2_with fail
        refine K12.out.mono ?_;clear K12;rintro e w12 hq;obtain ⟨rfl,d12,h12⟩:=yy (a2:=n) hq HC12.out (by simp [cP]);have D12:=ae (D11.out.trans d12);have k13:=BO (fd:=1) (c:=100) (by decide) (show aG (bq (nV O10 0) 1 (b,n)) 1=some (b,n) by unfold bq;rw [dp,if_pos rfl]) HT8.out.b (by omega) h12;rw [qq HB8.out,show ((l++AS).drop n).take (100:Int).toNat=AS by rw [List.drop_left' HLN.out];rfl] at k13;have K13:=ae k13;clear hq d12 h12 D11 k13
        go_wp2_with fail
        refine K13.out.mono ?_;clear K13;rintro e w13 ⟨d13,⟨h0,_⟩|⟨_,u,rfl,h13⟩⟩
        · exact absurd (show iP 100=0 by decide) h0
        obtain ⟨ua,uc,rfl⟩:=h13.lC.shape;have cx:(convert 37 9 (.slice ua AS.length uc)).run prog w13 = .ok (.string ⟨#[109,111,114,101]⟩) w13:=kK _ _ _ h13.lC;rw [show AS.length=4 from rfl] at cx ⊢;have D13:=ae (D12.out.trans d13);have H13:=ae h13.right.right.right.right;clear d13 h13 D12
        go_wp2_with fail
        exact HQ.out _ _ ⟨rfl,H13.out,D13.out⟩
end Go.Proofs.Cl
