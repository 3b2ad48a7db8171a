/- Steps. -/
import Derived.Test.YtacliaemfegopaaGreatDoorKP41
import Derived.Test.YtacliaemfegopaaGreatDoorKP46
set_option linter.unusedVariables false
set_option linter.unusedSimpArgs false
set_option maxRecDepth 100000
set_option maxHeartbeats 40000000
open Go.Proofs Go.SL
namespace Go.Cl
open Go.RowKit Go.SL Go.Nn Go.Ba Go.Su Go.Fs
attribute [local go_sem] Oper.semAt_some
def Gh (d n P:Nat) (w0:World) (s:Nat):ah:=ex fun z:Nat × Hp × ay=>fact (Lq n P 1 (J0 P n) z.2.2 Cl.qJ)*(ei s z.1 d n P (J0 P n)*(aK z.2.1 d z.2.2*(aj z.2.1*whole w0)))
def oH (a d:Nat):ah:=pt a (.cells #[ax d] 24 (0,0))
section
variable {d n P:Nat} {w0:World} {S:Hp} {D:ay} {cd cb:Nat}
theorem O9 {o':Ar} {D':ay} (hn:n≤P) (h:Om n P D none D' o'):Lq n P 1 (J0 P n) D' Cl.qJ:=by
 have hj:=h.sj;exact ⟨hj.jt.inv,hj.jt.jn,hj.bound,hj.jP,hj.sq⟩
theorem yE (hh:nZ w0) (hok:D.Ok) (hc:D.Calm) (hm:D.wait.length≤1000) (hg:lT n P=true) (hs:D.sec.length=P+1) :
  M3 60 #[ax cd,ax cb] ((oH cd d*aF cb (n:Int))*(aK S d D*(aj S*whole w0))) (Gh d n P w0):=by
 intro w H h;refine aI fun Q HQ=>?_;have h1:Sat w (aK S d (D.cR none)*(aj S*((oH cd d*aF cb (n:Int))*(whole w0*H)))):=by rw [Ac];exact h.to (by ac_rfl)
 have hfm:=ae (AP w S d n P D none _ h1 hok hc hm hg hs Du rfl fun w' X hx=>hh.oz (hx.to (by ac_rfl:_=(X*((oH cd d*aF cb (n:Int))*H))*whole w0)));have k0:w.cell? ⟨cd,0,none⟩=some (ax d):=(h.to (by unfold oH;ac_rfl:_=pt cd (.cells #[ax d] 24 (0,0))*(aF cb (n:Int)*((aK S d D*(aj S*whole w0))*H)))).cell 0;have k1:w.cell? ⟨cb,0,none⟩=some (.int .i64 (n:Int)):=(h.to (by unfold aF;ac_rfl:_=pt cb (.cells #[.int .i64 (n:Int)] 3 (0,0))*(oH cd d*((aK S d D*(aj S*whole w0))*H)))).cell 0;have hP:n≤P:=by have:=dZ.1 hg;omega
 have HP:=ae hP;clear h h1 hok hc hm hg hs hP
 go_enter Tryz.func60,Tryz.ntmps60
 go_wp2_with fail
 refine hfm.out.mono ?_;rintro e w3 hq;rcases hq with ⟨E,hne,_⟩|⟨s,j,S3,D3,o3,hE3,rfl,h3,d3,hok3⟩
 ·exact absurd rfl hne
 have ho3:=hok3.ar.none rfl;subst ho3;rw [Ac] at h3;have h4:Sat w3 (Gh d n P w0 s*((oH cd d*aF cb (n:Int))*H)):=Sat.au.2 ⟨(j,S3,D3),(Sat.ak.2 ⟨O9 HP.out hok3,h3⟩:Sat w3 (fact _*_)).to (by ac_rfl)⟩;have hfin:=ae (HQ.out _ _ ⟨s,rfl,d3,(h4.to (by ac_rfl:_=(oH cd d*aF cb (n:Int))*(Gh d n P w0 s*H))).right⟩);clear hfm hok3 h3 h4 d3 HQ k0 k1
 go_wp2_with fail
 exact hfin.out
def QQ (d n P:Nat) (hP:5*n+240≤2*P) (w0:World) (s f m:Nat):ah:=ex fun j:Nat=>gI ⟨f,s,j,d,n,P⟩ (Rc n P hP) m fH (n-2) 3 []*whole w0
theorem zm (hP:5*n+240≤2*P) (h4:4≤n) (hn:n≤3840):Ng 62 #[] (Gh d n P w0) (QQ d n P hP w0):=by
 intro s f m w H h;obtain ⟨⟨j,S,D⟩,h1⟩:=Sat.au.1 (h.to (by ac_rfl:_=Gh d n P w0 s*(pt f (.cells #[ax s,.map (some m)] 66 (0,0))*(mp m []*H))));obtain ⟨hq,h2⟩:=Sat.ak.1 (h1.to (aw _ _ _));have h3:Sat w (lA ⟨f,s,j,d,n,P⟩ ⟨J0 P n,D,Cl.qJ,1⟩*(pt f (.cells #[ax s,.map (some m)] 66 (0,0))*(mp m []*(whole w0*H)))):=kY (t:=⟨f,s,j,d,n,P⟩) (s:=⟨J0 P n,D,Cl.qJ,1⟩) (S:=S) (h2.to (by ac_rfl));refine (E8 (t:=⟨f,s,j,d,n,P⟩) (q:=Rc n P hP) (J:=J0 P n) (D:=D) (m:=m) (F:=whole w0*H) h4 hn hq (h3.to (by unfold gU;show _=_*(mp m []*_);ac_rfl))).mono ?_;rintro e w' ⟨s2,rfl,d2,hB,hf,h5⟩;refine ⟨rfl,d2,Sat.au.2 ⟨j,?_⟩⟩;exact (dR hf hB h5).to (aw _ _ _).symm
def Ni (d n:Nat) (v:Nat→Value) (w0:World) (w:World) (e:Ending) (w':World):Prop:=
 ∃ (t:Pl) (q:Dk t.n) (m:Nat),t.n=n∧t.d=d∧e = .returned (v t.f)∧ai w w'∧Sat w' (gI t q m fH (n-2) 3 []*whole w0)
theorem zn (w:World) (hh:nZ w0) (hok:D.Ok) (hc:D.Calm) (hm:D.wait.length≤1000) (hg:lT n P=true) (hs:D.sec.length=P+1) (h:Sat w (aK S d D*(aj S*whole w0))) :
  Calls Tryz.prog 26 #[ax d,.int .i64 (n:Int)] w (Ni d n (fun f=>.tuple #[ax f,.int .i64 0]) w0 w):=by
 refine aI fun Q HQ=>?_;have hmf:=nV Tryz.prog;have hG:=dZ.1 hg;have hP:5*n+240≤2*P:=by omega
 have hst:=fun (w1:World) (cd cb:Nat) h1=>ER (dv:=d) (w:=w1) (F:=emp) (enters Tryz.func60 (by kernel_rfl) rfl) (enters Tryz.func62 (by kernel_rfl) rfl) (yE (d:=d) (n:=n) (P:=P) (cd:=cd) (cb:=cb) (S:=S) hh hok hc hm hg hs) (zm hP (by omega) (by omega)) h1;have H1:=(h.alloc (.cells #[ax d] 24 (0,0))).alloc (.cells #[.int .i64 (n:Int)] 3 (0,0));have D1:=ae (((ai.refl w).alloc (.cells #[ax d] 24 (0,0))).alloc (.cells #[.int .i64 (n:Int)] 3 (0,0)));rw [World.size_alloc] at H1;have k0:=ae (hst _ _ _ ((H1.to (by unfold oH aF;ac_rfl:_=(oH w.heap.size d*aF (w.heap.size+1) (n:Int))*(aK S d D*(aj S*whole w0)))).lP));clear hst H1 h hok hc hm hg hs hG
 go_enter Tryz.func26,Tryz.ntmps26
 go_wp2_with fail
 refine k0.out.mono ?_;rintro e w2 ⟨s,f,m,rfl,d2,h2⟩;obtain ⟨j,h3⟩:=Sat.au.1 h2;have hfin:=ae (HQ.out _ _ ⟨⟨f,s,j,d,n,P⟩,Rc n P hP,m,rfl,rfl,rfl,D1.out.trans d2,(h3.to (aw _ _ _)).to (by rw [show (whole w0*emp:ah)=whole w0 from oT _])⟩);clear k0 d2 h2 h3 HQ D1
 go_wp2_with fail
 exact hfin.out
end
theorem yp (w:World) (hh:nZ w) (n:Nat) (h4:4≤n) (h40:n≤40) :
  Calls Tryz.prog 8 #[.int .i64 (n:Int)] w fun e w'=>∃ d,Ni d n (fun f=>.tuple #[ax d,ax f]) w w e w':=by
 refine aI fun Q HQ=>?_;obtain ⟨P,hP⟩:∃ P:Nat,P=(5*n+241)/2:=⟨_,rfl⟩
 have hle:=Em w n;rw [BC h4 (by omega),← hP] at hle;have hP1:P≤221:=by omega
 have hw:(P:Int)+1=((P+1:Nat):Int):=by omega
 have Hw:=ae hw;have hw0:IntKind.i64.wrap ((P:Int)+1)=(P:Int)+1:=by rw [IntKind.wrap_i64];omega
 have hnw:=xO (P+1) (by omega) (by omega) w;have hg:lT n P=true:=dZ.2 ⟨by omega,by omega,by omega,by omega,by omega⟩;have Hg:=ae hg;have Hh:=ae hh;have HP1:=ae hP1;clear hP hP1 hg hh h4 h40 hw
 go_enter Tryz.func8,Tryz.ntmps8
 go_wp2_with fail
 (with_reducible refine hle.mono ?_)
 rintro e w1 ⟨rfl,rfl⟩
 go_wp2_with fail
 rw [Hw.out]
 (with_reducible refine hnw.mono ?_)
 rintro e w1 ⟨d,rfl,h1,d1⟩;have hf1:=ae (zn (S:=Rn) (D:=ay.fresh (P+1)) (d:=d) (n:=n) (P:=P) w1 Hh.out (Iy (P+1) (by have:=HP1.out;omega)) ⟨rfl,rfl⟩ (by show (0:Nat)≤_;omega) Hg.out (by rw [Ot]) (((h1 Rn).xB).to (by ac_rfl)));have D1:=ae d1;clear hle hnw h1 d1 Hw hw0
 go_wp2_with fail
 refine hf1.out.mono ?_;rintro e w2 ⟨t,q,m,hn,hd,rfl,d2,h2⟩;have hfin:=ae (HQ.out _ _ ⟨d,t,q,m,hn,hd,rfl,D1.out.trans d2,h2⟩);clear hf1 d2 h2 HQ D1
 go_wp2_with fail
 exact hfin.out
end Go.Cl
namespace Go.Cl
open Go.RowKit Go.SL Go.Nn Go.Ba Go.Su Go.Fs
theorem uR {n:Nat} {t:Pl} {q:Dk t.n} {m k B:Nat} {T:Tr} {p:List UInt8} {f:AF} {F:ah} {w w':World} {e:Ending} (h:M5 t q m T k B [] p F w e w') (h1:(bW T p).1=0) (h2:T (bW T p).2=some (.file f)) :
  e = .returned (.tuple #[.int .i64 0,.int .i64 0])∧ai w w'∧Sat w' (gI t q m T k B [(0,((bW T p).2,0))]*F):=by
 have hc:gM T [] p=0:=by unfold gM;rw [h1,if_neg (by simp),h2];rfl
 obtain ⟨d,⟨h0,_⟩|⟨_,fd,a1,a2,rfl,h4⟩⟩:=h
 ·exact absurd hc h0
 ·have:fd=0:=by
   rcases Nat.eq_zero_or_pos fd with h|h
   ·exact h
   ·exact absurd (a1 0 h) (by simp [aH])
  subst this;exact ⟨rfl,d,h4⟩
theorem BA.ok {t:Pl} {q:Dk t.n} {m k B:Nat} {T:Tr} {O:kg} {fd:Int} {o:Nat × Nat} {R:Int→Tr→Nat→Prop} {F:ah} {w w':World} {e:Ending} (h:BA t q m T k B O fd o R F w e w') (hR:∀ c T' k',R c T' k'→c=0) :
  ∃ T' k',R 0 T' k'∧e = .returned (.int .i64 0)∧ai w w'∧Sat w' (gI t q m T' k' (B+1) (eG O fd o)*F):=by
 obtain ⟨d,c,rfl,⟨hc,⟨T',k',h1⟩,_⟩|⟨rfl,T',k',h1,h2⟩⟩:=h
 ·exact absurd (hR _ _ _ h1) hc
 ·exact ⟨T',k',h1,rfl,d,h2⟩
theorem Iv (w:World) (v:Value) (l:List UInt8) (h:Rd w v l):(convert 37 9 v).run Tryz.prog w = .ok (.string (str l)) w:=Dq w v l h
theorem zh (w:World) (hh:nZ w):Calls Tryz.prog 7 #[] w (Ol w):=by
 have hmd:=yp w hh 20 (by decide) (by decide);rw [show ((20:Nat):Int)=20 from rfl] at hmd;clear hh
 go_enter Tryz.func7,Tryz.ntmps7
 go_wp2_with fail
 refine hmd.mono ?_;rintro e w1 ⟨d,t,q,m,hn,-,rfl,d1,h1⟩;have h1:Sat w1 (gI t q m fH 18 3 []*whole w):=h1;have Hn:=ae hn;have D1:=ae d1
 -- Mkdir
 have k1:Calls Tryz.prog 16 #[ax t.f,.string ⟨#[47,100]⟩] w1 _:=MC (p:=pD) (by decide) M8 h1;clear hmd h1 hn d1
 go_wp2_with fail
 refine k1.mono ?_;rintro e w2 hq;obtain ⟨T1,n1,hR,rfl,d2,h2⟩:=hq.ok fun c T' k' hr=>hr.1.trans M8;obtain ⟨⟨a,hT1⟩,rfl⟩:=Ow hR rfl;have D2:=ae (D1.out.trans d2);have k2:Calls Tryz.prog 9 #[ax t.f,.string ⟨#[47,100,47,97]⟩] w2 _:=xW (p:=JE) (by decide) (M0 hT1) h2;have HT1:=ae hT1;clear k1 hq hR d2 h2 D1 hT1
 -- Create
 go_wp2_with fail
 refine k2.mono ?_;rintro e w3 hq;obtain ⟨T2,n2,hR,rfl,d3,h3⟩:=hq.ok fun c T' k' hr=>hr.1.trans (M0 HT1.out);obtain ⟨⟨b,hT2⟩,rfl⟩:=N6 HT1.out hR rfl;have D3:=ae (D2.out.trans d3);have k3:Calls Tryz.prog 11 #[ax t.f,.string ⟨#[47,100,47,97]⟩] w3 _:=GM (p:=JE) (by decide) (by decide) h3;have HT2:=ae hT2;clear k2 hq hR d3 h3 D2 HT1 hT2
 -- Open
 go_wp2_with fail
 refine k3.mono ?_;rintro e w4 hq;obtain ⟨rfl,d4,h4⟩:=uR (n:=t.n) hq (Aj HT2.out).1 (Aj HT2.out).2;rw [uX HT2.out] at h4;have D4:=ae ((D3.out.trans d4).alloc (.cells #[.int .u8 104,.int .u8 101,.int .u8 108,.int .u8 108,.int .u8 111] 5 (5,6)));have h4a:Sat (w4.alloc (.cells #[.int .u8 104,.int .u8 101,.int .u8 108,.int .u8 108,.int .u8 111] 5 (5,6))) (pt w4.heap.size (.cells (dp oS) 5 (5,6))*(gI t q m T2 14 5 [(0,(b,0))]*whole w)):=h4.alloc (.cells #[.int .u8 104,.int .u8 101,.int .u8 108,.int .u8 108,.int .u8 111] 5 (5,6));have H4:=h4a.to (aD _ _ _);have k5:=CO (va:=some ⟨w4.heap.size,0,none⟩) (vc:=oS.length) (l:=oS) (fd:=0) (id:=b) (at':=0) (f:=fN 1) (D:=pt w4.heap.size (.cells (dp oS) 5 (5,6))) (F:=whole w) (B:=5) (by decide) MR rfl HT2.out.fb (by decide) (by decide) (Nat.le_refl _) (fun W P hs=>rY hs.heap) H4;rw [show oS.length=5 from rfl] at k5;have K5:=ae k5;have hcv:(convert 37 37 (.slice (some ⟨w4.heap.size,0,none⟩) 5 5)).run Tryz.prog (w4.alloc (.cells #[.int .u8 104,.int .u8 101,.int .u8 108,.int .u8 108,.int .u8 111] 5 (0,0))) = .ok (.slice (some ⟨w4.heap.size,0,none⟩) 5 5) (w4.alloc (.cells #[.int .u8 104,.int .u8 101,.int .u8 108,.int .u8 108,.int .u8 111] 5 (5,6))):=Go.Lib.run_convert_bytes_const (P:=Tryz.prog) w4 37 5 #[.int .u8 104,.int .u8 101,.int .u8 108,.int .u8 108,.int .u8 111] 5 5 Tryz.underlying37 Tryz.underlying5;clear k3 hq d4 h4 D3 k5 h4a H4
 -- Write
 go_wp2_with fail
 refine K5.out.mono ?_;rintro e w5 hq;obtain ⟨T4,n4,hR,rfl,d5,h5⟩:=hq.ok fun c T' k' hr=>hr.1.trans MR;obtain ⟨hT4,rfl⟩:=OF HT2.out hR rfl;have D5:=ae (D4.out.trans d5);have h5b:Sat w5 (gI t q m T4 13 6 [(0,(b,5))]*(pt w4.heap.size (.cells (dp oS) 5 (5,6))*whole w)):=h5;have h5':=(h5b.to (aD _ _ _)).right;have k6:Calls Tryz.prog 19 #[ax t.f,.string ⟨#[47,100,47,97]⟩,.string ⟨#[47,98]⟩] w5 _:=NU (p1:=JE) (p2:=pB) (by decide) (MS hT4) h5';have HT4:=ae hT4;clear hcv K5 hq hR d5 h5 h5b h5' D4 HT2 hT4
 -- Link
 go_wp2_with fail
 refine k6.mono ?_;rintro e w6 hq;obtain ⟨T5,n5,hR,rfl,d6,h6⟩:=hq.ok fun c T' k' hr=>hr.1.trans (MS HT4.out);obtain ⟨hT5,rfl⟩:=OE HT4.out hR rfl;have D6:=ae (D5.out.trans d6)
 have k7:Calls Tryz.prog 20 #[ax t.f,.string ⟨#[47,98]⟩] w6 (Ct (gI t q m T5 13 7 [(0,(b,5))]) (.tuple #[.agg #[.int .i64 1,.int .i64 2,.int .i64 5],.int .i64 0]) (whole w) w6):=by
  have:=Og (p:=pB) (by decide) h6;rw [if_pos (sT hT5).1,(sT hT5).2,(sT hT5).1] at this;exact this
 have HT5:=ae hT5;clear k6 hq hR d6 h6 D5 HT4 hT5
 -- Stat
 go_wp2_with fail
 refine k7.mono ?_;rintro e w7 ⟨rfl,d7,h7⟩;have D7:=ae ((D6.out.trans d7).alloc (.cells #[.int .i64 1,.int .i64 2,.int .i64 5] 48 (0,0)));have h7':=(h7.alloc (.cells #[.int .i64 1,.int .i64 2,.int .i64 5] 48 (0,0))).to (by ac_rfl:_=gI t q m T5 13 7 [(0,(b,5))]*(pt w7.heap.size (.cells #[.int .i64 1,.int .i64 2,.int .i64 5] 48 (0,0))*whole w))
 have k8:Calls Tryz.prog 21 #[ax t.f,.string ⟨#[47,98]⟩,.int .i64 1,.int .i64 3] (w7.alloc (.cells #[.int .i64 1,.int .i64 2,.int .i64 5] 48 (0,0))) (N9 0 [101,108,108] (gI t q m T5 13 7 [(0,(b,5))]) (gI t q m T5 13 7 [(0,(b,5))]) (pt w7.heap.size (.cells #[.int .i64 1,.int .i64 2,.int .i64 5] 48 (0,0))*whole w) (w7.alloc (.cells #[.int .i64 1,.int .i64 2,.int .i64 5] 48 (0,0)))):=by
  have:=OR (p:=pB) (a:=1) (c:=3) (by decide) (vi HT5.out) h7';rw [vi HT5.out,JX HT5.out] at this;exact this
 have K8:=ae k8;clear k7 d7 h7 h7' D6 k8
 go_wp2_with fail
 refine K8.out.mono ?_;clear K8;generalize (w7.alloc (.cells #[.int .i64 1,.int .i64 2,.int .i64 5] 48 (0,0)))=w70 at *;generalize w7.heap.size=sc at *;rintro e w8 ⟨d8,⟨h0,_⟩|⟨_,u,rfl,h8⟩⟩
 ·exact absurd rfl h0
 obtain ⟨ua,uc,rfl⟩:=h8.oZ.shape;have D8:=ae (D7.out.trans d8);have h8':=h8.to (aD _ _ _);have k9:=Dy (p:=[47]) (by decide) (rO HT5.out).1 (by rw [(rO HT5.out).2];exact (show 2≤yz by decide)) h8';rw [(rO HT5.out).1,(rO HT5.out).2] at k9;have K9:=ae k9;clear d8 h8 h8' D7 k9 h1
 go_wp2_with fail
 refine K9.out.mono ?_;clear K9;rintro e w9 ⟨d9,⟨h0,_⟩|⟨_,u2,W,hp,hs,rfl,h9⟩⟩
 ·exact absurd rfl h0
 rw [FD hp hs] at h9;obtain ⟨lg,lc,rfl,hlc,hlc2,hlcell⟩:=ow (by simp) h9;have D9:=ae (D8.out.trans d9);have h9':=h9.to (aD _ _ _);have hwd:aR T5 1 [[100]]=(0,a):=(eW lq).symm.trans (PQ HT5.out);have HWD:=ae hwd;have K10:=ae (EP (by decide) lq hwd HT5.out.da h9');clear d9 h9 h9' D8 hp hs hlcell hwd
 go_wp2_with fail
 refine K10.out.mono ?_;clear K10;rintro e w10 ⟨rfl,d10,h10⟩;have D10:=ae (D9.out.trans d10);have K11:=ae (Ef (by decide) lq (by simp) HWD.out HT5.out.da (by simp) h10);clear d10 h10 D9
 go_wp2_with fail
 refine K11.out.mono ?_;clear K11;rintro e w11 ⟨rfl,d11,h11⟩;have D11:=ae (D10.out.trans d11);have K12:=ae (AH (by decide) lq GW (by simp) HWD.out HT5.out.da (by decide) h11);clear d11 h11 D10 HWD
 go_wp2_with fail
 refine K12.out.mono ?_;clear K12;rintro e w12 ⟨rfl,d12,h12⟩;have D12:=ae (D11.out.trans d12);have s0:w12.cell? ⟨sc,0,none⟩=some (.int .i64 1):=h12.aC.cell 0;have s1:w12.cell? ⟨sc,1,none⟩=some (.int .i64 2):=h12.aC.cell 1;have s2:w12.cell? ⟨sc,2,none⟩=some (.int .i64 5):=h12.aC.cell 2;have cx:(convert 37 9 (.slice ua 3 uc)).run Tryz.prog w12 = .ok (.string ⟨#[101,108,108]⟩) w12:=Iv _ _ _ h12.aq.oZ;obtain ⟨lg',lc',e1,-,-,hcl⟩:=ow (by simp) h12.ag;simp only [Value.slice.injEq,Option.some.injEq,Addr.mk.injEq] at e1;obtain ⟨⟨rfl,-⟩,-,rfl⟩:=e1;have c0:w12.cell? ⟨lg,0,none⟩=some (.string ⟨#[98]⟩):=hcl 0 (by simp);have c1:w12.cell? ⟨lg,1,none⟩=some (.string ⟨#[100]⟩):=hcl 1 (by simp);have H12:=ae h12;have hlc':(2:Int)≤(lc:Int):=by simp at hlc;omega
 have hlc3:(lc:Int)≤9223372036854775807:=by omega
 clear d12 h12 D11 hcl hlc hlc2
 go_wp2_with fail
 go_ret
 exact ⟨rfl,H12.out.right.right.right.right,D12.out⟩
end Go.Cl
namespace Go.SL
open Go.RowKit Go.Nn Go.Ba Go.Cl
section
variable {T T1:Tr} {a b k k':Nat} {c:Int} {nm p:List UInt8}
structure One (n:Nat) (T:Tr) (b:Nat) (nm:List UInt8) (f:AF):Prop where
 b1:b≠1
 root:T 1=some (.dir [⟨b,nm⟩])
 b:T b=some (.file f)
theorem Nk {k:Nat} (hs:aV p=some [nm]) (hk:2≤k):fQ fH k p=0:=tS hs (by simp) (d:=1) (L:=[]) rfl rfl rfl (by simp) (by show 1+cq 1≤k+cq 0;unfold cq;simp;omega) (by omega)
theorem NP {n k:Nat} (hs:aV p=some [nm]) (h:lV n fH k 1 p c T1 k') (hc:c=0):(∃ b,One n T1 b nm (fN 1))∧k'=k-2:=by
 obtain ⟨⟨b,m⟩,hk⟩:=xh (d:=1) (L:=[]) hs rfl rfl h hc;have ne:b≠1:=by intro e;have:=m.no;rw [e] at this;cases this
 refine ⟨⟨b,ne,m.dir,m.new⟩,by rw [hk];show k-1+cq 0-cq 1=_;unfold cq;simp;omega⟩
theorem tF {n:Nat} {f:AF} (hs:aV p=some [nm]) (h:One n T b nm f):bW T p=(0,b):=(eW hs).trans (kp h.root (zx b _))
end
abbrev pA:List UInt8:=[47,97]
theorem np:aV pA=some [[97]]:=by decide
end Go.SL
namespace Go.Cl
open Go.RowKit Go.SL Go.Nn Go.Ba Go.Su Go.Fs
def Q9 (w:World) (e:Ending) (w':World):Prop:=e = .returned (.bool true)∧Sat w' (whole w)∧ai w w'
end Go.Cl
namespace Go.SL
open Go.RowKit Go.Nn Go.Ba Go.Cl
section
variable {l:List UInt8}
theorem Ph (hl:l.length=1000):((fN 1).wr 0 l).sz=1000:=by unfold AF.wr fN;simp [hl]
theorem Mn (hl:l.length=1000):cl ((fN 1).wr 0 l).pr=4:=by
 have e:((fN 1).wr 0 l).pr=fun i=>cG 0 1000 i:=by
  unfold AF.wr fN;funext i;show (false || cG 0 l.length i)=_
  rw [hl];simp
 rw [e];decide +kernel
theorem MN (hl:l.length=1000):ie 16 0 (fN 1) l=0:=by
 unfold ie;rw [if_neg (by omega),if_neg (by omega),if_neg (by intro h;rw [h] at hl;cases hl),Mn hl];have h1:cl (fN 1).pr=1:=by decide +kernel
 rw [h1,if_neg (by decide)]
theorem QD {T T4:Tr} {b k' n:Nat} {c:Int} {nm:List UInt8} (hl:l.length=1000) (h2:One n T b nm (fN 1)) (h:fR T 16 b 0 (fN 1) l c T4 k') (hc:c=0):One n T4 b nm ((fN 1).wr 0 l):=by
 obtain ⟨-,h3⟩:=h;rcases h3 hc with ⟨e,_⟩|⟨_,eT,ek⟩
 ·rw [e] at hl;cases hl
 ·rw [eT]
  exact ⟨h2.b1,(aQ _ _ (Ne.symm h2.b1)).trans h2.root,bF _ _ _⟩
end
def xJ (at' wh:Nat):Nat:=if wh=0 then 0 else if wh=1 then at' else 1000
theorem Fv {at' wh:Nat} {o:Int} (ha:at'≤122880) (hw:wh<3):fU 1000 at' o wh=if -(xJ at' wh:Int)≤o∧o≤122880-(xJ at' wh:Int) then 0 else 1:=by
 unfold fU dP xJ;have h3:wh=0∨wh=1∨wh=2:=by omega
 rcases h3 with rfl|rfl|rfl
 ·simp
  by_cases h:(0≤o∧o≤122880)
  ·rw [if_pos ⟨by omega,h⟩,if_pos h]
  ·rw [if_neg (by omega),if_neg h]
 ·simp
  by_cases h:(-(at':Int)≤o∧o≤122880-(at':Int))
  ·rw [if_pos (by omega),if_pos h]
  ·rw [if_neg (by omega),if_neg h]
 ·simp
  by_cases h:(-1000≤o∧o≤121880)
  ·rw [if_pos (by omega),if_pos h]
  ·rw [if_neg (by omega),if_neg h]
theorem Ay {at' wh:Nat} {o:Int} (hw:wh<3):dP 1000 at' o wh=(xJ at' wh:Int)+o:=by
 unfold dP xJ;have h3:wh=0∨wh=1∨wh=2:=by omega
 rcases h3 with rfl|rfl|rfl <;> simp
theorem Mw {at' wh:Nat} (ha:at'≤122880):xJ at' wh≤122880:=by unfold xJ;split;omega;split <;> omega
theorem L9 (f:AF) (a c:Nat):(f.sub a c).length=min c (f.sz-a):=by unfold AF.sub;simp
end Go.SL
namespace Go.Cl
open Go.RowKit Go.SL Go.Nn Go.Ba Go.Su Go.Fs
theorem MB {w:World} {a:Option Addr} {len cap:Nat} {zs:List Int} (h:j3 w a len cap zs) {i:Nat} (hi:i<len):-9223372036854775808≤zs.getD i 0∧zs.getD i 0≤9223372036854775807:=by
 rcases h with ⟨_,rfl,_⟩|⟨x,_,hl,_,hz,_,hwf⟩
 ·omega
 ·have hm:zs.getD i 0 ∈ zs:=by
   rw [List.getD,List.getElem?_eq_getElem (by omega)];exact List.getElem_mem (by omega)
  have hw:=hwf _ hm;generalize zs.getD i 0=y at hw;simp only [Lit.wf,Bool.and_eq_true,decide_eq_true_eq] at hw;exact hw
theorem EX {t:Pl} {q:Dk t.n} {m k b sz at' a2:Nat} {T:Tr} {O:kg} {w:World} {f:FuncId} {args:Array Value} {o wh:Int} (hc:fU sz at' o wh=0) (ha:dP sz at' o wh=(a2:Int))
  (h:∀ w',Sat w' (gI t q m T k 6 O*whole w)→Calls Tryz.prog f args w' (FV t q m T k 6 O 0 b sz at' o wh (whole w) w')) :
  ∀ w',Sat w' (gI t q m T k 6 O*whole w)→Calls Tryz.prog f args w' fun e w2=>e = .returned (.tuple #[.int .i64 (a2:Int),.int .i64 0])∧ai w' w2∧Sat w2 (gI t q m T k 6 (eG O 0 (b,a2))*whole w):=by
 intro w' hs;refine (h w' hs).mono ?_;rintro e w2 ⟨d,⟨h0,_⟩|⟨_,rfl,h2⟩⟩
 ·exact absurd hc h0
 ·rw [ha] at h2 ⊢;exact ⟨rfl,d,h2⟩
theorem Gk {t:Pl} {q:Dk t.n} {m k b sz at':Nat} {T:Tr} {O:kg} {w:World} {f:FuncId} {args:Array Value} {o wh:Int} (hc:fU sz at' o wh=1)
  (h:∀ w',Sat w' (gI t q m T k 6 O*whole w)→Calls Tryz.prog f args w' (FV t q m T k 6 O 0 b sz at' o wh (whole w) w')) :
  ∀ w',Sat w' (gI t q m T k 6 O*whole w)→Calls Tryz.prog f args w' fun e w2=>e = .returned (.tuple #[.int .i64 0,.int .i64 1])∧ai w' w2∧Sat w2 (gI t q m T k 6 O*whole w):=by
 intro w' hs;refine (h w' hs).mono ?_;rintro e w2 ⟨d,⟨_,rfl,h2⟩|⟨h0,_⟩⟩
 ·rw [hc];exact ⟨rfl,d,h2⟩
 ·rw [hc] at h0;cases h0
def Qq (t:Pl) (q:Dk t.n) (m b k:Nat) (T:Tr) (w:World) (u12 u13:Value) (wr:World):Prop:=
 ∃ (i a:Nat) (O:kg),i≤30∧a≤122880∧u13 = .int .i64 (i:Int)∧u12 = .int .i64 (a:Int)∧aH O 0=some (b,a)∧ai w wr∧Sat wr (gI t q m T k 6 O*whole w)
theorem yO (w:World) (hh:nZ w) (a0:Option Addr) (len0 cap0:Nat) (zs0:List Int) (a1:Option Addr) (len1 cap1:Nat) (zs1:List Int) (hz0:j3 w a0 len0 cap0 zs0) (hz1:j3 w a1 len1 cap1 zs1) :
  Calls Tryz.prog 4 #[.slice a0 len0 cap0,.slice a1 len1 cap1] w (Q9 w):=by
 refine aI fun Q HQ=>?_;have Hz0:=ae hz0;have Hz1:=ae hz1;have HH:=ae hh;have hm:=zh w hh;clear hz0 hz1 hh
 go_enter Tryz.func4,Tryz.ntmps4
 go_wp2_with fail
 refine hm.mono ?_;rintro e w1 ⟨rfl,h1,d1⟩;have hmd:=yp w1 (HH.out.oz (h1.to (cU _).symm)) 20 (by decide) (by decide);rw [show ((20:Nat):Int)=20 from rfl] at hmd;have H1:=ae h1;have D1:=ae d1;clear hm h1 d1 HH
 go_wp2_with fail
 refine hmd.mono ?_;rintro e w2 ⟨d,t,q,m,hn,-,rfl,d2,h2⟩;have h2:Sat w2 (gI t q m fH 18 3 []*whole w1):=h2;have h3:Sat w2 (gI t q m fH 18 3 []*whole w):=h2.under H1.out;have D2:=ae (D1.out.trans d2);have k1:Calls Tryz.prog 9 #[ax t.f,.string ⟨#[47,97]⟩] w2 _:=xW (p:=pA) (by decide) (Nk np (by decide)) h3;clear hmd h2 h3 hn d2 D1 H1
 go_wp2_with fail
 refine k1.mono ?_;rintro e w3 hq;obtain ⟨T1,n1,hR,rfl,d3,h3⟩:=hq.ok fun c T' k' hr=>hr.1.trans (Nk np (by decide));obtain ⟨⟨b,hT1⟩,rfl⟩:=NP np hR rfl;have D3:=ae (D2.out.trans d3);have k2:Calls Tryz.prog 11 #[ax t.f,.string ⟨#[47,97]⟩] w3 _:=GM (p:=pA) (by decide) (by decide) h3;have HT1:=ae hT1;clear k1 hq hR d3 h3 D2 hT1
 go_wp2_with fail
 refine k2.mono ?_;rintro e w4 hq;obtain ⟨rfl,d4,h4⟩:=uR (n:=t.n) hq (by rw [tF np HT1.out]) (by rw [tF np HT1.out];exact HT1.out.b);rw [tF np HT1.out] at h4;have D4:=ae ((D3.out.trans d4).alloc (.cells (dp (zs 1000)) 5 (0,0)));obtain ⟨Z,hZ⟩:∃ Z,dp (zs 1000)=Z:=⟨_,rfl⟩
 have HZ:=ae hZ;have hmk:(Instr.makeSlice 37 (.int .i64 1000) (.int .i64 1000)).run Tryz.prog w4 = .ok (.slice (some ⟨w4.heap.size,0,none⟩) 1000 1000) (w4.alloc (.cells (dp (zs 1000)) 5 (0,0))):=Nn.er 1000 (by decide) w4;have hzl:(zs 1000).length=1000:=List.length_replicate;have HZL:=ae hzl;have h4a:=(h4.alloc (.cells (dp (zs 1000)) 5 (0,0))).to (aD _ _ _);have k5:=CO (va:=some ⟨w4.heap.size,0,none⟩) (vc:=(zs 1000).length) (l:=zs 1000) (fd:=0) (id:=b) (at':=0) (f:=fN 1) (D:=pt w4.heap.size (.cells (dp (zs 1000)) 5 (0,0))) (F:=whole w) (by decide) (MN hzl) rfl HT1.out.b (by decide) (by rw [hzl];decide) (Nat.le_refl _) (fun W P hs=>rY hs.heap) h4a;rw [hzl] at k5;rw [hZ] at D4 hmk k5;have K5:=ae k5;clear k2 hq d4 h4 D3 k5 h4a hZ hzl
 go_wp2_with fail
 refine K5.out.mono ?_;rintro e w5 hq;obtain ⟨T4,n4,hR,rfl,d5,h5⟩:=hq.ok fun c T' k' hr=>hr.1.trans (MN HZL.out);have hT4:=QD HZL.out HT1.out hR rfl;have D5:=ae (D4.out.trans d5);have h5b:Sat w5 (gI t q m T4 n4 5 [(0,(b,1000))]*(pt w4.heap.size (.cells Z 5 (0,0))*whole w)):=h5;have H5:=ae (LP (B':=6) (by decide) (h5b.to (aD _ _ _)).right);have hsz:=Ph HZL.out;obtain ⟨f,hf⟩:∃ f,(fN 1).wr 0 (zs 1000)=f:=⟨_,rfl⟩
 rw [hf] at hT4 hsz;have HT4:=ae hT4;have HSZ:=ae hsz;clear hmk K5 hq hR d5 h5 h5b D4 HT1 hT4 hsz hf HZL HZ
 go_wp2_with fail
 go_loopw [12,13] (fun u12 u13 wr=>Qq t q m b n4 T4 w u12 u13 wr) (fun _ u13 _=>len0-(Proofs.intOf u13).toNat)
 case atStart=>exact ⟨0,1000,_,by decide,by decide,rfl,rfl,rfl,D5.out,H5.out⟩
 case round=>
  clear H5 D5;obtain ⟨i,at',O,hi,ha,rfl,rfl,hk,ds,hs⟩:=hrel;have HS:=ae hs;have DS:=ae ds;clear hs ds
  by_cases hlt:i<len0∧i<len1∧i<30
  ·obtain ⟨hl0,hl1,h30⟩:=hlt
   have hl0':(i:Int)<(len0:Int):=by omega
   have hl1':(i:Int)<(len1:Int):=by omega
   have h30':(i:Int)<30:=by omega
   obtain ⟨ab,ao,rfl,hcell0,hlc0,hcap0⟩:=Hz0.out.cell hl0;obtain ⟨eb,eo,rfl,hcell1,hlc1,hcap1⟩:=Hz1.out.cell hl1;have hwf:-9223372036854775808≤zs0.getD i 0∧zs0.getD i 0≤9223372036854775807:=MB Hz0.out hl0;have hcap0':(cap0:Int)≤9223372036854775807:=by omega
   have hlc0':(len0:Int)≤(cap0:Int):=by omega
   have hcap1':(cap1:Int)≤9223372036854775807:=by omega
   have hlc1':(len1:Int)≤(cap1:Int):=by omega
   obtain ⟨o,ho⟩:∃ z,zs0.getD i 0=z:=⟨_,rfl⟩
   obtain ⟨z,hz⟩:∃ z,zs1.getD i 0=z:=⟨_,rfl⟩
   rw [ho] at hcell0 hwf;rw [hz] at hcell1;have hand:=Qx z;have htm:(z%65536).tmod 3=z%65536%3:=Int.tmod_eq_emod_of_nonneg (by omega);obtain ⟨wh,hq⟩:∃ n:Nat,z%65536%3=(n:Int):=⟨(z%65536%3).toNat,by omega⟩
   rw [hq] at htm;have hwh:wh<3:=by omega
   have hwh':(wh:Int)<3:=by omega
   obtain ⟨CB,hCB⟩:∃ C:Array Value,C=#[.int .i64 0,.int .i64 (at':Int),.int .i64 1000]:=⟨_,rfl⟩
   have hs2:=HS.out.alloc (.cells #[.int .i64 0,.int .i64 (at':Int),.int .i64 1000] 3 (0,0))
   have cb:(wr.alloc (.cells #[.int .i64 0,.int .i64 (at':Int),.int .i64 1000] 3 (0,0))).cell? ⟨wr.heap.size,wh,none⟩=some (.int .i64 (xJ at' wh:Int)):=by
    rw [hs2.cell wh];have h3:wh=0∨wh=1∨wh=2:=by omega
    rcases h3 with rfl|rfl|rfl <;> rfl
   have cF:(wr.alloc (.cells #[.int .i64 0,.int .i64 (at':Int),.int .i64 1000] 3 (0,0))).cell? ⟨eb,eo+i,none⟩=some (.int .i64 z):=(hs2.to (aw _ _ _).symm).bD hcell1;have cL:(wr.alloc (.cells #[.int .i64 0,.int .i64 (at':Int),.int .i64 1000] 3 (0,0))).cell? ⟨ab,ao+i,none⟩=some (.int .i64 o):=(hs2.to (aw _ _ _).symm).bD hcell0;have HW:=ae (show Sat _ _ from hs2.right);have DW:=ae (DS.out.alloc (.cells #[.int .i64 0,.int .i64 (at':Int),.int .i64 1000] 3 (0,0)));have C0:=ae hcell0;have C1:=ae hcell1;clear hs2 hcell0 hcell1 hlc0 hlc1 hcap0 hcap1 ho hz hq HS DS hCB;obtain ⟨g,hg⟩:∃ g,xJ at' wh=g:=⟨_,rfl⟩
   have hg1:g≤122880:=by rw [← hg];exact Mw ha
   have hC:=Fv (at':=at') (wh:=wh) (o:=o) ha hwh;have hTo:=Ay (at':=at') (wh:=wh) (o:=o) hwh;rw [hg] at cb hC hTo;have k6:=fun (w':World) (h:Sat w' (gI t q m T4 n4 6 O*whole w))=>Pb (w:=w') (wh:=(wh:Int)) (by decide) hk HT4.out.b ha hwf h;rw [HSZ.out] at k6;have hgw:IntKind.i64.wrap (-(g:Int))=-(g:Int):=by rw [IntKind.wrap_i64];omega
   have hgw2:IntKind.i64.wrap (122880-(g:Int))=122880-(g:Int):=by rw [IntKind.wrap_i64];omega
   have hU:∃ (nv ev:Int) (a2:Nat) (O2:kg),(∀ w',Sat w' (gI t q m T4 n4 6 O*whole w)→Calls Tryz.prog 14 #[ax t.f,.int .i64 0,.int .i64 o,.int .i64 (wh:Int)] w' fun e w2=>e = .returned (.tuple #[.int .i64 nv,.int .i64 ev])∧ai w' w2∧Sat w2 (gI t q m T4 n4 6 O2*whole w))∧aH O2 0=some (b,a2)∧a2≤122880 ∧
     ((-(g:Int)≤o∧o≤122880-(g:Int)∧nv=(a2:Int)∧ev=0∧IntKind.i64.wrap ((g:Int)+o)=(a2:Int))∨(¬ -(g:Int)≤o∧nv=0∧ev=1∧a2=at')∨(-(g:Int)≤o∧¬ o≤122880-(g:Int)∧nv=0∧ev=1∧a2=at')):=by
    by_cases hf:-(g:Int)≤o∧o≤122880-(g:Int)
    ·obtain ⟨a2,ha2⟩:∃ a2:Nat,(g:Int)+o=(a2:Int):=⟨((g:Int)+o).toNat,by omega⟩
     exact ⟨_,_,a2,eG O 0 (b,a2),EX (hC.trans (if_pos hf)) (hTo.trans ha2) k6,by unfold eG;rw [ki,if_pos rfl],by omega,.inl ⟨hf.1,hf.2,rfl,rfl,by rw [IntKind.wrap_i64];omega⟩⟩
    ·refine ⟨_,_,at',O,Gk (hC.trans (if_neg hf)) k6,hk,ha,.inr ?_⟩
     by_cases h1:-(g:Int)≤o
     ·exact .inr ⟨h1,fun h2=>hf ⟨h1,h2⟩,rfl,rfl,rfl⟩
     ·exact .inl ⟨h1,rfl,rfl,rfl⟩
   clear hC hTo hg hk k6;obtain ⟨nv,ev,a2,O2,KF,HO2,h12,h3⟩:=hU;have KF:=ae KF;have HO2:=ae HO2;rcases h3 with ⟨f1,f2,rfl,rfl,hgo⟩|⟨f1,rfl,rfl,rfl⟩|⟨f1,f2,rfl,rfl,rfl⟩
   all_goals
    go_wp2_with fail
    generalize wr.alloc (.cells #[.int .i64 0,.int .i64 _,.int .i64 1000] 3 (0,0))=w6 at *;generalize wr.heap.size=nb at *
    go_region_held3 (fun w'=>w'.cell? ⟨ab,ao+i,none⟩=some (.int .i64 o)∧w'.cell? ⟨eb,eo+i,none⟩=some (.int .i64 z)) (first|exact ⟨cL,cF⟩|exact kA|go_keep)
     (first|(go_at_call 14;refine (KF.out _ HW.out.drew).mono ?_;rintro e w7 ⟨rfl,d7,h7⟩;have kA:w7.cell? ⟨ab,ao+i,none⟩=some (.int .i64 o)∧w7.cell? ⟨eb,eo+i,none⟩=some (.int .i64 z):=⟨h7.bD C0.out,h7.bD C1.out⟩))
    rename_i hHeld;have cL7:=kA.1;have k8:=Oz (c:=10) (by decide) HO2.out HT4.out.b h12 h7;rw [show (10:Int).toNat=10 from rfl] at k8;have hl10:=L9 f a2 10;rw [HSZ.out] at hl10;generalize f.sub a2 10=xl at k8 hl10;have K8:=ae k8;have D7:=ae (DW.out.drew.trans d7);have HL10:=ae hl10;clear hHeld kA cL cF cb h7 d7 k8 KF HW DW hl10
    go_wp2_with fail
    refine K8.out.mono ?_;clear K8;rintro e w8 ⟨d8,⟨h0,_⟩|⟨_,u,rfl,h8⟩⟩
    ·exact absurd (show lz 10=0 by decide) h0
    obtain ⟨ua,uc,rfl⟩:=h8.oZ.shape;have D8:=ae (D7.out.trans d8);have H8:=ae h8.right;obtain ⟨n8,hn8⟩:∃ n,xl.length=n:=⟨_,rfl⟩
    rw [hn8] at H8 HL10 ⊢;have hmm:((n8:Int) != min 10 (max (1000-(a2:Int)) 0))=false:=by have:=HL10.out;simp;omega
    have h13:a2+n8≤122880:=by have:=HL10.out;omega
    clear h8 d8 D7 hn8
    go_wp2_with fail
    refine ⟨⟨i+1,a2+n8,_,by omega,h13,by simp,by simp,(show aH (eG O2 0 (b,a2+n8)) 0=some (b,a2+n8) by unfold eG;rw [ki,if_pos rfl]),D8.out,H8.out⟩,?_⟩;simp [Proofs.intOf];omega
  ·have hout:(¬ (i:Int)<(len0:Int))∨((i:Int)<(len0:Int)∧¬ (i:Int)<(len1:Int))∨((i:Int)<(len0:Int)∧(i:Int)<(len1:Int)∧¬ (i:Int)<30):=by omega
   clear hlt hi ha hk;rcases hout with ho|⟨ho1,ho2⟩|⟨ho1,ho2,ho3⟩
   all_goals
    go_wp2_with fail
    exact HQ.out _ _ ⟨rfl,HS.out.right,DS.out⟩
end Go.Cl
