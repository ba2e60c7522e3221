/- Part of the proof that the laws answer true for every input. -/
import Derived.Test.YtiabbjolepnjkaaGreatPSaA26
set_option linter.unusedSimpArgs false
set_option linter.unnecessarySimpa false
set_option linter.unusedVariables false
set_option maxRecDepth 100000
set_option maxHeartbeats 40000000
namespace Go.Proofs.YtiabbjolepnjkaaGreat
open Go.RowKit
attribute [local go_sem ↓] Go.wp_at_zero Go.wp_at_succ
def plcM (s:SysF) (r f t:Int):Int:=if r<0∨s.p.rounds≤r then 2 else if f<0∨s.tn≤f∨t<0∨s.tn≤t then 6 else if f=t then 11 else 0
theorem zgB {s:SysF} {cl:List Int} {r f t:Int} (h:mesE s cl=0):plcE s cl r f t=plcM s r f t:=by unfold plcE;rw[if_pos h];rfl
theorem zcP {A:Nat→Prop} {w:World} {g B:Nat} {s:SysF} {cl:List Int} (x:Int) (h:ScnM A w g s cl) (R1:Row w B 120 [.pointer (some ⟨g,0,none⟩)]):
  Calls Tryz.prog 137 #[x,.pointer (some ⟨B,0,none⟩)] w fun q w'=>q=.returned (.bool (decide (x<0)||decide (s.tn≤x)))∧w'=w:=by
 obtain ⟨ca,cc,sa,sc,ta,tc,xa,xc,a3,c3,fa,fc,mb,R,_,hM,ht,hr,hL⟩:=h.mem;obtain ⟨hg,hgd,hlen,hfew⟩:=h.dat
 have g7:=R.zc 7 rfl;have lg:=R.lt;have p0:=R1.zc 0 rfl;have lp:=R1.lt;obtain ⟨n,hn⟩:=zn s.tn;rw[←hn]at g7 ⊢;clear hn R R1 hM ht hr hL hg hgd hlen hfew h;by_cases h0:x<0
 ·have d0:decide (x<0)=true:=decide_eq_true h0;rw[d0,Bool.true_or];clear h0;go_enter Tryz.func137,Tryz.ntmps137;go_wp2;go_ret;exact ⟨rfl,rfl⟩
 ·have d0:decide (x<0)=false:=decide_eq_false h0;rw[d0,Bool.false_or];clear h0;go_enter Tryz.func137,Tryz.ntmps137;go_wp2;go_ret;exact ⟨rfl,rfl⟩
theorem zcD {A:Nat→Prop} {w:World} {g:Nat} {s:SysF} {cl:List Int} (r f t:Int) (h:ScnM A w g s cl):
  Calls Tryz.prog 100 #[.pointer (some ⟨g,0,none⟩),.agg #[r,f,t]] w (Post w fun _ q=>q=.int .i64 (plcM s r f t)):=by
 have HQ:Hid (plcM s r f t=if r<0∨s.p.rounds≤r then 2 else if f<0∨s.tn≤f∨t<0∨s.tn≤t then 6 else if f=t then 11 else 0):=zhd rfl;obtain ⟨q,hq⟩:=zn (plcM s r f t);rw[←hq]at HQ ⊢;have HS:=zhd h;have KO:Hid (∀(W:World) (x:Int),ScnM A W g s cl→Row W w.heap.size 120 [.pointer (some ⟨g,0,none⟩)]→Calls Tryz.prog 137 #[x,.pointer (some ⟨w.heap.size,0,none⟩)] W fun q w'=>q=.returned (.bool (decide (x<0)||decide (s.tn≤x)))∧w'=W):=zhd fun W x hS hR=>zcP x hS hR;obtain ⟨ca,cc,sa,sc,ta,tc,xa,xc,a3,c3,fa,fc,mb,R,_,hM,ht,hr,hL⟩:=h.mem;obtain ⟨hg,hgd,hlen,hfew⟩:=h.dat
 have ex:=zh (ze w (.cells #[.pointer (some ⟨g,0,none⟩)] 120)) (.cells #[r,f,t] 68);have R0:=(zi w [.pointer (some ⟨g,0,none⟩)] 120).alloc (.cells #[r,f,t] 68);have R1:=zi (w.alloc (.cells #[.pointer (some ⟨g,0,none⟩)] 120)) [r,f,t] 68;rw[World.size_alloc]at R1;have RG:=R.ext ex;obtain ⟨K,hK⟩:=zn s.p.rounds;obtain ⟨n,hn⟩:=zn s.tn;rw[←hK]at HQ RG;rw[←hn]at HQ KO;have HX:=zhd ex;have HEX:=zhd (fun n=>zb ex (za _ _ n));have HB0:Hid True:=zhd trivial;clear R hM ht hr hL hg hgd hlen hfew h hK hn hq ex;go_enter Tryz.func100,Tryz.ntmps100;go_upto_region 2 with fail;obtain ⟨w1,hw1⟩:=zn (((w.alloc (.cells #[.pointer (some ⟨g,0,none⟩)] 120)).alloc (.cells #[r,f,t] 68)));rw[←hw1]at RG R0 R1 HX HEX ⊢;have g6:=RG.zc 6 rfl;have lg:=RG.lt;have p0:=R1.zc 0 rfl;have p1:=R1.zc 1 rfl;have p2:=R1.zc 2 rfl;have lp:=R1.lt;have q0:=R0.zc 0 rfl;have lq:=R0.lt;clear hw1 RG;by_cases c0:r<0
 case pos=>
  have b0:decide (r<0)=true:=decide_eq_true c0;have RE:Hid (q=2):=zhd (by rw[HQ.out,if_pos (Or.inl c0)]);clear HQ KO;clear c0;go_quiet (fail);go_wp2;go_ret;exact .mk (HEX.out _) (zq RE.out.symm)
 have b0:decide (r<0)=false:=decide_eq_false c0;by_cases c1:K≤r
 case pos=>
  have b1:decide (K≤r)=true:=decide_eq_true c1;have RE:Hid (q=2):=zhd (by rw[HQ.out,if_pos (Or.inr c1)]);clear HQ KO;clear c0 c1;go_quiet (fail);go_wp2;go_ret;exact .mk (HEX.out _) (zq RE.out.symm)
 have b1:decide (K≤r)=false:=decide_eq_false c1;have HQ2:Hid (q=if f<0∨n≤f∨t<0∨n≤t then 6 else if f=t then 11 else 0):=zhd (by rw[HQ.out,if_neg (fun h=>by rcases h with h | h;exact c0 h;exact c1 h)]);clear HQ c0 c1;go_quiet (fail);refine zM fun w2 hq2=>?_;have ex2:=zb HX.out hq2.ext;have S2:=HS.out.ext ex2;have R02:=R0.ext hq2.ext;have R12:=R1.ext hq2.ext;have KO1:=zhd (KO.out w2 f S2 R02);have p0:=R12.zc 0 rfl;have p1:=R12.zc 1 rfl;have p2:=R12.zc 2 rfl;have lp:=R12.lt;have q0:=R02.zc 0 rfl;have lq:=R02.lt;clear hq2 b0 b1;by_cases c2:f<0∨n≤f
 case pos=>
  have d2:(decide (f<0)||decide (n≤f))=true:=by rw[Bool.or_eq_true,decide_eq_true_iff,decide_eq_true_iff];exact c2
  have RE:Hid (q=6):=zhd (by rw[HQ2.out,if_pos (by omega)]);rw[d2]at KO1;clear HQ2 c2 KO d2;go_wp2_with fail;refine KO1.out.mono ?_;rintro _ _ ⟨rfl,rfl⟩;go_wp2;go_ret;exact .mk ex2 (zq RE.out.symm)
 have d2:(decide (f<0)||decide (n≤f))=false:=by rw[Bool.or_eq_false_iff,decide_eq_false_iff_not,decide_eq_false_iff_not];exact ⟨fun h=>c2 (.inl h),fun h=>c2 (.inr h)⟩
 rw[d2]at KO1;have KO2:=zhd (KO.out w2 t S2 R02);clear KO d2;go_wp2_with fail;refine KO1.out.mono ?_;rintro _ _ ⟨rfl,rfl⟩;by_cases c3:t<0∨n≤t
 case pos=>
  have d3:(decide (t<0)||decide (n≤t))=true:=by rw[Bool.or_eq_true,decide_eq_true_iff,decide_eq_true_iff];exact c3
  have RE:Hid (q=6):=zhd (by rw[HQ2.out,if_pos (by omega)]);rw[d3]at KO2;clear HQ2 c2 c3 d3 KO1;go_wp2_with fail;refine KO2.out.mono ?_;rintro _ _ ⟨rfl,rfl⟩;go_wp2;go_ret;exact .mk ex2 (zq RE.out.symm)
 have d3:(decide (t<0)||decide (n≤t))=false:=by rw[Bool.or_eq_false_iff,decide_eq_false_iff_not,decide_eq_false_iff_not];exact ⟨fun h=>c3 (.inl h),fun h=>c3 (.inr h)⟩
 rw[d3]at KO2;have HQ3:Hid (q=if f=t then 11 else 0):=zhd (by rw[HQ2.out,if_neg (by omega)]);clear HQ2 c2 c3 d3 KO1;go_wp2_with fail;refine KO2.out.mono ?_;rintro _ _ ⟨rfl,rfl⟩;by_cases c4:f=t
 case pos=>
  have d4:(f==t)=true:=by rw[beq_iff_eq];exact c4
  have RE:Hid (q=11):=zhd (by rw[HQ3.out,if_pos c4]);clear HQ3 c4 KO2;go_wp2;go_ret;exact .mk ex2 (zq RE.out.symm)
 have d4:(f==t)=false:=by rw[beq_eq_false_iff_ne];exact c4
 have RE:Hid (q=0):=zhd (by rw[HQ3.out,if_neg c4]);clear HQ3 c4 KO2;go_wp2;go_ret;exact .mk ex2 (zq RE.out.symm)
theorem Y7 {A:Nat→Prop} {w:World} {g:Nat} {s:SysF} {cl:List Int} {r f t c:Nat} (h:ScnM A w g s cl) (hc':c<mN cl):
  Calls Tryz.prog 73 #[.pointer (some ⟨g,0,none⟩),.agg #[r,f,t],c] w (Post w fun _ q=>q=.bool (sndB s.tab cl r f c)):=by
 obtain ⟨hu,_⟩:=h.dat.used.first hc';obtain ⟨ca,cc,sa,sc,ta,tc,xa,xc,a3,c3,fa,fc,mb,R,_,hM,ht,hr,hL⟩:=h.mem;obtain ⟨hg,hgd,hlen,hfew⟩:=h.dat
 obtain ⟨_,_,hee,tad,_⟩:=ht.form2;cases hee;obtain ⟨i0,hi,hz⟩:=zK zQ;have HQ:=zhd (zJ Tryz.underlying30 hi hz tad);have HTB:=zhd hg.tab;have HR:Hid (sndB s.tab cl r f c=(decide (prcT s.tab (fclN cl c)=f)&&decide (rndT s.tab (fclN cl c)=r))):=zhd rfl;obtain ⟨b,hb⟩:=zn (sndB s.tab cl r f c);rw[←hb]at HR ⊢;have qc:=hL.idx (k:=c) (by rw[qA];exact hc');have cc':=hL.cellN (k:=c) (by rw[qA];exact hc');rw[zbG hc']at cc';obtain ⟨u,huu⟩:=zn (fclN cl c);rw[←huu]at HR hu cc';obtain ⟨m,hmx⟩:=zn (mN cl);rw[←hmx]at qc R;have uq:=HQ.out u hu;obtain ⟨f0,_⟩:=xK HTB.out hu;obtain ⟨f1,_⟩:=yO HTB.out hu;have hcu:=ht.nums (k:=u) hu (by decide);obtain ⟨y,hy⟩:=zn (nthL s.tab u);rw[←hy]at hcu f0 f1;obtain ⟨pu,hpu⟩:∃p,p=prcT s.tab u:=⟨_,rfl⟩;obtain ⟨ru,hru⟩:=zn (rndT s.tab u);rw[←hpu,←hru]at HR;rw[←hpu]at f0;rw[←hru]at f1;have HU0:=zhd f0;have HU1:=zhd f1;have ex:=ze w (.cells #[r,f,t] 68);have R1:=zi w [r,f,t] 68;have R0:=R.ext ex;have HCU:=zhd hcu;have HCC:=zhd cc';clear hM ht hr hL hg hgd hlen hfew h tad hi hz HTB hc' hb huu hy hpu hru f0 f1 HQ hu hcu cc' R hmx;go_enter Tryz.func73,Tryz.ntmps73;go_upto_region 1 with fail;obtain ⟨W0,hW0⟩:=zn (w.alloc (.cells #[r,f,t] 68));obtain ⟨B1,hB1⟩:=zn w.heap.size;rw[←hW0]at R0 R1 ex ⊢;rw[←hB1]at R1 ⊢;have HEX:=zhd ex;have KEEP:Hid (∀w',Below W0.heap.size W0 w'→(fun w':World=>w'.cell? ⟨g,7,none⟩=some (.int .i64 s.tn)∧w'.cell? ⟨g,8,none⟩=some (.slice ta s.tab.length tc)∧w'.cell? ⟨g,11,none⟩=some (.slice fa m fc)∧w'.cell? (adr fa c)=some (.int .i64 u)∧w'.cell? (adr ta (u * 8))=some (.int .i64 (nth y 0))∧w'.cell? ⟨(adr ta (u * 8)).block,(adr ta (u * 8)).off+1,none⟩=some (.int .i64 (nth y 1))∧w'.cell? ⟨(adr ta (u * 8)).block,(adr ta (u * 8)).off+2,none⟩=some (.int .i64 (nth y 2))∧w'.cell? ⟨(adr ta (u * 8)).block,(adr ta (u * 8)).off+3,none⟩=some (.int .i64 (nth y 3))∧w'.cell? ⟨(adr ta (u * 8)).block,(adr ta (u * 8)).off+4,none⟩=some (.int .i64 (nth y 4))∧w'.cell? ⟨(adr ta (u * 8)).block,(adr ta (u * 8)).off+5,none⟩=some (.int .i64 (nth y 5))∧w'.cell? ⟨(adr ta (u * 8)).block,(adr ta (u * 8)).off+6,none⟩=some (.int .i64 (nth y 6))∧w'.cell? ⟨(adr ta (u * 8)).block,(adr ta (u * 8)).off+7,none⟩=some (.int .i64 (nth y 7))) w'):=zhd fun w' hw=>⟨(R0.ext hw).zc 7 rfl,(R0.ext hw).zc 8 rfl,(R0.ext hw).zc 11 rfl,zm HCC.out (zb HEX.out hw),zm HCU.out.1 (zb HEX.out hw),zm (HCU.out.2 1 (by decide)) (zb HEX.out hw),zm (HCU.out.2 2 (by decide)) (zb HEX.out hw),zm (HCU.out.2 3 (by decide)) (zb HEX.out hw),zm (HCU.out.2 4 (by decide)) (zb HEX.out hw),zm (HCU.out.2 5 (by decide)) (zb HEX.out hw),zm (HCU.out.2 6 (by decide)) (zb HEX.out hw),zm (HCU.out.2 7 (by decide)) (zb HEX.out hw)⟩;have RC:Hid (∀w',Below W0.heap.size W0 w'→w'.cell? ⟨B1,0,none⟩=some (.int .i64 r)∧w'.cell? ⟨B1,1,none⟩=some (.int .i64 f)∧B1<w'.heap.size):=zhd fun w' hw=>⟨(R1.ext hw).zc 0 rfl,(R1.ext hw).zc 1 rfl,(R1.ext hw).lt⟩;clear R0 R1 ex hW0 hB1 HCU HCC;have y1:Below W0.heap.size W0 W0.drew:=za W0.heap.size W0 1;refine zF (fun w':World=>w'.cell? ⟨g,7,none⟩=some (.int .i64 s.tn)∧w'.cell? ⟨g,8,none⟩=some (.slice ta s.tab.length tc)∧w'.cell? ⟨g,11,none⟩=some (.slice fa m fc)∧w'.cell? (adr fa c)=some (.int .i64 u)∧w'.cell? (adr ta (u * 8))=some (.int .i64 (nth y 0))∧w'.cell? ⟨(adr ta (u * 8)).block,(adr ta (u * 8)).off+1,none⟩=some (.int .i64 (nth y 1))∧w'.cell? ⟨(adr ta (u * 8)).block,(adr ta (u * 8)).off+2,none⟩=some (.int .i64 (nth y 2))∧w'.cell? ⟨(adr ta (u * 8)).block,(adr ta (u * 8)).off+3,none⟩=some (.int .i64 (nth y 3))∧w'.cell? ⟨(adr ta (u * 8)).block,(adr ta (u * 8)).off+4,none⟩=some (.int .i64 (nth y 4))∧w'.cell? ⟨(adr ta (u * 8)).block,(adr ta (u * 8)).off+5,none⟩=some (.int .i64 (nth y 5))∧w'.cell? ⟨(adr ta (u * 8)).block,(adr ta (u * 8)).off+6,none⟩=some (.int .i64 (nth y 6))∧w'.cell? ⟨(adr ta (u * 8)).block,(adr ta (u * 8)).off+7,none⟩=some (.int .i64 (nth y 7))) (fun i=>false) (by kernel_rfl) ?_ (fun hHeld=>?_)
 ·exact KEEP.out _ y1
 refine zt 0 hHeld ?_;refine zt 1 hHeld ?_;refine zt 2 hHeld ?_;refine zt 3 hHeld ?_;refine zt 4 hHeld ?_;refine zt 5 hHeld ?_;refine zt 6 hHeld ?_;refine zt 7 hHeld ?_;refine zt 8 hHeld ?_;refine zt 9 hHeld ?_;refine zt 10 hHeld ?_;refine zt 11 hHeld ?_;refine zt 12 hHeld ?_;refine zt 13 hHeld ?_;refine zt 14 hHeld ?_;refine zo 15 (fun K hK=>?_);go_simp;refine zk hK (KEEP.out _ (zr (ze W0 (.cells #[.int .i64 0,.int .i64 0,.int .i64 0,.int .i64 0,.int .i64 0,.int .i64 0,.int .i64 0,.int .i64 0] 65)) 1)) (fun hHeld=>?_);clear hK K;refine zo 16 (fun K hK=>?_);go_simp;refine zk hK (KEEP.out _ (zr (ze W0 (.cells #[nth y 0,nth y 1,nth y 2,nth y 3,nth y 4,nth y 5,nth y 6,nth y 7] 65)) 1)) (fun hHeld=>?_);clear hK K;refine zy (by kernel_rfl) ?_ _;have RV:=zi W0 [nth y 0,nth y 1,nth y 2,nth y 3,nth y 4,nth y 5,nth y 6,nth y 7] 65;have e2:=zr (ze W0 (.cells #[nth y 0,nth y 1,nth y 2,nth y 3,nth y 4,nth y 5,nth y 6,nth y 7] 65)) 1;have RV2:=RV.ext (za _ _ 1);obtain ⟨W2,hW2⟩:=zn ((W0.alloc (.cells #[nth y 0,nth y 1,nth y 2,nth y 3,nth y 4,nth y 5,nth y 6,nth y 7] 65)).drewN 1);have hW3:(W0.alloc (.cells #[nth y 0,nth y 1,nth y 2,nth y 3,nth y 4,nth y 5,nth y 6,nth y 7] 65)).drew=W2:=hW2.symm;rw[←hW2]at e2 RV2;rw[hW3];have u0:=RV2.zc 0 rfl;have u1:=RV2.zc 1 rfl;rw[HU0.out]at u0;rw[HU1.out]at u1;have lv:=RV2.lt;obtain ⟨p0,p1,l1⟩:=RC.out W2 e2;have HE:=zhd (zb HEX.out e2);clear hHeld hW2 hW3 RV RV2 RC KEEP e2 HEX;by_cases hp:pu=f
 case neg=>
  have d1:((pu:Int)==(f:Int))=false:=by rw[beq_eq_false_iff_ne];omega
  have RE:Hid (b=false):=zhd (by rw[HR.out,decide_eq_false hp];rfl);clear HR hp;go_wp2;go_ret;exact .mk HE.out (zz RE.out.symm)
 have d1:((pu:Int)==(f:Int))=true:=by rw[hp];simp
 have RE:Hid (b=((ru:Int)==(r:Int))):=zhd (by rw[HR.out,decide_eq_true hp,Bool.true_and,Bool.eq_iff_iff,decide_eq_true_iff,beq_iff_eq];omega);clear HR hp;go_wp2;go_ret;exact .mk HE.out (zz RE.out.symm)
theorem zhf {T:List (List Int)} {u w:Nat} {b:Int} {z:List Int} (hz:(nthL T u).set (3+prcT T w) b=z):(z∈T∧repT T u w b=((idxV T z:Nat):Int))∨(z∉T∧repT T u w b= -1):=by
 unfold repT;rw[hz];by_cases h:z∈T
 ·left;exact ⟨h,by unfold indV;rw[if_pos h]⟩
 ·right;exact ⟨h,by unfold indV;rw[if_neg h]⟩
theorem Qk {A:Nat→Prop} {w:World} {g:Nat} {s:SysF} {cl:List Int} {r f t a b:Nat} (h:ScnM A w g s cl) (ha:a<s.tab.length) (hb:b<s.tab.length) (hpa:prcT s.tab a=f) (hra:rndT s.tab a=r):
  Calls Tryz.prog 107 #[.pointer (some ⟨g,0,none⟩),.agg #[r,f,t],a,b] w (Post w fun _ q=>q=.bool (folP s.tab (nth cl) t a b)):=by
 obtain ⟨ca,cc,sa,sc,ta,tc,xa,xc,a3,c3,fa,fc,mb,R,_,hM,ht,hr,hL⟩:=h.mem;obtain ⟨hg,hgd,hlen,hfew⟩:=h.dat
 obtain ⟨_,_,hee,tad,_⟩:=ht.form2;cases hee;obtain ⟨i0,hi,hz⟩:=zK zQ;have HQ:=zhd (zJ Tryz.underlying30 hi hz tad);have HTB:=zhd hg.tab;have hf5:f<5:=by rw[←hpa];exact (xK HTB.out ha).2.1
 have hr6:r≤6:=by rw[←hra];have:=(yO HTB.out ha).2;have:=hg.K6;omega
 have HTV:=zhd ht;have HTR:Hid (∀k,k<s.tab.length→nth (nthL s.tab k) 0=(prcT s.tab k:Int)∧nth (nthL s.tab k) 1=(rndT s.tab k:Int)∧rndT s.tab k≤6):=zhd fun k hk=>⟨(xK HTB.out hk).1,(yO HTB.out hk).1,by have:=(yO HTB.out hk).2;have:=hg.K6;omega⟩;have HVO0:Hid (∀k,k<s.tab.length→(nthL s.tab k).length=8∧ViewOK ((nthL s.tab k).set (3+prcT s.tab a) (b:Int))):=zhd fun k hk=>⟨xg HTB.out hk,zes (xg HTB.out hk) (zfP HTV.out hk) (WF.small (by omega))⟩;have HRP:Hid (∀k z,(nthL s.tab k).set (3+prcT s.tab a) (b:Int)=z→(z∈s.tab∧repT s.tab k a b=((idxV s.tab z:Nat):Int))∨(z∉s.tab∧repT s.tab k a b= -1)):=zhd fun k z hz=>zhf hz;have HHR:Hid (∀k,k<s.tab.length→(hrsB s.tab k a=true↔nth (nthL s.tab k) (3+f)=(a:Int))∧(hrsB s.tab k a=true→rndT s.tab k=r+1)):=zhd fun k hk=>⟨by rw[←hpa];exact xE,fun hh=>by rw[zbl HTB.out hk ha hh,hra]⟩;rw[hpa]at HVO0 HRP;have HT:Hid (FopTo s.tab (nth cl) t a b s.tab.length→folP s.tab (nth cl) t a b=true):=zhd xb.2;have HN:Hid (∀k,k<s.tab.length→prcT s.tab k=t→hrsB s.tab k a=true→¬(0≤repT s.tab k a b∧nth cl (repT s.tab k a b).toNat=nth cl k)→folP s.tab (nth cl) t a b=false):=zhd fun k=>zgl;obtain ⟨q,hq⟩:=zn (folP s.tab (nth cl) t a b);rw[←hq]at HT HN ⊢;have H0:Hid (FopTo s.tab (nth cl) t a b 0):=zhd fun u hu=>by omega
 have HB:Hid (∀k, -1≤repT s.tab k a b∧repT s.tab k a b<s.tab.length):=zhd fun k=>zaX;have HI:=zhd hr;rw[hlen]at R HI;have HQ3:Hid (∀k,k<s.tab.length→∀W:World,(Instr.indexAt 36 (.slice a3 s.tab.length c3) (.int .i64 k)).run Tryz.prog W=.ok (.pointer (some (adr a3 k))) W):=zhd fun k hk W=>by
  have:=hr.idx (k:=k) (by rw[hlen];exact hk) W;rw[hlen]at this;exact this
 have HC3:Hid (∀k,k<s.tab.length→w.cell? (adr a3 k)=some (.int .i64 (nth cl k))):=zhd fun k hk=>hr.cellN (by rw[hlen];exact hk);obtain ⟨n,hn⟩:=zn s.tab.length;obtain ⟨m,hmx⟩:=zn (mN cl);rw[←hn]at R HQ HTV hfew HQ3 HC3 HTR HVO0 HHR HN HT;rw[←hmx]at R;have HNN:=zhd hn;have HRG:=zhd R;have HM:=zhd hM;have HIX:=zhd (fun B=>xB B 3 hf5);have hgw:=R.lt;have hmw:=hM.lt;have ex:=ze w (.cells #[r,f,t] 68);have RP:=zi w [r,f,t] 68;have g8:=(R.ext ex).zc 8 rfl;have lg:=(R.ext ex).lt;have hfew':n≤120:=hfew;clear hM ht hr hL hg hgd hlen hfew h tad hi hz hq hn hmx hpa hra ha hb R HI HTB;go_enter Tryz.func107,Tryz.ntmps107;go_wp2;clear g8 lg;go_loopw [9,10,11,12,20,52] (fun _ _ _ _ uv _ wr=>∃k:Nat,k≤n∧uv=.int .i64 k∧Hid (FopTo s.tab (nth cl) t a b k)∧Below w.heap.size w wr∧Row wr w.heap.size 68 [r,f,t]) (fun _ _ _ _ uv _ _=>n - (intOf uv).toNat)
 case atStart=>exact ⟨0,Nat.zero_le _,rfl,H0,ex,RP⟩
 case round=>
  clear ex RP;obtain ⟨k,hk,rfl,HF,ex,RP⟩:=hrel;by_cases hlt:k<n
  case neg=>
   have HR:Hid (q=true):=zhd (HT.out (by rw[show n=k by omega];exact HF.out));go_wp2;go_ret;exact .mk ex (zz HR.out.symm)
  have vq:=HQ.out k hlt;have hkt:k<s.tab.length:=by have:=HNN.out;omega
  have hnum:=((show Sl (kFlat 8) A w (.slice ta s.tab.length tc) s.tab by rw[←HNN.out];exact HTV.out).nums (k:=k) hkt (by decide));have hHR:=HHR.out k hlt;have hTR:=HTR.out k hlt;have hVO:=HVO0.out k hlt;have HRPk:=zhd (HRP.out k);have HNX:Hid ((prcT s.tab k=t→hrsB s.tab k a=true→0≤repT s.tab k a b∧nth cl (repT s.tab k a b).toNat=nth cl k)→FopTo s.tab (nth cl) t a b (k+1)):=zhd fun hh=>HF.out.next hh;have HST:=zhd (HN.out k hlt);have HBK:=zhd (HB.out k);obtain ⟨y,hy⟩:=zn (nthL s.tab k);rw[←hy]at hnum hHR hTR hVO HRPk;have HNUM:=zhd hnum;have HHRk:=zhd hHR;have HTRk:=zhd hTR;have HVOk:=zhd hVO;obtain ⟨h1,hh1⟩:=zn (hrsB s.tab k a);obtain ⟨y2,hy2⟩:=zn (repT s.tab k a b);obtain ⟨pu,hpu⟩:∃p,p=prcT s.tab k:=⟨_,rfl⟩;obtain ⟨ru,hru⟩:=zn (rndT s.tab k);rw[←hh1]at HNX HST HHRk;rw[←hy2]at HNX HST HBK HRPk;rw[←hpu]at HNX HST HTRk;rw[←hru]at HHRk HTRk;have u0:=zm HNUM.out.1 ex;have u1:=zm (HNUM.out.2 1 (by decide)) ex;have u2:=zm (HNUM.out.2 2 (by decide)) ex;have u3:=zm (HNUM.out.2 3 (by decide)) ex;have u4:=zm (HNUM.out.2 4 (by decide)) ex;have u5:=zm (HNUM.out.2 5 (by decide)) ex;have u6:=zm (HNUM.out.2 6 (by decide)) ex;have u7:=zm (HNUM.out.2 7 (by decide)) ex;have bv:=World.block_lt_of_cell? _ _ u0;have p0:=RP.zc 0 rfl;have p1:=RP.zc 1 rfl;have p2:=RP.zc 2 rfl;have lp:=RP.lt;have eV:=ze wr (.cells #[nth y 0,nth y 1,nth y 2,nth y 3,nth y 4,nth y 5,nth y 6,nth y 7] 65);have RV:=zi wr [nth y 0,nth y 1,nth y 2,nth y 3,nth y 4,nth y 5,nth y 6,nth y 7] 65;have RPv:=RP.ext eV;have exv:=zb ex eV;have hpw:=RP.lt;clear hnum hHR hTR hVO hy hh1 hy2 hpu hru RP ex HF hkt;go_upto_region 4 with fail;obtain ⟨wv,hwv⟩:=zn (wr.alloc (.cells #[nth y 0,nth y 1,nth y 2,nth y 3,nth y 4,nth y 5,nth y 6,nth y 7] 65));obtain ⟨VB,hVB⟩:=zn wr.heap.size;rw[←hwv]at RV RPv exv ⊢;rw[←hVB]at RV hpw ⊢;have hVw:w.heap.size<VB:=hpw;clear hwv hVB u0 u1 u2 u3 u4 u5 u6 u7 bv vq p0 p1 p2 lp eV;have v0:wv.cell? ⟨VB,0,none⟩=some (.int .i64 (pu:Int)):=by rw[←HTRk.out.1];exact RV.zc 0 rfl
  have v1:wv.cell? ⟨VB,1,none⟩=some (.int .i64 (ru:Int)):=by rw[←HTRk.out.2.1];exact RV.zc 1 rfl
  have RX:Row wv VB 65 (y.map (Value.int .i64)):=by rw[cells8 HVOk.out.1];exact RV
  have vf:wv.cell? ⟨VB,3+f,none⟩=some (.int .i64 (nth y (3+f))):=RX.cell (by rw[List.getElem?_map,get?_nth (by rw[HVOk.out.1];omega)];rfl);have lv:=RV.lt;have p0:=RPv.zc 0 rfl;have p1:=RPv.zc 1 rfl;have p2:=RPv.zc 2 rfl;have lp:=RPv.lt;have xi:=HIX.out VB;have hru6:=HTRk.out.2.2;obtain ⟨hf,hhf⟩:∃x,x=nth y (3+f):=⟨_,rfl⟩;rw[←hhf]at vf HHRk;have HHF:=zhd hhf;clear RV hhf;by_cases e1:ru=r+1
  case neg=>
   have d1:((ru:Int) !=(r:Int)+1)=true:=by rw[bne_iff_ne];omega
   have HF2:=zhd (HNX.out fun hp hh=>absurd (HHRk.out.2 hh) e1);clear HNX HST e1 HHRk;go_wp2;go_roundw
   case rel=>exact ⟨k+1,by omega,by go_num,HF2,exv,RPv⟩
   case measure=>simp[intOf];omega
  have d1:((ru:Int) !=(r:Int)+1)=false:=by rw[bne_eq_false_iff_eq];omega
  by_cases e2:pu=t
  case neg=>
   have d2:((pu:Int) !=(t:Int))=true:=by rw[bne_iff_ne];omega
   have HF2:=zhd (HNX.out fun hp hh=>absurd hp e2);clear HNX HST e1 e2 HHRk;go_wp2;go_roundw
   case rel=>exact ⟨k+1,by omega,by go_num,HF2,exv,RPv⟩
   case measure=>simp[intOf];omega
  have d2:((pu:Int) !=(t:Int))=false:=by simp[e2]
  by_cases e3:hf=(a:Int)
  case neg=>
   have d3:(hf !=(a:Int))=true:=by rw[bne_iff_ne];exact e3
   have HF2:=zhd (HNX.out fun hp hh=>absurd (HHRk.out.1.1 hh) e3);clear HNX HST e1 e2 e3 HHRk;go_wp2;go_roundw
   case rel=>exact ⟨k+1,by omega,by go_num,HF2,exv,RPv⟩
   case measure=>simp[intOf];omega
  have d3:(hf !=(a:Int))=false:=by simp[e3]
  have hh2:=HHRk.out.1.2 e3;have HST2:=zhd (HST.out e2 hh2);have HNX2:=zhd (fun h=>HNX.out fun _ _=>h);have fx:=RX.free (3+f);have RP2:=RPv.grown (zj wv VB (3+f) (.int .i64 b)) (fun e=>by injection e with e;omega);have RX2:=RX.set (3+f) (.int .i64 b);rw[XT HVOk.out.1 hf5,cells8 (show (y.set (3+f) (b:Int)).length=8 by rw[List.length_set];exact HVOk.out.1)]at RX2;have ex2:=exv.setCell (p:=⟨VB,3+f,none⟩) (show w.heap.size≤VB by omega) (.int .i64 b);clear e1 e2 e3 HHRk HNX HST hh2 RX exv RPv HNUM;go_upto_region 6 with fail;clear v0 v1 vf lv p0 p1 p2 lp xi fx d1 d2 d3 hru6;obtain ⟨W2,hW2⟩:=zn (wv.setCell ⟨VB,3+f,none⟩ (.int .i64 b));rw[←hW2]at RP2 RX2 ex2 ⊢;obtain ⟨z,hz⟩:=zn (y.set (3+f) (b:Int));have HVO:=zhd HVOk.out.2;have HRZ:=zhd (HRPk.out z hz.symm);rw[←hz]at RX2 HVO;have HKV:=zhd (yS HVO.out.1);have RG2:=HRG.out.ext ex2;have KEEP:Hid (∀w',Below W2.heap.size W2 w'→(fun w':World=>w'.cell? ⟨g,12,none⟩=some (.map (some mb))∧w'.cell? ⟨VB,0,none⟩=some (.int .i64 (nth z 0))∧w'.cell? ⟨VB,1,none⟩=some (.int .i64 (nth z 1))∧w'.cell? ⟨VB,2,none⟩=some (.int .i64 (nth z 2))∧w'.cell? ⟨VB,3,none⟩=some (.int .i64 (nth z 3))∧w'.cell? ⟨VB,4,none⟩=some (.int .i64 (nth z 4))∧w'.cell? ⟨VB,5,none⟩=some (.int .i64 (nth z 5))∧w'.cell? ⟨VB,6,none⟩=some (.int .i64 (nth z 6))∧w'.cell? ⟨VB,7,none⟩=some (.int .i64 (nth z 7))) w'):=zhd fun w' hw=>⟨(RG2.ext hw).zc 12 rfl,(RX2.ext hw).zc 0 rfl,(RX2.ext hw).zc 1 rfl,(RX2.ext hw).zc 2 rfl,(RX2.ext hw).zc 3 rfl,(RX2.ext hw).zc 4 rfl,(RX2.ext hw).zc 5 rfl,(RX2.ext hw).zc 6 rfl,(RX2.ext hw).zc 7 rfl⟩;have HMP:=zhd ((HM.out.ext ex2).ext (za W2.heap.size W2 1));have HIN:Hid (numM s.tab z=if z∈s.tab then some (.int .i64 (idxV s.tab z:Nat)) else none):=zhd rfl;obtain ⟨W3,hW3⟩:=zn (W2.drewN 1);have hW3':W2.drew=W3:=hW3.symm;have ex3:=zb ex2 (za W2.heap.size W2 1);have RP3:=RP2.ext (za W2.heap.size W2 1);have RG3:=RG2.ext (za W2.heap.size W2 1);rw[←hW3]at ex3 RP3 RG3;have HW3:=zhd hW3';have HEX:=zhd (fun n=>zb ex3 (za W3.heap.size W3 n));have HRP3:=zhd (fun n=>RP3.ext (za W3.heap.size W3 n));have g10:=RG3.zc 10 rfl;have lg3:=RG3.lt;clear hW2 RX2 hz ex2 RP2 RP3 RG2 RG3 hW3 hW3' HVOk HRPk wv;by_cases hin:z∈s.tab
  case neg=>
   have HNM:=zhd (HIN.out.trans (if_neg hin));have HRR:Hid (q=false):=zhd (HST2.out (fun h=>by
    rcases HRZ.out with ⟨h1,_⟩ | ⟨_,h1⟩
    ·exact absurd h1 hin
    ·rw[h1]at h;omega))
   clear hin HIN HST2 HNX2 HRZ;refine zF (fun w':World=>w'.cell? ⟨g,12,none⟩=some (.map (some mb))∧w'.cell? ⟨VB,0,none⟩=some (.int .i64 (nth z 0))∧w'.cell? ⟨VB,1,none⟩=some (.int .i64 (nth z 1))∧w'.cell? ⟨VB,2,none⟩=some (.int .i64 (nth z 2))∧w'.cell? ⟨VB,3,none⟩=some (.int .i64 (nth z 3))∧w'.cell? ⟨VB,4,none⟩=some (.int .i64 (nth z 4))∧w'.cell? ⟨VB,5,none⟩=some (.int .i64 (nth z 5))∧w'.cell? ⟨VB,6,none⟩=some (.int .i64 (nth z 6))∧w'.cell? ⟨VB,7,none⟩=some (.int .i64 (nth z 7))) (fun i=>false) (by kernel_rfl) ?_ (fun hHeld=>?_)
   ·exact KEEP.out _ (za W2.heap.size W2 1)
   refine zt 0 hHeld ?_;refine zt 1 hHeld ?_;refine zt 2 hHeld ?_;refine zt 3 hHeld ?_;refine zt 4 hHeld ?_;refine zo 5 (fun K hK=>?_)
   (refine yW rfl _ _ 134 (by rfl) 3 Tryz.underlying134 (.int .i64 0) (yi _) (by rfl) HMP.out z (by rw[HKV.out];rfl) HVO.out ?_;rw[HNM.out])
   refine zk hK (KEEP.out _ (za W2.heap.size W2 1)) (fun hHeld=>?_);clear hK K;refine zt 6 hHeld ?_;refine zt 7 hHeld ?_;refine zt 8 hHeld ?_;refine zt 9 hHeld ?_;refine zt 10 hHeld ?_;refine zy (by kernel_rfl) ?_ _;rw[HW3.out];clear hHeld KEEP HMP ex3;go_wp2;go_quiet (fail);go_wp2;go_ret;exact .mk (HEX.out _) (zz HRR.out.symm)
  have HNM:=zhd (HIN.out.trans (if_pos hin));have hyz:y2=((idxV s.tab z:Nat):Int):=by
   rcases HRZ.out with ⟨_,h1⟩ | ⟨h1,_⟩
   ·exact h1
   ·exact absurd hin h1
  obtain ⟨i,hii⟩:=zn (idxV s.tab z);rw[←hii]at hyz HNM;subst hyz;have hin':i<n:=by have:=HBK.out.2;have:=HNN.out;omega
  have qi:=HQ3.out i hin';have qk:=HQ3.out k hlt;have ci:=zm (HC3.out i hin') ex3;have ck:=zm (HC3.out k hlt) ex3;have bi:=World.block_lt_of_cell? _ _ ci;have bk:=World.block_lt_of_cell? _ _ ck;obtain ⟨li,hli⟩:∃l,l=nth cl i:=⟨_,rfl⟩;obtain ⟨lk,hlk⟩:∃l,l=nth cl k:=⟨_,rfl⟩;rw[←hli]at ci;rw[←hlk]at ck;have HLI:=zhd hli;have HLK:=zhd hlk;clear hin HIN HRZ hii hli hlk ex3;refine zF (fun w':World=>w'.cell? ⟨g,12,none⟩=some (.map (some mb))∧w'.cell? ⟨VB,0,none⟩=some (.int .i64 (nth z 0))∧w'.cell? ⟨VB,1,none⟩=some (.int .i64 (nth z 1))∧w'.cell? ⟨VB,2,none⟩=some (.int .i64 (nth z 2))∧w'.cell? ⟨VB,3,none⟩=some (.int .i64 (nth z 3))∧w'.cell? ⟨VB,4,none⟩=some (.int .i64 (nth z 4))∧w'.cell? ⟨VB,5,none⟩=some (.int .i64 (nth z 5))∧w'.cell? ⟨VB,6,none⟩=some (.int .i64 (nth z 6))∧w'.cell? ⟨VB,7,none⟩=some (.int .i64 (nth z 7))) (fun i=>false) (by kernel_rfl) ?_ (fun hHeld=>?_)
  ·exact KEEP.out _ (za W2.heap.size W2 1)
  refine zt 0 hHeld ?_;refine zt 1 hHeld ?_;refine zt 2 hHeld ?_;refine zt 3 hHeld ?_;refine zt 4 hHeld ?_;refine zo 5 (fun K hK=>?_)
  (refine yW rfl _ _ 134 (by rfl) 3 Tryz.underlying134 (.int .i64 0) (yi _) (by rfl) HMP.out z (by rw[HKV.out];rfl) HVO.out ?_;rw[HNM.out])
  refine zk hK (KEEP.out _ (za W2.heap.size W2 1)) (fun hHeld=>?_);clear hK K;refine zt 6 hHeld ?_;refine zt 7 hHeld ?_;refine zt 8 hHeld ?_;refine zt 9 hHeld ?_;refine zt 10 hHeld ?_;refine zy (by kernel_rfl) ?_ _;rw[HW3.out];clear hHeld KEEP HMP;by_cases he:li=lk
  ·have d2:(li !=lk)=false:=by simp[he]
   have HF2:=zhd (HNX2.out ⟨by omega,by rw[Int.toNat_natCast,←HLI.out,←HLK.out,he]⟩);clear he HNX2 HST2 HLI HLK HBK;go_wp2;go_quiet (fail);go_wp2;go_roundw
   case rel=>exact ⟨k+1,by omega,by go_num,HF2,HEX.out _,HRP3.out _⟩
   case measure=>simp[intOf];omega
  ·have d2:(li !=lk)=true:=by simp[he]
   have HRR:Hid (q=false):=zhd (HST2.out fun h=>he (by rw[HLI.out,HLK.out];have:=h.2;rwa [Int.toNat_natCast]at this));clear he HNX2 HST2 HLI HLK HBK;go_wp2;go_quiet (fail);go_wp2;go_ret;exact .mk (HEX.out _) (zz HRR.out.symm)
end Go.Proofs.YtiabbjolepnjkaaGreat
namespace Go.Proofs.YtiabbjolepnjkaaGreat
def e52P:ProbD:=⟨2,2,2,[([0,0],[[0,0]],[]),([0,1],[[0,0]],[])],2,[[[2,1,3,0,0,0,0,0],[2,3,3,0,0,0,0,0]]],1⟩
def e52S:SysF:=e52P.full
theorem zdD:buildE e52P=0:=by decide+kernel
theorem zeN:FewP e52P:=⟨by refine ⟨by decide,fun k hk=>?_⟩;match k,hk with | 0,_=>exact ⟨by decide,⟨by decide,by decide⟩,⟨by decide,by decide⟩⟩ | 1,_=>exact ⟨by decide,⟨by decide,by decide⟩,⟨by decide,by decide⟩⟩ | k+2,h=>exact absurd h (by simp[e52P]),by decide+kernel,by decide,fun _=>.inl (by decide+kernel)⟩
theorem zdt:e52S.tab.length=8:=by decide+kernel
end Go.Proofs.YtiabbjolepnjkaaGreat
namespace Go.Proofs.YtiabbjolepnjkaaGreat
open Go.RowKit
attribute [local go_sem ↓] Go.wp_at_zero Go.wp_at_succ
theorem flat25 {n:Nat}:∀{xs:List (List Value)} {j i:Nat},(∀c∈xs,c.length=n)→j<xs.length→i<n→xs.flatten[j * n+i]? =(xs.getD j [])[i]?
 | [],j,i,_,hj,_=>by simp at hj
 | c::xs,0,i,h,_,hi=>by
  have:=h c (by simp);rw[List.flatten_cons,List.getElem?_append_left (by omega)];simp
 | c::xs,j+1,i,h,hj,hi=>by
  have hc:=h c (by simp);have:=flat25 (xs:=xs) (j:=j) (i:=i) (fun d hd=>h d (List.mem_cons_of_mem _ hd)) (by simpa using hj) hi;rw[List.flatten_cons,List.getElem?_append_right (by rw[hc,Nat.add_mul];omega),hc,show (j+1) * n+i - n=j * n+i by rw[Nat.add_mul];omega,this];simp
theorem zch {α:Type} {K:Kd α} {S:Nat→Prop} {w:World} {b:Nat} {e:TypeId} {l:List α} (xs:List (List Value)) (R:Row w b e xs.flatten) (hS:S b) (hl:l.length=xs.length) (hs:∀c∈xs,c.length=K.size) (hm:l.length≤100000) (hr:∀j (h:j<l.length),K.rd S w (xs.getD j []) l[j]):Sl K S w (.slice (some ⟨b,0,none⟩) l.length l.length) l:=by
 refine ⟨_,_,rfl,.inr ⟨b,0,rfl,R.lt,hS⟩,Nat.le_refl _,⟨by unfold maxLen;omega,by omega⟩,fun j hj=>⟨xs.getD j [],fun i hi=>?_,hr j hj⟩⟩;rw[ya,Nat.zero_add];have h1:=flat25 hs (show j<xs.length by omega) hi;cases h2:(xs.getD j [])[i]? with
 | none=>
  rw[List.getElem?_eq_none_iff]at h2;have:=hs (xs.getD j []) (by rw[List.getD_eq_getElem?_getD,List.getElem?_eq_getElem (by omega)];exact List.getElem_mem _);omega
 | some u=>exact R.cell (by rw[h1,h2])
theorem pbuild25 {S:Nat→Prop} {w:World} {vc vs:Value} {p:ProbD} (hc:Sl kCase S w vc p.cs) (hs:Sl (kSl (kFlat 8)) S w vs p.st) (hf:PFew p) (h0:buildE p=0):
  Calls Tryz.prog 61 #[.agg #[p.n,p.ins,p.outs,vc,p.an,vs,p.rounds]] w (Post w fun w' r=>∃v,r=.tuple #[v,.int .i64 0]∧SysV (fun b=>(S b∧b<w.heap.size)∨w.heap.size≤b) w' v p.full):=by
 obtain ⟨h1,h2⟩:=xw h0;obtain ⟨N,hok⟩:=probOK h1;obtain ⟨h3,h4⟩:=hf.small h1 h2;obtain ⟨n,ins,outs,cs,an,st,rounds⟩:=p;obtain ⟨K,hK⟩:∃K:Nat,rounds=K:=⟨rounds.toNat,by have:=hok.r;dsimp only at this;omega⟩;have e1:=hok.n;have e2:=hok.an;dsimp only at e1 e2;subst e1 e2 hK;exact Qa hc.block hs.block hok hf.cp h1 h3 (by dsimp only at h4;omega)
theorem lists25 {S:Nat→Prop} {w:World} {b:Nat} {e:TypeId} {v:Value} {l:List Int} (R:Row w b e [v]) (hS:S b) (h:Ints S w v l):Lists S w (.slice (some ⟨b,0,none⟩) 1 1) [l]:=by
 refine ⟨_,_,rfl,.inr ⟨b,0,rfl,R.lt,hS⟩,Nat.le_refl _,by unfold maxLen;simp,fun j hj=>?_⟩;obtain rfl:j=0:=by simpa using hj
 exact ⟨v,R.zc 0 rfl,h⟩
def mv25:List (List Int):=[[2,1,3,0,0,0,0,0],[2,3,3,0,0,0,0,0]]
theorem zeg {k:Nat} (hk:k<2):mv25.take (k+1)=mv25.take k++[[2,nth [1,3] k,3,0,0,0,0,0]]:=by
 have:k=0∨k=1:=by omega
 rcases this with rfl | rfl<;>rfl
theorem nth13 (k:Nat):WF (nth [1,3] k):=by
 match k with
 | 0=>exact WF.small (by decide)
 | 1=>exact WF.small (by decide)
 | k+2=>exact WF.small (by simp[nth])
theorem yY {w w':World} {e:Ending} {R R':World→Value→Prop} (h:Post w R e w') (hR:∀a b,R a b→R' a b):Post w R' e w':=by
 obtain ⟨v,h1,h2,h3⟩:=h;exact ⟨v,h1,h2,hR _ _ h3⟩
theorem equalQ {S S':Nat→Prop} {w:World} {v1 v2:Value} {l:List Int} (h1:Ints S w v1 l) (h2:Ints S' w v2 l):
  Calls Tryz.prog 27 #[v1,v2] w (Post w fun _ r=>r=.bool true):=(Yt h1 h2).mono fun _ _ h=>by simpa using h
theorem litQ (w:World) (l:List Int) (e:TypeId) (hl:l.length≤65536) (hf:∀x∈l, -1000000000≤x∧x≤1000000000):
  Ints TT (w.alloc (.cells (l.map (Value.int .i64)).toArray e)) (.slice (some ⟨w.heap.size,0,none⟩) l.length l.length) l:=by
 have:=Row.ints (e:=e) (heap_alloc_new w (.cells (l.map (Value.int .i64)).toArray e)) (by unfold maxLen;omega) fun x hx=>WF.small (hf x hx);exact this.mono fun _ _=>trivial
def FewQ (s:SysF):Prop:=FewS s∧s.tab.length≤120
theorem zbr {S:Nat→Prop} {w:World} {v:Value} {s:SysF} (h:SysV S w v s):
  Calls Tryz.prog 15 #[v] w (Post w fun _ r=>Tells (FewQ s) r):=by
 have KF:Hid (∀W,Below w.heap.size w W→Calls Tryz.prog 44 #[v] W (Post W fun _ r=>Tells (FewS s) r)):=zhd fun W hW=>zcM (h.ext hW);obtain ⟨vc,vs,vt,vx,rfl,hc,hs,ht,hx⟩:=h;obtain ⟨ca,cc,rfl,_⟩:=hc.form;obtain ⟨sa,sc,rfl,_⟩:=hs.form;obtain ⟨ta,tc,rfl,_⟩:=ht.form;obtain ⟨xa,xc,rfl,xad,_⟩:=hx.form2;obtain ⟨ex,R0⟩:=zb1 w [s.p.n,s.p.ins,s.p.outs,.slice ca s.p.cs.length cc,s.p.an,.slice sa s.p.st.length sc,s.p.rounds,s.tn,.slice ta s.tab.length tc,.slice xa s.ex.length xc] 35;clear hc hs ht hx;go_enter Tryz.func15,Tryz.ntmps15;obtain ⟨t0,t1,t2,t3,t4,t5,t6,t7,t8,t9⟩:=R0.ten;have l0:=R0.lt;go_wp2_with fail;refine (KF.out _ ex).mono ?_;rintro _ w1 ⟨_,rfl,hb,b0,rfl,hb0⟩;replace R0:=R0.ext hb;replace ex:=zb ex hb;clear hb KF t0 t1 t2 t3 t4 t5 t6 t7 t8 t9 l0;obtain ⟨t0,t1,t2,t3,t4,t5,t6,t7,t8,t9⟩:=R0.ten;have l0:=R0.lt;cases b0 with
 | false=>
  clear hb0;go_wp2;go_ret;exact .mk ex ⟨false,rfl,fun h=>by cases h⟩
 | true=>
  have hfw:=zhd (hb0 rfl);clear hb0;by_cases hl:s.tab.length≤120
  ·have d1:decide ((s.tab.length:Int)≤120)=true:=decide_eq_true (by omega);have d2:decide (s.tab.length≤120)=true:=decide_eq_true hl;have HF:Hid (FewQ s):=zhd ⟨hfw.out,hl⟩;clear hl hfw;go_wp2;go_ret;exact .mk ex ⟨_,rfl,fun _=>HF.out⟩
  ·have d1:decide ((s.tab.length:Int)≤120)=false:=decide_eq_false (by omega);have d2:decide (s.tab.length≤120)=false:=decide_eq_false hl;clear hl hfw;go_wp2;go_ret;exact .mk ex ⟨_,rfl,fun h=>by simp_all⟩
end Go.Proofs.YtiabbjolepnjkaaGreat
namespace Go.Proofs.YtiabbjolepnjkaaGreat
theorem zfE {l:List Nat} {x:Nat} (h:x∈l) (hx:0<x):0<l.sum:=by
 induction l with
 | nil=>cases h
 | cons a l ih=>
  rw[List.sum_cons];rcases List.mem_cons.1 h with e | h
  ·omega
  ·have:=ih h;omega
theorem zbm {n:Int} {st:Moves} (hA:MovesOK n st):∀k q,q<st.length→0<cntW st k q
 | 0,_,_=>Nat.one_pos
 | k+1,q,hq=>by
  obtain ⟨hl,hm⟩:=hA q hq;have h0:=hm 0 hl;unfold cntW;refine zfE (List.mem_map.2 ⟨nthL (nthM st q) 0,ye hl,rfl⟩) (zbm hA k _ (by omega))
theorem zgo {s:SysF} {N K:Nat} (hg:GoodS s N K):0<s.tab.length:=by
 have h1:=hg.pok.c1.1;have h2:=zbm hg.pok.mv s.p.rounds.toNat 0 (by have:=hg.pok.s1.1;omega);have h3:0<s.ex.length:=by
  rw[hg.num];exact Nat.mul_pos (by omega) h2
 obtain ⟨c,hx⟩:=hg.ex 0 h3;obtain ⟨u,hu,_⟩:=hx.at' 0 (Nat.zero_le _) 0 (by have:=hg.pok.n1.1;omega);omega
end Go.Proofs.YtiabbjolepnjkaaGreat
