/- Part of the proof that the laws answer true for every input. -/
import Derived.Test.YtaijafjfafbcfaaGreatPXb48
import Derived.Test.YtaijafjfafbcfaaGreatPXb42
import Derived.Deep.OwnRows
set_option linter.unusedSimpArgs false
set_option linter.unnecessarySimpa false
set_option linter.unusedVariables false
set_option maxRecDepth 100000
set_option maxHeartbeats 40000000
namespace Go.Proofs.YtaijafjfafbcfaaGreat
open Go.RowKit
attribute [local go_sem ↓] Go.wp_at_zero Go.wp_at_succ
theorem tmod25 (a b:Nat):Int.tmod (a:Int) (b:Int)=((a % b:Nat):Int):=rfl
theorem wrap25 (a:Nat) (h:a<256):IntKind.i64.wrap (a:Int)=a:=by simp[IntKind.wrap,IntKind.bits,IntKind.signed];omega
theorem thE_ok25 {s:SysF} {x y:Nat} (hv:verE s=0) (hx:x<s.ex.length) (hy:y<s.ex.length):thE s x y=0:=by
 unfold thE;rw[if_pos hv,if_neg (by omega)]
theorem dstA_nat {s:SysF} {x y:Nat} (h:thE s x y=0):dstA s x y=if 0≤dstV s y x then dstV s y x else 0:=by
 unfold dstA;rw[Int.toNat_natCast,Int.toNat_natCast];simp[h]
theorem dstB_nat {s:SysF} {x y:Nat} (h:thE s x y=0):dstB s x y=decide (0≤dstV s y x):=by
 unfold dstB;rw[Int.toNat_natCast,Int.toNat_natCast];simp[h]
structure MeaF (one two three four:Bool) (ef fe fg eg:Int) (same:Bool) (lnk:Int):Prop where
 e2:two=one
 ef2:fe=ef
 nn:0≤ef∧ef<4097
 fgb:0≤fg∧fg<4097
 self:(one=true∧ef=0)↔same=true
 link:same=false→((one=true∧ef=1)↔lnk≠0)
 tri:one=true→three=true→four=true∧eg≤ef+fg
theorem measures25 {s:SysF} {e f g:Nat} (hv:verE s=0) (hl:s.ex.length≤4096) (he:e<s.ex.length) (hf:f<s.ex.length) (hg:g<s.ex.length):
  MeaF (dstB s e f) (dstB s f e) (dstB s f g) (dstB s e g) (dstA s e f) (dstA s f e) (dstA s f g) (dstA s e g) (decide (e=f)) (lnkA s e f):=by
 have t1:=thE_ok25 hv he hf
 have t2:=thE_ok25 hv hf he
 have t3:=thE_ok25 hv hf hg
 have t4:=thE_ok25 hv he hg
 rw[dstB_nat t1,dstB_nat t2,dstB_nat t3,dstB_nat t4,dstA_nat t1,dstA_nat t2,dstA_nat t3,dstA_nat t4]
 have hs:=dst_symm (s:=s) he hf
 have b1:=dst_bound (s:=s) f he
 have b2:=dst_bound (s:=s) g hf
 have hlk:lnkA s e f=(byN s e f:Int):=by unfold lnkA;rw[if_pos t1,Int.toNat_natCast,Int.toNat_natCast]
 refine ⟨by rw[hs],by rw[hs],?_,?_,?_,?_,?_⟩
 ·split<;>omega
 ·split<;>omega
 ·constructor
  ·rintro ⟨h1,h2⟩
   have h1':=of_decide_eq_true h1
   rw[if_pos h1']at h2
   exact decide_eq_true (dst_zero he h2)
  ·intro h
   have h':=of_decide_eq_true h
   subst h'
   have:=dst_self s he
   exact ⟨decide_eq_true (by omega),by rw[this];rfl⟩
 ·intro h
  have hne:=of_decide_eq_false h
  rw[hlk]
  have h1:=dst_one (s:=s) he hf hne
  constructor
  ·rintro ⟨h2,h3⟩
   have h2':=of_decide_eq_true h2
   rw[if_pos h2']at h3
   have:=h1.1 h3
   omega
  ·intro h2
   have h3:=h1.2 (by omega)
   exact ⟨decide_eq_true (by omega),by rw[h3];rfl⟩
 ·intro h1 h2
  have h1':=of_decide_eq_true h1
  have h2':=of_decide_eq_true h2
  have h3:=dst_tri he hf h1' h2'
  exact ⟨decide_eq_true h3.1,by rw[if_pos h1',if_pos h2',if_pos h3.1];exact h3.2⟩
theorem walkIndistinctMeasures {S:Nat→Prop} {w:World} {vc vs:Value} {p:ProbD} {x y z:Nat} (hc:Sl kCase S w vc p.cs) (hs:Sl (kSl (kFlat 8)) S w vs p.st) (hx:x<256) (hy:y<256) (hz:z<256):
  Calls Tryz.prog 8 #[.agg #[.int .i64 p.n,.int .i64 p.ins,.int .i64 p.outs,vc,.int .i64 p.an,vs,.int .i64 p.rounds],.agg #[.int .u8 x,.int .u8 y,.int .u8 z]] w (Post w fun _ r=>r=.bool true):=by
 obtain ⟨ca,cc,rfl,_⟩:=hc.form
 obtain ⟨sa,sc,rfl,_⟩:=hs.form
 have KSY:Hid (∀W,Below w.heap.size w W→Calls Tryz.prog 26 #[.agg #[.int .i64 p.n,.int .i64 p.ins,.int .i64 p.outs,.slice ca p.cs.length cc,.int .i64 p.an,.slice sa p.st.length sc,.int .i64 p.rounds]] W (Post W (SysR p))):=Lib.hid fun W hW=>system_calls (hc.ext hW) (hs.ext hW)
 have ex:=ext_alloc' (ext_alloc w (.cells #[.int .i64 p.n,.int .i64 p.ins,.int .i64 p.outs,.slice ca p.cs.length cc,.int .i64 p.an,.slice sa p.st.length sc,.int .i64 p.rounds] 29)) (.cells #[.int .u8 x,.int .u8 y,.int .u8 z] 73)
 have RP:=(row_new w [.int .i64 p.n,.int .i64 p.ins,.int .i64 p.outs,.slice ca p.cs.length cc,.int .i64 p.an,.slice sa p.st.length sc,.int .i64 p.rounds] 29).alloc (.cells #[.int .u8 x,.int .u8 y,.int .u8 z] 73)
 have R1:=row_new (w.alloc (.cells #[.int .i64 p.n,.int .i64 p.ins,.int .i64 p.outs,.slice ca p.cs.length cc,.int .i64 p.an,.slice sa p.st.length sc,.int .i64 p.rounds] 29)) [.int .u8 x,.int .u8 y,.int .u8 z] 73
 simp only[World.size_alloc]at R1
 clear hc hs
 have tRP0:=RP.cell (j:=0) rfl
 have tRP1:=RP.cell (j:=1) rfl
 have tRP2:=RP.cell (j:=2) rfl
 have tRP3:=RP.cell (j:=3) rfl
 have tRP4:=RP.cell (j:=4) rfl
 have tRP5:=RP.cell (j:=5) rfl
 have tRP6:=RP.cell (j:=6) rfl
 have lRP:=RP.lt
 have tR10:=R1.cell (j:=0) rfl
 have tR11:=R1.cell (j:=1) rfl
 have tR12:=R1.cell (j:=2) rfl
 have lR1:=R1.lt
 go_enter Tryz.func8,Tryz.ntmps8
 go_wp2_with fail
 refine (KSY.out _ ex).mono ?_
 rintro _ w1 ⟨_,rfl,hb,v,b0,s,rfl,hsy,hgd⟩
 replace RP:=RP.ext hb
 replace R1:=R1.ext hb
 replace ex:=ext_trans ex hb
 clear hb KSY tRP0 tRP1 tRP2 tRP3 tRP4 tRP5 tRP6 lRP tR10 tR11 tR12 lR1
 have h:=hsy
 obtain ⟨vc2,vs2,vt2,vx2,rfl,hc,hs,ht,hx⟩:=h
 obtain ⟨ca2,cc2,rfl,_⟩:=hc.form
 obtain ⟨sa2,sc2,rfl,_⟩:=hs.form
 obtain ⟨ta2,tc2,rfl,_⟩:=ht.form
 obtain ⟨xa2,xc2,rfl,_⟩:=hx.form2
 obtain ⟨n,hnn⟩:∃n,n=s.ex.length:=⟨_,rfl⟩
 rw[←hnn]at hsy hgd ⊢
 have e1:=ext_alloc w1 (.cells #[.int .i64 s.p.n,.int .i64 s.p.ins,.int .i64 s.p.outs,.slice ca2 s.p.cs.length cc2,.int .i64 s.p.an,.slice sa2 s.p.st.length sc2,.int .i64 s.p.rounds,.int .i64 s.tn,.slice ta2 s.tab.length tc2,.slice xa2 n xc2] 35)
 have R5:=row_new w1 [.int .i64 s.p.n,.int .i64 s.p.ins,.int .i64 s.p.outs,.slice ca2 s.p.cs.length cc2,.int .i64 s.p.an,.slice sa2 s.p.st.length sc2,.int .i64 s.p.rounds,.int .i64 s.tn,.slice ta2 s.tab.length tc2,.slice xa2 n xc2] 35
 have HSY:=Lib.hid (hsy.ext e1)
 replace ex:=ext_alloc' ex (.cells #[.int .i64 s.p.n,.int .i64 s.p.ins,.int .i64 s.p.outs,.slice ca2 s.p.cs.length cc2,.int .i64 s.p.an,.slice sa2 s.p.st.length sc2,.int .i64 s.p.rounds,.int .i64 s.tn,.slice ta2 s.tab.length tc2,.slice xa2 n xc2] 35)
 replace RP:=RP.alloc (.cells #[.int .i64 s.p.n,.int .i64 s.p.ins,.int .i64 s.p.outs,.slice ca2 s.p.cs.length cc2,.int .i64 s.p.an,.slice sa2 s.p.st.length sc2,.int .i64 s.p.rounds,.int .i64 s.tn,.slice ta2 s.tab.length tc2,.slice xa2 n xc2] 35)
 replace R1:=R1.alloc (.cells #[.int .i64 s.p.n,.int .i64 s.p.ins,.int .i64 s.p.outs,.slice ca2 s.p.cs.length cc2,.int .i64 s.p.an,.slice sa2 s.p.st.length sc2,.int .i64 s.p.rounds,.int .i64 s.tn,.slice ta2 s.tab.length tc2,.slice xa2 n xc2] 35)
 have HNN:=Lib.hid hnn
 clear hsy hc hs ht hx e1 hnn
 cases b0 with
 | false=>
  clear R5 RP R1 hgd
  go_wp2_with fail
  refine (awake_calls _).mono ?_
  rintro _ w99 ⟨_,rfl,hb,rfl⟩
  have HE:=Lib.hid (ext_trans ex hb)
  clear hb ex
  go_wp2
  go_ret
  exact .mk HE.out rfl
 | true=>
 have HG:=Lib.hid (hgd rfl)
 clear hgd
 have hn:=HG.out.2.2.2
 obtain ⟨w2,hw2⟩:∃w2,w2=w1.alloc (.cells #[.int .i64 s.p.n,.int .i64 s.p.ins,.int .i64 s.p.outs,.slice ca2 s.p.cs.length cc2,.int .i64 s.p.an,.slice sa2 s.p.st.length sc2,.int .i64 s.p.rounds,.int .i64 s.tn,.slice ta2 s.tab.length tc2,.slice xa2 n xc2] 35):=⟨_,rfl⟩
 obtain ⟨B5,hB5⟩:∃B5,B5=w1.heap.size:=⟨_,rfl⟩
 rw[←hw2]at R5 HSY ex RP R1
 rw[←hB5]at R5
 have HEX:=Lib.hid ex
 have HW2:=Lib.hid hw2
 have HB5:=Lib.hid hB5
 clear ex hw2 hB5
 have HFW:Hid (PFew s.p):=Lib.hid HG.out.2.2.1.few
 have HV0:=Lib.hid HG.out.2.1
 have HX4:Hid (s.ex.length≤4096):=Lib.hid (ex_le HV0.out (good_sys HV0.out HSY.out.moves8))
 obtain ⟨e,hee⟩:∃e,e=x % n:=⟨_,rfl⟩
 obtain ⟨f,hff⟩:∃f,f=y % n:=⟨_,rfl⟩
 obtain ⟨g,hgg⟩:∃g,g=z % n:=⟨_,rfl⟩
 have wx:=wrap25 x hx
 have wy:=wrap25 y hy
 have wz:=wrap25 z hz
 have m1:Int.tmod (x:Int) (n:Int)=(e:Int):=by rw[tmod25,hee]
 have m2:Int.tmod (y:Int) (n:Int)=(f:Int):=by rw[tmod25,hff]
 have m3:Int.tmod (z:Int) (n:Int)=(g:Int):=by rw[tmod25,hgg]
 have HE:Hid (e<n):=Lib.hid (by rw[hee];exact Nat.mod_lt _ hn)
 have HF:Hid (f<n):=Lib.hid (by rw[hff];exact Nat.mod_lt _ hn)
 have HGG:Hid (g<n):=Lib.hid (by rw[hgg];exact Nat.mod_lt _ hn)
 have hn0:¬(n:Int)=0:=by omega
 have hDF:∀a b:Nat,a<n→b<n→∀W,Below w2.heap.size w2 W→Calls Tryz.prog 21 #[.agg #[.int .i64 s.p.n,.int .i64 s.p.ins,.int .i64 s.p.outs,.slice ca2 s.p.cs.length cc2,.int .i64 s.p.an,.slice sa2 s.p.st.length sc2,.int .i64 s.p.rounds,.int .i64 s.tn,.slice ta2 s.tab.length tc2,.slice xa2 n xc2],.int .i64 a,.int .i64 b] W (Post W fun _ r=>r=.tuple #[.int .i64 (dstA s a b),.bool (dstB s a b),.int .i64 0]):=fun a b ha hb W hW=>by
  have h4:=HX4.out
  have hN:=HNN.out
  have:=pDist_calls a b (WF.small (by omega)) (WF.small (by omega)) (HSY.out.ext hW) HFW.out
  unfold DstR at this
  rw[thE_ok25 HV0.out (by omega) (by omega)]at this
  exact this
 have KLK:Hid (∀W,Below w2.heap.size w2 W→Calls Tryz.prog 12 #[.agg #[.int .i64 s.p.n,.int .i64 s.p.ins,.int .i64 s.p.outs,.slice ca2 s.p.cs.length cc2,.int .i64 s.p.an,.slice sa2 s.p.st.length sc2,.int .i64 s.p.rounds,.int .i64 s.tn,.slice ta2 s.tab.length tc2,.slice xa2 n xc2],.int .i64 e,.int .i64 f] W (Post W fun _ r=>r=.tuple #[.int .i64 (lnkA s e f),.int .i64 0])):=Lib.hid fun W hW=>by
  have h4:=HX4.out
  have hN:=HNN.out
  have h1:=HE.out
  have h2:=HF.out
  have:=pLinked_calls e f (WF.small (by omega)) (WF.small (by omega)) (HSY.out.ext hW) HFW.out
  unfold LnkR at this
  rw[thE_ok25 HV0.out (by omega) (by omega)]at this
  exact this
 have K1:=Lib.hid (hDF e f HE.out HF.out)
 have K2:=Lib.hid (hDF f e HF.out HE.out)
 have K3:=Lib.hid (hDF f g HF.out HGG.out)
 have K4:=Lib.hid (hDF e g HE.out HGG.out)
 have HM:=Lib.hid (measures25 (e:=e) (f:=f) (g:=g) HV0.out HX4.out (by rw[←HNN.out];exact HE.out) (by rw[←HNN.out];exact HF.out) (by rw[←HNN.out];exact HGG.out))
 obtain ⟨ef,h1⟩:∃u,u=dstA s e f:=⟨_,rfl⟩
 obtain ⟨fe,h2⟩:∃u,u=dstA s f e:=⟨_,rfl⟩
 obtain ⟨fg,h3⟩:∃u,u=dstA s f g:=⟨_,rfl⟩
 obtain ⟨eg,h4⟩:∃u,u=dstA s e g:=⟨_,rfl⟩
 obtain ⟨one,h5⟩:∃u,u=dstB s e f:=⟨_,rfl⟩
 obtain ⟨two,h6⟩:∃u,u=dstB s f e:=⟨_,rfl⟩
 obtain ⟨three,h7⟩:∃u,u=dstB s f g:=⟨_,rfl⟩
 obtain ⟨four,h8⟩:∃u,u=dstB s e g:=⟨_,rfl⟩
 obtain ⟨lk,h9⟩:∃u,u=lnkA s e f:=⟨_,rfl⟩
 rw[←h1,←h2,←h3,←h4,←h5,←h6,←h7,←h8,←h9]at HM
 rw[←h1,←h5]at K1
 rw[←h2,←h6]at K2
 rw[←h3,←h7]at K3
 rw[←h4,←h8]at K4
 rw[←h9]at KLK
 obtain rfl:ef=fe:=HM.out.ef2.symm
 obtain rfl:one=two:=HM.out.e2.symm
 clear hDF h1 h2 h3 h4 h5 h6 h7 h8 h9
 clear hee hff hgg RP
 have t0:=R5.cell (j:=0) rfl
 have t1:=R5.cell (j:=1) rfl
 have t2:=R5.cell (j:=2) rfl
 have t3:=R5.cell (j:=3) rfl
 have t4:=R5.cell (j:=4) rfl
 have t5:=R5.cell (j:=5) rfl
 have t6:=R5.cell (j:=6) rfl
 have t7:=R5.cell (j:=7) rfl
 have t8:=R5.cell (j:=8) rfl
 have t9:=R5.cell (j:=9) rfl
 have lR5:=R5.lt
 have u0:=R1.cell (j:=0) rfl
 have u1:=R1.cell (j:=1) rfl
 have u2:=R1.cell (j:=2) rfl
 have lR1:=R1.lt
 go_upto_region 5 with fail
 rw[←HW2.out,←HB5.out]
 go_quiet (fail)
 clear u0 u1 u2 lR1 R1 wx wy wz m1 m2 m3 hn0 hx hy hz
 go_wp2_with fail
 refine (K1.out _ (drewN_below _ _ _)).mono ?_
 rintro _ w4 ⟨_,rfl,hb,rfl⟩
 have ex:=ext_trans (drewN_below w2.heap.size w2 _) hb
 replace R5:=R5.ext ex
 clear hb K1 t0 t1 t2 t3 t4 t5 t6 t7 t8 t9 lR5
 have t0:=R5.cell (j:=0) rfl
 have t1:=R5.cell (j:=1) rfl
 have t2:=R5.cell (j:=2) rfl
 have t3:=R5.cell (j:=3) rfl
 have t4:=R5.cell (j:=4) rfl
 have t5:=R5.cell (j:=5) rfl
 have t6:=R5.cell (j:=6) rfl
 have t7:=R5.cell (j:=7) rfl
 have t8:=R5.cell (j:=8) rfl
 have t9:=R5.cell (j:=9) rfl
 have lR5:=R5.lt
 go_wp2_with fail
 refine (K2.out _ ex).mono ?_
 rintro _ w5 ⟨_,rfl,hb,rfl⟩
 replace ex:=ext_trans ex hb
 replace R5:=R5.ext hb
 clear hb K2 t0 t1 t2 t3 t4 t5 t6 t7 t8 t9 lR5
 have t0:=R5.cell (j:=0) rfl
 have t1:=R5.cell (j:=1) rfl
 have t2:=R5.cell (j:=2) rfl
 have t3:=R5.cell (j:=3) rfl
 have t4:=R5.cell (j:=4) rfl
 have t5:=R5.cell (j:=5) rfl
 have t6:=R5.cell (j:=6) rfl
 have t7:=R5.cell (j:=7) rfl
 have t8:=R5.cell (j:=8) rfl
 have t9:=R5.cell (j:=9) rfl
 have lR5:=R5.lt
 go_wp2_with fail
 refine (K3.out _ ex).mono ?_
 rintro _ w6 ⟨_,rfl,hb,rfl⟩
 replace ex:=ext_trans ex hb
 replace R5:=R5.ext hb
 clear hb K3 t0 t1 t2 t3 t4 t5 t6 t7 t8 t9 lR5
 have t0:=R5.cell (j:=0) rfl
 have t1:=R5.cell (j:=1) rfl
 have t2:=R5.cell (j:=2) rfl
 have t3:=R5.cell (j:=3) rfl
 have t4:=R5.cell (j:=4) rfl
 have t5:=R5.cell (j:=5) rfl
 have t6:=R5.cell (j:=6) rfl
 have t7:=R5.cell (j:=7) rfl
 have t8:=R5.cell (j:=8) rfl
 have t9:=R5.cell (j:=9) rfl
 have lR5:=R5.lt
 go_wp2_with fail
 refine (K4.out _ ex).mono ?_
 rintro _ w7 ⟨_,rfl,hb,rfl⟩
 replace ex:=ext_trans ex hb
 replace R5:=R5.ext hb
 clear hb K4 t0 t1 t2 t3 t4 t5 t6 t7 t8 t9 lR5
 have t0:=R5.cell (j:=0) rfl
 have t1:=R5.cell (j:=1) rfl
 have t2:=R5.cell (j:=2) rfl
 have t3:=R5.cell (j:=3) rfl
 have t4:=R5.cell (j:=4) rfl
 have t5:=R5.cell (j:=5) rfl
 have t6:=R5.cell (j:=6) rfl
 have t7:=R5.cell (j:=7) rfl
 have t8:=R5.cell (j:=8) rfl
 have t9:=R5.cell (j:=9) rfl
 have lR5:=R5.lt
 go_wp2_with fail
 refine (KLK.out _ ex).mono ?_
 rintro _ w8 ⟨_,rfl,hb,rfl⟩
 replace ex:=ext_trans ex hb
 replace R5:=R5.ext hb
 clear hb KLK t0 t1 t2 t3 t4 t5 t6 t7 t8 t9 lR5
 have HXX:=Lib.hid (ext_trans HEX.out ex)
 clear R5 ex HX4 HV0 HFW HG HW2 HB5
 have hnn:=HM.out.nn
 have hfg:=HM.out.fgb
 have hself:=HM.out.self
 have hlink:=HM.out.link
 have htri:=HM.out.tri
 have hl0:decide (ef<0)=false:=decide_eq_false (by omega)
 by_cases hsm:e=f
 ·obtain ⟨h1,h2⟩:=hself.2 (decide_eq_true hsm)
  subst hsm h1 h2
  cases three with
  | false=>
   clear htri
   go_wp2_with fail
   refine (awake_calls _).mono ?_
   rintro _ w99 ⟨_,rfl,hb,rfl⟩
   have HXE:=Lib.hid (ext_trans HXX.out hb)
   clear hb
   go_wp2
   go_ret
   exact .mk HXE.out rfl
  | true=>
   obtain ⟨h4,h5⟩:=htri rfl rfl
   subst h4
   clear htri
   go_wp2_with fail
   refine (awake_calls _).mono ?_
   rintro _ w99 ⟨_,rfl,hb,rfl⟩
   have HXE:=Lib.hid (ext_trans HXX.out hb)
   clear hb
   go_wp2
   go_ret
   exact .mk HXE.out rfl
 have hsf:decide (e=f)=false:=decide_eq_false hsm
 have g1:((e:Int)==(f:Int))=false:=by rw[beq_eq_false_iff_ne];omega
 have g2:((e:Int) !=(f:Int))=true:=by rw[bne_iff_ne];omega
 rw[hsf]at hself hlink
 replace hlink:=hlink rfl
 clear hsf hsm
 cases one with
 | false=>
  have hk:lk=0:=by
   have:¬lk≠0:=fun h=>by have:=hlink.2 h;simp at this
   omega
  subst hk
  clear hself hlink htri
  go_wp2_with fail
  refine (awake_calls _).mono ?_
  rintro _ w99 ⟨_,rfl,hb,rfl⟩
  have HXE:=Lib.hid (ext_trans HXX.out hb)
  clear hb
  go_wp2
  go_ret
  exact .mk HXE.out rfl
 | true=>
  by_cases h1:ef=1
  ·have hk:lk≠0:=hlink.1 ⟨rfl,h1⟩
   have g3:(lk !=0)=true:=by rw[bne_iff_ne];exact hk
   subst h1
   clear hk hself hlink
   cases three with
   | false=>
    clear htri
    go_wp2_with fail
    refine (awake_calls _).mono ?_
    rintro _ w99 ⟨_,rfl,hb,rfl⟩
    have HXE:=Lib.hid (ext_trans HXX.out hb)
    clear hb
    go_wp2
    go_ret
    exact .mk HXE.out rfl
   | true=>
    obtain ⟨h4,h5⟩:=htri rfl rfl
    subst h4
    clear htri
    go_wp2_with fail
    refine (awake_calls _).mono ?_
    rintro _ w99 ⟨_,rfl,hb,rfl⟩
    have HXE:=Lib.hid (ext_trans HXX.out hb)
    clear hb
    go_wp2
    go_ret
    exact .mk HXE.out rfl
  ·have hk:lk=0:=by
    have:¬lk≠0:=fun h=>h1 (hlink.2 h).2
    omega
   subst hk
   have h0:ef≠0:=fun h=>by have:=hself.1 ⟨rfl,h⟩;simp at this
   have g4:(ef==0)=false:=by rw[beq_eq_false_iff_ne];exact h0
   have g5:(ef==1)=false:=by rw[beq_eq_false_iff_ne];exact h1
   clear hself hlink h0 h1
   cases three with
   | false=>
    clear htri
    go_wp2_with fail
    refine (awake_calls _).mono ?_
    rintro _ w99 ⟨_,rfl,hb,rfl⟩
    have HXE:=Lib.hid (ext_trans HXX.out hb)
    clear hb
    go_wp2
    go_ret
    exact .mk HXE.out rfl
   | true=>
    obtain ⟨h4,h5⟩:=htri rfl rfl
    subst h4
    clear htri
    go_wp2_with fail
    refine (awake_calls _).mono ?_
    rintro _ w99 ⟨_,rfl,hb,rfl⟩
    have HXE:=Lib.hid (ext_trans HXX.out hb)
    clear hb
    go_wp2
    go_ret
    exact .mk HXE.out rfl
end Go.Proofs.YtaijafjfafbcfaaGreat
namespace Go.Proofs.YtaijafjfafbcfaaGreat
open Go.RowKit
attribute [local go_sem ↓] Go.wp_at_zero Go.wp_at_succ
theorem info_bool1:(Tryz.prog.info? 4).map (fun i=>(i.zero,i.size,i.bytes))=some (some (.bool false),1,1):=by kernel_rfl
def yesRow (f:Nat→Bool) (n:Nat):List Value:=(List.range n).map fun i=>Value.bool (f i)
theorem yesRow_get {f:Nat→Bool} {n i:Nat} (h:i<n):(yesRow f n)[i]? =some (.bool (f i)):=by simp[yesRow,h]
theorem yesRow_len (f:Nat→Bool) (n:Nat):(yesRow f n).length=n:=by simp[yesRow]
theorem yesRow_congr {f g:Nat→Bool} {n:Nat} (h:∀i,i<n→f i=g i):yesRow f n=yesRow g n:=by
 unfold yesRow
 refine List.map_congr_left fun i hi=>?_
 rw[h i (List.mem_range.1 hi)]
theorem yesRow_set {f:Nat→Bool} {n i:Nat} (h:i<n):(yesRow f n).set i (.bool true)=yesRow (fun j=>f j||i==j) n:=by
 apply List.ext_getElem?
 intro j
 rw[List.getElem?_set]
 by_cases e:i=j
 ·subst e
  rw[if_pos rfl,yesRow_len,if_pos h,yesRow_get h]
  simp
 ·rw[if_neg e]
  by_cases hj:j<n
  ·rw[yesRow_get hj,yesRow_get hj]
   have:(i==j)=false:=by simp[e]
   rw[this,Bool.or_false]
  ·rw[List.getElem?_eq_none (by rw[yesRow_len];omega),List.getElem?_eq_none (by rw[yesRow_len];omega)]
theorem yesRow_none (n:Nat):yesRow (fun _=>false) n=List.replicate n (.bool false):=by
 apply List.ext_getElem?
 intro j
 by_cases hj:j<n
 ·rw[yesRow_get hj];simp[hj]
 ·rw[List.getElem?_eq_none (by rw[yesRow_len];omega),List.getElem?_eq_none (by rw[List.length_replicate];omega)]
theorem idx_yes (B n c k:Nat) (hk:k<n) (W:World):(Instr.indexAt 71 (.slice (some ⟨B,0,none⟩) n c) (.int .i64 k)).run Tryz.prog W=.ok (.pointer (some ⟨B,k,none⟩)) W:=by
 obtain ⟨i0,hi,hz0,hz1,hz2⟩:=info_parts info_bool1
 have hE:Tryz.prog.elem 71=4:=by simp[Program.elem,Tryz.underlying71]
 rw[run_indexAt_slice W 71 _ n c .i64 k (by rw[hE];exact Tryz.underlying71),if_pos (by omega),hE]
 simp[sizeOf,typeInfo,hi,hz1,Result.andThen,Addr.add]
 try exact fun h=>h.symm
end Go.Proofs.YtaijafjfafbcfaaGreat
