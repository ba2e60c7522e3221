/- Part of the proof that the laws answer true for every input. -/
import Derived.Test.YtjpakklplhabdaaGreatPGaA42
import Derived.Test.YtjpakklplhabdaaGreatPGaA43
import Derived.Test.YtjpakklplhabdaaGreatPGaA44
set_option linter.unusedSimpArgs false
set_option linter.unnecessarySimpa false
set_option linter.unusedVariables false
set_option maxRecDepth 100000
set_option maxHeartbeats 40000000
namespace Go.Proofs.YtjpakklplhabdaaGreat
open Go.RowKit
attribute [local go_sem ↓] Go.wp_at_zero Go.wp_at_succ
theorem zds {N:Nat} (h:N=1∨N=2∨N=3):wrap64 (wrap64 (2 ^ N) - 1)=((2 ^ N - 1:Nat):Int):=by rcases h with rfl | rfl | rfl<;>decide+kernel
theorem Row.setOther {w:World} {g h:Nat} {e:TypeId} {xs:List Value} (R:Row w g e xs) (hn:g≠h) (k:Nat) (v:Value):Row (w.setCell ⟨h,k,none⟩ v) g e xs:=
 R.agree (S:=fun b=>b=g) (.of_grown (zj _ _ _ _) fun b hb e=>by injection e with e;omega) rfl
theorem walkTopAgreementsCommon {S S2:Nat→Prop} {w:World} {vc vs vch:Value} {p:ProbD} {ch:List Int} (hc:Sl kCase S w vc p.cs) (hs:Sl (kSl (kFlat 8)) S w vs p.st) (h2:Ints S2 w vch ch):
  Calls Tryz.prog 3 #[.agg #[.int .i64 p.n,.int .i64 p.ins,.int .i64 p.outs,vc,.int .i64 p.an,vs,.int .i64 p.rounds],.agg #[vch]] w (Post w fun _ r=>r=.bool true):=by
 obtain ⟨ca,cc,rfl,_⟩:=hc.form
 obtain ⟨sa,sc,rfl,_⟩:=hs.form
 obtain ⟨a2,c2,rfl,_⟩:=h2.form
 have KS:Hid (∀W,Below w.heap.size w W→Calls Tryz.prog 5 #[.agg #[.int .i64 p.n,.int .i64 p.ins,.int .i64 p.outs,.slice ca p.cs.length cc,.int .i64 p.an,.slice sa p.st.length sc,.int .i64 p.rounds],.agg #[.slice a2 ch.length c2]] W (Post W (TryQ p ch))):=zhd fun W hW=>QE (hc.ext hW) (hs.ext hW) (h2.ext hW)
 have HCS:=zhd hc
 have HI2:=zhd h2
 have ex:=zg (zb w (.cells #[.int .i64 p.n,.int .i64 p.ins,.int .i64 p.outs,.slice ca p.cs.length cc,.int .i64 p.an,.slice sa p.st.length sc,.int .i64 p.rounds] 29)) (.cells #[.slice a2 ch.length c2] 32)
 have R0:=(ze w [.int .i64 p.n,.int .i64 p.ins,.int .i64 p.outs,.slice ca p.cs.length cc,.int .i64 p.an,.slice sa p.st.length sc,.int .i64 p.rounds] 29).alloc (.cells #[.slice a2 ch.length c2] 32)
 have RU:=ze (w.alloc (.cells #[.int .i64 p.n,.int .i64 p.ins,.int .i64 p.outs,.slice ca p.cs.length cc,.int .i64 p.an,.slice sa p.st.length sc,.int .i64 p.rounds] 29)) [.slice a2 ch.length c2] 32
 rw[World.size_alloc]at RU
 clear hc hs h2
 have p0:=R0.zc 0 rfl
 have p1:=R0.zc 1 rfl
 have p2:=R0.zc 2 rfl
 have p3:=R0.zc 3 rfl
 have p4:=R0.zc 4 rfl
 have p5:=R0.zc 5 rfl
 have p6:=R0.zc 6 rfl
 have lp:=R0.lt
 have u0:=RU.zc 0 rfl
 have lu:=RU.lt
 go_enter Tryz.func3,Tryz.ntmps3
 go_wp2_with fail
 refine (Q9 _).mono ?_
 rintro _ w1 ⟨_,rfl,hb,rfl⟩
 replace R0:=R0.ext hb
 replace RU:=RU.ext hb
 replace ex:=za ex hb
 clear hb p0 p1 p2 p3 p4 p5 p6 lp u0 lu
 have p0:=R0.zc 0 rfl
 have p1:=R0.zc 1 rfl
 have p2:=R0.zc 2 rfl
 have p3:=R0.zc 3 rfl
 have p4:=R0.zc 4 rfl
 have p5:=R0.zc 5 rfl
 have p6:=R0.zc 6 rfl
 have lp:=R0.lt
 have u0:=RU.zc 0 rfl
 have lu:=RU.lt
 go_wp2_with fail
 refine (KS.out _ ex).mono ?_
 rintro _ w3 ⟨_,rfl,hb,v,b0,rfl,hyes,s0,hno⟩
 replace R0:=R0.ext hb
 replace RU:=RU.ext hb
 replace ex:=za ex hb
 clear hb KS p0 p1 p2 p3 p4 p5 p6 lp u0 lu
 cases b0 with
 | false=>
  have h:=hno
  obtain ⟨vc2,vs2,vt2,vx2,rfl,hc3,hs3,ht3,hx3⟩:=h
  obtain ⟨ca2,cc2,rfl,_⟩:=hc3.form
  obtain ⟨sa2,sc2,rfl,_⟩:=hs3.form
  obtain ⟨ta2,tc2,rfl,_⟩:=ht3.form
  obtain ⟨xa2,xc2,rfl,_⟩:=hx3.form2
  replace ex:=zg ex (.cells #[.int .i64 s0.p.n,.int .i64 s0.p.ins,.int .i64 s0.p.outs,.slice ca2 s0.p.cs.length cc2,.int .i64 s0.p.an,.slice sa2 s0.p.st.length sc2,.int .i64 s0.p.rounds,.int .i64 s0.tn,.slice ta2 s0.tab.length tc2,.slice xa2 s0.ex.length xc2] 39)
  clear hyes hno R0 RU hc3 hs3 ht3 hx3 HCS HI2
  go_wp2
  go_ret
  exact .mk ex rfl
 | true=>
 obtain ⟨hsy,hR,hve,hre,hfa⟩:=hyes rfl
 clear hyes hno s0
 have h:=hsy
 obtain ⟨vc2,vs2,vt2,vx2,rfl,hc3,hs3,ht3,hx3⟩:=h
 obtain ⟨ca2,cc2,rfl,_⟩:=hc3.form
 obtain ⟨sa2,sc2,rfl,_⟩:=hs3.form
 obtain ⟨ta2,tc2,rfl,_⟩:=ht3.form
 obtain ⟨xa2,xc2,rfl,_⟩:=hx3.form2
 have e4:=zb w3 (.cells #[.int .i64 p.full.p.n,.int .i64 p.full.p.ins,.int .i64 p.full.p.outs,.slice ca2 p.full.p.cs.length cc2,.int .i64 p.full.p.an,.slice sa2 p.full.p.st.length sc2,.int .i64 p.full.p.rounds,.int .i64 p.full.tn,.slice ta2 p.full.tab.length tc2,.slice xa2 p.full.ex.length xc2] 39)
 have RS:=ze w3 [.int .i64 p.full.p.n,.int .i64 p.full.p.ins,.int .i64 p.full.p.outs,.slice ca2 p.full.p.cs.length cc2,.int .i64 p.full.p.an,.slice sa2 p.full.p.st.length sc2,.int .i64 p.full.p.rounds,.int .i64 p.full.tn,.slice ta2 p.full.tab.length tc2,.slice xa2 p.full.ex.length xc2] 39
 have hsy4:=hsy.ext e4
 have hg:=qF hve hsy.moves8
 replace R0:=R0.ext e4
 replace RU:=RU.ext e4
 replace ex:=za ex e4
 clear hc3 hs3 ht3 hx3 e4 hsy
 have h3:=zaz hR hg
 have HAG:Hid (∀W,Below w.heap.size w W→Calls Tryz.prog 6 #[.agg #[.int .i64 p.n,.int .i64 p.ins,.int .i64 p.outs,.slice ca p.cs.length cc]] W (Post W fun _ r=>r=.tuple #[.bool (agrT p.cs),.int .i64 0])):=zhd fun W hW=>zaq _ _ _ (HCS.out.ext hW) (yd (yk hR.2).1).1
 obtain ⟨w4,hw4⟩:∃w4,w4=w3.alloc (.cells #[.int .i64 p.full.p.n,.int .i64 p.full.p.ins,.int .i64 p.full.p.outs,.slice ca2 p.full.p.cs.length cc2,.int .i64 p.full.p.an,.slice sa2 p.full.p.st.length sc2,.int .i64 p.full.p.rounds,.int .i64 p.full.tn,.slice ta2 p.full.tab.length tc2,.slice xa2 p.full.ex.length xc2] 39):=⟨_,rfl⟩
 obtain ⟨SB,hSB⟩:∃b,b=w3.heap.size:=⟨_,rfl⟩
 have HW4:=zhd hw4
 have HSB:=zhd hSB
 rw[←hw4]at RS hsy4 R0 RU ex
 rw[←hSB]at RS
 have HSY:=zhd hsy4
 have HGS:=zhd hg
 have HRG:=zhd hR
 have HRE:=zhd hre
 have HFA:=zhd hfa
 have HVE:=zhd hve
 have HTR:=zhd h3
 clear hw4 hSB hsy4 hg hR hre hfa hve h3 HCS
 go_upto_region 6 with fail
 rw[←HW4.out,←HSB.out]
 clear HW4 HSB
 have p0:=R0.zc 0 rfl
 have p1:=R0.zc 1 rfl
 have p2:=R0.zc 2 rfl
 have p3:=R0.zc 3 rfl
 have p4:=R0.zc 4 rfl
 have p5:=R0.zc 5 rfl
 have p6:=R0.zc 6 rfl
 have lp:=R0.lt
 have u0:=RU.zc 0 rfl
 have lu:=RU.lt
 obtain ⟨s0,s1,s2,s3,s4,s5,s6,s7,s8,s9⟩:=RS.ten
 have ls:=RS.lt
 go_wp2_with fail
 refine (HAG.out _ ex).mono ?_
 rintro _ w5 ⟨_,rfl,hb,rfl⟩
 have T0:=hb
 replace R0:=R0.ext hb
 replace RU:=RU.ext hb
 replace RS:=RS.ext hb
 replace HSY:=zhd (HSY.out.ext hb)
 replace ex:=za ex hb
 clear hb HAG p0 p1 p2 p3 p4 p5 p6 lp u0 lu s0 s1 s2 s3 s4 s5 s6 s7 s8 s9 ls T0
 have d00:((0:Int) !=0)=false:=rfl
 have d01:((0:Int)==0)=true:=rfl
 have HAB:Hid (agrT p.cs=true→∀c,c<p.full.p.cs.length→∀v∈(nthC p.full.p.cs c).out,∀q,q<v.length→nth v q=nth v 0):=zhd fun h=>zeN h
 obtain ⟨ab,hab⟩:∃b,b=agrT p.cs:=⟨_,rfl⟩
 rw[←hab]at HAB ⊢
 clear hab
 cases ab with
 | false=>
  clear R0 RU RS HSY HAB
  go_wp2
  go_ret
  exact .mk ex rfl
 | true=>
 replace HAB:=zhd (HAB.out rfl)
 have KX:Hid (Calls Tryz.prog 7 #[.slice xa2 p.full.ex.length xc2,.func (.func 8) #[] #[]] w5 (Post w5 fun _ r=>r=.bool (fltB p.full.ex))):=zhd (by
  obtain ⟨_,_,_,_,hee,_,_,_,hx⟩:=HSY.out
  simp only[Value.agg.injEq,Array.mk.injEq,List.cons.injEq,and_true,true_and]at hee
  obtain ⟨_,_,_,rfl⟩:=hee
  exact zae hx)
 obtain ⟨s0,s1,s2,s3,s4,s5,s6,s7,s8,s9⟩:=RS.ten
 have ls:=RS.lt
 go_wp2_with fail
 refine KX.out.mono ?_
 rintro _ w6 ⟨_,rfl,hb,rfl⟩
 replace R0:=R0.ext hb
 replace RU:=RU.ext hb
 replace RS:=RS.ext hb
 replace HSY:=zhd (HSY.out.ext hb)
 replace ex:=za ex hb
 clear hb KX s0 s1 s2 s3 s4 s5 s6 s7 s8 s9 ls
 have HFB:Hid (fltB p.full.ex=false→∀e,e<p.full.ex.length→fltyW (nthX p.full.ex e).word=0):=zhd zeJ
 obtain ⟨fb,hfb⟩:∃b,b=fltB p.full.ex:=⟨_,rfl⟩
 rw[←hfb]at HFB ⊢
 clear hfb
 cases fb with
 | true=>
  clear R0 RU RS HSY HAB HFB
  go_wp2
  go_ret
  exact .mk ex rfl
 | false=>
 replace HFB:=zhd (HFB.out rfl)
 obtain ⟨K,hK⟩:∃K,K=p.full.K:=⟨_,rfl⟩
 obtain ⟨N,hN⟩:∃N,N=p.full.N:=⟨_,rfl⟩
 obtain ⟨E,hE⟩:∃E,E=p.full.ex.length:=⟨_,rfl⟩
 obtain ⟨O,hO⟩:∃O:Nat,p.outs=(O:Int):=⟨p.outs.toNat,by have:=(zU (yd (yk HRG.out.2).1).1);omega⟩
 have hO8:O≤8:=by have:=(zU (yd (yk HRG.out.2).1).1);omega
 have hrd:p.rounds=(K:Int):=by rw[hK];exact HGS.out.rnd
 have htn:p.full.tn=(N:Int):=by rw[hN];exact HGS.out.tn
 have hK6:K≤6:=by rw[hK];exact HGS.out.K6
 have hE60:E≤60:=by rw[hE];exact HTR.out.2
 have hN3:N=1∨N=2∨N=3:=by rw[hN];exact HTR.out.1
 obtain ⟨M,hM⟩:∃M,M=pntN p.full:=⟨_,rfl⟩
 have hME:M=E * (K+1):=by rw[hM,hE,hK];rfl
 have hM420:M≤420:=by
  have h1:E * (K+1)≤60 * 7:=Nat.mul_le_mul hE60 (by omega)
  omega
 have KD:Hid (∀W,Below w6.heap.size w6 W→∀x:Nat,x<E→Calls Tryz.prog 10 #[.agg #[.int .i64 p.full.p.n,.int .i64 p.full.p.ins,.int .i64 p.full.p.outs,.slice ca2 p.full.p.cs.length cc2,.int .i64 p.full.p.an,.slice sa2 p.full.p.st.length sc2,.int .i64 p.full.p.rounds,.int .i64 p.full.tn,.slice ta2 p.full.tab.length tc2,.slice xa2 p.full.ex.length xc2],.agg #[.slice a2 ch.length c2],.int .i64 x] W (Post W fun w' r=>∃a c,r=.tuple #[.slice a N c,.int .i64 0]∧Ints (fun b=>W.heap.size≤b) w' (.slice a N c) (valsL ch (finL p.full x)))):=zhd fun W hW x hx=>by
  have hsc:sceneE p.full ch (x:Int)=0:=zdy HRE.out (by omega)
  refine (zbe (x:Int) (HSY.out.ext hW) HRG.out.1.few (HI2.out.ext (za ex hW))).mono fun _ _ h=>h.imp fun w' r hr=>?_
  rcases hr with ⟨_,u,rfl,hu⟩ | ⟨h9,_⟩
  ·obtain ⟨a,c,rfl,_⟩:=hu.form
   rw[Int.toNat_natCast]at hu ⊢
   have hl:(valsL ch (finL p.full x)).length=N:=by rw[yO,hN];exact (HGS.out.fin (by omega)).1
   rw[hl]at hu ⊢
   exact ⟨a,c,rfl,hu⟩
  ·exact absurd hsc h9
 have KC:Hid (∀W (S9:Nat→Prop) vb (d:Int),Below w6.heap.size w6 W→Sl kBool S9 W vb (setL p.full ch d)→Calls Tryz.prog 13 #[.agg #[.int .i64 p.full.p.n,.int .i64 p.full.p.ins,.int .i64 p.full.p.outs,.slice ca2 p.full.p.cs.length cc2,.int .i64 p.full.p.an,.slice sa2 p.full.p.st.length sc2,.int .i64 p.full.p.rounds,.int .i64 p.full.tn,.slice ta2 p.full.tab.length tc2,.slice xa2 p.full.ex.length xc2],.int .i64 ((2 ^ N - 1:Nat):Int),vb] W (Post W fun w' r=>∃(a:Option Addr) (m:Int) (c:Nat),r=.tuple #[.slice a M c,.int .i64 m,.int .i64 0]∧Sl kBool (fun x=>W.heap.size≤x) w' (.slice a M c) (setL p.full ch d))):=zhd fun W S9 vb d hW hvb=>by
  rw[hN]
  refine (Yy (HSY.out.ext hW) HRG.out.1.few HVE.out HGS.out HTR.out.2 hvb (xA _ _ _) HTR.out.1 (zaI HGS.out (zea HFA.out) HFB.out HAB.out)).mono fun _ _ h=>h.imp fun w' r hr=>?_
  obtain ⟨u,m,rfl,hu⟩:=hr
  obtain ⟨a,c,rfl,_⟩:=hu.form
  rw[xA,←hM]at hu ⊢
  exact ⟨a,m,c,rfl,hu⟩
 have HX0:Hid (∀d,setX p.full ch d 0=List.replicate M false):=zhd fun d=>by rw[hM];exact zc6 _ _ _
 have HXE:Hid (∀d,setX p.full ch d E=setL p.full ch d):=zhd fun d=>by rw[hE];exact zdL _ _ _
 have HXS:Hid (∀d x,x<E→setX p.full ch d (x+1)=(setX p.full ch d x).set (x * (K+1)+K) (!(valsL ch (finL p.full x)).any fun y=> !decide (y=d))):=zhd fun d x hx=>by
  rw[hK];exact zc4 (by exact (HGS.out.fin (by omega)).1) (by omega)
 have HXP:Hid (∀x,x<E→x * (K+1)+K<M):=zhd fun x hx=>by rw[hK,hM];exact zaR (by omega)
 have HXL:Hid (∀d x,(setX p.full ch d x).length=M):=zhd fun d x=>by rw[hM];exact yu _ _ _ _
 have HLL:Hid (∀d,(setL p.full ch d).length=M):=zhd fun d=>by rw[hM];exact xA _ _ _
 rw[htn,←hE]at KD KC RS
 rw[hO,hrd]at R0
 have HME:=zhd hME
 clear hK hN hE hO hrd htn hM hME HSY HGS HRG HRE HFA HVE HTR HAB HFB HI2
 have hw6:=ex.size
 have p0:=R0.zc 0 rfl
 have p1:=R0.zc 1 rfl
 have p2:=R0.zc 2 rfl
 have p3:=R0.zc 3 rfl
 have p4:=R0.zc 4 rfl
 have p5:=R0.zc 5 rfl
 have p6:=R0.zc 6 rfl
 have lp:=R0.lt
 obtain ⟨s0,s1,s2,s3,s4,s5,s6,s7,s8,s9⟩:=RS.ten
 have ls:=RS.lt
 go_upto_region 11 with fail
 have hsh:=zds hN3
 rw[hsh]
 have HN3:=zhd hN3
 obtain ⟨G,hG⟩:∃G,G=2 ^ N - 1:=⟨_,rfl⟩
 rw[←hG]at KC ⊢
 clear hsh hG hN3
 have hx1:IntKind.i64.wrap (((K:Int)+1) * (E:Int))=(M:Int):=by
  rw[IntWalk.i64_left,HME.out,show ((K:Int)+1) * (E:Int)=((E * (K+1):Nat):Int) by push_cast;rw[Int.mul_comm],IntWalk.wrap64_in _ (by have:=HME.out;omega)]
 have hx2:Value.int .i64 (wrap64 (((K:Int)+1) * (E:Int)))=Value.int .i64 (M:Int):=by rw[←IntWalk.i64_left,hx1]
 replace hx1:Value.int .i64 (IntKind.i64.wrap (((K:Int)+1) * (E:Int)))=Value.int .i64 (M:Int):=by rw[hx1]
 have hmk:=run_make_row' 52 4 (.bool false) 1 Tryz.underlying52 qz rfl .i64 .i64 M (by omega) (by omega)
 have T0:=Below.refl w6.heap.size w6
 have HRP:=zhd R0
 have HRU:=zhd RU
 have HRS:=zhd RS
 have HEX:=zhd ex
 clear R0 RU RS HME
 go_wp2
 clear p0 p1 p2 p3 p4 p5 p6 lp s0 s1 s2 s3 s4 s5 s6 s7 s8 s9 ls
 go_loopw [11,12,13,14,15,16,17,18,59,71] (fun _ _ _ _ _ _ _ _ dv _ wr=>∃d:Nat,d≤O∧dv=.int .i64 d∧Below w6.heap.size w6 wr) (fun _ _ _ _ _ _ _ _ dv _ _=>O - (intOf dv).toNat)
 case atStart=>exact ⟨0,Nat.zero_le _,rfl,T0⟩
 case round=>
  clear T0 ex
  obtain ⟨d,hd,rfl,T0⟩:=hrel
  obtain ⟨wo,hwo⟩:∃wo:World,wo=wr:=⟨_,rfl⟩
  rw[←hwo]at T0 ⊢
  clear hwo
  by_cases hlt:d<O
  case neg=>
   have EX:=za HEX.out T0
   clear KD KC hx1 hx2 hmk
   go_wp2
   go_ret
   exact .mk EX rfl
  have VB0:=ze wo [.int .i64 (d:Nat)] 3
  have e1:=zb wo (.cells #[.int .i64 (d:Nat)] 3)
  have GB0:=Row.madeB (wo.alloc (.cells #[.int .i64 (d:Nat)] 3)) M
  rw[World.size_alloc]at GB0
  have VB1:=VB0.alloc (.cells (madeCells #[Value.bool false] M) 4)
  have T1:=za T0 (zg e1 (.cells (madeCells #[Value.bool false] M) 4))
  have RS1:=HRS.out.ext (za T0 e1)
  have RS2:=RS1.alloc (.cells (madeCells #[Value.bool false] M) 4)
  rw[←HX0.out (d:Int)]at GB0
  have R9:=RS1
  obtain ⟨s0,s1,s2,s3,s4,s5,s6,s7,s8,s9⟩:=RS1.ten
  have ls:=RS1.lt
  obtain ⟨m0,m1,m2,m3,m4,m5,m6,m7,m8,m9⟩:=RS2.ten
  have lm:=RS2.lt
  have hws:=T0.size
  go_upto_region 16 with fail
  obtain ⟨w7,hw7⟩:∃w7,w7=(wo.alloc (.cells #[.int .i64 (d:Nat)] 3)).alloc (.cells (madeCells #[Value.bool false] M) 4):=⟨_,rfl⟩
  obtain ⟨GB,hGB⟩:∃b,b=wo.heap.size+1:=⟨_,rfl⟩
  obtain ⟨VB,hVB⟩:∃b,b=wo.heap.size:=⟨_,rfl⟩
  have hVG:VB≠GB:=by omega
  have hwG:w6.heap.size≤GB:=by omega
  have hwV:w6.heap.size≤VB:=by omega
  rw[←hw7]at GB0 VB1 T1 ⊢
  rw[←hGB]at GB0 ⊢
  rw[←hVB]at VB1 ⊢
  clear hw7 hGB hVB s0 s1 s2 s3 s4 s5 s6 s7 s8 s9 ls m0 m1 m2 m3 m4 m5 m6 m7 m8 m9 lm VB0 e1 RS1 RS2 R9 T0 hws
  go_loopw [13,14,15,71] (fun _ _ _ xv wr=>∃x:Nat,x≤E∧xv=.int .i64 x∧Below w6.heap.size w6 wr∧Row wr VB 3 [.int .i64 (d:Nat)]∧Row wr GB 4 ((setX p.full ch (d:Int) x).map Value.bool)) (fun _ _ _ xv _=>E - (intOf xv).toNat)
  case atStart=>exact ⟨0,Nat.zero_le _,rfl,T1,VB1,GB0⟩
  case round=>
   clear T1 VB1 GB0
   obtain ⟨x,hx,rfl,T0,RV,RG⟩:=hrel
   have hws:=T0.size
   by_cases hxl:x<E
   case neg=>
    obtain rfl:x=E:=by omega
    rw[HXE.out]at RG
    have HG:=zhd (RG.bools (by rw[HLL.out];omega))
    rw[HLL.out]at HG
    have RS:=HRS.out.ext T0
    obtain ⟨s0,s1,s2,s3,s4,s5,s6,s7,s8,s9⟩:=RS.ten
    have ls:=RS.lt
    have KCk:=zhd (KC.out _ _ _ _ T0 HG.out)
    clear KD hx1 hx2 hmk RG RV RS
    go_wp2_with fail
    refine KCk.out.mono ?_
    rintro _ w8 ⟨_,rfl,hb,ua,um,uc,rfl,hu⟩
    have HE:Hid (Calls Tryz.prog 14 #[.slice ua M uc,.slice (some ⟨GB,0,none⟩) M M] w8 (Post w8 fun _ r=>r=.bool true)):=zhd (by
     have:=xR hu (HG.out.ext hb) rfl
     rw[decide_eq_true rfl]at this;exact this)
    replace T0:=za T0 hb
    clear KCk s0 s1 s2 s3 s4 s5 s6 s7 s8 s9 ls HG hb hu
    have d00:((0:Int) !=0)=false:=rfl
    go_wp2_with fail
    refine HE.out.mono ?_
    rintro _ w9 ⟨_,rfl,hb,rfl⟩
    replace T0:=za T0 hb
    clear HE hb
    go_wp2
    go_roundw
    case rel=>exact ⟨d+1,by omega,by go_num,T0⟩
    case measure=>simp[intOf];omega
   have RS:=HRS.out.ext T0
   have RU:=HRU.out.ext T0
   obtain ⟨s0,s1,s2,s3,s4,s5,s6,s7,s8,s9⟩:=RS.ten
   have ls:=RS.lt
   have u0:=RU.zc 0 rfl
   have lu:=RU.lt
   have KDk:=zhd (KD.out _ T0 x hxl)
   go_wp2_with fail
   refine KDk.out.mono ?_
   rintro _ w8 ⟨_,rfl,hb,ua,uc,rfl,hu⟩
   have RV8:=RV.ext hb
   have RG8:=RG.ext hb
   have KU:=zhd (QA hu (RV8.zc 0 rfl))
   replace T0:=za T0 hb
   clear KDk s0 s1 s2 s3 s4 s5 s6 s7 s8 s9 ls u0 lu hb hu RS RU RV RG
   have HNX:=zhd (HXS.out (d:Int) x hxl)
   have hpx:=HXP.out x hxl
   obtain ⟨z,hz⟩:∃z,z=(valsL ch (finL p.full x)).any fun y=> !decide (y=(d:Int)):=⟨_,rfl⟩
   rw[←hz]at KU HNX
   obtain ⟨P,hP⟩:∃P,P=x * (K+1):=⟨_,rfl⟩
   have hp1:IntKind.i64.wrap ((x:Int) * ((K:Int)+1))=(P:Int):=by
    rw[IntWalk.i64_left,show (x:Int) * ((K:Int)+1)=((x * (K+1):Nat):Int) by push_cast;rfl,←hP,IntWalk.wrap64_in _ (by omega)]
   have hp2:Value.int .i64 (wrap64 ((x:Int) * ((K:Int)+1)))=Value.int .i64 (P:Int):=by rw[←IntWalk.i64_left,hp1]
   replace hp1:Value.int .i64 (IntKind.i64.wrap ((x:Int) * ((K:Int)+1)))=Value.int .i64 (P:Int):=by rw[hp1]
   rw[←hP]at HNX hpx
   clear hz hP
   obtain ⟨L,hL⟩:∃L,L=setX p.full ch (d:Int) x:=⟨_,rfl⟩
   have HLX:L.length=M:=by rw[hL];exact HXL.out _ _
   rw[←hL]at RG8 HNX
   clear hL
   have RW:∀W:World,(Instr.indexAt 52 (.slice (some ⟨GB,0,none⟩) M M) (.int .i64 ((P:Int)+(K:Int)))).run Tryz.prog W=.ok (.pointer (some ⟨GB,P+K,none⟩)) W:=fun W=>by
    have h:=(RG8.bools (by omega)).boolIdx (k:=P+K) (by omega) W
    rw[HLX]at h
    simpa[adr,Addr.add] using h
   have RX:(P:Int)+((K:Int)+1) - 1=(P:Int)+(K:Int):=by omega
   go_wp2_with fail
   refine KU.out.mono ?_
   rintro _ w9 ⟨_,rfl,hb,rfl⟩
   have RV9:=RV8.ext hb
   have RG9:=RG8.ext hb
   replace T0:=za T0 hb
   have hws9:=T0.size
   have cg:=rowBool RG9 (k:=P+K) (by omega)
   have fg:=RG9.free (P+K)
   have lg:=RG9.lt
   have RVN:=RV9.setOther hVG (P+K) (.bool (!z))
   have RGN:=rowSetB RG9 (P+K) (!z)
   rw[←HNX.out]at RGN
   have TN:=T0.setCell (p:=⟨GB,P+K,none⟩) hwG (.bool (!z))
   clear KU hb RV8 RG8 RV9 RG9 HNX T0
   go_wp2
   go_roundw
   case rel=>exact ⟨x+1,by omega,by go_num,TN,RVN,RGN⟩
   case measure=>simp[intOf];omega
end Go.Proofs.YtjpakklplhabdaaGreat
