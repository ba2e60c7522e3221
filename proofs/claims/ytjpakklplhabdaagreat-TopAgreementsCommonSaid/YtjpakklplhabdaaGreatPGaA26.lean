/- Part of the proof that the laws answer true for every input. -/
import Derived.Test.YtjpakklplhabdaaGreatPGaA25
set_option linter.unusedSimpArgs false
set_option linter.unnecessarySimpa false
set_option linter.unusedVariables false
set_option maxRecDepth 100000
set_option maxHeartbeats 40000000
namespace Go.Proofs.YtjpakklplhabdaaGreat
open Go.RowKit Go.Maps Go.Shelf
attribute [local go_sem ↓] Go.wp_at_zero Go.wp_at_succ
attribute [local go_sem] Oper.semAt_some
theorem Xp:(Tryz.prog.info? 49).map (fun i=>(i.zero,i.size,i.bytes))=some (some (.agg #[.int .i64 0,.slice none 0 0,.slice none 0 0]),3,56):=by kernel_rfl
def SysV (S:Nat→Prop) (w:World) (v:Value) (s:SysF):Prop:=
 ∃vc vs vt vx,v=.agg #[.int .i64 s.p.n,.int .i64 s.p.ins,.int .i64 s.p.outs,vc,.int .i64 s.p.an,vs,.int .i64 s.p.rounds,.int .i64 s.tn,vt,vx]∧
  Sl kCase S w vc s.p.cs∧Sl (kSl (kFlat 8)) S w vs s.p.st∧Sl (kFlat 8) S w vt s.tab∧Sl kExec S w vx s.ex
theorem SysV.agree {S:Nat→Prop} {w w':World} {v:Value} {s:SysF} (h:SysV S w v s) (hw:Agree S w w'):SysV S w' v s:=by
 obtain ⟨vc,vs,vt,vx,e,h1,h2,h3,h4⟩:=h
 exact ⟨vc,vs,vt,vx,e,h1.agree hw,h2.agree hw,h3.agree hw,h4.agree hw⟩
theorem SysV.ext {S:Nat→Prop} {w w':World} {v:Value} {s:SysF} (h:SysV S w v s) (hw:Below w.heap.size w w'):SysV S w' v s:=h.agree (.of_ext hw)
theorem SysV.mono {S S':Nat→Prop} {w:World} {v:Value} {s:SysF} (h:SysV S w v s) (hS:∀b,S b→S' b):SysV S' w v s:=by
 obtain ⟨vc,vs,vt,vx,e,h1,h2,h3,h4⟩:=h
 exact ⟨vc,vs,vt,vx,e,h1.mono hS,h2.mono hS,h3.mono hS,h4.mono hS⟩
def ProbD.full (p:ProbD):SysF:=⟨p,p.n,p.sys.1,p.sys.2⟩
def zeroSys:Value:=.agg #[.int .i64 0,.int .i64 0,.int .i64 0,.slice none 0 0,.int .i64 0,.slice none 0 0,.int .i64 0,.int .i64 0,.slice none 0 0,.slice none 0 0]
theorem zbn {S S':Nat→Prop} {w:World} {vc vs:Value} {p:ProbD} (hc:Sl kCase S w vc p.cs) (hs:Sl (kSl (kFlat 8)) S' w vs p.st) (hl:p.st.length≤1000) (hb:buildE p≠0):
  Calls Tryz.prog 15 #[.agg #[.int .i64 p.n,.int .i64 p.ins,.int .i64 p.outs,vc,.int .i64 p.an,vs,.int .i64 p.rounds]] w (Post w fun _ r=>r=.tuple #[zeroSys,.int .i64 (buildE p)]):=by
 have hcnt:∃x e:Int,(if checkPr p=0 then countR p else .tuple #[.int .i64 0,.int .i64 (checkPr p)])=.tuple #[.int .i64 x,.int .i64 e]∧((e≠0∧e=buildE p)∨(e=0∧4096<x∧17=buildE p)):=by
  unfold buildE countR at *
  by_cases h1:checkPr p=0
  ·rw[if_pos h1]at hb ⊢
   rw[if_pos h1]
   by_cases h2:4096<p.num
   ·rw[if_pos h2]
    by_cases h3:1048576<p.num
    ·rw[if_pos h3];exact ⟨0,17,rfl,.inl ⟨by decide,rfl⟩⟩
    ·rw[if_neg h3];exact ⟨p.num,0,rfl,.inr ⟨rfl,by omega,rfl⟩⟩
   ·rw[if_neg h2]at hb;exact absurd rfl hb
  ·rw[if_neg h1,if_neg h1]
   exact ⟨0,checkPr p,rfl,.inl ⟨h1,rfl⟩⟩
 obtain ⟨x,e,hxe,hcase⟩:=hcnt
 have HR:=zhd hcase
 obtain ⟨ca,cc,rfl,_⟩:=hc.form
 obtain ⟨sa,sc,rfl,_⟩:=hs.form
 obtain ⟨P0,hP0⟩:∃P0:List Value,P0=[.int .i64 p.n,.int .i64 p.ins,.int .i64 p.outs,.slice ca p.cs.length cc,.int .i64 p.an,.slice sa p.st.length sc,.int .i64 p.rounds]:=⟨_,rfl⟩
 have KC:Hid (∀W,Below w.heap.size w W→Calls Tryz.prog 28 #[.agg #[.int .i64 p.n,.int .i64 p.ins,.int .i64 p.outs,.slice ca p.cs.length cc,.int .i64 p.an,.slice sa p.st.length sc,.int .i64 p.rounds]] W (Post W fun _ r=>r=.tuple #[.int .i64 x,.int .i64 e])):=zhd fun W hW=>by rw[←hxe];exact Zb (hc.ext hW) (hs.ext hW) hl
 obtain ⟨r,hr⟩:∃r,r=buildE p:=⟨_,rfl⟩
 rw[←hr]at HR ⊢
 clear hxe hcase hr hb hc hs P0 hP0
 have ex:Below w.heap.size w (((w.alloc (.cells #[.int .i64 p.n,.int .i64 p.ins,.int .i64 p.outs,.slice ca p.cs.length cc,.int .i64 p.an,.slice sa p.st.length sc,.int .i64 p.rounds] 29)).alloc (.cells #[.int .i64 0,.int .i64 0,.int .i64 0,.slice none 0 0,.int .i64 0,.slice none 0 0,.int .i64 0,.int .i64 0,.slice none 0 0,.slice none 0 0] 39)).alloc (.cells #[.int .i64 0] 42)):=zg (zg (zb w _) _) _
 have R1:=((ze w [.int .i64 p.n,.int .i64 p.ins,.int .i64 p.outs,.slice ca p.cs.length cc,.int .i64 p.an,.slice sa p.st.length sc,.int .i64 p.rounds] 29).alloc (.cells #[.int .i64 0,.int .i64 0,.int .i64 0,.slice none 0 0,.int .i64 0,.slice none 0 0,.int .i64 0,.int .i64 0,.slice none 0 0,.slice none 0 0] 39)).alloc (.cells #[.int .i64 0] 42)
 have RS:=(ze (w.alloc (.cells #[.int .i64 p.n,.int .i64 p.ins,.int .i64 p.outs,.slice ca p.cs.length cc,.int .i64 p.an,.slice sa p.st.length sc,.int .i64 p.rounds] 29)) [.int .i64 0,.int .i64 0,.int .i64 0,.slice none 0 0,.int .i64 0,.slice none 0 0,.int .i64 0,.int .i64 0,.slice none 0 0,.slice none 0 0] 39).alloc (.cells #[.int .i64 0] 42)
 have RE:=ze ((w.alloc (.cells #[.int .i64 p.n,.int .i64 p.ins,.int .i64 p.outs,.slice ca p.cs.length cc,.int .i64 p.an,.slice sa p.st.length sc,.int .i64 p.rounds] 29)).alloc (.cells #[.int .i64 0,.int .i64 0,.int .i64 0,.slice none 0 0,.int .i64 0,.slice none 0 0,.int .i64 0,.int .i64 0,.slice none 0 0,.slice none 0 0] 39)) [.int .i64 0] 42
 simp only[World.size_alloc]at RS RE
 have c0:=R1.zc 0 rfl
 have c1:=R1.zc 1 rfl
 have c2:=R1.zc 2 rfl
 have c3:=R1.zc 3 rfl
 have c4:=R1.zc 4 rfl
 have c5:=R1.zc 5 rfl
 have c6:=R1.zc 6 rfl
 have hw1:=R1.lt
 go_enter Tryz.func15,Tryz.ntmps15
 go_wp2_with fail
 refine (KC.out _ ex).mono ?_
 rintro _ w1 ⟨_,rfl,hb1,rfl⟩
 replace RS:=RS.ext hb1
 replace RE:=RE.ext hb1
 replace ex:=za ex hb1
 obtain ⟨S2,hS2'⟩:∃S2,S2=w.heap.size+1:=⟨_,rfl⟩
 obtain ⟨E3,hE3'⟩:∃E3,E3=w.heap.size+1+1:=⟨_,rfl⟩
 rw[←hS2']at RS
 rw[←hE3']at RE
 have hS2:w.heap.size≤S2:=by omega
 have hE3:w.heap.size≤E3:=by omega
 have hSE:E3≠S2:=by omega
 rw[←hE3',←hS2']
 clear R1 c0 c1 c2 c3 c4 c5 c6 hw1 hb1 KC hE3' hS2'
 rcases HR.out with h | h
 ·have d1:(e !=0)=true:=by simp[h.1]
  have HEQ:=zhd h.2
  clear h HR
  have l2:=RS.lt
  have l3:=RE.lt
  obtain ⟨d0,d1,d2,d3,d4,d5,d6,d7,d8,d9⟩:=RS.ten
  have f0:=RS.free 0
  have f1:=RS.free 1
  have f2:=RS.free 2
  have f3:=RS.free 3
  have f4:=RS.free 4
  have f5:=RS.free 5
  have f6:=RS.free 6
  have f7:=RS.free 7
  have f8:=RS.free 8
  have f9:=RS.free 9
  have e0:=RE.zc 0 rfl
  have g0:=RE.free 0
  have HRS:=zhd (RS.sets [(0,.int .i64 0),(1,.int .i64 0),(2,.int .i64 0),(3,.slice none 0 0),(4,.int .i64 0),(5,.slice none 0 0),(6,.int .i64 0),(7,.int .i64 0),(8,.slice none 0 0),(9,.slice none 0 0)])
  have HAS:=zhd (zQ S2 [(0,.int .i64 0),(1,.int .i64 0),(2,.int .i64 0),(3,.slice none 0 0),(4,.int .i64 0),(5,.slice none 0 0),(6,.int .i64 0),(7,.int .i64 0),(8,.slice none 0 0),(9,.slice none 0 0)] w1)
  have HBS:=zhd (zD hS2 [(0,.int .i64 0),(1,.int .i64 0),(2,.int .i64 0),(3,.slice none 0 0),(4,.int .i64 0),(5,.slice none 0 0),(6,.int .i64 0),(7,.int .i64 0),(8,.slice none 0 0),(9,.slice none 0 0)] w1 ex)
  have HRE:=zhd (((RE.agree HAS.out hSE).set 0 (.int .i64 e)))
  obtain ⟨W7,hW7⟩:∃W7,W7=sets S2 [(0,.int .i64 0),(1,.int .i64 0),(2,.int .i64 0),(3,.slice none 0 0),(4,.int .i64 0),(5,.slice none 0 0),(6,.int .i64 0),(7,.int .i64 0),(8,.slice none 0 0),(9,.slice none 0 0)] w1:=⟨_,rfl⟩
  rw[←hW7]at HRS HAS HBS HRE
  have HRS2:=zhd (HRS.out.grown (zj W7 E3 0 (.int .i64 e)) (by intro e;exact hSE (by injection e)))
  have HB2:=zhd (HBS.out.setCell (p:=⟨E3,0,none⟩) hE3 (.int .i64 e))
  have eE:=(RE.agree HAS.out hSE).zc 0 rfl
  have gE:=(RE.agree HAS.out hSE).free 0
  have lE:=(RE.agree HAS.out hSE).lt
  unfold sets at hW7
  simp only[List.foldl_cons,List.foldl_nil]at hW7
  clear RS RE ex
  go_wp2
  rw[←hW7]
  obtain ⟨W8,hW8⟩:∃W8,W8=W7.setCell ⟨E3,0,none⟩ (.int .i64 e):=⟨_,rfl⟩
  rw[←hW8]at HRS2 HRE HB2 ⊢
  clear hW8 hW7
  have q0:W8.cell? ⟨S2,0,none⟩=some _:=HRS2.out.zc 0 rfl
  have q1:W8.cell? ⟨S2,1,none⟩=some _:=HRS2.out.zc 1 rfl
  have q2:W8.cell? ⟨S2,2,none⟩=some _:=HRS2.out.zc 2 rfl
  have q3:W8.cell? ⟨S2,3,none⟩=some _:=HRS2.out.zc 3 rfl
  have q4:W8.cell? ⟨S2,4,none⟩=some _:=HRS2.out.zc 4 rfl
  have q5:W8.cell? ⟨S2,5,none⟩=some _:=HRS2.out.zc 5 rfl
  have q6:W8.cell? ⟨S2,6,none⟩=some _:=HRS2.out.zc 6 rfl
  have q7:W8.cell? ⟨S2,7,none⟩=some _:=HRS2.out.zc 7 rfl
  have q8:W8.cell? ⟨S2,8,none⟩=some _:=HRS2.out.zc 8 rfl
  have q9:W8.cell? ⟨S2,9,none⟩=some _:=HRS2.out.zc 9 rfl
  have qe:W8.cell? ⟨E3,0,none⟩=some _:=HRE.out.zc 0 rfl
  refine bodyPost_ret (v:=.tuple #[.agg #[.int .i64 0,.int .i64 0,.int .i64 0,.slice none 0 0,.int .i64 0,.slice none 0 0,.int .i64 0,.int .i64 0,.slice none 0 0,.slice none 0 0],(.int .i64 e)]) (by simp[results,Tryz.results15,go_sem,q0,q1,q2,q3,q4,q5,q6,q7,q8,q9,qe]) rfl ?_
  exact .mk HB2.out (by rw[HEQ.out];rfl)
 ·obtain ⟨h1,h2,h3⟩:=h
  subst h1
  have d1:decide (4096<x)=true:=by simp[h2]
  have HEQ:=zhd h3
  clear h3 HR
  have l2:=RS.lt
  have l3:=RE.lt
  obtain ⟨d0,d1,d2,d3,d4,d5,d6,d7,d8,d9⟩:=RS.ten
  have f0:=RS.free 0
  have f1:=RS.free 1
  have f2:=RS.free 2
  have f3:=RS.free 3
  have f4:=RS.free 4
  have f5:=RS.free 5
  have f6:=RS.free 6
  have f7:=RS.free 7
  have f8:=RS.free 8
  have f9:=RS.free 9
  have e0:=RE.zc 0 rfl
  have g0:=RE.free 0
  have HRS:=zhd (RS.sets [(0,.int .i64 0),(1,.int .i64 0),(2,.int .i64 0),(3,.slice none 0 0),(4,.int .i64 0),(5,.slice none 0 0),(6,.int .i64 0),(7,.int .i64 0),(8,.slice none 0 0),(9,.slice none 0 0)])
  have HAS:=zhd (zQ S2 [(0,.int .i64 0),(1,.int .i64 0),(2,.int .i64 0),(3,.slice none 0 0),(4,.int .i64 0),(5,.slice none 0 0),(6,.int .i64 0),(7,.int .i64 0),(8,.slice none 0 0),(9,.slice none 0 0)] w1)
  have HBS:=zhd (zD hS2 [(0,.int .i64 0),(1,.int .i64 0),(2,.int .i64 0),(3,.slice none 0 0),(4,.int .i64 0),(5,.slice none 0 0),(6,.int .i64 0),(7,.int .i64 0),(8,.slice none 0 0),(9,.slice none 0 0)] w1 ex)
  have HRE:=zhd (((RE.agree HAS.out hSE).set 0 (.int .i64 17)))
  obtain ⟨W7,hW7⟩:∃W7,W7=sets S2 [(0,.int .i64 0),(1,.int .i64 0),(2,.int .i64 0),(3,.slice none 0 0),(4,.int .i64 0),(5,.slice none 0 0),(6,.int .i64 0),(7,.int .i64 0),(8,.slice none 0 0),(9,.slice none 0 0)] w1:=⟨_,rfl⟩
  rw[←hW7]at HRS HAS HBS HRE
  have HRS2:=zhd (HRS.out.grown (zj W7 E3 0 (.int .i64 17)) (by intro e;exact hSE (by injection e)))
  have HB2:=zhd (HBS.out.setCell (p:=⟨E3,0,none⟩) hE3 (.int .i64 17))
  have eE:=(RE.agree HAS.out hSE).zc 0 rfl
  have gE:=(RE.agree HAS.out hSE).free 0
  have lE:=(RE.agree HAS.out hSE).lt
  unfold sets at hW7
  simp only[List.foldl_cons,List.foldl_nil]at hW7
  clear RS RE ex
  go_wp2
  rw[←hW7]
  obtain ⟨W8,hW8⟩:∃W8,W8=W7.setCell ⟨E3,0,none⟩ (.int .i64 17):=⟨_,rfl⟩
  rw[←hW8]at HRS2 HRE HB2 ⊢
  clear hW8 hW7
  have q0:W8.cell? ⟨S2,0,none⟩=some _:=HRS2.out.zc 0 rfl
  have q1:W8.cell? ⟨S2,1,none⟩=some _:=HRS2.out.zc 1 rfl
  have q2:W8.cell? ⟨S2,2,none⟩=some _:=HRS2.out.zc 2 rfl
  have q3:W8.cell? ⟨S2,3,none⟩=some _:=HRS2.out.zc 3 rfl
  have q4:W8.cell? ⟨S2,4,none⟩=some _:=HRS2.out.zc 4 rfl
  have q5:W8.cell? ⟨S2,5,none⟩=some _:=HRS2.out.zc 5 rfl
  have q6:W8.cell? ⟨S2,6,none⟩=some _:=HRS2.out.zc 6 rfl
  have q7:W8.cell? ⟨S2,7,none⟩=some _:=HRS2.out.zc 7 rfl
  have q8:W8.cell? ⟨S2,8,none⟩=some _:=HRS2.out.zc 8 rfl
  have q9:W8.cell? ⟨S2,9,none⟩=some _:=HRS2.out.zc 9 rfl
  have qe:W8.cell? ⟨E3,0,none⟩=some _:=HRE.out.zc 0 rfl
  refine bodyPost_ret (v:=.tuple #[.agg #[.int .i64 0,.int .i64 0,.int .i64 0,.slice none 0 0,.int .i64 0,.slice none 0 0,.int .i64 0,.int .i64 0,.slice none 0 0,.slice none 0 0],(.int .i64 17)]) (by simp[results,Tryz.results15,go_sem,q0,q1,q2,q3,q4,q5,q6,q7,q8,q9,qe]) rfl ?_
  exact .mk HB2.out (by rw[←HEQ.out];rfl)
theorem Yt {F:Fence} {n:Nat} {P:Program} {fn:Func} {tmps:Array Value} {R:Ending→World→Prop} {W:World} {D:Nat} (hK:W.heap[D]? =some (.deferred (some []))) (h:LeavesInM F n P fn tmps R [] .returning (W.putObj D (.deferred none))):LeavesInM F n P fn tmps R [{target:=.collected D,args:=#[]}] .returning W:=
 ⟨by simp,.inl ⟨_,_,rfl,run_takeDeferred hK,h⟩⟩
theorem zdU:(fun _=>none:List Int→Option Value)=numM []:=by funext x;unfold numM;rw[if_neg (by simp)]
theorem Yo {S0:Nat→Prop} {w:World} {vc vs:Value} {N K:Nat} {ins outs:Int} {cs:List CaseD} {st:Moves} (hc:Sl kCase (fun b=>S0 b∧b<w.heap.size) w vc cs) (hs:Sl (kSl (kFlat 8)) (fun b=>S0 b∧b<w.heap.size) w vs st) (hok:ProbOK (⟨N,ins,outs,cs,N,st,K⟩:ProbD) N) (hcp:CopyOK (⟨N,ins,outs,cs,N,st,K⟩:ProbD)) (hz:checkPr (⟨N,ins,outs,cs,N,st,K⟩:ProbD)=0) (hnum:(⟨N,ins,outs,cs,N,st,K⟩:ProbD).num≤60) (hN3:N≤3):
  Calls Tryz.prog 15 #[.agg #[.int .i64 N,.int .i64 ins,.int .i64 outs,vc,.int .i64 N,vs,.int .i64 K]] w (Post w fun w' r=>∃v,r=.tuple #[v,.int .i64 0]∧SysV (fun b=>(S0 b∧b<w.heap.size)∨w.heap.size≤b) w' v (⟨N,ins,outs,cs,N,st,K⟩:ProbD).full):=by
 obtain ⟨ca,cc,rfl,_⟩:=hc.form
 obtain ⟨sa,sc,rfl,_⟩:=hs.form
 have h8:=qC hs
 have hsl:=hok.s1
 have hcl:=hok.c1
 have hn1:=hok.n1
 have hkr:=hok.r
 dsimp only at hsl hcl hkr
 have hcnt:cntW st K 0≤4096:=by
  have h1:(⟨N,ins,outs,cs,N,st,K⟩:ProbD).num=cs.length * cntW st K 0:=rfl
  rw[h1]at hnum
  have h2:=Nat.mul_le_mul_right (cntW st K 0) hcl.1
  omega
 have KC:Hid (∀W,Below w.heap.size w W→Calls Tryz.prog 28 #[.agg #[.int .i64 N,.int .i64 ins,.int .i64 outs,.slice ca cs.length cc,.int .i64 N,.slice sa st.length sc,.int .i64 K]] W (Post W fun _ r=>r=.tuple #[.int .i64 ((⟨N,ins,outs,cs,N,st,K⟩:ProbD).num:Nat),.int .i64 0])):=zhd fun W hW=>by
  have h1:=Zb (p:=(⟨N,ins,outs,cs,N,st,K⟩:ProbD)) (hc.ext hW) (hs.ext hW) (by show st.length≤1000;omega)
  rw[if_pos hz]at h1
  have h2:countR (⟨N,ins,outs,cs,N,st,K⟩:ProbD)=.tuple #[.int .i64 ((⟨N,ins,outs,cs,N,st,K⟩:ProbD).num:Nat),.int .i64 0]:=by unfold countR;rw[if_neg (by omega)]
  rw[h2]at h1
  exact h1
 have KW:Hid (∀W,Below w.heap.size w W→Calls Tryz.prog 29 #[.agg #[.int .i64 N,.slice sa st.length sc],.int .i64 K] W (Post W fun w' r=>∃v,r=.tuple #[v,.int .i64 0]∧Sl kWord (fun b=>W.heap.size≤b) w' v (wordsD st K 0))):=zhd fun W hW=>XP N (hs.ext hW) hok.a K (by omega) hcnt
 have KP:Hid (∀W,Below w.heap.size w W→Calls Tryz.prog 30 #[.agg #[.int .i64 N,.int .i64 ins,.int .i64 outs,.slice ca cs.length cc,.int .i64 N,.slice sa st.length sc,.int .i64 K]] W (Post W fun w' r=>∃vc' vs',r=.agg #[.int .i64 N,.int .i64 ins,.int .i64 outs,vc',.int .i64 N,vs',.int .i64 K]∧Sl kCase (fun b=>((S0 b∧b<w.heap.size)∧b<W.heap.size)∨W.heap.size≤b) w' vc' cs∧Sl (kSl (kFlat 8)) (fun b=>((S0 b∧b<w.heap.size)∧b<W.heap.size)∨W.heap.size≤b) w' vs' st)):=zhd fun W hW=>Qp (p:=(⟨N,ins,outs,cs,N,st,K⟩:ProbD)) (hc.ext hW) (hs.ext hW) hcp
 have HC:=zhd hc
 have HOK:=zhd hok
 have HWK:Hid ((∀x∈wordsD st K 0,∀r∈x,RoundOK N r)∧∀x∈wordsD st K 0,x.length=K):=zhd ⟨fun x hx=>hok.words h8 K x hx,qA st K 0⟩
 have HNUM:Hid ((⟨N,ins,outs,cs,N,st,K⟩:ProbD).num≤60∧(⟨N,ins,outs,cs,N,st,K⟩:ProbD).num=cs.length * (wordsD st K 0).length∧(⟨N,ins,outs,cs,N,st,K⟩:ProbD).full=⟨(⟨N,ins,outs,cs,N,st,K⟩:ProbD),N,(runE N cs (pairsW cs.length (wordsD st K 0))).1,(runE N cs (pairsW cs.length (wordsD st K 0))).2⟩):=zhd ⟨hnum,by rw[zS];rfl,by unfold ProbD.full ProbD.sys ProbD.pairs;simp⟩
 have hfin:∀(W:World) (v:Value),SysV (fun b=>(S0 b∧b<w.heap.size)∨w.heap.size≤b) W v ⟨(⟨N,ins,outs,cs,N,st,K⟩:ProbD),N,(runE N cs (pairsW cs.length (wordsD st K 0))).1,(runE N cs (pairsW cs.length (wordsD st K 0))).2⟩→SysV (fun b=>(S0 b∧b<w.heap.size)∨w.heap.size≤b) W v (⟨N,ins,outs,cs,N,st,K⟩:ProbD).full:=fun W v h=>by rw[HNUM.out.2.2];exact h
 have HFIN:=zhd hfin
 obtain ⟨q,hq⟩:∃q,q=(⟨N,ins,outs,cs,N,st,K⟩:ProbD).num:=⟨_,rfl⟩
 rw[←hq]at KC
 have hq2:¬4096<q:=by omega
 obtain ⟨ws,hws0⟩:∃ws,ws=wordsD st K 0:=⟨_,rfl⟩
 rw[←hws0]at KW HWK HNUM HFIN
 have hK6:K≤6:=by omega
 clear hfin hq hws0 hc hs hok hcp hz hnum hcnt h8 hkr
 have ex:Below w.heap.size w (((w.alloc (.cells #[.int .i64 N,.int .i64 ins,.int .i64 outs,.slice ca cs.length cc,.int .i64 N,.slice sa st.length sc,.int .i64 K] 29)).alloc (.cells #[.int .i64 0,.int .i64 0,.int .i64 0,.slice none 0 0,.int .i64 0,.slice none 0 0,.int .i64 0,.int .i64 0,.slice none 0 0,.slice none 0 0] 39)).alloc (.cells #[.int .i64 0] 42)):=zg (zg (zb w _) _) _
 have R1:=((ze w [.int .i64 N,.int .i64 ins,.int .i64 outs,.slice ca cs.length cc,.int .i64 N,.slice sa st.length sc,.int .i64 K] 29).alloc (.cells #[.int .i64 0,.int .i64 0,.int .i64 0,.slice none 0 0,.int .i64 0,.slice none 0 0,.int .i64 0,.int .i64 0,.slice none 0 0,.slice none 0 0] 39)).alloc (.cells #[.int .i64 0] 42)
 have RS:=(ze (w.alloc (.cells #[.int .i64 N,.int .i64 ins,.int .i64 outs,.slice ca cs.length cc,.int .i64 N,.slice sa st.length sc,.int .i64 K] 29)) [.int .i64 0,.int .i64 0,.int .i64 0,.slice none 0 0,.int .i64 0,.slice none 0 0,.int .i64 0,.int .i64 0,.slice none 0 0,.slice none 0 0] 39).alloc (.cells #[.int .i64 0] 42)
 have RE:=ze ((w.alloc (.cells #[.int .i64 N,.int .i64 ins,.int .i64 outs,.slice ca cs.length cc,.int .i64 N,.slice sa st.length sc,.int .i64 K] 29)).alloc (.cells #[.int .i64 0,.int .i64 0,.int .i64 0,.slice none 0 0,.int .i64 0,.slice none 0 0,.int .i64 0,.int .i64 0,.slice none 0 0,.slice none 0 0] 39)) [.int .i64 0] 42
 simp only[World.size_alloc]at RS RE
 have c0:=R1.zc 0 rfl
 have c1:=R1.zc 1 rfl
 have c2:=R1.zc 2 rfl
 have c3:=R1.zc 3 rfl
 have c4:=R1.zc 4 rfl
 have c5:=R1.zc 5 rfl
 have c6:=R1.zc 6 rfl
 have hw1:=R1.lt
 refine (callsIn_wide (n:=6)).1 ?_
 refine callsIn_of_wp_marks Tryz.func15 rfl trivial ?_ rfl
 simp only[Tryz.ntmps15,List.size_toArray,List.length_cons,List.length_nil,Nat.reduceAdd,Nat.reduceSub,Array.replicate_succ,Array.replicate_zero,List.push_toArray,List.append_toArray,List.nil_append,List.cons_append]
 refine wpIn_wide.2 ?_
 go_wp2_with fail
 refine (KC.out _ ex).mono ?_
 rintro _ w1 ⟨_,rfl,hb1,rfl⟩
 replace RS:=RS.ext hb1
 replace RE:=RE.ext hb1
 replace R1:=R1.ext hb1
 replace ex:=za ex hb1
 clear c0 c1 c2 c3 c4 c5 c6 hw1 hb1 KC
 have c0:=R1.zc 0 rfl
 have c1:=R1.zc 1 rfl
 have c2:=R1.zc 2 rfl
 have c3:=R1.zc 3 rfl
 have c4:=R1.zc 4 rfl
 have c5:=R1.zc 5 rfl
 have c6:=R1.zc 6 rfl
 go_wp2_with fail
 refine (KW.out _ ex).mono ?_
 rintro _ w2 ⟨_,rfl,hb2,wv,rfl,hws⟩
 obtain ⟨wa,wc,rfl,_⟩:=hws.form
 have hs1:=ex.size
 replace RS:=RS.ext hb2
 replace RE:=RE.ext hb2
 replace R1:=R1.ext hb2
 replace ex:=za ex hb2
 clear c0 c1 c2 c3 c4 c5 c6 KW hq2
 have c0:=R1.zc 0 rfl
 have c1:=R1.zc 1 rfl
 have c2:=R1.zc 2 rfl
 have c3:=R1.zc 3 rfl
 have c4:=R1.zc 4 rfl
 have c5:=R1.zc 5 rfl
 have c6:=R1.zc 6 rfl
 go_wp2_with fail
 refine (KP.out _ ex).mono ?_
 rintro _ w3 ⟨_,rfl,hb3,vc',vs',rfl,hc3,hs3⟩
 obtain ⟨ca2,cc2,rfl,_⟩:=hc3.form
 obtain ⟨sa2,sc2,rfl,_⟩:=hs3.form
 have HWS:Hid (Sl kWord (fun b=>w1.heap.size≤b∧b<w3.heap.size) w3 (.slice wa ws.length wc) ws):=zhd ((hws.block.ext hb3).mono fun b hb=>⟨hb.1,Nat.lt_of_lt_of_le hb.2 hb3.size⟩)
 have hs2:=ex.size
 have hRE2:=RE.lt
 have HC3:Hid (Sl kCase (fun b=>((S0 b∧b<w.heap.size)∨w2.heap.size≤b)∧b<w3.heap.size) w3 (.slice ca2 cs.length cc2) cs):=zhd (hc3.block.mono fun b hb=>⟨by rcases hb.1 with h | h;exact .inl h.1;exact .inr h,hb.2⟩)
 have HS3:Hid (Sl (kSl (kFlat 8)) (fun b=>((S0 b∧b<w.heap.size)∨w2.heap.size≤b)∧b<w3.heap.size) w3 (.slice sa2 st.length sc2) st):=zhd (hs3.block.mono fun b hb=>⟨by rcases hb.1 with h | h;exact .inl h.1;exact .inr h,hb.2⟩)
 have hRE1:w.heap.size+3≤w2.heap.size:=by omega
 have hs3x:=hb3.size
 replace RS:=RS.ext hb3
 replace RE:=RE.ext hb3
 replace R1:=R1.ext hb3
 replace ex:=za ex hb3
 clear c0 c1 c2 c3 c4 c5 c6 KP hws hc3 hs3 hb2 hb3 hRE2
 have c0:=R1.zc 0 rfl
 have c1:=R1.zc 1 rfl
 have c2:=R1.zc 2 rfl
 have c3:=R1.zc 3 rfl
 have c4:=R1.zc 4 rfl
 have c5:=R1.zc 5 rfl
 have c6:=R1.zc 6 rfl
 have hw3:=R1.lt
 have hmm:=@run_makeMap Tryz.prog
 have RA:=R1.alloc (.cells #[.int .i64 N,.int .i64 ins,.int .i64 outs,.slice ca2 cs.length cc2,.int .i64 N,.slice sa2 st.length sc2,.int .i64 K,.int .i64 0,.slice none 0 0,.slice none 0 0] 39)
 have a0:=RA.zc 0 rfl
 have RB:=(((R1.alloc (.cells #[.int .i64 N,.int .i64 ins,.int .i64 outs,.slice ca2 cs.length cc2,.int .i64 N,.slice sa2 st.length sc2,.int .i64 K,.int .i64 0,.slice none 0 0,.slice none 0 0] 39)).alloc (.map #[] 0)).alloc (.cells #[.int .i64 N,.slice none 0 0,.map (some (w3.heap.size+1))] 97)).alloc (.cells #[.pointer (some ⟨w3.heap.size+1+1,0,none⟩)] 94)
 have b0:=RB.zc 0 rfl
 have b1:=RB.zc 1 rfl
 have b2:=RB.zc 2 rfl
 have b3:=RB.zc 3 rfl
 have b4:=RB.zc 4 rfl
 have b5:=RB.zc 5 rfl
 have b6:=RB.zc 6 rfl
 have KX:=zhd (XQ ((((w3.alloc (.cells #[.int .i64 N,.int .i64 ins,.int .i64 outs,.slice ca2 cs.length cc2,.int .i64 N,.slice sa2 st.length sc2,.int .i64 K,.int .i64 0,.slice none 0 0,.slice none 0 0] 39)).alloc (.map #[] 0)).alloc (.cells #[.int .i64 N,.slice none 0 0,.map (some (w3.heap.size+1))] 97)).alloc (.cells #[.pointer (some ⟨w3.heap.size+1+1,0,none⟩)] 94)) N ins outs N K ca cs.length cc sa st.length sc wa ws.length wc)
 go_wp2_with fail
 refine KX.out.mono ?_
 rintro _ _ ⟨rfl,rfl⟩
 have R7:=(((((ze w3 [.int .i64 N,.int .i64 ins,.int .i64 outs,.slice ca2 cs.length cc2,.int .i64 N,.slice sa2 st.length sc2,.int .i64 K,.int .i64 0,.slice none 0 0,.slice none 0 0] 39).alloc (.map #[] 0)).alloc (.cells #[.int .i64 N,.slice none 0 0,.map (some (w3.heap.size+1))] 97)).alloc (.cells #[.pointer (some ⟨w3.heap.size+1+1,0,none⟩)] 94)).alloc (.cells #[.int .i64 N,.int .i64 ins,.int .i64 outs,.slice ca cs.length cc,.int .i64 N,.slice sa st.length sc,.int .i64 K] 29)).alloc (.cells #[.slice wa ws.length wc] 90)
 have RM:=((((MapV.made viewKey (w3.alloc (.cells #[.int .i64 N,.int .i64 ins,.int .i64 outs,.slice ca2 cs.length cc2,.int .i64 N,.slice sa2 st.length sc2,.int .i64 K,.int .i64 0,.slice none 0 0,.slice none 0 0] 39))).alloc (.cells #[.int .i64 N,.slice none 0 0,.map (some (w3.heap.size+1))] 97)).alloc (.cells #[.pointer (some ⟨w3.heap.size+1+1,0,none⟩)] 94)).alloc (.cells #[.int .i64 N,.int .i64 ins,.int .i64 outs,.slice ca cs.length cc,.int .i64 N,.slice sa st.length sc,.int .i64 K] 29)).alloc (.cells #[.slice wa ws.length wc] 90)
 have RBB:=(((ze ((w3.alloc (.cells #[.int .i64 N,.int .i64 ins,.int .i64 outs,.slice ca2 cs.length cc2,.int .i64 N,.slice sa2 st.length sc2,.int .i64 K,.int .i64 0,.slice none 0 0,.slice none 0 0] 39)).alloc (.map #[] 0)) [.int .i64 N,.slice none 0 0,.map (some (w3.heap.size+1))] 97).alloc (.cells #[.pointer (some ⟨w3.heap.size+1+1,0,none⟩)] 94)).alloc (.cells #[.int .i64 N,.int .i64 ins,.int .i64 outs,.slice ca cs.length cc,.int .i64 N,.slice sa st.length sc,.int .i64 K] 29)).alloc (.cells #[.slice wa ws.length wc] 90)
 have RBP:=((ze (((w3.alloc (.cells #[.int .i64 N,.int .i64 ins,.int .i64 outs,.slice ca2 cs.length cc2,.int .i64 N,.slice sa2 st.length sc2,.int .i64 K,.int .i64 0,.slice none 0 0,.slice none 0 0] 39)).alloc (.map #[] 0)).alloc (.cells #[.int .i64 N,.slice none 0 0,.map (some (w3.heap.size+1))] 97)) [.pointer (some ⟨w3.heap.size+1+1,0,none⟩)] 94).alloc (.cells #[.int .i64 N,.int .i64 ins,.int .i64 outs,.slice ca cs.length cc,.int .i64 N,.slice sa st.length sc,.int .i64 K] 29)).alloc (.cells #[.slice wa ws.length wc] 90)
 have RX1:=(ze ((((w3.alloc (.cells #[.int .i64 N,.int .i64 ins,.int .i64 outs,.slice ca2 cs.length cc2,.int .i64 N,.slice sa2 st.length sc2,.int .i64 K,.int .i64 0,.slice none 0 0,.slice none 0 0] 39)).alloc (.map #[] 0)).alloc (.cells #[.int .i64 N,.slice none 0 0,.map (some (w3.heap.size+1))] 97)).alloc (.cells #[.pointer (some ⟨w3.heap.size+1+1,0,none⟩)] 94)) [.int .i64 N,.int .i64 ins,.int .i64 outs,.slice ca cs.length cc,.int .i64 N,.slice sa st.length sc,.int .i64 K] 29).alloc (.cells #[.slice wa ws.length wc] 90)
 have RX2:=ze (((((w3.alloc (.cells #[.int .i64 N,.int .i64 ins,.int .i64 outs,.slice ca2 cs.length cc2,.int .i64 N,.slice sa2 st.length sc2,.int .i64 K,.int .i64 0,.slice none 0 0,.slice none 0 0] 39)).alloc (.map #[] 0)).alloc (.cells #[.int .i64 N,.slice none 0 0,.map (some (w3.heap.size+1))] 97)).alloc (.cells #[.pointer (some ⟨w3.heap.size+1+1,0,none⟩)] 94)).alloc (.cells #[.int .i64 N,.int .i64 ins,.int .i64 outs,.slice ca cs.length cc,.int .i64 N,.slice sa st.length sc,.int .i64 K] 29)) [.slice wa ws.length wc] 90
 have hx6:Below w3.heap.size w3 ((((((w3.alloc (.cells #[.int .i64 N,.int .i64 ins,.int .i64 outs,.slice ca2 cs.length cc2,.int .i64 N,.slice sa2 st.length sc2,.int .i64 K,.int .i64 0,.slice none 0 0,.slice none 0 0] 39)).alloc (.map #[] 0)).alloc (.cells #[.int .i64 N,.slice none 0 0,.map (some (w3.heap.size+1))] 97)).alloc (.cells #[.pointer (some ⟨w3.heap.size+1+1,0,none⟩)] 94)).alloc (.cells #[.int .i64 N,.int .i64 ins,.int .i64 outs,.slice ca cs.length cc,.int .i64 N,.slice sa st.length sc,.int .i64 K] 29)).alloc (.cells #[.slice wa ws.length wc] 90)):=zg (zg (zg (zg (zg (zg (.refl _ _) (.cells #[.int .i64 N,.int .i64 ins,.int .i64 outs,.slice ca2 cs.length cc2,.int .i64 N,.slice sa2 st.length sc2,.int .i64 K,.int .i64 0,.slice none 0 0,.slice none 0 0] 39)) (.map #[] 0)) (.cells #[.int .i64 N,.slice none 0 0,.map (some (w3.heap.size+1))] 97)) (.cells #[.pointer (some ⟨w3.heap.size+1+1,0,none⟩)] 94)) (.cells #[.int .i64 N,.int .i64 ins,.int .i64 outs,.slice ca cs.length cc,.int .i64 N,.slice sa st.length sc,.int .i64 K] 29)) (.cells #[.slice wa ws.length wc] 90)
 simp only[World.size_alloc]at R7 RM RBB RBP RX1 RX2 ⊢
 have hz0:((((((w3.alloc (.cells #[.int .i64 N,.int .i64 ins,.int .i64 outs,.slice ca2 cs.length cc2,.int .i64 N,.slice sa2 st.length sc2,.int .i64 K,.int .i64 0,.slice none 0 0,.slice none 0 0] 39)).alloc (.map #[] 0)).alloc (.cells #[.int .i64 N,.slice none 0 0,.map (some (w3.heap.size+1))] 97)).alloc (.cells #[.pointer (some ⟨w3.heap.size+1+1,0,none⟩)] 94)).alloc (.cells #[.int .i64 N,.int .i64 ins,.int .i64 outs,.slice ca cs.length cc,.int .i64 N,.slice sa st.length sc,.int .i64 K] 29)).alloc (.cells #[.slice wa ws.length wc] 90)).heap.size=w3.heap.size+6:=by simp
 obtain ⟨B,hB⟩:∃B,B=w3.heap.size:=⟨_,rfl⟩
 rw[←hB]at R7 RM RBB RBP RX1 RX2 hx6 hz0 ⊢
 obtain ⟨w0,hw0⟩:∃w0,w0=((((((w3.alloc (.cells #[.int .i64 N,.int .i64 ins,.int .i64 outs,.slice ca2 cs.length cc2,.int .i64 N,.slice sa2 st.length sc2,.int .i64 K,.int .i64 0,.slice none 0 0,.slice none 0 0] 39)).alloc (.map #[] 0)).alloc (.cells #[.int .i64 N,.slice none 0 0,.map (some (B+1))] 97)).alloc (.cells #[.pointer (some ⟨B+1+1,0,none⟩)] 94)).alloc (.cells #[.int .i64 N,.int .i64 ins,.int .i64 outs,.slice ca cs.length cc,.int .i64 N,.slice sa st.length sc,.int .i64 K] 29)).alloc (.cells #[.slice wa ws.length wc] 90)):=⟨_,rfl⟩
 rw[←hw0]at R7 RM RBB RBP RX1 RX2 hx6 hz0 ⊢
 clear hw0 hmm KX RA RB a0 b0 b1 b2 b3 b4 b5 b6 c0 c1 c2 c3 c4 c5 c6 hw3
 have hx6':Below w3.heap.size w3 w0:=by rw[←hB];exact hx6
 replace R1:=R1.ext hx6'
 replace RS:=RS.ext hx6'
 replace RE:=RE.ext hx6'
 replace ex:=za ex hx6'
 have HWS0:Hid (Sl kWord (fun b=>w1.heap.size≤b∧b<B) w0 (.slice wa ws.length wc) ws):=zhd (by rw[hB];exact HWS.out.ext hx6')
 have HC30:Hid (Sl kCase (fun b=>((S0 b∧b<w.heap.size)∨w2.heap.size≤b)∧b<B) w0 (.slice ca2 cs.length cc2) cs):=zhd (by rw[hB];exact HC3.out.ext hx6')
 have HS30:Hid (Sl (kSl (kFlat 8)) (fun b=>((S0 b∧b<w.heap.size)∨w2.heap.size≤b)∧b<B) w0 (.slice sa2 st.length sc2) st):=zhd (by rw[hB];exact HS3.out.ext hx6')
 have HC0:=zhd (HC.out.ext ex)
 obtain ⟨wb,wk,hv⟩:=Yi HWS0.out
 have HV:=zhd hv
 rw[←hB]at hs3x
 simp only[Nat.add_assoc,Nat.reduceAdd]at RBB RBP RX1 RX2 RE ⊢
 have F:BF B (B+2) (B+1) B w0 [.int .i64 N,.int .i64 ins,.int .i64 outs,.slice ca2 cs.length cc2,.int .i64 N,.slice sa2 st.length sc2,.int .i64 K,.int .i64 0,.slice none 0 0]:=⟨Nat.le_refl _,by omega,by omega,by omega,by omega,by omega,rfl⟩
 have hI0:zzBI B (B+2) (B+1) B N w0 [.int .i64 N,.int .i64 ins,.int .i64 outs,.slice ca2 cs.length cc2,.int .i64 N,.slice sa2 st.length sc2,.int .i64 K,.int .i64 0,.slice none 0 0] w0 (.slice none 0 0) (.slice none 0 0) [] []:=
  ⟨.refl _ _,.refl _ _,⟨RBB,OwnK.nil _ _ _ _ _,by rw[←zdU];exact RM,by simp,(fun g hg=>by simp[Value.ownBlock]at hg),⟨by omega,by omega,by omega⟩⟩,R7,OwnK.nil _ _ _ _ _,(fun g hg=>by simp[Value.ownBlock]at hg),fun g hg=>by simp[Value.ownBlock]at hg⟩
 have hTw:∀b,BT (B+2) (B+1) B w0 b→b<w0.heap.size:=fun b hb=>hb.1
 have HST:=zau (T:=BT (B+2) (B+1) B w0) (n:=5) (by decide) (by omega) RX1 RX2 HWS0.out (fun j hj W hW=>(hv j hj W hW).1) ⟨by omega,by omega,by omega,by omega⟩ ⟨by omega,by omega,by omega,by omega⟩ (fun b hb=>⟨by omega,by omega,by omega,by omega⟩) hTw
 have lowT:∀b,b<B→BT (B+2) (B+1) B w0 b:=fun b hb=>⟨by omega,by omega,by omega,by omega⟩
 clear R7 RM RBB HWS HC3 HS3 HC hv hx6 hx6' hB
 go_wp2
 refine wpIn_wide (n:=6).1 ?_
 apply wpIn_rangeFunc_ownG (n:=6) rfl (by decide) (gf:=63) (lb:=#[.pointer (some ⟨B+4,0,none⟩),.pointer (some ⟨B+5,0,none⟩)]) rfl trivial (enters_of Tryz.func63 (by kernel_rfl) rfl)
  HST xt (xr hTw) (Below.refl _ _) (fun _=>rfl)
  (fun (pre:List {x:Nat×Nat // x.1<cs.length∧x.2<ws.length}) W=>∃vv xv,zzBI B (B+2) (B+1) B N w0 [.int .i64 N,.int .i64 ins,.int .i64 outs,.slice ca2 cs.length cc2,.int .i64 N,.slice sa2 st.length sc2,.int .i64 K,.int .i64 0,.slice none 0 0] W vv xv (runE N cs (pre.map (fun x:{x:Nat×Nat // x.1<cs.length∧x.2<ws.length}=>(x.1.1,nthW ws x.1.2)))).1 (runE N cs (pre.map (fun x:{x:Nat×Nat // x.1<cs.length∧x.2<ws.length}=>(x.1.1,nthW ws x.1.2)))).2)
  (fun c (pre:List {x:Nat×Nat // x.1<cs.length∧x.2<ws.length}) W=>False) (zzBI.own_from F _ _) (fun c=>yt _) ⟨_,_,hI0⟩
 case hassign=>
  intro l x W Kq hK
  have hK:=zhd hK
  gi_wp2
  exact hK.out
 case hbody=>
  clear RX1 RX2 HS30 HC30 RS RE
  rintro l pre ⟨⟨i,j⟩,hi,hj⟩ W ⟨vv,xv,hI⟩ hlen
  dsimp only at hi hj ⊢
  have hlp:(pairsI cs.length ws.length).length=cs.length * ws.length:=by
   have:=congrArg List.length (yI cs.length ws)
   rw[List.length_map,yz]at this
   exact this
  have hp60:pre.length<60:=by have h1:=HNUM.out.1;have h2:=HNUM.out.2.1;omega
  have hwl:∀j,j<ws.length→(nthW ws j).length=K:=fun j hj=>HWK.out.2 _ (by rw[qt hj];exact List.getElem_mem hj)
  have hsz:=xB N K cs (pre.map (fun x:{x:Nat×Nat // x.1<cs.length∧x.2<ws.length}=>(x.1.1,nthW ws x.1.2))) (fun y hy=>by obtain ⟨x,_,rfl⟩:=List.mem_map.1 hy;exact hwl _ x.2.2)
  have hel:=xz N cs (pre.map (fun x:{x:Nat×Nat // x.1<cs.length∧x.2<ws.length}=>(x.1.1,nthW ws x.1.2)))
  rw[List.length_map]at hsz hel
  obtain ⟨word,hword⟩:∃word,word=nthW ws j:=⟨_,rfl⟩
  obtain ⟨inn,hinn⟩:∃inn,inn=(nthC cs i).inn:=⟨_,rfl⟩
  have HNX:Hid ((runE N cs ((pre++[(⟨(i,j),hi,hj⟩:{x:Nat×Nat // x.1<cs.length∧x.2<ws.length})]).map (fun x:{x:Nat×Nat // x.1<cs.length∧x.2<ws.length}=>(x.1.1,nthW ws x.1.2)))).1=(playV N inn word (runE N cs (pre.map (fun x:{x:Nat×Nat // x.1<cs.length∧x.2<ws.length}=>(x.1.1,nthW ws x.1.2)))).1 word.length).1∧(runE N cs ((pre++[(⟨(i,j),hi,hj⟩:{x:Nat×Nat // x.1<cs.length∧x.2<ws.length})]).map (fun x:{x:Nat×Nat // x.1<cs.length∧x.2<ws.length}=>(x.1.1,nthW ws x.1.2)))).2=(runE N cs (pre.map (fun x:{x:Nat×Nat // x.1<cs.length∧x.2<ws.length}=>(x.1.1,nthW ws x.1.2)))).2++[((i:Int),word,(playV N inn word (runE N cs (pre.map (fun x:{x:Nat×Nat // x.1<cs.length∧x.2<ws.length}=>(x.1.1,nthW ws x.1.2)))).1 word.length).2)]):=zhd (by
   rw[List.map_append,List.map_cons,List.map_nil,Qz,hword,hinn]
   exact ⟨rfl,rfl⟩)
  obtain ⟨tab,htab⟩:∃tab,tab=(runE N cs (pre.map (fun x:{x:Nat×Nat // x.1<cs.length∧x.2<ws.length}=>(x.1.1,nthW ws x.1.2)))).1:=⟨_,rfl⟩
  obtain ⟨ex,hex⟩:∃ex,ex=(runE N cs (pre.map (fun x:{x:Nat×Nat // x.1<cs.length∧x.2<ws.length}=>(x.1.1,nthW ws x.1.2)))).2:=⟨_,rfl⟩
  rw[←htab]at hI HNX hsz
  rw[←hex]at hI HNX hel
  have hmul:pre.length * (N * (K+1))≤60 * (3 * 7):=Nat.mul_le_mul (by omega) (Nat.mul_le_mul hN3 (by omega))
  have htl:tab.length≤1260:=by omega
  have hexl:ex.length≤60:=by omega
  have hKw:word.length=K:=by rw[hword];exact hwl j hj
  have hRok:∀r∈word,RoundOK N r:=by rw[hword];exact HWK.out.1 _ (by rw[qt hj];exact List.getElem_mem hj)
  have hvj:=HV.out j hj W (hI.ag.mono fun b hb=>lowT b hb.2)
  rw[←hword]at hvj ⊢
  have hil:inn.length=N∧∀x∈inn,0≤x∧x<8:=by rw[hinn];exact HOK.out.inn i hi
  obtain ⟨va,vc,rfl,_,_⟩:=hI.st.own.form
  obtain ⟨xa,xc,rfl,_,_⟩:=hI.own.form
  have hCw:=HC0.out.agree (hI.ag.mono fun b hb=>lowT b (by omega))
  obtain ⟨v1,v2,v3,z1,_,_,i1,_,_⟩:=hCw.case hi
  rw[←hinn]at i1
  obtain ⟨ia,ic,rfl,_⟩:=i1.form
  have hP1:=R1.agree hI.ag (lowT _ (by omega))
  have hBP:=RBP.agree hI.ag ⟨by omega,by omega,by omega,by omega⟩
  have HR7:Hid (Row W B 39 [.int .i64 N,.int .i64 ins,.int .i64 outs,.slice ca2 cs.length cc2,.int .i64 N,.slice sa2 st.length sc2,.int .i64 K,.int .i64 0,.slice none 0 0,.slice xa ex.length xc]):=zhd hI.row
  have hzb:BT (B+2) (B+1) B w0 (adr ca (i * 3)).block:=by
   have:=hCw.ad.1
   rcases this with ⟨h0,_⟩ | ⟨b,off,rfl,_,hb⟩
   ·omega
   ·exact lowT b (by omega)
  have KEEP:Hid (∀w',Agree (BT (B+2) (B+1) B w0) W w'→Row w' B 39 [.int .i64 N,.int .i64 ins,.int .i64 outs,.slice ca2 cs.length cc2,.int .i64 N,.slice sa2 st.length sc2,.int .i64 K,.int .i64 0,.slice none 0 0,.slice xa ex.length xc]→w'.cell? ⟨B,9,none⟩=some (.slice xa ex.length xc)∧w'.cell? ⟨B+3,0,none⟩=some (.pointer (some ⟨B+2,0,none⟩))∧w'.cell? ⟨w.heap.size,3,none⟩=some (.slice ca cs.length cc)∧w'.cell? (adr ca (i * 3))=some (.slice ia inn.length ic)):=
   zhd fun w' hA hR=>⟨hR.zc 9 rfl,(hBP.agree hA ⟨by omega,by omega,by omega,by omega⟩).zc 0 rfl,(hP1.agree hA (lowT _ (by omega))).zc 3 rfl,yQ z1 hA hzb⟩
  have KCL:Hid (∀w',Below W.heap.size W w'→Calls Tryz.prog 32 #[.slice (wb j) word.length (wk j)] w' (Post w' fun w'' r=>OwnK (kFlat 7) 67 w'.heap.size (fun b=>(w1.heap.size≤b∧b<B)∧b<w'.heap.size) w'' r word)):=zhd fun w' hw=>xV (hvj.2.ext hw) (by omega)
  have KPL:Hid (∀w',Below W.heap.size W w'→Calls Tryz.prog 33 #[.pointer (some ⟨B+2,0,none⟩),.slice ia inn.length ic,.slice (wb j) word.length (wk j)] w' (fun e W'=>∃rv vv',e=.returned rv∧PE B (B+2) (B+1) (N:Int) w'.heap.size w' (.slice va tab.length vc) W' vv' (playV N inn word tab word.length).1∧Lists (PR w'.heap.size (B+2) (B+1) W' vv') W' rv (playV N inn word tab word.length).2)):=zhd fun w' hw=>
   za9 (S:=fun b=>b<B) ⟨hI.st.ext hw,hn1.1,hn1.2,by have:=hI.ag.size;have:=hw.size;omega,hil.1,fun b hb=>hb,fun r hr q hq=>(hRok r hr).low q hq,by omega,by omega⟩ ((i1.mono fun b hb=>by omega).ext hw) ((hvj.2.mono fun b hb=>hb.2).ext hw)
  have hpl:=yR N inn word tab word.length
  have hpb:=qd N inn word (Nat.le_refl tab.length) word.length
  have hps:=yA N inn word tab word.length
  have hmul2:N * (word.length+1)≤3 * 7:=Nat.mul_le_mul hN3 (by omega)
  have STEP:=zhd fun (W2:World) (h2:Below W.heap.size W W2) cv (S:Nat→Prop) (hcv:OwnK (kFlat 7) 67 W.heap.size S W2 cv word) rv W3 vv3 (hP:PE B (B+2) (B+1) (N:Int) W2.heap.size W2 (.slice va tab.length vc) W3 vv3 (playV N inn word tab word.length).1) (hrv:Lists (PR W2.heap.size (B+2) (B+1) W3 vv3) W3 rv (playV N inn word tab word.length).2)=>
   And.intro (zbw (i:=(i:Int)) F hI h2 hcv (by omega) hP hrv (by omega) (fun l hl=>by have:=(hpb l hl).1;omega)) (show (∃va3 vc3,vv3=.slice va3 (playV N inn word tab word.length).1.length vc3)∧(playV N inn word tab word.length).1.length≤8192 from ⟨by obtain ⟨a,c,h,_⟩:=hP.st.own.form;exact ⟨a,c,h⟩,by omega⟩)
  have HBY:Hid ((ex.length+1) * 56≤140737488355328):=zhd (by omega)
  have HBN:Hid (ex.length<9223372036854775807):=zhd (by omega)
  obtain ⟨tb3,ht3⟩:∃tb3,tb3=(playV N inn word tab word.length).1:=⟨_,rfl⟩
  obtain ⟨vs3,hvs3⟩:∃vs3,vs3=(playV N inn word tab word.length).2:=⟨_,rfl⟩
  rw[←ht3,←hvs3]at HNX
  simp only[←ht3,←hvs3]at KPL STEP
  rw[hz0]at STEP ⊢
  obtain ⟨il,hil'⟩:∃il,il=inn.length:=⟨_,rfl⟩
  rw[←hil']at KPL KEEP
  have q1:∀W':World,(Instr.indexAt 22 (.slice ca cs.length cc) (.int .i64 i)).run Tryz.prog W'=.ok (.pointer (some (adr ca (i * 3)))) W':=fun W'=>by
   have hic:=congrArg (Option.map (·.2.1)) yw
   cases h:Tryz.prog.info? 62 with
   | none=>rw[h]at hic;cases hic
   | some t=>
    rw[h]at hic
    exact zJ Tryz.underlying22 h (by simpa using hic) hCw.ad.1 i hi W'
  clear hlp hp60 hwl hsz hel hword hinn htab hex hmul htl hexl hKw hRok hvj hil hCw z1 i1 hP1 hBP hzb hpl hpb hps hmul2 ht3 hvs3 hil' hI hlen
  gi_wp2
  refine Z4 (fun w':World=>w'.cell? ⟨B,9,none⟩=some (.slice xa ex.length xc)∧w'.cell? ⟨B+3,0,none⟩=some (.pointer (some ⟨B+2,0,none⟩))∧w'.cell? ⟨w.heap.size,3,none⟩=some (.slice ca cs.length cc)∧w'.cell? (adr ca (i * 3))=some (.slice ia il ic)) (fun i=>i==19) (by kernel_rfl) (by kernel_rfl) (by rintro ⟨_,_,h⟩;exact h) ?_ (fun hHeld=>?_)
  ·exact KEEP.out _ (zq _ _ 1) (HR7.out.ext (zh _ _ 1))
  refine anyE_take 0 (v:=?_) rfl (by kernel_rfl) (fun _ _ _ h=>h) (by rfl) ?hy0 hHeld ?r0
  case hy0=>(intro w hSw;(try dsimp only at hSw);go_simp;try with_reducible rfl)
  try simp only[Act.put,zsa,zsz,zss]
  refine anyE_take 1 (v:=?_) rfl (by kernel_rfl) (fun _ _ _ h=>h) (by rfl) ?hy1 hHeld ?r1
  case hy1=>(intro w hSw;(try dsimp only at hSw);go_simp;try with_reducible rfl)
  try simp only[Act.put,zsa,zsz,zss]
  refine anyE_take 2 (v:=?_) rfl (by kernel_rfl) (fun _ _ _ h=>h) (by rfl) ?hy2 hHeld ?r2
  case hy2=>(intro w hSw;(try dsimp only at hSw);go_simp;try with_reducible rfl)
  try simp only[Act.put,zsa,zsz,zss]
  refine anyE_take 3 (v:=?_) rfl (by kernel_rfl) (fun _ _ _ h=>h) (by rfl) ?hy3 hHeld ?r3
  case hy3=>(intro w hSw;(try dsimp only at hSw);go_simp;try with_reducible rfl)
  try simp only[Act.put,zsa,zsz,zss]
  refine anyE_take 5 (v:=?_) rfl (by kernel_rfl) (fun _ _ _ h=>h) (by rfl) ?hy5 hHeld ?r5
  case hy5=>(intro w hSw;(try dsimp only at hSw);go_simp;try with_reducible rfl)
  try simp only[Act.put,zsa,zsz,zss]
  refine anyE_take 6 (v:=?_) rfl (by kernel_rfl) (fun _ _ _ h=>h) (by rfl) ?hy6 hHeld ?r6
  case hy6=>(intro w hSw;(try dsimp only at hSw);go_simp;try with_reducible rfl)
  try simp only[Act.put,zsa,zsz,zss]
  refine anyE_take 7 (v:=?_) rfl (by kernel_rfl) (fun _ _ _ h=>h) (by rfl) ?hy7 hHeld ?r7
  case hy7=>(intro w hSw;(try dsimp only at hSw);go_simp;try with_reducible rfl)
  try simp only[Act.put,zsa,zsz,zss]
  refine anyE_take 8 (v:=?_) rfl (by kernel_rfl) (fun _ _ _ h=>h) (by rfl) ?hy8 hHeld ?r8
  case hy8=>(intro w hSw;(try dsimp only at hSw);go_simp;try with_reducible rfl)
  try simp only[Act.put,zsa,zsz,zss]
  refine anyE_take 9 (v:=?_) rfl (by kernel_rfl) (fun _ _ _ h=>h) (by rfl) ?hy9 hHeld ?r9
  case hy9=>(intro w hSw;(try dsimp only at hSw);go_simp;try with_reducible rfl)
  try simp only[Act.put,zsa,zsz,zss]
  refine anyE_take 10 (v:=?_) rfl (by kernel_rfl) (fun _ _ _ h=>h) (by rfl) ?hy10 hHeld ?r10
  case hy10=>(intro w hSw;(try dsimp only at hSw);go_simp;try with_reducible rfl)
  try simp only[Act.put,zsa,zsz,zss]
  refine anyE_take 11 (v:=?_) rfl (by kernel_rfl) (fun _ _ _ h=>h) (by rfl) ?hy11 hHeld ?r11
  case hy11=>(intro w hSw;(try dsimp only at hSw);go_simp;try with_reducible rfl)
  try simp only[Act.put,zsa,zsz,zss]
  refine anyE_take 12 (v:=?_) rfl (by kernel_rfl) (fun _ _ _ h=>h) (by rfl) ?hy12 hHeld ?r12
  case hy12=>(intro w hSw;(try dsimp only at hSw);go_simp;try with_reducible rfl)
  try simp only[Act.put,zsa,zsz,zss]
  refine anyE_take 13 (v:=?_) rfl (by kernel_rfl) (fun _ _ _ h=>h) (by rfl) ?hy13 hHeld ?r13
  case hy13=>(intro w hSw;(try dsimp only at hSw);go_simp;try with_reducible rfl)
  try simp only[Act.put,zsa,zsz,zss]
  refine anyE_one 4 rfl (by kernel_rfl) (fun K hK=>?_)
  go_simp;go_at_call 32;refine (KCL.out _ (zh _ _ 1)).mono ?_;rintro _ W2 ⟨cv,rfl,hb2,hcv⟩;have y2:=za (zh _ _ 1) hb2;have hcv:=hcv.low (base':=W.heap.size) (Nat.le_refl _);obtain ⟨cva,cvc,rfl,_⟩:=hcv.form;clear hb2
  refine hK.out _ _ (fun _=>KEEP.out _ (.of_ext y2) (HR7.out.ext y2)) (fun hHeld=>?_);replace hHeld:=hHeld rfl
  clear hK K
  try simp only[Act.put,zsa,zsz,zss]
  refine anyE_one 14 rfl (by kernel_rfl) (fun K hK=>?_)
  go_simp;go_at_call 33;refine (KPL.out _ y2).mono ?_;rintro _ W3 ⟨rv,vv3,rfl,hP3,hrv⟩;obtain ⟨rva,rvc,rfl,_⟩:=hrv.form;obtain ⟨ST,HT3⟩:=STEP.out W2 y2 _ _ hcv _ W3 vv3 hP3 hrv;obtain ⟨so,sr,ss,sa4,sR,sf⟩:=ST;have so:=zhd so;have sr:=zhd sr;have sf:=zhd sf;have HT3:=zhd HT3;clear hcv hP3 hrv
  refine hK.out _ _ (fun _=>KEEP.out _ sa4 sR) (fun hHeld=>?_);replace hHeld:=hHeld rfl
  clear hK K
  try simp only[Act.put,zsa,zsz,zss]
  refine anyE_take 15 (v:=?_) rfl (by kernel_rfl) (fun _ _ _ h=>h) (by rfl) ?hy15 hHeld ?r15
  case hy15=>(intro w hSw;(try dsimp only at hSw);go_simp;try with_reducible rfl)
  try simp only[Act.put,zsa,zsz,zss]
  refine anyE_one 16 rfl (by kernel_rfl) (fun K hK=>?_)
  go_simp
  refine hK.out _ _ (fun _=>KEEP.out _ (sa4.alloc _) (sR.alloc _)) (fun hHeld=>?_);replace hHeld:=hHeld rfl
  clear hK K
  try simp only[Act.put,zsa,zsz,zss]
  refine anyE_one 17 rfl (by kernel_rfl) (fun K hK=>?_)
  (refine xJ (K:=kExec) (w:=W3) (v:=.slice xa ex.length xc) (l:=ex) (base:=B+6) rfl _ _ _ (by rfl) 49 _ 56 Tryz.underlying37 Xp rfl (by decide) (by rfl) so.out (cs:=[.int .i64 i,.slice cva word.length cvc,.slice rva vs3.length rvc]) (by rfl) sr.out HBY.out HBN.out ss ?_;intro g6 c6 W4 ho6 hb6 hag6 hg6 hgr6;obtain ⟨t1,t2,t3,t4,t5⟩:=sf.out g6 c6 W4 ho6 hb6 hag6 hg6;have t3:=zhd t3;have t4:=zhd t4;have t5:=zhd t5;have fz:=t1.free 9;have lz:=t1.lt;have cz:W4.cell? ⟨B,9,none⟩=some (.slice xa ex.length xc):=t1.zc 9 rfl;clear ho6 hb6 hag6 hg6 hgr6)
  refine hK.out _ _ (fun _=>KEEP.out _ t2 t1) (fun hHeld=>?_);replace hHeld:=hHeld rfl
  clear hK K
  try simp only[Act.put,zsa,zsz,zss]
  refine anyE_take 18 (v:=?_) rfl (by kernel_rfl) (fun _ _ _ h=>h) (by rfl) ?hy18 hHeld ?r18
  case hy18=>(intro w hSw;(try dsimp only at hSw);go_simp;try with_reducible rfl)
  try simp only[Act.put,zsa,zsz,zss]
  refine anyE_one 19 rfl (by kernel_rfl) (fun K hK=>?_)
  go_simp
  refine hK.out _ _ (fun h=>by simp at h) (fun hHeld=>?_)
  clear hK K
  try simp only[Act.put,zsa,zsz,zss]
  refine zy (by kernel_rfl) ?_ _
  obtain ⟨⟨va3,vc3,rfl⟩,h8192⟩:=HT3.out
  obtain ⟨W5,hW5⟩:∃W5,W5=W4.setCell ⟨B,9,none⟩ (.slice (some ⟨g6,0,none⟩) (ex.length+1) c6):=⟨_,rfl⟩
  rw[←hW5]at t3 t4 t5 ⊢
  have x1:=t3.out.st.row.zc 1 rfl
  have x2:=(RBP.agree t3.out.ag ⟨by omega,by omega,by omega,by omega⟩).zc 0 rfl
  have h81:¬8192<tb3.length:=by omega
  have HPOST:Hid (KeepsFrom (B+6) W W5∧Agree (BT (B+2) (B+1) B w0) W W5∧∃vv xv,zzBI B (B+2) (B+1) B N w0 [.int .i64 N,.int .i64 ins,.int .i64 outs,.slice ca2 cs.length cc2,.int .i64 N,.slice sa2 st.length sc2,.int .i64 K,.int .i64 0,.slice none 0 0] W5 vv xv (runE N cs ((pre++[(⟨(i,j),hi,hj⟩:{x:Nat×Nat // x.1<cs.length∧x.2<ws.length})]).map (fun x:{x:Nat×Nat // x.1<cs.length∧x.2<ws.length}=>(x.1.1,nthW ws x.1.2)))).1 (runE N cs ((pre++[(⟨(i,j),hi,hj⟩:{x:Nat×Nat // x.1<cs.length∧x.2<ws.length})]).map (fun x:{x:Nat×Nat // x.1<cs.length∧x.2<ws.length}=>(x.1.1,nthW ws x.1.2)))).2):=zhd ⟨t4.out,t5.out,_,_,by rw[HNX.out.1,HNX.out.2];exact t3.out⟩
  clear hHeld KEEP KCL KPL STEP HBY HBN so sr ss sa4 sR sf fz lz cz t1 t2 t3 t4 t5 HNX HT3 hW5
  gi_wp2
  exact HPOST.out
 case hstop=>
  rintro D c pre W hD hSp h hK
  exact h.elim
 case hdone=>
  clear HOK HV RX1 RX2 HC0
  rintro D xs W hD hS ⟨vv,xv,hI⟩ hK
  have hmap:xs.map (fun x:{x:Nat×Nat // x.1<cs.length∧x.2<ws.length}=>(x.1.1,nthW ws x.1.2))=pairsW cs.length ws:=by
   rw[←yI,←hS,List.map_map];rfl
  rw[hmap]at hI
  obtain ⟨tab,htab⟩:∃tab,tab=(runE N cs (pairsW cs.length ws)).1:=⟨_,rfl⟩
  obtain ⟨ex2,hex⟩:∃ex,ex=(runE N cs (pairsW cs.length ws)).2:=⟨_,rfl⟩
  rw[←htab,←hex]at hI HFIN
  have hexl:ex2.length≤60:=by rw[hex,xz,yz,←HNUM.out.2.1];exact HNUM.out.1
  have hsz:=xB N K cs (pairsW cs.length ws) (fun y hy=>by
   obtain ⟨i,_,hy⟩:=List.mem_flatMap.1 (show y∈(List.range cs.length).flatMap fun i=>ws.map fun w=>(i,w) from hy)
   obtain ⟨v,hv,rfl⟩:=List.mem_map.1 hy
   exact HWK.out.2 v hv)
  rw[yz,←HNUM.out.2.1,←htab]at hsz
  have hmul:(ProbD.num (⟨N,ins,outs,cs,N,st,K⟩:ProbD)) * (N * (K+1))≤60 * (3 * 7):=Nat.mul_le_mul HNUM.out.1 (Nat.mul_le_mul hN3 (by omega))
  have htl:tab.length≤140737488355328:=by omega
  clear hsz hmul HWK
  obtain ⟨va,vc,rfl,_,_⟩:=hI.st.own.form
  obtain ⟨xa,xc,rfl,_,_⟩:=hI.own.form
  have RSW:=RS.agree hI.ag (lowT _ (by omega))
  have REW:=RE.agree hI.ag (lowT _ (by omega))
  have RBW:=RBP.agree hI.ag ⟨by omega,by omega,by omega,by omega⟩
  have R7W:Row W B 39 [.int .i64 N,.int .i64 ins,.int .i64 outs,.slice ca2 cs.length cc2,.int .i64 N,.slice sa2 st.length sc2,.int .i64 K,.int .i64 0,.slice none 0 0,.slice xa ex2.length xc]:=hI.row
  have hDB:B+6≤D:=by omega
  have KEEP:Hid (∀w',Agree (fun b=>b=B+3∨b=B+2∨b=B) W w'→(w'.cell? ⟨B+3,0,none⟩=some (.pointer (some ⟨B+2,0,none⟩))∧w'.cell? ⟨B+2,0,none⟩=some (.int .i64 N)∧w'.cell? ⟨B+2,1,none⟩=some (.slice va tab.length vc)∧w'.cell? ⟨B,7,none⟩=some (.int .i64 0)∧w'.cell? ⟨B,8,none⟩=some (.slice none 0 0)∧w'.frozen? ⟨B,7,none⟩=false∧w'.frozen? ⟨B,8,none⟩=false∧B<w'.heap.size)):=zhd fun w' hA=>⟨(RBW.agree hA (.inl rfl)).zc 0 rfl,(hI.st.row.agree hA (.inr (.inl rfl))).zc 0 rfl,(hI.st.row.agree hA (.inr (.inl rfl))).zc 1 rfl,(R7W.agree hA (.inr (.inr rfl))).zc 7 rfl,(R7W.agree hA (.inr (.inr rfl))).zc 8 rfl,(R7W.agree hA (.inr (.inr rfl))).free 7,(R7W.agree hA (.inr (.inr rfl))).free 8,(R7W.agree hA (.inr (.inr rfl))).lt⟩
  have FIN:Hid (∀W1,W1=((W.setCell ⟨B,7,none⟩ (.int .i64 N)).setCell ⟨B,8,none⟩ (.slice va tab.length vc)).drew→Agree (fun b=>b≠B) W W1∧Row W1 B 39 [.int .i64 N,.int .i64 ins,.int .i64 outs,.slice ca2 cs.length cc2,.int .i64 N,.slice sa2 st.length sc2,.int .i64 K,.int .i64 N,.slice va tab.length vc,.slice xa ex2.length xc]∧Below w.heap.size w W1):=zhd fun W1 hW1=>by
   subst hW1
   have a1:Agree (fun b=>b≠B) W (W.setCell ⟨B,7,none⟩ (.int .i64 N)):=.of_grown (zj _ _ _ _) fun b hb e=>hb (by cases e;rfl)
   have a2:Agree (fun b=>b≠B) (W.setCell ⟨B,7,none⟩ (.int .i64 N)) ((W.setCell ⟨B,7,none⟩ (.int .i64 N)).setCell ⟨B,8,none⟩ (.slice va tab.length vc)):=.of_grown (zj _ _ _ _) fun b hb e=>hb (by cases e;rfl)
   refine ⟨(a1.trans a2).trans (zq _ _ 1),((R7W.set 7 (.int .i64 N)).set 8 (.slice va tab.length vc)).agree (S:=fun _=>True) (zq _ _ 1) trivial,?_⟩
   have hbW:Below w.heap.size w W:=ex.trans (hI.be.mono (by omega))
   exact ((hbW.setCell (by simp;omega) _).setCell (by simp;omega) _).trans (zh _ _ 1)
  have HSL:Hid (Sl (kFlat 8) (fun b=>B+6≤b∧isC W b) W (.slice va tab.length vc) tab∧Sl kExec (fun b=>B+6≤b∧isC W b) W (.slice xa ex2.length xc) ex2):=zhd ⟨(hI.st.own.flat8 (S':=fun b=>B+6≤b∧isC W b)).slS htl fun g hg=>⟨by have:=hI.vo g hg;omega,hI.st.own.isC g hg⟩,(hI.own.mono (S':=fun b=>B+6≤b∧isC W b) fun b hb=>⟨by have:=hb.1.1;omega,hb.2⟩).slS (by omega) fun g hg=>⟨by have:=(hI.xo g hg).1;omega,hI.own.isC g hg⟩⟩
  have HCW:Hid (Sl kCase (fun b=>((S0 b∧b<w.heap.size)∨w2.heap.size≤b)∧b<B) W (.slice ca2 cs.length cc2) cs∧Sl (kSl (kFlat 8)) (fun b=>((S0 b∧b<w.heap.size)∨w2.heap.size≤b)∧b<B) W (.slice sa2 st.length sc2) st):=zhd ⟨HC30.out.agree (hI.ag.mono fun b hb=>lowT b hb.2),HS30.out.agree (hI.ag.mono fun b hb=>lowT b hb.2)⟩
  clear hmap hS htab hex hI R7W RBW RS RE RBP R1 ex HC30 HS30 HNUM F
  obtain ⟨x1,x2,x3,x4,x5,x6,x7,x8⟩:=KEEP.out W (.refl _ _)
  clear KEEP
  go_wp2
  go_region
  clear x1 x2 x3 x4 x5 x6 x7 x8
  obtain ⟨W1,hW1⟩:∃W1,W1=((W.setCell ⟨B,7,none⟩ (.int .i64 N)).setCell ⟨B,8,none⟩ (.slice va tab.length vc)).drew:=⟨_,rfl⟩
  obtain ⟨a1,r1,b1⟩:=FIN.out W1 hW1
  have RS:=RSW.agree a1 (by omega)
  have RE:=REW.agree a1 (by omega)
  obtain ⟨S2,hS2'⟩:∃S2,S2=w.heap.size+1:=⟨_,rfl⟩
  obtain ⟨E3,hE3'⟩:∃E3,E3=w.heap.size+2:=⟨_,rfl⟩
  rw[←hS2']at RS
  rw[←hE3']at RE
  have hS2:w.heap.size≤S2:=by omega
  have hE3:w.heap.size≤E3:=by omega
  have hSE:E3≠S2:=by omega
  obtain ⟨c0,c1,c2,c3,c4,c5,c6,c7,c8,c9⟩:=r1.ten
  have lB:=r1.lt
  have HA1:=zhd a1
  have b1':=b1
  have l2:=RS.lt
  have l3:=RE.lt
  obtain ⟨d0,d1,d2,d3,d4,d5,d6,d7,d8,d9⟩:=RS.ten
  have f0:=RS.free 0
  have f1:=RS.free 1
  have f2:=RS.free 2
  have f3:=RS.free 3
  have f4:=RS.free 4
  have f5:=RS.free 5
  have f6:=RS.free 6
  have f7:=RS.free 7
  have f8:=RS.free 8
  have f9:=RS.free 9
  have e0:=RE.zc 0 rfl
  have g0:=RE.free 0
  have HRS:=zhd (RS.sets [(0,.int .i64 N),(1,.int .i64 ins),(2,.int .i64 outs),(3,.slice ca2 cs.length cc2),(4,.int .i64 N),(5,.slice sa2 st.length sc2),(6,.int .i64 K),(7,.int .i64 N),(8,.slice va tab.length vc),(9,.slice xa ex2.length xc)])
  have HAS:=zhd (zQ S2 [(0,.int .i64 N),(1,.int .i64 ins),(2,.int .i64 outs),(3,.slice ca2 cs.length cc2),(4,.int .i64 N),(5,.slice sa2 st.length sc2),(6,.int .i64 K),(7,.int .i64 N),(8,.slice va tab.length vc),(9,.slice xa ex2.length xc)] W1)
  have HBS:=zhd (zD hS2 [(0,.int .i64 N),(1,.int .i64 ins),(2,.int .i64 outs),(3,.slice ca2 cs.length cc2),(4,.int .i64 N),(5,.slice sa2 st.length sc2),(6,.int .i64 K),(7,.int .i64 N),(8,.slice va tab.length vc),(9,.slice xa ex2.length xc)] W1 b1)
  have HRE:=zhd (((RE.agree HAS.out hSE).set 0 (.int .i64 0)))
  obtain ⟨W7,hW7⟩:∃W7,W7=sets S2 [(0,.int .i64 N),(1,.int .i64 ins),(2,.int .i64 outs),(3,.slice ca2 cs.length cc2),(4,.int .i64 N),(5,.slice sa2 st.length sc2),(6,.int .i64 K),(7,.int .i64 N),(8,.slice va tab.length vc),(9,.slice xa ex2.length xc)] W1:=⟨_,rfl⟩
  rw[←hW7]at HRS HAS HBS HRE
  have HRS2:=zhd (HRS.out.grown (zj W7 E3 0 (.int .i64 0)) (by intro e;exact hSE (by injection e)))
  have HB2:=zhd (HBS.out.setCell (p:=⟨E3,0,none⟩) hE3 (.int .i64 0))
  have eE:=(RE.agree HAS.out hSE).zc 0 rfl
  have gE:=(RE.agree HAS.out hSE).free 0
  have lE:=(RE.agree HAS.out hSE).lt
  unfold sets at hW7
  simp only[List.foldl_cons,List.foldl_nil]at hW7
  rw[←hE3',←hS2']
  rw[←hW1]
  have HS23:=zhd (And.intro hS2' hE3')
  clear RS RE RSW REW hW1 FIN hS2' hE3' r1 a1 b1 b1'
  go_wp2
  rw[←hW7]
  obtain ⟨W8,hW8⟩:∃W8,W8=W7.setCell ⟨E3,0,none⟩ (.int .i64 0):=⟨_,rfl⟩
  have HA8:Agree (fun b=>b≠B∧b≠S2∧b≠E3) W W8:=((HA1.out.mono fun b hb=>hb.1).trans (HAS.out.mono fun b hb=>hb.2.1)).trans (by rw[hW8];exact .of_grown (zj _ _ _ _) fun b hb e=>hb.2.2 (by cases e;rfl))
  rw[←hW8]at HRS2 HRE HB2 ⊢
  clear hW8 hW7
  have h23:=HS23.out
  have KD:W8.heap[D]? =some (.deferred (some [])):=(HA8.block D ⟨by omega,by omega,by omega⟩ (Array.getElem?_eq_some_iff.1 hK).1).trans hK
  have hgp:=grownBy_putObj' W8 D (.deferred none)
  have HT:Agree (fun b=>(b<B∧b≠S2∧b≠E3)∨(B+6≤b∧isC W b)) W (W8.putObj D (.deferred none)):=by
   refine (HA8.mono fun b hb=>?_).trans (.of_grown hgp fun b hb e=>?_)
   ·rcases hb with h | h<;>exact ⟨by omega,by omega,by omega⟩
   ·cases e
    rcases hb with h | h
    ·omega
    ·exact zaa hK rfl h.2
  have HB9:Below w.heap.size w (W8.putObj D (.deferred none)):=HB2.out.grown hgp HB2.out.size fun k hk=>by cases hk;omega
  have P2:=HRS2.out.putObj (.deferred none) KD rfl
  have P3:=HRE.out.putObj (.deferred none) KD rfl
  have HSY:SysV (fun b=>(S0 b∧b<w.heap.size)∨w.heap.size≤b) (W8.putObj D (.deferred none)) (.agg #[.int .i64 N,.int .i64 ins,.int .i64 outs,.slice ca2 cs.length cc2,.int .i64 N,.slice sa2 st.length sc2,.int .i64 K,.int .i64 N,.slice va tab.length vc,.slice xa ex2.length xc]) ⟨(⟨N,ins,outs,cs,N,st,K⟩:ProbD),N,tab,ex2⟩:=⟨_,_,_,_,rfl,(HCW.out.1.agree (HT.mono fun b hb=>.inl ⟨hb.2,by omega,by omega⟩)).mono fun b hb=>hb.1.imp id fun h=>by omega,(HCW.out.2.agree (HT.mono fun b hb=>.inl ⟨hb.2,by omega,by omega⟩)).mono fun b hb=>hb.1.imp id fun h=>by omega,(HSL.out.1.agree (HT.mono fun b hb=>.inr hb)).mono fun b hb=>.inr (by omega),(HSL.out.2.agree (HT.mono fun b hb=>.inr hb)).mono fun b hb=>.inr (by omega)⟩
  have HFX:=HFIN.out _ _ HSY
  obtain ⟨W9,hW9⟩:∃W9,W9=W8.putObj D (.deferred none):=⟨_,rfl⟩
  rw[←hW9]at P2 P3 HB9 HFX
  have q0:W9.cell? ⟨S2,0,none⟩=some _:=P2.zc 0 rfl
  have q1:W9.cell? ⟨S2,1,none⟩=some _:=P2.zc 1 rfl
  have q2:W9.cell? ⟨S2,2,none⟩=some _:=P2.zc 2 rfl
  have q3:W9.cell? ⟨S2,3,none⟩=some _:=P2.zc 3 rfl
  have q4:W9.cell? ⟨S2,4,none⟩=some _:=P2.zc 4 rfl
  have q5:W9.cell? ⟨S2,5,none⟩=some _:=P2.zc 5 rfl
  have q6:W9.cell? ⟨S2,6,none⟩=some _:=P2.zc 6 rfl
  have q7:W9.cell? ⟨S2,7,none⟩=some _:=P2.zc 7 rfl
  have q8:W9.cell? ⟨S2,8,none⟩=some _:=P2.zc 8 rfl
  have q9:W9.cell? ⟨S2,9,none⟩=some _:=P2.zc 9 rfl
  have qe:W9.cell? ⟨E3,0,none⟩=some _:=P3.zc 0 rfl
  refine Zq (Yt KD ?_)
  rw[←hW9]
  exact ⟨.tuple #[.agg #[.int .i64 N,.int .i64 ins,.int .i64 outs,.slice ca2 cs.length cc2,.int .i64 N,.slice sa2 st.length sc2,.int .i64 K,.int .i64 N,.slice va tab.length vc,.slice xa ex2.length xc],.int .i64 0],by simp[results,Tryz.results15,go_sem,q0,q1,q2,q3,q4,q5,q6,q7,q8,q9,qe],.mk HB9 ⟨_,rfl,HFX⟩⟩
theorem zbq {w:World} {vc vs:Value} {N K:Nat} {ins outs:Int} {cs:List CaseD} {st:Moves} (hc:Sl kCase (fun b=>b<w.heap.size) w vc cs) (hs:Sl (kSl (kFlat 8)) (fun b=>b<w.heap.size) w vs st) (hok:ProbOK (⟨N,ins,outs,cs,N,st,K⟩:ProbD) N) (hcp:CopyOK (⟨N,ins,outs,cs,N,st,K⟩:ProbD)) (hz:checkPr (⟨N,ins,outs,cs,N,st,K⟩:ProbD)=0) (hnum:(⟨N,ins,outs,cs,N,st,K⟩:ProbD).num≤60) (hN3:N≤3):
  Calls Tryz.prog 15 #[.agg #[.int .i64 N,.int .i64 ins,.int .i64 outs,vc,.int .i64 N,vs,.int .i64 K]] w (Post w fun w' r=>∃v,r=.tuple #[v,.int .i64 0]∧SysV TT w' v (⟨N,ins,outs,cs,N,st,K⟩:ProbD).full):=
 (Yo (S0:=fun _=>True) (hc.mono fun _ h=>⟨trivial,h⟩) (hs.mono fun _ h=>⟨trivial,h⟩) hok hcp hz hnum hN3).mono fun e w' h=>by
  obtain ⟨r,h1,h2,v,h3,h4⟩:=h
  exact ⟨r,h1,h2,v,h3,h4.mono fun _ _=>trivial⟩
end Go.Proofs.YtjpakklplhabdaaGreat
