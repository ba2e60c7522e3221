/- Part of the proof that the laws of chapter 45 answer true for every input. -/
import Derived.Test.YtcopehiceihdaaaGreatPCh46
set_option linter.unusedSimpArgs false
set_option linter.unnecessarySimpa false
set_option linter.unusedVariables false
set_option maxRecDepth 100000
set_option maxHeartbeats 40000000
namespace Go.Proofs.YtcopehiceihdaaaGreat
open Go.RowKit
attribute [local go_sem ↓] Go.wp_at_zero Go.wp_at_succ
def LateV (base:Nat) (w:World) (v:Value) (lt:List Int):Prop:=(lt=[]∧v=.slice none 0 0)∨∃g cap sp,v=.slice (some ⟨g,0,none⟩) lt.length cap∧base≤g∧lt.length≤cap∧cap≤maxLen∧Row w g 3 (lt.map (Value.int .i64)++sp)
theorem LateV.of_own {base:Nat} {w:World} {v:Value} {l:List Int} (h:w.ownsRow base 3 1 v l.length (l.map (Value.int .i64))):LateV base w v l:=by
  rcases h.2 with ⟨h1,h2⟩ | ⟨g,cap,cur,h1,h2,h3,h4,h5,h6,h7⟩
  · exact .inl ⟨List.eq_nil_of_length_eq_zero h2,h1⟩
  · refine .inr ⟨g,cap,cur.toList.drop (l.length * 1),h1,h2,h4,h5,?_⟩
    unfold Row
    rw[←h7,List.take_append_drop,Array.toArray_toList]
    exact h3
theorem LateV.ints {base:Nat} {w:World} {v:Value} {l:List Int} (h:LateV base w v l) (hf:∀x∈l,WF x):Ints TT w v l:=by
  rcases h with ⟨rfl,rfl⟩ | ⟨g,cap,sp,rfl,_,h1,h2,h3⟩
  · exact Ints.nil _ _
  · refine ⟨_,cap,rfl,.inr ⟨g,0,rfl,h3.lt,trivial⟩,h1,h2,fun j hj=>?_,hf⟩
    rw[adr_add,Nat.zero_add]
    refine h3.cell ?_
    rw[List.getElem?_append_left (by rw[List.length_map];exact hj),List.getElem?_map,get?_nth hj];rfl
theorem LateV.ext {base:Nat} {w w':World} {v:Value} {l:List Int} (h:LateV base w v l) (hw:Below w.heap.size w w'):LateV base w' v l:=by
  rcases h with h | ⟨g,cap,sp,h0,h1,h2,h3,h4⟩
  · exact .inl h
  · exact .inr ⟨g,cap,sp,h0,h1,h2,h3,h4.ext hw⟩
theorem nth_set {l:List Int} {k i:Nat} {x:Int} (hk:k<l.length):nth (l.set k x) i=if i=k then x else nth l i:=by
  unfold nth
  rw[List.getD_eq_getElem?_getD,List.getD_eq_getElem?_getD,List.getElem?_set]
  by_cases e:k=i
  · subst e;rw[if_pos rfl,if_pos hk,if_pos rfl];rfl
  · rw[if_neg e,if_neg (fun h=>e h.symm)]
theorem meas_same {s:SysF} {a b:List Int} (ha:ruleE s a=0) (hb:ruleE s b=0) (h:soonB s a b=true) (h':soonB s b a=true) (hm:(measT s b).2.2=0):(measT s a).1=(measT s b).1∧(measT s a).2.1=(measT s b).2.1:=by
  have h1:=meas_le ha hb h hm
  have h2:=meas_le hb ha h' (soon_meas ha hb h hm)
  omega
theorem walkRuleFirst {S S2:Nat→Prop} {w:World} {vc vs:Value} {p:ProbD} {S3:Nat→Prop} {vb ve:Value} {l le:List Int} (hc:Sl kCase S w vc p.cs) (hs:Sl (kSl (kFlat 8)) S w vs p.st) (h2:Sl kU8 S2 w vb l) (h3:Sl kU8 S3 w ve le):
    Calls Tryz.prog 9 #[.agg #[.int .i64 p.n,.int .i64 p.ins,.int .i64 p.outs,vc,.int .i64 p.an,vs,.int .i64 p.rounds],vb,ve] w (Post w fun _ r=>r=.bool true):=by
  obtain ⟨ca,cc,rfl,_⟩:=hc.form
  obtain ⟨sa,sc,rfl,_⟩:=hs.form
  have KB:Hid (∀W,Below w.heap.size w W→Calls Tryz.prog 23 #[.agg #[.int .i64 p.n,.int .i64 p.ins,.int .i64 p.outs,.slice ca p.cs.length cc,.int .i64 p.an,.slice sa p.st.length sc,.int .i64 p.rounds]] W (Post W (BuiltR p))):=Lib.hid fun W hW=>built_calls (hc.ext hW) (hs.ext hW)
  have HB:=Lib.hid h2
  have hbl0:=h2.few
  obtain ⟨ba,bc,rfl,_⟩:=h2.form
  have HE0:=Lib.hid h3
  have hel0:=h3.few
  obtain ⟨ea,ec,rfl,ead,_⟩:=h3.form
  obtain ⟨i8,hi8,_,hz8,_⟩:=info_parts info_byte
  have HQE:=Lib.hid (idx_one Tryz.underlying59 hi8 hz8 ead)
  clear ead hi8 hz8
  have ex:=ext_alloc w (.cells #[.int .i64 p.n,.int .i64 p.ins,.int .i64 p.outs,.slice ca p.cs.length cc,.int .i64 p.an,.slice sa p.st.length sc,.int .i64 p.rounds] 29)
  have R3:=row_new w [.int .i64 p.n,.int .i64 p.ins,.int .i64 p.outs,.slice ca p.cs.length cc,.int .i64 p.an,.slice sa p.st.length sc,.int .i64 p.rounds] 29
  clear hc hs
  have c0:=R3.cell (j:=0) rfl
  have c1:=R3.cell (j:=1) rfl
  have c2:=R3.cell (j:=2) rfl
  have c3:=R3.cell (j:=3) rfl
  have c4:=R3.cell (j:=4) rfl
  have c5:=R3.cell (j:=5) rfl
  have c6:=R3.cell (j:=6) rfl
  have l3:=R3.lt
  go_enter Tryz.func9,Tryz.ntmps9
  go_wp2_with fail
  refine (KB.out _ ex).mono ?_
  rintro _ w1 ⟨_,rfl,hb1,hB⟩
  replace R3:=R3.ext hb1
  replace ex:=ext_trans ex hb1
  clear hb1 KB c0 c1 c2 c3 c4 c5 c6 l3
  rcases hB with ⟨s,rfl,hv,hf,v,rfl,hsy⟩ | rfl
  case inr=>
    replace ex:=ext_alloc' ex (.cells #[.int .i64 0,.int .i64 0,.int .i64 0,.slice none 0 0,.int .i64 0,.slice none 0 0,.int .i64 0,.int .i64 0,.slice none 0 0,.slice none 0 0] 35)
    clear R3
    go_wp2_with fail
    refine (awake_calls _).mono ?_
    rintro _ w99 ⟨_,rfl,hb,rfl⟩
    have HE:=Lib.hid (ext_trans ex hb)
    clear hb ex
    go_wp2
    go_ret
    exact .mk HE.out rfl
  have hg:=good_sys hv hsy.moves8
  have hN1:=hg.pok.n1
  have hK6:=hg.K6
  have HfN:Hid (s.p.n=(s.N:Int)):=Lib.hid hg.pok.n
  have HfK:Hid (s.p.rounds=(s.K:Int)):=Lib.hid hg.rnd
  have HV0:=Lib.hid hv
  have houts:1≤s.p.outs∧s.p.outs≤8:=by have:=checkT_zero hg.pok.t;omega
  have htl:s.tab.length≤100000:=tab_small hv hf.few hsy.moves8
  obtain ⟨vc2,vs2,vt2,vx2,rfl,hc2,hs2,ht2,hx2⟩:=hsy
  obtain ⟨ca2,cc2,rfl,_⟩:=hc2.form
  obtain ⟨sa2,sc2,rfl,_⟩:=hs2.form
  obtain ⟨ta2,tc2,rfl,_⟩:=ht2.form
  obtain ⟨xa2,xc2,rfl,xad,_⟩:=hx2.form2
  have hxl:=hx2.few
  have e7:=ext_alloc w1 (.cells #[.int .i64 s.p.n,.int .i64 s.p.ins,.int .i64 s.p.outs,.slice ca2 s.p.cs.length cc2,.int .i64 s.p.an,.slice sa2 s.p.st.length sc2,.int .i64 s.p.rounds,.int .i64 s.tn,.slice ta2 s.tab.length tc2,.slice xa2 s.ex.length xc2] 35)
  have HSY:Hid (SysV TT (w1.alloc (.cells #[.int .i64 s.p.n,.int .i64 s.p.ins,.int .i64 s.p.outs,.slice ca2 s.p.cs.length cc2,.int .i64 s.p.an,.slice sa2 s.p.st.length sc2,.int .i64 s.p.rounds,.int .i64 s.tn,.slice ta2 s.tab.length tc2,.slice xa2 s.ex.length xc2] 35)) (.agg #[.int .i64 s.p.n,.int .i64 s.p.ins,.int .i64 s.p.outs,.slice ca2 s.p.cs.length cc2,.int .i64 s.p.an,.slice sa2 s.p.st.length sc2,.int .i64 s.p.rounds,.int .i64 s.tn,.slice ta2 s.tab.length tc2,.slice xa2 s.ex.length xc2]) s):=Lib.hid ⟨_,_,_,_,rfl,hc2.ext e7,hs2.ext e7,ht2.ext e7,hx2.ext e7⟩
  have HX:=Lib.hid (hx2.ext e7)
  have R7:=row_new w1 [.int .i64 s.p.n,.int .i64 s.p.ins,.int .i64 s.p.outs,.slice ca2 s.p.cs.length cc2,.int .i64 s.p.an,.slice sa2 s.p.st.length sc2,.int .i64 s.p.rounds,.int .i64 s.tn,.slice ta2 s.tab.length tc2,.slice xa2 s.ex.length xc2] 35
  replace R3:=R3.alloc (.cells #[.int .i64 s.p.n,.int .i64 s.p.ins,.int .i64 s.p.outs,.slice ca2 s.p.cs.length cc2,.int .i64 s.p.an,.slice sa2 s.p.st.length sc2,.int .i64 s.p.rounds,.int .i64 s.tn,.slice ta2 s.tab.length tc2,.slice xa2 s.ex.length xc2] 35)
  replace ex:=ext_alloc' ex (.cells #[.int .i64 s.p.n,.int .i64 s.p.ins,.int .i64 s.p.outs,.slice ca2 s.p.cs.length cc2,.int .i64 s.p.an,.slice sa2 s.p.st.length sc2,.int .i64 s.p.rounds,.int .i64 s.tn,.slice ta2 s.tab.length tc2,.slice xa2 s.ex.length xc2] 35)
  clear hc2 hs2 ht2 hx2 e7 hv
  go_upto_region 2 with fail
  obtain ⟨wA,hwA⟩:∃wA,wA=w1.alloc (.cells #[.int .i64 s.p.n,.int .i64 s.p.ins,.int .i64 s.p.outs,.slice ca2 s.p.cs.length cc2,.int .i64 s.p.an,.slice sa2 s.p.st.length sc2,.int .i64 s.p.rounds,.int .i64 s.tn,.slice ta2 s.tab.length tc2,.slice xa2 s.ex.length xc2] 35):=⟨_,rfl⟩
  obtain ⟨B7,hB7⟩:∃B7,B7=w1.heap.size:=⟨_,rfl⟩
  rw[←hwA]at R3 R7 ex HSY HX
  rw[←hB7]at R7
  rw[←hwA,←hB7]
  clear hwA hB7
  by_cases hl1:100<l.length
  case pos=>
    have d1:decide ((100:Int)<(l.length:Int))=true:=by simp;omega
    have d2:(100:Int)<(l.length:Int):=by omega
    clear hl1 R3 R7 HSY HX
    go_wp2_with fail
    refine (awake_calls _).mono ?_
    rintro _ w99 ⟨_,rfl,hb,rfl⟩
    have HE:=Lib.hid (ext_trans ex hb)
    clear hb ex
    go_wp2
    go_ret
    exact .mk HE.out rfl
  have d1:decide ((100:Int)<(l.length:Int))=false:=by simp;omega
  have d2:¬(100:Int)<(l.length:Int):=by omega
  by_cases hl2:100<le.length
  case pos=>
    have d3:decide ((100:Int)<(le.length:Int))=true:=by simp;omega
    have d4:(100:Int)<(le.length:Int):=by omega
    clear hl1 hl2 R3 R7 HSY HX
    go_wp2_with fail
    refine (awake_calls _).mono ?_
    rintro _ w99 ⟨_,rfl,hb,rfl⟩
    have HE:=Lib.hid (ext_trans ex hb)
    clear hb ex
    go_wp2
    go_ret
    exact .mk HE.out rfl
  have d3:decide ((100:Int)<(le.length:Int))=false:=by simp;omega
  have d4:¬(100:Int)<(le.length:Int):=by omega
  obtain ⟨cl,hcl⟩:∃cl,cl=choTo s.p.outs l s.tab.length:=⟨_,rfl⟩
  obtain ⟨rl,hrl⟩:∃rl,rl=earlyL s cl:=⟨_,rfl⟩
  have hcll:cl.length=s.tab.length:=by rw[hcl];exact choTo_len _ _ _
  have hch:Chosen s cl:=fun x hx=>by
    obtain ⟨z,rfl,hz⟩:=decL_nat hx
    rw[hcl,Int.toNat_natCast,choTo_at _ _ hz]
    exact choN_bound houts.1 _ _
  have HRE:Hid (ruleE s rl=0):=Lib.hid (by rw[hrl];exact early_form HV0.out hg hch)
  have hrll:rl.length=s.tab.length:=by rw[hrl];exact earlyL_len _ _
  have KCH:Hid (∀W,Below wA.heap.size wA W→Calls Tryz.prog 24 #[.agg #[.int .i64 s.p.n,.int .i64 s.p.ins,.int .i64 s.p.outs,.slice ca2 s.p.cs.length cc2,.int .i64 s.p.an,.slice sa2 s.p.st.length sc2,.int .i64 s.p.rounds,.int .i64 s.tn,.slice ta2 s.tab.length tc2,.slice xa2 s.ex.length xc2],.slice ba l.length bc] W (Post W fun w' r=>RuleV (fun b=>W.heap.size≤b) w' r cl)):=Lib.hid fun W hW=>by
    have:=choice_calls (HSY.out.ext hW) (HB.out.ext (ext_trans ex hW)) houts htl (by omega)
    rw[←hcl]at this;exact this
  have KEA:Hid (∀W vch S,Below wA.heap.size wA W→Ints S W vch cl→Calls Tryz.prog 14 #[.agg #[.int .i64 s.p.n,.int .i64 s.p.ins,.int .i64 s.p.outs,.slice ca2 s.p.cs.length cc2,.int .i64 s.p.an,.slice sa2 s.p.st.length sc2,.int .i64 s.p.rounds,.int .i64 s.tn,.slice ta2 s.tab.length tc2,.slice xa2 s.ex.length xc2],.agg #[vch]] W (Post W fun w' r=>∃u,r=.tuple #[.agg #[u],.int .i64 0]∧Ints (fun b=>W.heap.size≤b) w' u rl)):=Lib.hid fun W vch S hW hi=>by
    refine (pearly_calls (HSY.out.ext hW) hf.few hi htl).mono ?_
    rintro e w' ⟨r,h1,h2,h3⟩
    refine ⟨r,h1,h2,?_⟩
    rcases h3 with ⟨_,v,h4,u,rfl,h5⟩ | ⟨h4,_⟩
    · rw[hrl];exact ⟨u,h4,h5⟩
    · exact absurd (early_earE HV0.out hcll hch) h4
  have hwfr:∀x∈rl,WF x:=fun x hx=>by
    rw[hrl]at hx
    exact earlyTo_wf (fun y hy=>by rw[hcl]at hy;exact choTo_wf houts _ _ y hy) _ x hx
  have HLATE:Hid (∀lt,(∀v,v<s.tab.length→nth lt v=nth rl v∨nth lt v= -1)→(∀v,v<s.tab.length→nth (nthL s.tab v) 1=(s.K:Int)→nth lt v=nth rl v)→ruleE s lt=0→soonB s rl lt=true∧(measT s rl).2.2=0∧(measT s lt).2.2=0):=Lib.hid fun lt h1 h2 h3=>by
    rw[hrl]at h1 h2 ⊢
    refine early_late HV0.out hg hch h1 (fun x hx=>?_) h3
    obtain ⟨z,q,rfl,hz,ht⟩:=decL_final hg hx
    rw[Int.toNat_natCast]
    exact h2 z hz ht.k0
  have KEB:Hid (∀lt,ruleE s lt=0→∀W va vl Sa Sl,Below wA.heap.size wA W→Ints Sa W va rl→Ints Sl W vl lt→Calls Tryz.prog 33 #[.agg #[.int .i64 s.p.n,.int .i64 s.p.ins,.int .i64 s.p.outs,.slice ca2 s.p.cs.length cc2,.int .i64 s.p.an,.slice sa2 s.p.st.length sc2,.int .i64 s.p.rounds,.int .i64 s.tn,.slice ta2 s.tab.length tc2,.slice xa2 s.ex.length xc2],.agg #[va],.agg #[vl]] W (Post W fun w' r=>r=.tuple #[.bool (soonB s rl lt),.int .i64 0])):=Lib.hid fun lt hlt W va vl Sa Sl hW h1 h2=>by
    have:=pEarl_calls (HSY.out.ext hW) hf.few h1 h2
    rw[earlT_ok HRE.out hlt]at this;exact this
  have KEC:Hid (∀lt,ruleE s lt=0→∀W va vl Sa Sl,Below wA.heap.size wA W→Ints Sa W va rl→Ints Sl W vl lt→Calls Tryz.prog 33 #[.agg #[.int .i64 s.p.n,.int .i64 s.p.ins,.int .i64 s.p.outs,.slice ca2 s.p.cs.length cc2,.int .i64 s.p.an,.slice sa2 s.p.st.length sc2,.int .i64 s.p.rounds,.int .i64 s.tn,.slice ta2 s.tab.length tc2,.slice xa2 s.ex.length xc2],.agg #[vl],.agg #[va]] W (Post W fun w' r=>r=.tuple #[.bool (soonB s lt rl),.int .i64 0])):=Lib.hid fun lt hlt W va vl Sa Sl hW h1 h2=>by
    have:=pEarl_calls (HSY.out.ext hW) hf.few h2 h1
    rw[earlT_ok hlt HRE.out]at this;exact this
  have KME:Hid (∀lt W vl Sl,Below wA.heap.size wA W→Ints Sl W vl lt→Calls Tryz.prog 21 #[.agg #[.int .i64 s.p.n,.int .i64 s.p.ins,.int .i64 s.p.outs,.slice ca2 s.p.cs.length cc2,.int .i64 s.p.an,.slice sa2 s.p.st.length sc2,.int .i64 s.p.rounds,.int .i64 s.tn,.slice ta2 s.tab.length tc2,.slice xa2 s.ex.length xc2],.agg #[vl]] W (Post W fun w' r=>r=.tuple #[.int .i64 (measT s lt).1,.int .i64 (measT s lt).2.1,.int .i64 (measT s lt).2.2])):=Lib.hid fun lt W vl Sl hW h1=>pmea_calls (HSY.out.ext hW) hf.few h1
  have KCK:Hid (∀lt W vl Sl,Below wA.heap.size wA W→Ints Sl W vl lt→Calls Tryz.prog 16 #[.agg #[.int .i64 s.p.n,.int .i64 s.p.ins,.int .i64 s.p.outs,.slice ca2 s.p.cs.length cc2,.int .i64 s.p.an,.slice sa2 s.p.st.length sc2,.int .i64 s.p.rounds,.int .i64 s.tn,.slice ta2 s.tab.length tc2,.slice xa2 s.ex.length xc2],.agg #[vl]] W (Post W fun w' r=>r=.int .i64 (ruleE s lt))):=Lib.hid fun lt W vl Sl hW h1=>pcheck_calls (HSY.out.ext hW) hf.few h1
  have HTV:=Lib.hid fun v (hv:v<s.tab.length)=>hg.tab.2 v hv
  have HTS:=Lib.hid (show Sl (kFlat 8) TT wA (.slice ta2 s.tab.length tc2) s.tab from by obtain ⟨a,b,c,d,h,h1,h2,h3,h4⟩:=HSY.out;cases h;exact h3)
  have HHL:=Lib.hid (And.intro hcll hrll)
  have HWR:=Lib.hid hwfr
  obtain ⟨iv,hiv,hzv⟩:=info_size info_viewsZ
  have HQV:=Lib.hid (idx_wide Tryz.underlying30 hiv hzv HTS.out.ad.1)
  have KEEP:Hid (∀w',Below wA.heap.size wA w'→(fun w':World=>w'.cell? ⟨B7,0,none⟩=some (.int .i64 s.p.n)∧w'.cell? ⟨B7,1,none⟩=some (.int .i64 s.p.ins)∧w'.cell? ⟨B7,2,none⟩=some (.int .i64 s.p.outs)∧w'.cell? ⟨B7,3,none⟩=some (.slice ca2 s.p.cs.length cc2)∧w'.cell? ⟨B7,4,none⟩=some (.int .i64 s.p.an)∧w'.cell? ⟨B7,5,none⟩=some (.slice sa2 s.p.st.length sc2)∧w'.cell? ⟨B7,6,none⟩=some (.int .i64 s.p.rounds)∧w'.cell? ⟨B7,7,none⟩=some (.int .i64 s.tn)∧w'.cell? ⟨B7,8,none⟩=some (.slice ta2 s.tab.length tc2)∧w'.cell? ⟨B7,9,none⟩=some (.slice xa2 s.ex.length xc2)) w'):=Lib.hid fun w' hw=>⟨(R7.ext hw).cell (j:=0) rfl,(R7.ext hw).cell (j:=1) rfl,(R7.ext hw).cell (j:=2) rfl,(R7.ext hw).cell (j:=3) rfl,(R7.ext hw).cell (j:=4) rfl,(R7.ext hw).cell (j:=5) rfl,(R7.ext hw).cell (j:=6) rfl,(R7.ext hw).cell (j:=7) rfl,(R7.ext hw).cell (j:=8) rfl,(R7.ext hw).cell (j:=9) rfl⟩
  clear hcl hrl hcll hch hrll hf hg hwfr hiv hzv xad hl1 hl2
  go_upto_region 4 with fail
  clear d1 d2 d3 d4
  have HR7:=Lib.hid R7
  have HR3:=Lib.hid R3
  have HEX:=Lib.hid ex
  clear R7 R3 ex
  go_cut [10,11] (fun s10 s11 wx=>∃(G:Nat) (a:Option Addr) (c:Nat),s10=.pointer (some ⟨G,0,none⟩)∧s11=.int .i64 0∧Below wA.heap.size wA wx∧Row wx G 38 [.slice a rl.length c]∧Ints TT wx (.slice a rl.length c) rl)
  case first=>
    go_wp2_with fail
    refine region_E (fun w':World=>w'.cell? ⟨B7,0,none⟩=some (.int .i64 s.p.n)∧w'.cell? ⟨B7,1,none⟩=some (.int .i64 s.p.ins)∧w'.cell? ⟨B7,2,none⟩=some (.int .i64 s.p.outs)∧w'.cell? ⟨B7,3,none⟩=some (.slice ca2 s.p.cs.length cc2)∧w'.cell? ⟨B7,4,none⟩=some (.int .i64 s.p.an)∧w'.cell? ⟨B7,5,none⟩=some (.slice sa2 s.p.st.length sc2)∧w'.cell? ⟨B7,6,none⟩=some (.int .i64 s.p.rounds)∧w'.cell? ⟨B7,7,none⟩=some (.int .i64 s.tn)∧w'.cell? ⟨B7,8,none⟩=some (.slice ta2 s.tab.length tc2)∧w'.cell? ⟨B7,9,none⟩=some (.slice xa2 s.ex.length xc2)) (fun i=>false) (by kernel_rfl) ?_ (fun hHeld=>?_)
    · exact KEEP.out _ (show Below wA.heap.size wA wA.drew from drewN_below wA.heap.size wA 1)
    refine anyE_take 0 (v:=?_) rfl (by kernel_rfl) (fun _ _ _ h=>h) (by rfl) ?hy0q1 hHeld ?rest0q1
    case hy0q1=>(intro w hSw;(try dsimp only at hSw);go_simp;try with_reducible rfl)
    try simp only[Act.put,zsa,zsz,zss]
    refine anyE_take 1 (v:=?_) rfl (by kernel_rfl) (fun _ _ _ h=>h) (by rfl) ?hy1q2 hHeld ?rest1q2
    case hy1q2=>(intro w hSw;(try dsimp only at hSw);go_simp;try with_reducible rfl)
    try simp only[Act.put,zsa,zsz,zss]
    refine anyE_take 2 (v:=?_) rfl (by kernel_rfl) (fun _ _ _ h=>h) (by rfl) ?hy2q3 hHeld ?rest2q3
    case hy2q3=>(intro w hSw;(try dsimp only at hSw);go_simp;try with_reducible rfl)
    try simp only[Act.put,zsa,zsz,zss]
    refine anyE_two 3 8 rfl rfl (by kernel_rfl) (fun K hK=>?_) (fun K hK=>?_)
    · (go_simp;go_at_call 24;refine (KCH.out _ (show Below wA.heap.size wA wA.drew from drewN_below wA.heap.size wA 1)).mono ?_;rintro _ v3 ⟨_,rfl,hb,u3,rfl,hu3⟩;have y3:=ext_trans (show Below wA.heap.size wA wA.drew from drewN_below wA.heap.size wA 1) hb;clear hb;obtain ⟨a3,c3,rfl,_⟩:=hu3.form)
      refine hK.out _ _ (fun _=>KEEP.out _ y3) (fun hHeld=>?_);replace hHeld:=hHeld rfl
      clear hK K
      try simp only[Act.put,zsa,zsz,zss]
      refine anyE_two 4 8 rfl rfl (by kernel_rfl) (fun K hK=>?_) (fun K hK=>?_)
      · (go_simp;go_at_call 14;refine (KEA.out _ _ _ y3 hu3).mono ?_;rintro _ v4 ⟨_,rfl,hb,u4,rfl,hu4⟩;have y4:=ext_trans y3 hb;obtain ⟨a4,c4,rfl,_⟩:=hu4.form)
        refine hK.out _ _ (fun _=>KEEP.out _ y4) (fun hHeld=>?_);replace hHeld:=hHeld rfl
        clear hK K
        try simp only[Act.put,zsa,zsz,zss]
        clear hb
        refine anyE_take 5 (v:=?_) rfl (by kernel_rfl) (fun _ _ _ h=>h) (by rfl) ?hy5q4 hHeld ?rest5q4
        case hy5q4=>(intro w hSw;(try dsimp only at hSw);go_simp;try with_reducible rfl)
        try simp only[Act.put,zsa,zsz,zss]
        refine anyE_take 6 (v:=?_) rfl (by kernel_rfl) (fun _ _ _ h=>h) (by rfl) ?hy6q5 hHeld ?rest6q5
        case hy6q5=>(intro w hSw;(try dsimp only at hSw);go_simp;try with_reducible rfl)
        try simp only[Act.put,zsa,zsz,zss]
        refine anyE_take 7 (v:=?_) rfl (by kernel_rfl) (fun _ _ _ h=>h) (by rfl) ?hy7q6 hHeld ?rest7q6
        case hy7q6=>(intro w hSw;(try dsimp only at hSw);go_simp;try with_reducible rfl)
        try simp only[Act.put,zsa,zsz,zss]
        refine anyE_one 8 rfl (by kernel_rfl) (fun K hK=>?_)
        go_simp
        refine hK.out _ _ (fun _=>KEEP.out _ (ext_alloc' y4 _)) (fun hHeld=>?_);replace hHeld:=hHeld rfl
        clear hK K
        try simp only[Act.put,zsa,zsz,zss]
        refine anyE_one 9 rfl (by kernel_rfl) (fun K hK=>?_)
        go_simp
        refine hK.out _ _ (fun _=>KEEP.out _ (ext_alloc' y4 _)) (fun hHeld=>?_);replace hHeld:=hHeld rfl
        clear hK K
        try simp only[Act.put,zsa,zsz,zss]
        refine anyE_take 10 (v:=?_) rfl (by kernel_rfl) (fun _ _ _ h=>h) (by rfl) ?hy10q7 hHeld ?rest10q7
        case hy10q7=>(intro w hSw;(try dsimp only at hSw);go_simp;try with_reducible rfl)
        try simp only[Act.put,zsa,zsz,zss]
        refine anyE_done (by kernel_rfl) ?_ _
        have way:=Lib.hid (show∃(G:Nat) (a:Option Addr) (c:Nat),Value.pointer (some ⟨v4.heap.size,0,none⟩)=.pointer (some ⟨G,0,none⟩)∧Below wA.heap.size wA (v4.alloc (.cells #[.slice a4 rl.length c4] 38))∧Row (v4.alloc (.cells #[.slice a4 rl.length c4] 38)) G 38 [.slice a rl.length c]∧Ints TT (v4.alloc (.cells #[.slice a4 rl.length c4] 38)) (.slice a rl.length c) rl from ⟨_,a4,c4,rfl,ext_alloc' y4 _,row_new v4 [.slice a4 rl.length c4] 38,(hu4.ext (ext_alloc v4 _)).mono fun _ _=>trivial⟩)
        clear hHeld KEEP y4 hu4 hu3 y3
        go_wp2_with fail
        go_meet
        obtain ⟨G,a,c,h1,h2,h3,h4⟩:=way.out
        exact ⟨G,a,c,h1,rfl,h2,h3,h4⟩
      · go_simp
        refine hK.out _ _ (fun _=>KEEP.out _ (ext_alloc' y3 _)) (fun hHeld=>?_);replace hHeld:=hHeld rfl
        clear hK K
        try simp only[Act.put,zsa,zsz,zss]
        have RN:=row_new v3 [.slice none 0 0] 38
        have dN:=ext_alloc' y3 (.cells #[.slice none 0 0] 38)
        have hNl:wA.heap.size≤v3.heap.size:=(y3).size
        have hzN:v3.heap.size<(v3.alloc (.cells #[.slice none 0 0] 38)).heap.size:=by simp
        have eN:=ext_alloc v3 (.cells #[.slice none 0 0] 38)
        obtain ⟨BN,hBN'⟩:∃BN,BN=v3.heap.size:=⟨_,rfl⟩
        obtain ⟨wN,hwN⟩:∃wN,wN=v3.alloc (.cells #[.slice none 0 0] 38):=⟨_,rfl⟩
        rw[←hwN]at RN dN hzN eN hHeld ⊢
        rw[←hBN']at RN hNl hzN ⊢
        clear hwN hBN'
        have hu5:=hu3.ext eN
        refine anyE_one 4 rfl (by kernel_rfl) (fun K hK=>?_)
        (go_simp;go_at_call 14;refine (KEA.out _ _ _ dN hu5).mono ?_;rintro _ v4 ⟨_,rfl,hb,u4,rfl,hu4⟩;have y4:=ext_trans dN hb;obtain ⟨a4,c4,rfl,_⟩:=hu4.form)
        refine hK.out _ _ (fun _=>KEEP.out _ y4) (fun hHeld=>?_);replace hHeld:=hHeld rfl
        clear hK K
        try simp only[Act.put,zsa,zsz,zss]
        have RNX:=Lib.hid (RN.ext hb)
        have hBN:=Lib.hid hNl
        have hBE:Hid (BN<wN.heap.size):=Lib.hid hzN
        clear hb RN dN hNl hzN hu5 eN
        refine anyE_take 5 (v:=?_) rfl (by kernel_rfl) (fun _ _ _ h=>h) (by rfl) ?hy5q8 hHeld ?rest5q8
        case hy5q8=>(intro w hSw;(try dsimp only at hSw);go_simp;try with_reducible rfl)
        try simp only[Act.put,zsa,zsz,zss]
        refine anyE_take 6 (v:=?_) rfl (by kernel_rfl) (fun _ _ _ h=>h) (by rfl) ?hy6q9 hHeld ?rest6q9
        case hy6q9=>(intro w hSw;(try dsimp only at hSw);go_simp;try with_reducible rfl)
        try simp only[Act.put,zsa,zsz,zss]
        refine anyE_take 7 (v:=?_) rfl (by kernel_rfl) (fun _ _ _ h=>h) (by rfl) ?hy7q10 hHeld ?rest7q10
        case hy7q10=>(intro w hSw;(try dsimp only at hSw);go_simp;try with_reducible rfl)
        try simp only[Act.put,zsa,zsz,zss]
        have RN4:=RNX.out
        have q0:=RN4.cell (j:=0) rfl
        have f0:=RN4.free 0
        have l0:=RN4.lt
        refine anyE_one 9 rfl (by kernel_rfl) (fun K hK=>?_)
        go_simp
        refine hK.out _ _ (fun _=>KEEP.out _ (y4.setCell (p:=⟨BN,0,none⟩) hBN.out (.slice a4 rl.length c4))) (fun hHeld=>?_);replace hHeld:=hHeld rfl
        clear hK K
        try simp only[Act.put,zsa,zsz,zss]
        refine anyE_take 10 (v:=?_) rfl (by kernel_rfl) (fun _ _ _ h=>h) (by rfl) ?hy10q11 hHeld ?rest10q11
        case hy10q11=>(intro w hSw;(try dsimp only at hSw);go_simp;try with_reducible rfl)
        try simp only[Act.put,zsa,zsz,zss]
        refine anyE_done (by kernel_rfl) ?_ _
        have way:=Lib.hid (show∃(G:Nat) (a:Option Addr) (c:Nat),Value.pointer (some ⟨BN,0,none⟩)=.pointer (some ⟨G,0,none⟩)∧Below wA.heap.size wA (v4.setCell ⟨BN,0,none⟩ (.slice a4 rl.length c4))∧Row (v4.setCell ⟨BN,0,none⟩ (.slice a4 rl.length c4)) G 38 [.slice a rl.length c]∧Ints TT (v4.setCell ⟨BN,0,none⟩ (.slice a4 rl.length c4)) (.slice a rl.length c) rl from ⟨BN,a4,c4,rfl,y4.setCell (p:=⟨BN,0,none⟩) hBN.out _,RN4.set 0 _,(hu4.agree (.of_grown (grownBy_setCell _ _ _ _) fun b hb e=>by injection e with e;have:=hBE.out;omega)).mono fun _ _=>trivial⟩)
        clear hHeld KEEP y4 hu4 hu3 y3 q0 f0 l0 RN4 RNX hBN hBE
        go_wp2_with fail
        go_meet
        obtain ⟨G,a,c,h1,h2,h3,h4⟩:=way.out
        exact ⟨G,a,c,h1,rfl,h2,h3,h4⟩
    · go_simp
      refine hK.out _ _ (fun _=>KEEP.out _ (ext_alloc' (show Below wA.heap.size wA wA.drew from drewN_below wA.heap.size wA 1) _)) (fun hHeld=>?_);replace hHeld:=hHeld rfl
      clear hK K
      try simp only[Act.put,zsa,zsz,zss]
      have RN:Row (wA.alloc (.cells #[.slice none 0 0] 38)).drew wA.heap.size 38 [.slice none 0 0]:=(row_new wA [.slice none 0 0] 38).ext (drewN_below (wA.alloc (.cells #[.slice none 0 0] 38)).heap.size (wA.alloc (.cells #[.slice none 0 0] 38)) 1)
      have dN:Below wA.heap.size wA (wA.alloc (.cells #[.slice none 0 0] 38)).drew:=ext_trans (ext_alloc wA (.cells #[.slice none 0 0] 38)) (drewN_below (wA.alloc (.cells #[.slice none 0 0] 38)).heap.size (wA.alloc (.cells #[.slice none 0 0] 38)) 1)
      have hzN:wA.heap.size<(wA.alloc (.cells #[.slice none 0 0] 38)).drew.heap.size:=RN.lt
      obtain ⟨BN,hBN'⟩:∃BN,BN=wA.heap.size:=⟨_,rfl⟩
      obtain ⟨wN,hwN⟩:∃wN,wN=(wA.alloc (.cells #[.slice none 0 0] 38)).drew:=⟨_,rfl⟩
      rw[←hwN]at RN dN hzN hHeld ⊢
      rw[←hBN']at RN hzN ⊢
      have hNl:wA.heap.size≤BN:=Nat.le_of_eq hBN'.symm
      clear hwN hBN'
      refine anyE_one 3 rfl (by kernel_rfl) (fun K hK=>?_)
      (go_simp;go_at_call 24;refine (KCH.out _ dN).mono ?_;rintro _ v3 ⟨_,rfl,hb,u3,rfl,hu3⟩;have y3:=ext_trans dN hb;have hbx:=hb;clear hb;obtain ⟨a3,c3,rfl,_⟩:=hu3.form)
      have hb3:=Lib.hid (RN.ext hbx)
      have hz3:=Nat.lt_of_lt_of_le hzN hbx.size
      clear hbx
      refine hK.out _ _ (fun _=>KEEP.out _ y3) (fun hHeld=>?_);replace hHeld:=hHeld rfl
      clear hK K
      try simp only[Act.put,zsa,zsz,zss]
      refine anyE_one 4 rfl (by kernel_rfl) (fun K hK=>?_)
      (go_simp;go_at_call 14;refine (KEA.out _ _ _ y3 hu3).mono ?_;rintro _ v4 ⟨_,rfl,hb,u4,rfl,hu4⟩;have y4:=ext_trans y3 hb;obtain ⟨a4,c4,rfl,_⟩:=hu4.form)
      refine hK.out _ _ (fun _=>KEEP.out _ y4) (fun hHeld=>?_);replace hHeld:=hHeld rfl
      clear hK K
      try simp only[Act.put,zsa,zsz,zss]
      have RNX:=Lib.hid (hb3.out.ext hb)
      have hBN:=Lib.hid hNl
      have hBE:Hid (BN<v3.heap.size):=Lib.hid hz3
      clear hb RN dN hNl hzN hb3 hz3
      refine anyE_take 5 (v:=?_) rfl (by kernel_rfl) (fun _ _ _ h=>h) (by rfl) ?hy5q12 hHeld ?rest5q12
      case hy5q12=>(intro w hSw;(try dsimp only at hSw);go_simp;try with_reducible rfl)
      try simp only[Act.put,zsa,zsz,zss]
      refine anyE_take 6 (v:=?_) rfl (by kernel_rfl) (fun _ _ _ h=>h) (by rfl) ?hy6q13 hHeld ?rest6q13
      case hy6q13=>(intro w hSw;(try dsimp only at hSw);go_simp;try with_reducible rfl)
      try simp only[Act.put,zsa,zsz,zss]
      refine anyE_take 7 (v:=?_) rfl (by kernel_rfl) (fun _ _ _ h=>h) (by rfl) ?hy7q14 hHeld ?rest7q14
      case hy7q14=>(intro w hSw;(try dsimp only at hSw);go_simp;try with_reducible rfl)
      try simp only[Act.put,zsa,zsz,zss]
      have RN4:=RNX.out
      have q0:=RN4.cell (j:=0) rfl
      have f0:=RN4.free 0
      have l0:=RN4.lt
      refine anyE_one 9 rfl (by kernel_rfl) (fun K hK=>?_)
      go_simp
      refine hK.out _ _ (fun _=>KEEP.out _ (y4.setCell (p:=⟨BN,0,none⟩) hBN.out (.slice a4 rl.length c4))) (fun hHeld=>?_);replace hHeld:=hHeld rfl
      clear hK K
      try simp only[Act.put,zsa,zsz,zss]
      refine anyE_take 10 (v:=?_) rfl (by kernel_rfl) (fun _ _ _ h=>h) (by rfl) ?hy10q15 hHeld ?rest10q15
      case hy10q15=>(intro w hSw;(try dsimp only at hSw);go_simp;try with_reducible rfl)
      try simp only[Act.put,zsa,zsz,zss]
      refine anyE_done (by kernel_rfl) ?_ _
      have way:=Lib.hid (show∃(G:Nat) (a:Option Addr) (c:Nat),Value.pointer (some ⟨BN,0,none⟩)=.pointer (some ⟨G,0,none⟩)∧Below wA.heap.size wA (v4.setCell ⟨BN,0,none⟩ (.slice a4 rl.length c4))∧Row (v4.setCell ⟨BN,0,none⟩ (.slice a4 rl.length c4)) G 38 [.slice a rl.length c]∧Ints TT (v4.setCell ⟨BN,0,none⟩ (.slice a4 rl.length c4)) (.slice a rl.length c) rl from ⟨BN,a4,c4,rfl,y4.setCell (p:=⟨BN,0,none⟩) hBN.out _,RN4.set 0 _,(hu4.agree (.of_grown (grownBy_setCell _ _ _ _) fun b hb e=>by injection e with e;have:=hBE.out;omega)).mono fun _ _=>trivial⟩)
      clear hHeld KEEP y4 hu4 hu3 y3 q0 f0 l0 RN4 RNX hBN hBE
      go_wp2_with fail
      go_meet
      obtain ⟨G,a,c,h1,h2,h3,h4⟩:=way.out
      exact ⟨G,a,c,h1,rfl,h2,h3,h4⟩
  case rest=>
    obtain ⟨B10,ra,rc,rfl,rfl,hbE,R10,HRI⟩:=hcut
    obtain ⟨wE,rfl⟩:∃wE:World,wE=wc:=⟨_,rfl⟩
    have R7:=HR7.out.ext hbE
    have R3:=HR3.out.ext hbE
    have hrll:=HHL.out.2
    rw[hrll]at HRI R10
    have HRI:=Lib.hid HRI
    rw[HfN.out,HfK.out]at R3
    have HR3E:=Lib.hid R3
    have HR7E:=Lib.hid R7
    have HR10E:=Lib.hid R10
    clear HR7 HR3 KEEP KCH KEA hrll
    have t8:=R7.cell (j:=8) rfl
    have r0:=R10.cell (j:=0) rfl
    have l7:=R7.lt
    have l10:=R10.lt
    have KCL:=Lib.hid (cloneI_calls HRI.out (by have:=HHL.out.2;omega))
    go_wp2_with fail
    refine KCL.out.mono ?_
    rintro _ wC ⟨lv,rfl,hbC,hoC⟩
    have hLV:=LateV.of_own hoC
    have hLVC:=hLV
    have N7':B7<wE.heap.size∧w.heap.size<wE.heap.size∧B10<wE.heap.size:=⟨R7.lt,R3.lt,R10.lt⟩
    obtain ⟨va,vc,hlv,_⟩:=(hLV.ints HWR.out).form
    clear KCL hoC t8 r0 l7 l10
    have R7:=R7.ext hbC
    have R3:=R3.ext hbC
    have R10:=R10.ext hbC
    have hrll:=HHL.out.2
    rw[hrll]at hlv
    clear hrll
    subst hlv
    have R12:=row_new wC [.slice va s.tab.length vc] 38
    replace R7:=R7.alloc (.cells #[.slice va s.tab.length vc] 38)
    replace R3:=R3.alloc (.cells #[.slice va s.tab.length vc] 38)
    replace R10:=R10.alloc (.cells #[.slice va s.tab.length vc] 38)
    replace hLV:=hLV.ext (ext_alloc wC (.cells #[.slice va s.tab.length vc] 38))
    have hbC2:=ext_alloc' hbC (.cells #[.slice va s.tab.length vc] 38)
    have hgl:∀g cap sp,Value.slice va s.tab.length vc=.slice (some ⟨g,0,none⟩) rl.length cap→Row (wC.alloc (.cells #[.slice va s.tab.length vc] 38)) g 3 (rl.map (Value.int .i64)++sp)→g<(wC.alloc (.cells #[.slice va s.tab.length vc] 38)).heap.size:=fun g cap sp _ h=>h.lt
    obtain ⟨wD,hwD⟩:∃wD,wD=wC.alloc (.cells #[.slice va s.tab.length vc] 38):=⟨_,rfl⟩
    have hLV0:LateV wE.heap.size wC (.slice va s.tab.length vc) rl:=hLVC
    obtain ⟨B12,hB12⟩:∃B,B=wC.heap.size:=⟨_,rfl⟩
    have HNB:Hid (∀g,va=some ⟨g,0,none⟩→rl≠[]→g<B12∧wE.heap.size≤g):=Lib.hid fun g hg hne=>by
      rw[hB12]
      rcases hLV0 with ⟨h,_⟩ | ⟨g',cap,sp,h,h1,_,_,h4⟩
      · exact absurd h hne
      · simp only[Value.slice.injEq]at h
        have:g'=g:=by have:=h.1;rw[hg]at this;injection this with e;injection e with e1 e2;exact e1.symm
        subst this
        exact ⟨h4.lt,h1⟩
    clear hLV0 hgl hLVC
    go_upto_region 8 with fail
    rw[←hwD]at R7 R3 R10 R12 hLV hbC2 ⊢
    rw[←hB12]at R12 ⊢
    have hBE:wE.heap.size≤B12:=by rw[hB12];exact hbC.size
    clear hwD hB12 hbC
    have HR7:=Lib.hid R7
    have HR3:=Lib.hid R3
    have HR10:=Lib.hid R10
    have t8:=R7.cell (j:=8) rfl
    have l7:=R7.lt
    have N7:=Lib.hid N7'
    clear R7 R3 R10
    go_wp2
    clear t8 l7
    go_loopw [13,14,15,80] (fun _ _ _ i wr=>∃(k:Nat) (lt:List Int),k≤s.tab.length∧i=.int .i64 k∧Below wE.heap.size wE wr∧Row wr B12 38 [.slice va s.tab.length vc]∧Hid (LateV wE.heap.size wr (.slice va s.tab.length vc) lt)∧Hid (lt.length=s.tab.length∧(∀v,v<s.tab.length→nth lt v=nth rl v∨nth lt v= -1)∧(∀v,v<s.tab.length→nth (nthL s.tab v) 1=(s.K:Int)→nth lt v=nth rl v)∧∀x∈lt,WF x)) (fun _ _ _ i _=>s.tab.length - (intOf i).toNat)
    case atStart=>exact ⟨0,rl,Nat.zero_le _,rfl,hbC2,R12,Lib.hid hLV,Lib.hid ⟨HHL.out.2,fun _ _=>.inl rfl,fun _ _ _=>rfl,HWR.out⟩⟩
    case round=>
      clear hbC2 R12 hLV
      obtain ⟨k,lt,hk,rfl,hb,R12,HL,HP⟩:=hrel
      by_cases hlt:k<s.tab.length
      case neg=>
        obtain rfl:k=s.tab.length:=by omega
        have HLI:=Lib.hid (HL.out.ints HP.out.2.2.2)
        have HRJ:=Lib.hid (HRI.out.ext hb)
        have R7:=HR7E.out.ext hb
        have R10:=HR10E.out.ext hb
        have hA:=ext_trans hbE hb
        have HLE:=Lib.hid (HLATE.out lt HP.out.2.1 HP.out.2.2.1)
        have KCK2:=Lib.hid (KCK.out lt)
        have KEB2:=Lib.hid (KEB.out lt)
        have KEC2:=Lib.hid (KEC.out lt)
        have KM1:=Lib.hid (KME.out rl)
        have KM2:=Lib.hid (KME.out lt)
        have HML:Hid (ruleE s lt=0→soonB s rl lt=true→(measT s lt).2.2=0→(measT s rl).1≤(measT s lt).1∧(measT s rl).2.1≤(measT s lt).2.1∧(soonB s lt rl=true→(measT s rl).1=(measT s lt).1∧(measT s rl).2.1=(measT s lt).2.1)):=Lib.hid fun e1 e2 e3=>⟨(meas_le HRE.out e1 e2 e3).1,(meas_le HRE.out e1 e2 e3).2,fun e4=>meas_same HRE.out e1 e2 e4 e3⟩
        obtain ⟨er,her⟩:∃e,e=ruleE s lt:=⟨_,rfl⟩
        obtain ⟨⟨m1,u1,z1⟩,hm1⟩:∃t,t=measT s rl:=⟨_,rfl⟩
        obtain ⟨⟨m2,u2,z2⟩,hm2⟩:∃t,t=measT s lt:=⟨_,rfl⟩
        obtain ⟨sa9,hsa⟩:∃b,b=soonB s rl lt:=⟨_,rfl⟩
        obtain ⟨sb9,hsb⟩:∃b,b=soonB s lt rl:=⟨_,rfl⟩
        rw[←her]at HLE KCK2 KEB2 KEC2 HML
        rw[←hm1]at HLE KM1 HML
        rw[←hm2]at HLE KM2 HML
        rw[←hsa]at HLE KEB2 HML
        rw[←hsb]at KEC2 HML
        replace HLE:Hid (er=0→sa9=true∧z1=0∧z2=0):=HLE
        replace HML:Hid (er=0→sa9=true→z2=0→m1≤m2∧u1≤u2∧(sb9=true→m1=m2∧u1=u2)):=HML
        clear her hm1 hm2 hsa hsb hb HP HL KCK KEB KEC KME HLATE
        have t0:=R7.cell (j:=0) rfl
        have t1:=R7.cell (j:=1) rfl
        have t2:=R7.cell (j:=2) rfl
        have t3:=R7.cell (j:=3) rfl
        have t4:=R7.cell (j:=4) rfl
        have t5:=R7.cell (j:=5) rfl
        have t6:=R7.cell (j:=6) rfl
        have t7:=R7.cell (j:=7) rfl
        have t8:=R7.cell (j:=8) rfl
        have t9:=R7.cell (j:=9) rfl
        have r10:=R10.cell (j:=0) rfl
        have r12:=R12.cell (j:=0) rfl
        have l7:=R7.lt
        have l10:=R10.lt
        have l12:=R12.lt
        go_wp2_with fail
        refine (KCK2.out _ _ _ hA HLI.out).mono ?_
        rintro _ v1 ⟨_,rfl,hbn,rfl⟩
        replace R7:=R7.ext hbn
        replace R10:=R10.ext hbn
        replace R12:=R12.ext hbn
        replace hA:=ext_trans hA hbn
        replace HLI:=Lib.hid (HLI.out.ext hbn)
        replace HRJ:=Lib.hid (HRJ.out.ext hbn)
        clear hbn t0 t1 t2 t3 t4 t5 t6 t7 t8 t9 r10 r12 l7 l10 l12 KCK2
        by_cases he:er=0
        case neg=>
          have d0:(er !=0)=true:=by simp[he]
          clear he R7 R10 R12 HLI HRJ KEB2 KEC2 KM1 KM2 HLE HML
          go_wp2_with fail
          refine (awake_calls _).mono ?_
          rintro _ w99 ⟨_,rfl,hbn,rfl⟩
          have HE:=Lib.hid (ext_trans (ext_trans HEX.out hA) hbn)
          clear hbn hA
          go_wp2
          go_ret
          exact .mk HE.out rfl
        subst he
        obtain ⟨rfl,rfl,rfl⟩:=HLE.out rfl
        have HM:=Lib.hid (HML.out rfl rfl rfl)
        clear HLE HML
        have t0:=R7.cell (j:=0) rfl
        have t1:=R7.cell (j:=1) rfl
        have t2:=R7.cell (j:=2) rfl
        have t3:=R7.cell (j:=3) rfl
        have t4:=R7.cell (j:=4) rfl
        have t5:=R7.cell (j:=5) rfl
        have t6:=R7.cell (j:=6) rfl
        have t7:=R7.cell (j:=7) rfl
        have t8:=R7.cell (j:=8) rfl
        have t9:=R7.cell (j:=9) rfl
        have r10:=R10.cell (j:=0) rfl
        have r12:=R12.cell (j:=0) rfl
        have l7:=R7.lt
        have l10:=R10.lt
        have l12:=R12.lt
        go_wp2_with fail
        refine (KEB2.out (by simp) _ _ _ _ _ hA HRJ.out HLI.out).mono ?_
        rintro _ v2 ⟨_,rfl,hbn,rfl⟩
        replace R7:=R7.ext hbn
        replace R10:=R10.ext hbn
        replace R12:=R12.ext hbn
        replace hA:=ext_trans hA hbn
        replace HLI:=Lib.hid (HLI.out.ext hbn)
        replace HRJ:=Lib.hid (HRJ.out.ext hbn)
        clear hbn t0 t1 t2 t3 t4 t5 t6 t7 t8 t9 r10 r12 l7 l10 l12 KEB2
        have t0:=R7.cell (j:=0) rfl
        have t1:=R7.cell (j:=1) rfl
        have t2:=R7.cell (j:=2) rfl
        have t3:=R7.cell (j:=3) rfl
        have t4:=R7.cell (j:=4) rfl
        have t5:=R7.cell (j:=5) rfl
        have t6:=R7.cell (j:=6) rfl
        have t7:=R7.cell (j:=7) rfl
        have t8:=R7.cell (j:=8) rfl
        have t9:=R7.cell (j:=9) rfl
        have r10:=R10.cell (j:=0) rfl
        have r12:=R12.cell (j:=0) rfl
        have l7:=R7.lt
        have l10:=R10.lt
        have l12:=R12.lt
        go_wp2_with fail
        refine (KEC2.out (by simp) _ _ _ _ _ hA HRJ.out HLI.out).mono ?_
        rintro _ v3 ⟨_,rfl,hbn,rfl⟩
        replace R7:=R7.ext hbn
        replace R10:=R10.ext hbn
        replace R12:=R12.ext hbn
        replace hA:=ext_trans hA hbn
        replace HLI:=Lib.hid (HLI.out.ext hbn)
        replace HRJ:=Lib.hid (HRJ.out.ext hbn)
        clear hbn t0 t1 t2 t3 t4 t5 t6 t7 t8 t9 r10 r12 l7 l10 l12 KEC2
        have t0:=R7.cell (j:=0) rfl
        have t1:=R7.cell (j:=1) rfl
        have t2:=R7.cell (j:=2) rfl
        have t3:=R7.cell (j:=3) rfl
        have t4:=R7.cell (j:=4) rfl
        have t5:=R7.cell (j:=5) rfl
        have t6:=R7.cell (j:=6) rfl
        have t7:=R7.cell (j:=7) rfl
        have t8:=R7.cell (j:=8) rfl
        have t9:=R7.cell (j:=9) rfl
        have r10:=R10.cell (j:=0) rfl
        have r12:=R12.cell (j:=0) rfl
        have l7:=R7.lt
        have l10:=R10.lt
        have l12:=R12.lt
        go_wp2_with fail
        refine (KM1.out _ _ _ hA HRJ.out).mono ?_
        rintro _ v4 ⟨_,rfl,hbn,rfl⟩
        replace R7:=R7.ext hbn
        replace R10:=R10.ext hbn
        replace R12:=R12.ext hbn
        replace hA:=ext_trans hA hbn
        replace HLI:=Lib.hid (HLI.out.ext hbn)
        replace HRJ:=Lib.hid (HRJ.out.ext hbn)
        clear hbn t0 t1 t2 t3 t4 t5 t6 t7 t8 t9 r10 r12 l7 l10 l12 KM1
        have t0:=R7.cell (j:=0) rfl
        have t1:=R7.cell (j:=1) rfl
        have t2:=R7.cell (j:=2) rfl
        have t3:=R7.cell (j:=3) rfl
        have t4:=R7.cell (j:=4) rfl
        have t5:=R7.cell (j:=5) rfl
        have t6:=R7.cell (j:=6) rfl
        have t7:=R7.cell (j:=7) rfl
        have t8:=R7.cell (j:=8) rfl
        have t9:=R7.cell (j:=9) rfl
        have r10:=R10.cell (j:=0) rfl
        have r12:=R12.cell (j:=0) rfl
        have l7:=R7.lt
        have l10:=R10.lt
        have l12:=R12.lt
        go_wp2_with fail
        refine (KM2.out _ _ _ hA HLI.out).mono ?_
        rintro _ v5 ⟨_,rfl,hbn,rfl⟩
        replace R7:=R7.ext hbn
        replace R10:=R10.ext hbn
        replace R12:=R12.ext hbn
        replace hA:=ext_trans hA hbn
        replace HLI:=Lib.hid (HLI.out.ext hbn)
        replace HRJ:=Lib.hid (HRJ.out.ext hbn)
        clear hbn t0 t1 t2 t3 t4 t5 t6 t7 t8 t9 r10 r12 l7 l10 l12 KM2
        have d1:decide (m1≤m2)=true:=decide_eq_true HM.out.1
        have d2:decide (u1≤u2)=true:=decide_eq_true HM.out.2.1
        clear R7 R10 R12 HLI HRJ
        cases sb9 with
        | false=>
          go_wp2_with fail
          refine (awake_calls _).mono ?_
          rintro _ w99 ⟨_,rfl,hbn,rfl⟩
          have HE:=Lib.hid (ext_trans (ext_trans HEX.out hA) hbn)
          clear hbn hA
          go_wp2
          go_ret
          exact .mk HE.out rfl
        | true=>
          obtain ⟨rfl,rfl⟩:=HM.out.2.2 (by simp)
          have d3:(m1==m1)=true:=by simp
          have d4:(u1==u1)=true:=by simp
          go_wp2_with fail
          refine (awake_calls _).mono ?_
          rintro _ w99 ⟨_,rfl,hbn,rfl⟩
          have HE:=Lib.hid (ext_trans (ext_trans HEX.out hA) hbn)
          clear hbn hA
          go_wp2
          go_ret
          exact .mk HE.out rfl
      have hex:=ext_trans HEX.out (ext_trans hbE hb)
      have R3:=HR3E.out.ext hb
      have hA:=ext_trans hbE hb
      obtain ⟨q,kk,hV⟩:=HTV.out k hlt
      have hq:=hV.ql
      have hkk:=hV.kl
      have k0:=hV.k0
      have q0:=hV.q0
      have q1:=HQV.out k hlt
      have z:=HTS.out.nums hlt (by decide)
      have z0:=cell_ext z.1 hA
      have hbk:=World.block_lt_of_cell? _ _ z0
      have bk:(adr ta2 (k * 8)).block<wr.heap.size:=hbk
      have hown:kk=0∨(0<kk∧∃u:Nat,u<k∧nth (nthL s.tab k) (3+q)=u):=by
        by_cases e:kk=0
        · exact .inl e
        · exact .inr ⟨by omega,hV.own (by omega)⟩
      obtain ⟨x,hx⟩:∃x,x=nthL s.tab k:=⟨_,rfl⟩
      rw[←hx]at z z0 k0 q0 hown
      have HXE:=Lib.hid hx
      obtain ⟨y1,hy1⟩:∃y,y=nth x 1:=⟨_,rfl⟩
      have HLK:Hid ([.int .i64 q,.int .i64 y1,.int .i64 (nth x 2),.int .i64 (nth x 3),.int .i64 (nth x 4),.int .i64 (nth x 5),.int .i64 (nth x 6),.int .i64 (nth x 7)][3+q]? =some (Value.int .i64 (nth x (3+q)))):=Lib.hid (by rcases five (show q<5 by omega) with rfl | rfl | rfl | rfl | rfl<;>rfl)
      have z1:=cell_ext (z.2 1 (by decide)) hA
      have z2:=cell_ext (z.2 2 (by decide)) hA
      have z3:=cell_ext (z.2 3 (by decide)) hA
      have z4:=cell_ext (z.2 4 (by decide)) hA
      have z5:=cell_ext (z.2 5 (by decide)) hA
      have z6:=cell_ext (z.2 6 (by decide)) hA
      have z7:=cell_ext (z.2 7 (by decide)) hA
      rw[q0]at z0
      rw[←hy1]at z1 k0
      have RV:=row_new wr [.int .i64 q,.int .i64 y1,.int .i64 (nth x 2),.int .i64 (nth x 3),.int .i64 (nth x 4),.int .i64 (nth x 5),.int .i64 (nth x 6),.int .i64 (nth x 7)] 87
      have hbV:=ext_alloc' hb (.cells #[.int .i64 q,.int .i64 y1,.int .i64 (nth x 2),.int .i64 (nth x 3),.int .i64 (nth x 4),.int .i64 (nth x 5),.int .i64 (nth x 6),.int .i64 (nth x 7)] 87)
      have R3V:=R3.alloc (.cells #[.int .i64 q,.int .i64 y1,.int .i64 (nth x 2),.int .i64 (nth x 3),.int .i64 (nth x 4),.int .i64 (nth x 5),.int .i64 (nth x 6),.int .i64 (nth x 7)] 87)
      have R12V:=R12.alloc (.cells #[.int .i64 q,.int .i64 y1,.int .i64 (nth x 2),.int .i64 (nth x 3),.int .i64 (nth x 4),.int .i64 (nth x 5),.int .i64 (nth x 6),.int .i64 (nth x 7)] 87)
      have HLV:=Lib.hid (HL.out.ext (ext_alloc wr (.cells #[.int .i64 q,.int .i64 y1,.int .i64 (nth x 2),.int .i64 (nth x 3),.int .i64 (nth x 4),.int .i64 (nth x 5),.int .i64 (nth x 6),.int .i64 (nth x 7)] 87)))
      have HEV:=Lib.hid (ext_trans hex (ext_alloc wr (.cells #[.int .i64 q,.int .i64 y1,.int .i64 (nth x 2),.int .i64 (nth x 3),.int .i64 (nth x 4),.int .i64 (nth x 5),.int .i64 (nth x 6),.int .i64 (nth x 7)] 87)))
      have HK0:=Lib.hid k0
      have HY1:=Lib.hid hy1
      have HOW:=Lib.hid hown
      clear hx k0 q0 hy1 hown hV z R3 R12 HL hbk hex hA
      go_upto_region 11 with fail
      obtain ⟨wV,hwV⟩:∃wV,wV=wr.alloc (.cells #[.int .i64 q,.int .i64 y1,.int .i64 (nth x 2),.int .i64 (nth x 3),.int .i64 (nth x 4),.int .i64 (nth x 5),.int .i64 (nth x 6),.int .i64 (nth x 7)] 87):=⟨_,rfl⟩
      obtain ⟨BV,hBV⟩:∃B,B=wr.heap.size:=⟨_,rfl⟩
      rw[←hwV]at RV hbV R3V R12V HLV HEV ⊢
      rw[←hBV]at RV ⊢
      clear hwV hBV z0 z1 z2 z3 z4 z5 z6 z7 bk q1 hb
      have v0:=RV.cell (j:=0) rfl
      have v1:=RV.cell (j:=1) rfl
      have vq:=RV.cell HLK.out
      have lV:=RV.lt
      have q5:q<5:=by omega
      have qa:=idx_arr BV 3 q5
      have c0:=R3V.cell (j:=0) rfl
      have c6:=R3V.cell (j:=6) rfl
      have l3:=R3V.lt
      have r12:=R12V.cell (j:=0) rfl
      have l12:=R12V.lt
      have HbV:=Lib.hid hbV
      have HR12:=Lib.hid R12V
      clear RV R3V hbV R12V
      have hll:=HP.out.1
      rcases HLV.out with ⟨e,_⟩ | ⟨g,cap,sp,heq,hbg,hcap,hcm,RG⟩
      · rw[e]at hll;simp at hll;omega
      simp only[Value.slice.injEq]at heq
      obtain ⟨rfl,heq2,rfl⟩:=heq
      clear heq2
      obtain ⟨hgB,hgE⟩:=HNB.out g rfl (fun e=>by have:=HHL.out.2;rw[e]at this;simp at this;omega)
      have qk:=idx_own g s.tab.length vc hlt
      have HRG:=Lib.hid RG
      have HGI:=Lib.hid (And.intro hgB hgE)
      have HCAP:=Lib.hid (And.intro hbg (And.intro hcap hcm))
      have HLL:=Lib.hid hll
      clear hll hbg hcap hcm hgB hgE RG
      rcases HOW.out with e0 | ⟨e0,u,hu,hun⟩
      · have d1:decide (0<y1)=false:=decide_eq_false (by have:=HK0.out;omega)
        have d1x:¬0<y1:=by have:=HK0.out;omega
        have h8:=HRG.out.lt
        clear e0
        go_wp2
        by_cases hr:y1<(s.K:Int)
        case neg=>
          have d5:decide (y1<(s.K:Int))=false:=decide_eq_false hr
          go_quiet (fail)
          refine draw_then fun w4 hq4=>?_
          have hb4:=ext_trans HbV.out hq4.ext
          have R124:=HR12.out.ext hq4.ext
          have LV4:=Lib.hid (HLV.out.ext hq4.ext)
          clear hq4 v0 v1 vq lV qa c0 c6 l3 r12 l12 qk HRG
          go_wp2
          go_roundw
          case rel=>exact ⟨k+1,lt,hlt,by go_num,hb4,R124,LV4,HP⟩
          case measure=>simp[intOf];omega
        have d5:decide (y1<(s.K:Int))=true:=decide_eq_true hr
        by_cases hle:le.length=0
        case pos=>
          have e1:decide ((0:Int)<(le.length:Int))=false:=by simp[hle]
          have e1x:¬0<le.length:=by omega
          clear hle
          go_quiet (fail)
          refine draw_then fun w4 hq4=>?_
          have hb4:=ext_trans HbV.out hq4.ext
          have R124:=HR12.out.ext hq4.ext
          have LV4:=Lib.hid (HLV.out.ext hq4.ext)
          clear hq4 v0 v1 vq lV qa c0 c6 l3 r12 l12 qk HRG
          go_wp2
          go_roundw
          case rel=>exact ⟨k+1,lt,hlt,by go_num,hb4,R124,LV4,HP⟩
          case measure=>simp[intOf];omega
        have hkm:k % le.length<le.length:=Nat.mod_lt _ (by omega)
        have qe:=HQE.out (k % le.length) hkm
        have em:((k % le.length:Nat):Int)=(k:Int) % (le.length:Int):=rfl
        obtain ⟨cs,ccs,⟨hcs,b0,b1⟩,hcl9⟩:=(HE0.out.ext HEV.out).at hkm
        have ce:=ccs 0 (by decide)
        subst hcs
        obtain ⟨n0,hn0⟩:∃n0:Nat,(n0:Int)=le[k % le.length]:=⟨(le[k % le.length]).toNat,by omega⟩
        rw[←hn0]at ce b0 b1
        replace ce:wV.cell? (adr ea (k % le.length))=some (.int .u8 (n0:Int)):=by simpa[kU8] using ce
        have be:=World.block_lt_of_cell? _ _ ce
        simp only[em]at qe
        have e1:decide ((0:Int)<(le.length:Int))=true:=by simp;omega
        have e1x:0<le.length:=by omega
        have e1n:¬(le.length:Int)=0:=by omega
        clear em hn0 ccs hcl9
        by_cases hp:n0 % 2=1
        case neg=>
          have f1:((n0:Int) % 2==1)=false:=by rw[beq_eq_false_iff_ne];omega
          have f2:(n0 % 2==1)=false:=by rw[beq_eq_false_iff_ne];exact hp
          clear hp
          go_quiet (fail)
          refine draw_then fun w4 hq4=>?_
          have hb4:=ext_trans HbV.out hq4.ext
          have R124:=HR12.out.ext hq4.ext
          have LV4:=Lib.hid (HLV.out.ext hq4.ext)
          clear hq4 v0 v1 vq lV qa c0 c6 l3 r12 l12 qk HRG qe ce be
          go_wp2
          go_roundw
          case rel=>exact ⟨k+1,lt,hlt,by go_num,hb4,R124,LV4,HP⟩
          case measure=>simp[intOf];omega
        have f1:((n0:Int) % 2==1)=true:=by rw[beq_iff_eq];omega
        have f2:(n0 % 2==1)=true:=by rw[beq_iff_eq];exact hp
        clear hp
        go_quiet (fail)
        refine draw_then fun w4 hq4=>?_
        have R124:=HR12.out.ext hq4.ext
        have RG4:=HRG.out.ext hq4.ext
        have hb4:=ext_trans HbV.out hq4.ext
        have r124:=R124.cell (j:=0) rfl
        have l124:=R124.lt
        have hltl:k<lt.length:=by rw[HLL.out];exact hlt
        have ck:=RG4.cell (j:=k) (u:=.int .i64 (nth lt k)) (by rw[List.getElem?_append_left (by rw[List.length_map];exact hltl),List.getElem?_map,get?_nth hltl];rfl)
        have fk:=RG4.free k
        have lg:=RG4.lt
        have hset:=grownBy_setCell w4 g k (.int .i64 (-1))
        have hgB:=HGI.out.1
        have hgE:=HGI.out.2
        have b5:=hb4.setCell (p:=⟨g,k,none⟩) hgE (.int .i64 (-1))
        have R125:=R124.grown hset (fun e=>by injection e with e;omega)
        have LV5:LateV wE.heap.size (w4.setCell ⟨g,k,none⟩ (.int .i64 (-1))) (.slice (some ⟨g,0,none⟩) s.tab.length vc) (lt.set k (-1)):=by
          refine .inr ⟨g,vc,sp,by rw[List.length_set,HLL.out],HCAP.out.1,by rw[List.length_set];exact HCAP.out.2.1,HCAP.out.2.2,?_⟩
          have:=RG4.set k (.int .i64 (-1))
          rw[List.set_append_left _ _ (by rw[List.length_map];exact hltl),←List.map_set]at this
          exact this
        have HP5:Hid ((lt.set k (-1)).length=s.tab.length∧(∀v,v<s.tab.length→nth (lt.set k (-1)) v=nth rl v∨nth (lt.set k (-1)) v= -1)∧(∀v,v<s.tab.length→nth (nthL s.tab v) 1=(s.K:Int)→nth (lt.set k (-1)) v=nth rl v)∧∀x∈lt.set k (-1),WF x):=Lib.hid (by
          obtain ⟨p1,p2,p3,p4⟩:=HP.out
          refine ⟨by rw[List.length_set];exact p1,fun v hv=>?_,fun v hv h1=>?_,fun x hx=>?_⟩
          · rw[nth_set hltl]
            by_cases e:v=k
            · rw[if_pos e];exact .inr rfl
            · rw[if_neg e];exact p2 v hv
          · rw[nth_set hltl]
            by_cases e:v=k
            · subst e
              have e1:=HXE.out
              have e2:=HY1.out
              rw[←e1,←e2]at h1
              omega
            · rw[if_neg e];exact p3 v hv h1
          · rcases List.mem_or_eq_of_mem_set hx with h | h
            · exact p4 x h
            · subst h;exact ⟨by decide,by decide⟩)
        have LV6:=Lib.hid LV5
        have H5:=Lib.hid b5
        have H6:=Lib.hid R125
        clear hq4 v0 v1 vq lV qa c0 c6 l3 r12 l12 HRG hset hgB hgE LV5 R124 RG4 hb4 hltl b5 R125 qe ce be
        go_wp2
        go_roundw
        case rel=>exact ⟨k+1,_,hlt,by go_num,H5.out,H6.out,LV6,HP5⟩
        case measure=>simp[intOf];omega
      · have d1:decide (0<y1)=true:=decide_eq_true (by have:=HK0.out;omega)
        have d1x:0<y1:=by have:=HK0.out;omega
        rw[hun]at vq
        have d2:decide ((u:Int)<0)=false:=decide_eq_false (by omega)
        have d3:decide ((k:Int)≤(u:Int))=false:=decide_eq_false (by omega)
        have d3x:¬k≤u:=by omega
        have hunl:u<s.tab.length:=by omega
        have hul:u<lt.length:=by rw[HLL.out];exact hunl
        have qu:=idx_own g s.tab.length vc hunl
        have cu:=HRG.out.cell (j:=u) (u:=.int .i64 (nth lt u)) (by rw[List.getElem?_append_left (by rw[List.length_map];exact hul),List.getElem?_map,get?_nth hul];rfl)
        obtain ⟨lu,hlu0⟩:∃lu,lu=nth lt u:=⟨_,rfl⟩
        rw[←hlu0]at cu
        have h8:=HRG.out.lt
        clear hun hlu0 hul hunl e0
        go_wp2
        by_cases hr:y1<(s.K:Int)
        case neg=>
          have d5:decide (y1<(s.K:Int))=false:=decide_eq_false hr
          go_quiet (fail)
          refine draw_then fun w4 hq4=>?_
          have hb4:=ext_trans HbV.out hq4.ext
          have R124:=HR12.out.ext hq4.ext
          have LV4:=Lib.hid (HLV.out.ext hq4.ext)
          clear hq4 v0 v1 vq lV qa c0 c6 l3 r12 l12 qk HRG
          go_wp2
          go_roundw
          case rel=>exact ⟨k+1,lt,hlt,by go_num,hb4,R124,LV4,HP⟩
          case measure=>simp[intOf];omega
        have d5:decide (y1<(s.K:Int))=true:=decide_eq_true hr
        by_cases hle:le.length=0
        case pos=>
          have e1:decide ((0:Int)<(le.length:Int))=false:=by simp[hle]
          have e1x:¬0<le.length:=by omega
          clear hle
          go_quiet (fail)
          refine draw_then fun w4 hq4=>?_
          have hb4:=ext_trans HbV.out hq4.ext
          have R124:=HR12.out.ext hq4.ext
          have LV4:=Lib.hid (HLV.out.ext hq4.ext)
          clear hq4 v0 v1 vq lV qa c0 c6 l3 r12 l12 qk HRG
          go_wp2
          go_roundw
          case rel=>exact ⟨k+1,lt,hlt,by go_num,hb4,R124,LV4,HP⟩
          case measure=>simp[intOf];omega
        have hkm:k % le.length<le.length:=Nat.mod_lt _ (by omega)
        have qe:=HQE.out (k % le.length) hkm
        have em:((k % le.length:Nat):Int)=(k:Int) % (le.length:Int):=rfl
        obtain ⟨cs,ccs,⟨hcs,b0,b1⟩,hcl9⟩:=(HE0.out.ext HEV.out).at hkm
        have ce:=ccs 0 (by decide)
        subst hcs
        obtain ⟨n0,hn0⟩:∃n0:Nat,(n0:Int)=le[k % le.length]:=⟨(le[k % le.length]).toNat,by omega⟩
        rw[←hn0]at ce b0 b1
        replace ce:wV.cell? (adr ea (k % le.length))=some (.int .u8 (n0:Int)):=by simpa[kU8] using ce
        have be:=World.block_lt_of_cell? _ _ ce
        simp only[em]at qe
        have e1:decide ((0:Int)<(le.length:Int))=true:=by simp;omega
        have e1x:0<le.length:=by omega
        have e1n:¬(le.length:Int)=0:=by omega
        clear em hn0 ccs hcl9
        by_cases hp:n0 % 2=1
        case neg=>
          have f1:((n0:Int) % 2==1)=false:=by rw[beq_eq_false_iff_ne];omega
          have f2:(n0 % 2==1)=false:=by rw[beq_eq_false_iff_ne];exact hp
          clear hp
          go_quiet (fail)
          refine draw_then fun w4 hq4=>?_
          have hb4:=ext_trans HbV.out hq4.ext
          have R124:=HR12.out.ext hq4.ext
          have LV4:=Lib.hid (HLV.out.ext hq4.ext)
          clear hq4 v0 v1 vq lV qa c0 c6 l3 r12 l12 qk HRG qe ce be
          go_wp2
          go_roundw
          case rel=>exact ⟨k+1,lt,hlt,by go_num,hb4,R124,LV4,HP⟩
          case measure=>simp[intOf];omega
        have f1:((n0:Int) % 2==1)=true:=by rw[beq_iff_eq];omega
        have f2:(n0 % 2==1)=true:=by rw[beq_iff_eq];exact hp
        clear hp
        by_cases hlu:0≤lu
        case pos=>
          have g1:decide (0≤lu)=true:=decide_eq_true hlu
          go_quiet (fail)
          refine draw_then fun w4 hq4=>?_
          have hb4:=ext_trans HbV.out hq4.ext
          have R124:=HR12.out.ext hq4.ext
          have LV4:=Lib.hid (HLV.out.ext hq4.ext)
          clear hq4 v0 v1 vq lV qa c0 c6 l3 r12 l12 qk HRG qe ce be qu cu
          go_wp2
          go_roundw
          case rel=>exact ⟨k+1,lt,hlt,by go_num,hb4,R124,LV4,HP⟩
          case measure=>simp[intOf];omega
        have g1:decide (0≤lu)=false:=decide_eq_false hlu
        go_quiet (fail)
        refine draw_then fun w4 hq4=>?_
        have R124:=HR12.out.ext hq4.ext
        have RG4:=HRG.out.ext hq4.ext
        have hb4:=ext_trans HbV.out hq4.ext
        have r124:=R124.cell (j:=0) rfl
        have l124:=R124.lt
        have hltl:k<lt.length:=by rw[HLL.out];exact hlt
        have ck:=RG4.cell (j:=k) (u:=.int .i64 (nth lt k)) (by rw[List.getElem?_append_left (by rw[List.length_map];exact hltl),List.getElem?_map,get?_nth hltl];rfl)
        have fk:=RG4.free k
        have lg:=RG4.lt
        have hset:=grownBy_setCell w4 g k (.int .i64 (-1))
        have hgB:=HGI.out.1
        have hgE:=HGI.out.2
        have b5:=hb4.setCell (p:=⟨g,k,none⟩) hgE (.int .i64 (-1))
        have R125:=R124.grown hset (fun e=>by injection e with e;omega)
        have LV5:LateV wE.heap.size (w4.setCell ⟨g,k,none⟩ (.int .i64 (-1))) (.slice (some ⟨g,0,none⟩) s.tab.length vc) (lt.set k (-1)):=by
          refine .inr ⟨g,vc,sp,by rw[List.length_set,HLL.out],HCAP.out.1,by rw[List.length_set];exact HCAP.out.2.1,HCAP.out.2.2,?_⟩
          have:=RG4.set k (.int .i64 (-1))
          rw[List.set_append_left _ _ (by rw[List.length_map];exact hltl),←List.map_set]at this
          exact this
        have HP5:Hid ((lt.set k (-1)).length=s.tab.length∧(∀v,v<s.tab.length→nth (lt.set k (-1)) v=nth rl v∨nth (lt.set k (-1)) v= -1)∧(∀v,v<s.tab.length→nth (nthL s.tab v) 1=(s.K:Int)→nth (lt.set k (-1)) v=nth rl v)∧∀x∈lt.set k (-1),WF x):=Lib.hid (by
          obtain ⟨p1,p2,p3,p4⟩:=HP.out
          refine ⟨by rw[List.length_set];exact p1,fun v hv=>?_,fun v hv h1=>?_,fun x hx=>?_⟩
          · rw[nth_set hltl]
            by_cases e:v=k
            · rw[if_pos e];exact .inr rfl
            · rw[if_neg e];exact p2 v hv
          · rw[nth_set hltl]
            by_cases e:v=k
            · subst e
              have e1:=HXE.out
              have e2:=HY1.out
              rw[←e1,←e2]at h1
              omega
            · rw[if_neg e];exact p3 v hv h1
          · rcases List.mem_or_eq_of_mem_set hx with h | h
            · exact p4 x h
            · subst h;exact ⟨by decide,by decide⟩)
        have LV6:=Lib.hid LV5
        have H5:=Lib.hid b5
        have H6:=Lib.hid R125
        clear hq4 v0 v1 vq lV qa c0 c6 l3 r12 l12 HRG hset hgB hgE LV5 R124 RG4 hb4 hltl b5 R125 qe ce be qu cu
        go_wp2
        go_roundw
        case rel=>exact ⟨k+1,_,hlt,by go_num,H5.out,H6.out,LV6,HP5⟩
        case measure=>simp[intOf];omega
end Go.Proofs.YtcopehiceihdaaaGreat
