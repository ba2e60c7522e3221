/- Part of the proof that the laws of chapter 45 answer true for every input. -/
import Derived.Test.YtcopehiceihdaaaGreatPCg45
set_option linter.unusedSimpArgs false
set_option linter.unnecessarySimpa false
set_option linter.unusedVariables false
set_option maxRecDepth 100000
set_option maxHeartbeats 40000000
namespace Go.Proofs.YtcopehiceihdaaaGreat
open Go.RowKit
attribute [local go_sem ↓] Go.wp_at_zero Go.wp_at_succ
theorem without_all {N f:Nat} (hf:f<2 ^ N):without (2 ^ N - 1) (without (2 ^ N - 1) f)=f:=by
  apply Nat.eq_of_testBit_eq
  intro i
  rw[testBit_without,testBit_without,Nat.testBit_two_pow_sub_one]
  by_cases h:i<N
  · simp[h]
  · have:f.testBit i=false:=Nat.testBit_lt_two_pow (Nat.lt_of_lt_of_le hf (Nat.pow_le_pow_right (by decide) (by omega)))
    simp[h,this]
theorem without_lo {N f:Nat}:without (2 ^ N - 1) f<2 ^ N:=by
  apply Nat.lt_pow_two_of_testBit
  intro i hi
  rw[testBit_without,Nat.testBit_two_pow_sub_one]
  simp;omega
def filTo (f:Nat→Int) (N j:Nat):List Int:=(List.range N).map fun q=>if q<j then f q else 0
theorem filTo_len (f:Nat→Int) (N j:Nat):(filTo f N j).length=N:=by simp[filTo]
theorem filTo_at (f:Nat→Int) {N j q:Nat} (h:q<N):(filTo f N j)[q]? =some (if q<j then f q else 0):=by simp[filTo,h]
theorem filTo_zero (f:Nat→Int) (N:Nat):(filTo f N 0).map (Value.int .i64)=List.replicate N (.int .i64 0):=by
  apply List.ext_getElem?
  intro i
  rw[List.getElem?_map]
  by_cases h:i<N
  · rw[filTo_at f h];simp[h]
  · rw[List.getElem?_eq_none (by rw[filTo_len];omega),List.getElem?_eq_none (by simp;omega)];rfl
theorem filTo_set (f:Nat→Int) {N j:Nat} (h:j<N):((filTo f N j).map (Value.int .i64)).set j (.int .i64 (f j))=(filTo f N (j+1)).map (Value.int .i64):=by
  apply List.ext_getElem?
  intro i
  rw[List.getElem?_set,List.getElem?_map,List.getElem?_map,List.length_map,filTo_len]
  by_cases hi:i<N
  · rw[filTo_at f hi,filTo_at f hi]
    by_cases e:j=i
    · subst e;simp[hi]
    · rw[if_neg e]
      have:(i<j)↔(i<j+1):=by omega
      by_cases h1:i<j
      · simp[h1,this.1 h1]
      · have h2:¬i<j+1:=fun h=>h1 (this.2 h)
        simp[h1,h2]
  · rw[if_neg (by omega),List.getElem?_eq_none (by rw[filTo_len];omega),List.getElem?_eq_none (by rw[filTo_len];omega)]
theorem filTo_all {f:Nat→Int} {N:Nat} {l:List Int} (hl:l.length=N) (h:∀q,q<N→nth l q=f q):filTo f N N=l:=by
  apply nth_ext (by rw[filTo_len,hl])
  intro i hi
  rw[filTo_len]at hi
  rw[h i hi]
  have:=filTo_at f (j:=N) hi
  rw[if_pos hi]at this
  simp[nth,this]
def solI (m:Int):Int:=if m<0 then 0 else m
theorem sol_step (f:Nat→Bool) (k:Nat):(minT f 0 k<0∧f k=true∧minT f 0 (k+1)=k)∨(minT f 0 k<0∧f k=false∧minT f 0 (k+1)= -1)∨(0≤minT f 0 k∧minT f 0 (k+1)=minT f 0 k):=by
  have h:=minT_snoc f k 0
  rw[Nat.zero_add]at h
  have hb:=minT_ge f k 0
  by_cases h0:0≤minT f 0 k
  · rw[if_pos h0]at h;exact .inr (.inr ⟨h0,h⟩)
  · rw[if_neg h0]at h
    cases hf:f k with
    | true=>rw[hf,if_pos rfl]at h;exact .inl ⟨by omega,rfl,h⟩
    | false=>rw[hf,if_neg (by simp)]at h;exact .inr (.inl ⟨by omega,rfl,h⟩)
theorem walkRuleEarly {S S2:Nat→Prop} {w:World} {vc vs:Value} {p:ProbD} {vb:Value} {l:List Int} (hc:Sl kCase S w vc p.cs) (hs:Sl (kSl (kFlat 8)) S w vs p.st) (h2:Sl kU8 S2 w vb l):
    Calls Tryz.prog 5 #[.agg #[.int .i64 p.n,.int .i64 p.ins,.int .i64 p.outs,vc,.int .i64 p.an,vs,.int .i64 p.rounds],vb] w (Post w fun _ r=>r=.bool true):=by
  obtain ⟨ca,cc,rfl,_⟩:=hc.form
  obtain ⟨sa,sc,rfl,_⟩:=hs.form
  have KB:Hid (∀W,Below w.heap.size w W→Calls Tryz.prog 23 #[.agg #[.int .i64 p.n,.int .i64 p.ins,.int .i64 p.outs,.slice ca p.cs.length cc,.int .i64 p.an,.slice sa p.st.length sc,.int .i64 p.rounds]] W (Post W (BuiltR p))):=Lib.hid fun W hW=>built_calls (hc.ext hW) (hs.ext hW)
  have HB:=Lib.hid h2
  have hbl0:=h2.few
  obtain ⟨ba,bc,rfl,_⟩:=h2.form
  have HPC0:=Lib.hid hc
  have ex:=ext_alloc w (.cells #[.int .i64 p.n,.int .i64 p.ins,.int .i64 p.outs,.slice ca p.cs.length cc,.int .i64 p.an,.slice sa p.st.length sc,.int .i64 p.rounds] 29)
  have R3:=row_new w [.int .i64 p.n,.int .i64 p.ins,.int .i64 p.outs,.slice ca p.cs.length cc,.int .i64 p.an,.slice sa p.st.length sc,.int .i64 p.rounds] 29
  clear hc hs
  have c0:=R3.cell (j:=0) rfl
  have c1:=R3.cell (j:=1) rfl
  have c2:=R3.cell (j:=2) rfl
  have c3:=R3.cell (j:=3) rfl
  have c4:=R3.cell (j:=4) rfl
  have c5:=R3.cell (j:=5) rfl
  have c6:=R3.cell (j:=6) rfl
  have l3:=R3.lt
  go_enter Tryz.func5,Tryz.ntmps5
  go_wp2_with fail
  refine (KB.out _ ex).mono ?_
  rintro _ w1 ⟨_,rfl,hb1,hB⟩
  replace R3:=R3.ext hb1
  replace ex:=ext_trans ex hb1
  clear hb1 KB c0 c1 c2 c3 c4 c5 c6 l3
  rcases hB with ⟨s,rfl,hv,hf,v,rfl,hsy⟩ | rfl
  case inr=>
    replace ex:=ext_alloc' ex (.cells #[.int .i64 0,.int .i64 0,.int .i64 0,.slice none 0 0,.int .i64 0,.slice none 0 0,.int .i64 0,.int .i64 0,.slice none 0 0,.slice none 0 0] 35)
    clear R3
    go_wp2_with fail
    refine (awake_calls _).mono ?_
    rintro _ w99 ⟨_,rfl,hb,rfl⟩
    have HE:=Lib.hid (ext_trans ex hb)
    clear hb ex
    go_wp2
    go_ret
    exact .mk HE.out rfl
  have hg:=good_sys hv hsy.moves8
  have hN1:=hg.pok.n1
  have hK6:=hg.K6
  have HfN:Hid (s.p.n=(s.N:Int)):=Lib.hid hg.pok.n
  have HfK:Hid (s.p.rounds=(s.K:Int)):=Lib.hid hg.rnd
  have HV0:=Lib.hid hv
  have houts:1≤s.p.outs∧s.p.outs≤8:=by have:=checkT_zero hg.pok.t;omega
  have htl:s.tab.length≤100000:=tab_small hv hf.few hsy.moves8
  obtain ⟨vc2,vs2,vt2,vx2,rfl,hc2,hs2,ht2,hx2⟩:=hsy
  obtain ⟨ca2,cc2,rfl,_⟩:=hc2.form
  obtain ⟨sa2,sc2,rfl,_⟩:=hs2.form
  obtain ⟨ta2,tc2,rfl,_⟩:=ht2.form
  obtain ⟨xa2,xc2,rfl,xad,_⟩:=hx2.form2
  have hxl:=hx2.few
  have e7:=ext_alloc w1 (.cells #[.int .i64 s.p.n,.int .i64 s.p.ins,.int .i64 s.p.outs,.slice ca2 s.p.cs.length cc2,.int .i64 s.p.an,.slice sa2 s.p.st.length sc2,.int .i64 s.p.rounds,.int .i64 s.tn,.slice ta2 s.tab.length tc2,.slice xa2 s.ex.length xc2] 35)
  have HSY:Hid (SysV TT (w1.alloc (.cells #[.int .i64 s.p.n,.int .i64 s.p.ins,.int .i64 s.p.outs,.slice ca2 s.p.cs.length cc2,.int .i64 s.p.an,.slice sa2 s.p.st.length sc2,.int .i64 s.p.rounds,.int .i64 s.tn,.slice ta2 s.tab.length tc2,.slice xa2 s.ex.length xc2] 35)) (.agg #[.int .i64 s.p.n,.int .i64 s.p.ins,.int .i64 s.p.outs,.slice ca2 s.p.cs.length cc2,.int .i64 s.p.an,.slice sa2 s.p.st.length sc2,.int .i64 s.p.rounds,.int .i64 s.tn,.slice ta2 s.tab.length tc2,.slice xa2 s.ex.length xc2]) s):=Lib.hid ⟨_,_,_,_,rfl,hc2.ext e7,hs2.ext e7,ht2.ext e7,hx2.ext e7⟩
  have HX:=Lib.hid (hx2.ext e7)
  have R5:=row_new w1 [.int .i64 s.p.n,.int .i64 s.p.ins,.int .i64 s.p.outs,.slice ca2 s.p.cs.length cc2,.int .i64 s.p.an,.slice sa2 s.p.st.length sc2,.int .i64 s.p.rounds,.int .i64 s.tn,.slice ta2 s.tab.length tc2,.slice xa2 s.ex.length xc2] 35
  replace R3:=R3.alloc (.cells #[.int .i64 s.p.n,.int .i64 s.p.ins,.int .i64 s.p.outs,.slice ca2 s.p.cs.length cc2,.int .i64 s.p.an,.slice sa2 s.p.st.length sc2,.int .i64 s.p.rounds,.int .i64 s.tn,.slice ta2 s.tab.length tc2,.slice xa2 s.ex.length xc2] 35)
  replace ex:=ext_alloc' ex (.cells #[.int .i64 s.p.n,.int .i64 s.p.ins,.int .i64 s.p.outs,.slice ca2 s.p.cs.length cc2,.int .i64 s.p.an,.slice sa2 s.p.st.length sc2,.int .i64 s.p.rounds,.int .i64 s.tn,.slice ta2 s.tab.length tc2,.slice xa2 s.ex.length xc2] 35)
  clear hc2 hs2 ht2 hx2 e7 hv
  go_upto_region 2 with fail
  obtain ⟨wA,hwA⟩:∃wA,wA=w1.alloc (.cells #[.int .i64 s.p.n,.int .i64 s.p.ins,.int .i64 s.p.outs,.slice ca2 s.p.cs.length cc2,.int .i64 s.p.an,.slice sa2 s.p.st.length sc2,.int .i64 s.p.rounds,.int .i64 s.tn,.slice ta2 s.tab.length tc2,.slice xa2 s.ex.length xc2] 35):=⟨_,rfl⟩
  obtain ⟨B5,hB5⟩:∃B5,B5=w1.heap.size:=⟨_,rfl⟩
  rw[←hwA]at R3 R5 ex HSY HX
  rw[←hB5]at R5
  rw[←hwA,←hB5]
  clear hwA hB5
  have HPC:=Lib.hid (HPC0.out.ext ex)
  clear HPC0
  by_cases hl1:100<l.length
  case pos=>
    have d1:decide ((100:Int)<(l.length:Int))=true:=by simp;omega
    have d2:(100:Int)<(l.length:Int):=by omega
    clear hl1 R3 R5 HSY HX
    go_wp2_with fail
    refine (awake_calls _).mono ?_
    rintro _ w99 ⟨_,rfl,hb,rfl⟩
    have HE:=Lib.hid (ext_trans ex hb)
    clear hb ex
    go_wp2
    go_ret
    exact .mk HE.out rfl
  have d1:decide ((100:Int)<(l.length:Int))=false:=by simp;omega
  have d2:¬(100:Int)<(l.length:Int):=by omega
  obtain ⟨cl,hcl⟩:∃cl,cl=choTo s.p.outs l s.tab.length:=⟨_,rfl⟩
  obtain ⟨rl,hrl⟩:∃rl,rl=earlyL s cl:=⟨_,rfl⟩
  have hcll:cl.length=s.tab.length:=by rw[hcl];exact choTo_len _ _ _
  have hcb:∀z,z<s.tab.length→0≤nth cl z∧nth cl z<s.p.outs:=fun z hz=>by
    rw[hcl,choTo_at _ _ hz]
    exact choN_bound houts.1 _ _
  have hch:Chosen s cl:=fun x hx=>by
    obtain ⟨z,rfl,hz⟩:=decL_nat hx
    rw[Int.toNat_natCast];exact hcb z hz
  have HRE:Hid (ruleE s rl=0):=Lib.hid (by rw[hrl];exact early_form HV0.out hg hch)
  have hrll:rl.length=s.tab.length:=by rw[hrl];exact earlyL_len _ _
  have HREL:Hid (∀x∈decL s s.N s.K,∃z:Nat,x=z∧z<s.tab.length∧nth rl z=nth cl z):=Lib.hid fun x hx=>by
    obtain ⟨z,rfl,hz⟩:=decL_nat hx
    refine ⟨z,rfl,hz,?_⟩
    have:=early_rel (ch:=cl) hg hx
    rw[Int.toNat_natCast]at this
    rw[hrl];exact this
  have KCH:Hid (∀W,Below wA.heap.size wA W→Calls Tryz.prog 24 #[.agg #[.int .i64 s.p.n,.int .i64 s.p.ins,.int .i64 s.p.outs,.slice ca2 s.p.cs.length cc2,.int .i64 s.p.an,.slice sa2 s.p.st.length sc2,.int .i64 s.p.rounds,.int .i64 s.tn,.slice ta2 s.tab.length tc2,.slice xa2 s.ex.length xc2],.slice ba l.length bc] W (Post W fun w' r=>RuleV (fun b=>W.heap.size≤b) w' r cl)):=Lib.hid fun W hW=>by
    have:=choice_calls (HSY.out.ext hW) (HB.out.ext (ext_trans ex hW)) houts htl (by omega)
    rw[←hcl]at this;exact this
  have KEA:Hid (∀W vch S,Below wA.heap.size wA W→Ints S W vch cl→Calls Tryz.prog 14 #[.agg #[.int .i64 s.p.n,.int .i64 s.p.ins,.int .i64 s.p.outs,.slice ca2 s.p.cs.length cc2,.int .i64 s.p.an,.slice sa2 s.p.st.length sc2,.int .i64 s.p.rounds,.int .i64 s.tn,.slice ta2 s.tab.length tc2,.slice xa2 s.ex.length xc2],.agg #[vch]] W (Post W fun w' r=>∃u,r=.tuple #[.agg #[u],.int .i64 0]∧Ints (fun b=>W.heap.size≤b) w' u rl)):=Lib.hid fun W vch S hW hi=>by
    refine (pearly_calls (HSY.out.ext hW) hf.few hi htl).mono ?_
    rintro e w' ⟨r,h1,h2,h3⟩
    refine ⟨r,h1,h2,?_⟩
    rcases h3 with ⟨_,v,h4,u,rfl,h5⟩ | ⟨h4,_⟩
    · rw[hrl];exact ⟨u,h4,h5⟩
    · exact absurd (early_earE HV0.out hcll hch) h4
  have KRE:Hid (∀W,Below wA.heap.size wA W→Calls Tryz.prog 25 #[.agg #[.int .i64 s.p.n,.int .i64 s.p.ins,.int .i64 s.p.outs,.slice ca2 s.p.cs.length cc2,.int .i64 s.p.an,.slice sa2 s.p.st.length sc2,.int .i64 s.p.rounds,.int .i64 s.tn,.slice ta2 s.tab.length tc2,.slice xa2 s.ex.length xc2]] W (Post W fun w' r=>∃u,r=.tuple #[u,.int .i64 0]∧Ints TT w' u (decL s s.N s.K))):=Lib.hid fun W hW=>by
    refine (pRelevant_calls (HSY.out.ext hW) hf.few htl).mono ?_
    rintro e w' ⟨r,h1,h2,h3⟩
    refine ⟨r,h1,h2,?_⟩
    rcases h3 with ⟨_,u,h4,h5⟩ | ⟨h4,_⟩
    · exact ⟨u,h4,h5.mono fun _ _=>trivial⟩
    · exact absurd HV0.out h4
  obtain ⟨so,hso⟩:∃so:Nat→Int,so=fun k=>minT (fun e=> !okE s cl e) 0 k:=⟨_,rfl⟩
  have KSO:Hid (∀W vch S,Below wA.heap.size wA W→Ints S W vch rl→Calls Tryz.prog 19 #[.agg #[.int .i64 s.p.n,.int .i64 s.p.ins,.int .i64 s.p.outs,.slice ca2 s.p.cs.length cc2,.int .i64 s.p.an,.slice sa2 s.p.st.length sc2,.int .i64 s.p.rounds,.int .i64 s.tn,.slice ta2 s.tab.length tc2,.slice xa2 s.ex.length xc2],.agg #[vch]] W (Post W fun w' r=>r=.tuple #[.bool (decide (so s.ex.length<0)),.int .i64 (solI (so s.ex.length)),.int .i64 0])):=Lib.hid fun W vch S hW hi=>by
    have:=psol_calls (HSY.out.ext hW) hf.few hi
    rw[hrl,early_sol HV0.out hg hch]at this
    refine this.mono ?_
    rintro e w' ⟨r,h1,h2,h3⟩
    refine ⟨r,h1,h2,?_⟩
    rw[h3,hso]
    have e1:failE s cl=minT (fun e=> !okE s cl e) 0 s.ex.length:=rfl
    unfold solV solI
    rw[e1]
    by_cases h0:minT (fun e=> !okE s cl e) 0 s.ex.length<0
    · rw[if_pos h0,decide_eq_true h0,if_pos h0]
    · rw[if_neg h0,decide_eq_false h0,if_neg h0]
  have KCK:Hid (∀W vch S,Below wA.heap.size wA W→Ints S W vch rl→Calls Tryz.prog 16 #[.agg #[.int .i64 s.p.n,.int .i64 s.p.ins,.int .i64 s.p.outs,.slice ca2 s.p.cs.length cc2,.int .i64 s.p.an,.slice sa2 s.p.st.length sc2,.int .i64 s.p.rounds,.int .i64 s.tn,.slice ta2 s.tab.length tc2,.slice xa2 s.ex.length xc2],.agg #[vch]] W (Post W fun w' r=>r=.int .i64 0)):=Lib.hid fun W vch S hW hi=>by
    have:=pcheck_calls (HSY.out.ext hW) hf.few hi
    rw[HRE.out]at this;exact this
  have HSO:Hid (so 0= -1∧∀k,(so k<0∧okE s cl k=false∧so (k+1)=k)∨(so k<0∧okE s cl k=true∧so (k+1)= -1)∨(0≤so k∧so (k+1)=so k)):=Lib.hid ⟨by rw[hso];rfl,fun k=>by
    rw[hso]
    have:=sol_step (fun e=> !okE s cl e) k
    simpa using this⟩
  have KOB:Hid (∀e,e<s.ex.length→∀W,Below wA.heap.size wA W→Calls Tryz.prog 26 #[.agg #[.int .i64 s.p.n,.int .i64 s.p.ins,.int .i64 s.p.outs,.slice ca2 s.p.cs.length cc2,.int .i64 s.p.an,.slice sa2 s.p.st.length sc2,.int .i64 s.p.rounds,.int .i64 s.tn,.slice ta2 s.tab.length tc2,.slice xa2 s.ex.length xc2],.int .i64 e] W (Post W fun w' r=>r=.tuple #[.int .i64 (maskW s.N (nthX s.ex e).word),.int .i64 0])):=Lib.hid fun e he W hW=>pobl_calls (HSY.out.ext hW) hf.few HV0.out hg he
  have HFL:Hid (∀e,e<s.ex.length→∃f:Nat,f<2 ^ s.N∧maskW s.N (nthX s.ex e).word=without (2 ^ s.N - 1) f∧∃c:Nat,(nthX s.ex e).case=c∧∀W vo S,Below wA.heap.size wA W→Ints S W vo (valsL cl (finL s e))→
      Calls Tryz.prog 27 #[.agg #[.int .i64 s.N,.int .i64 s.p.ins,.int .i64 s.p.outs,.slice ca s.p.cs.length cc],.int .i64 c,.int .i64 f,vo] W (Post W fun w' r=>r=.tuple #[.bool (okE s cl e),.int .i64 0])):=Lib.hid fun e he=>by
    obtain ⟨f,hf1,hf2⟩:=hg.flty he
    obtain ⟨c,hx⟩:=hg.ex e he
    have hfin:=hg.fin he
    refine ⟨f,hf2,by unfold maskW;rw[hf1,Int.toNat_natCast],c,hx.case,fun W vo S hW hi=>?_⟩
    have hT:=hg.pok.t
    rw[hg.pok.n]at hT
    have:=perm_ok (ins:=s.p.ins) (most:=s.p.outs) (HPC.out.ext hW) hi hT hx.clt hN1.2 hf2 (by rw[valsL_len];exact hfin.1) (fun x hx=>by
      obtain ⟨y,hy,rfl⟩:=List.mem_map.1 hx
      obtain ⟨q,hq,hqe⟩:=List.getElem_of_mem hy
      obtain ⟨z,hz,hzl⟩:=hfin.2 q (by rw[←hfin.1];exact hq)
      rw[nth_eq hq,hqe]at hz
      rw[hz,Int.toNat_natCast]
      have:=hcb z hzl
      unfold badP
      rw[decide_eq_false (by omega),decide_eq_false (by omega)];rfl) (fun v hv=>(hg.pok.vecs hx.clt v hv).1)
    have e1:okE s cl e=mayB (nthC s.p.cs c) f (valsL cl (finL s e)):=by unfold okE;rw[hx.case,hf1,Int.toNat_natCast,Int.toNat_natCast]
    rw[e1];exact this
  have HV:=Lib.hid fun e (he:e<s.ex.length) q (hq:q<s.N)=>vAt_lt hg he (Nat.le_refl s.K) hq
  have HLN:Hid (∀e,e<s.ex.length→(nthX s.ex e).vs.length=s.K+1∧(nthL (nthX s.ex e).vs s.K).length=s.N):=Lib.hid fun e he=>by obtain ⟨c,hc⟩:=hg.ex e he;exact ⟨hc.len,hc.rows s.K (Nat.le_refl _)⟩
  have HFI:Hid (∀e,e<s.ex.length→filTo (fun q=>nth cl (vAt s e s.K q)) s.N s.N=valsL cl (finL s e)):=Lib.hid fun e he=>filTo_all (by rw[valsL_len];exact (hg.fin he).1) fun q hq=>by rw[valsL_at (by rw[(hg.fin he).1];exact hq)];rfl
  have HCB:=Lib.hid hcb
  have HQ:=Lib.hid (idx_exec xad)
  have HHL:=Lib.hid (And.intro hcll hrll)
  have HDL:Hid ((decL s s.N s.K).length≤100000):=Lib.hid (Nat.le_trans (passL_len _ _) htl)
  have hmk:∀W:World,(Instr.makeSlice 36 (.int .i64 s.N) (.int .i64 s.N)).run Tryz.prog W=.ok (.slice (some ⟨W.heap.size,0,none⟩) s.N s.N) (W.alloc (.cells (madeCells #[.int .i64 0] s.N) 3)):=run_make_row' 36 3 (.int .i64 0) 8 Tryz.underlying36 info_int rfl .i64 .i64 s.N (by omega) (by omega)
  have HMK:=Lib.hid hmk
  rw[HfN.out,HfK.out]at R3
  have hNK:=hN1.2
  clear hcl hrl hcll hcb hch hrll hso hf hg xad hmk HPC
  go_upto_region 4 with fail
  clear d1 d2
  have t0:=R5.cell (j:=0) rfl
  have t1:=R5.cell (j:=1) rfl
  have t2:=R5.cell (j:=2) rfl
  have t3:=R5.cell (j:=3) rfl
  have t4:=R5.cell (j:=4) rfl
  have t5:=R5.cell (j:=5) rfl
  have t6:=R5.cell (j:=6) rfl
  have t7:=R5.cell (j:=7) rfl
  have t8:=R5.cell (j:=8) rfl
  have t9:=R5.cell (j:=9) rfl
  have l5:=R5.lt
  go_wp2_with fail
  refine (KCH.out _ (Below.refl _ wA)).mono ?_
  rintro _ w3 ⟨_,rfl,hb3,u3,rfl,hu3⟩
  obtain ⟨a3,c3,rfl,_⟩:=hu3.form
  have hcll:=HHL.out.1
  have hrll:=HHL.out.2
  rw[hcll]at hu3 ⊢
  have hbA:=ext_alloc' hb3 (.cells #[.slice a3 s.tab.length c3] 38)
  replace R5:=(R5.ext hb3).alloc (.cells #[.slice a3 s.tab.length c3] 38)
  replace R3:=(R3.ext hb3).alloc (.cells #[.slice a3 s.tab.length c3] 38)
  have R8:=row_new w3 [.slice a3 s.tab.length c3] 38
  have HCI:=Lib.hid (hu3.ext (ext_alloc w3 (.cells #[.slice a3 s.tab.length c3] 38)))
  clear hb3 hu3 t0 t1 t2 t3 t4 t5 t6 t7 t8 t9 l5 KCH hcll
  have t0:=R5.cell (j:=0) rfl
  have t1:=R5.cell (j:=1) rfl
  have t2:=R5.cell (j:=2) rfl
  have t3:=R5.cell (j:=3) rfl
  have t4:=R5.cell (j:=4) rfl
  have t5:=R5.cell (j:=5) rfl
  have t6:=R5.cell (j:=6) rfl
  have t7:=R5.cell (j:=7) rfl
  have t8:=R5.cell (j:=8) rfl
  have t9:=R5.cell (j:=9) rfl
  have l5:=R5.lt
  have q8:=R8.cell (j:=0) rfl
  have l8:=R8.lt
  go_wp2_with fail
  refine (KEA.out _ _ _ hbA HCI.out).mono ?_
  rintro _ w4 ⟨_,rfl,hb4,u4,rfl,hu4⟩
  obtain ⟨a4,c4,rfl,_⟩:=hu4.form
  rw[hrll]at hu4 ⊢
  replace hbA:=ext_alloc' (ext_trans hbA hb4) (.cells #[.slice a4 s.tab.length c4] 38)
  replace R5:=(R5.ext hb4).alloc (.cells #[.slice a4 s.tab.length c4] 38)
  replace R3:=(R3.ext hb4).alloc (.cells #[.slice a4 s.tab.length c4] 38)
  replace R8:=(R8.ext hb4).alloc (.cells #[.slice a4 s.tab.length c4] 38)
  have R9:=row_new w4 [.slice a4 s.tab.length c4] 38
  replace HCI:=Lib.hid ((HCI.out.ext hb4).ext (ext_alloc w4 (.cells #[.slice a4 s.tab.length c4] 38)))
  have HRI:=Lib.hid (hu4.ext (ext_alloc w4 (.cells #[.slice a4 s.tab.length c4] 38)))
  clear hb4 hu4 t0 t1 t2 t3 t4 t5 t6 t7 t8 t9 l5 q8 l8 KEA hrll
  have t0:=R5.cell (j:=0) rfl
  have t1:=R5.cell (j:=1) rfl
  have t2:=R5.cell (j:=2) rfl
  have t3:=R5.cell (j:=3) rfl
  have t4:=R5.cell (j:=4) rfl
  have t5:=R5.cell (j:=5) rfl
  have t6:=R5.cell (j:=6) rfl
  have t7:=R5.cell (j:=7) rfl
  have t8:=R5.cell (j:=8) rfl
  have t9:=R5.cell (j:=9) rfl
  have l5:=R5.lt
  go_wp2_with fail
  refine (KRE.out _ hbA).mono ?_
  rintro _ w6 ⟨_,rfl,hb6,u6,rfl,hu6⟩
  obtain ⟨a6,c6,rfl,_⟩:=hu6.form
  obtain ⟨B8,hB8⟩:∃B8,B8=w3.heap.size:=⟨_,rfl⟩
  obtain ⟨B9,hB9⟩:∃B9,B9=w4.heap.size:=⟨_,rfl⟩
  rw[←hB8]at R8 ⊢
  rw[←hB9]at R9 ⊢
  clear hB8 hB9
  have HDI:=Lib.hid hu6
  replace hbA:=ext_trans hbA hb6
  replace R5:=R5.ext hb6
  replace R3:=R3.ext hb6
  replace R8:=R8.ext hb6
  replace R9:=R9.ext hb6
  replace HCI:=Lib.hid (HCI.out.ext hb6)
  replace HRI:=Lib.hid (HRI.out.ext hb6)
  clear hb6 hu6 t0 t1 t2 t3 t4 t5 t6 t7 t8 t9 l5 KRE
  have t0:=R5.cell (j:=0) rfl
  have t1:=R5.cell (j:=1) rfl
  have t2:=R5.cell (j:=2) rfl
  have t3:=R5.cell (j:=3) rfl
  have t4:=R5.cell (j:=4) rfl
  have t5:=R5.cell (j:=5) rfl
  have t6:=R5.cell (j:=6) rfl
  have t7:=R5.cell (j:=7) rfl
  have t8:=R5.cell (j:=8) rfl
  have t9:=R5.cell (j:=9) rfl
  have l5:=R5.lt
  have q9:=R9.cell (j:=0) rfl
  have l9:=R9.lt
  go_wp2_with fail
  refine (KSO.out _ _ _ hbA HRI.out).mono ?_
  rintro _ w7 ⟨_,rfl,hb7,rfl⟩
  replace hbA:=ext_trans hbA hb7
  replace R5:=R5.ext hb7
  replace R3:=R3.ext hb7
  replace R8:=R8.ext hb7
  replace R9:=R9.ext hb7
  replace HCI:=Lib.hid (HCI.out.ext hb7)
  replace HRI:=Lib.hid (HRI.out.ext hb7)
  replace HDI:=Lib.hid (HDI.out.ext hb7)
  clear hb7 t0 t1 t2 t3 t4 t5 t6 t7 t8 t9 l5 q9 l9 KSO
  have t0:=R5.cell (j:=0) rfl
  have t1:=R5.cell (j:=1) rfl
  have t2:=R5.cell (j:=2) rfl
  have t3:=R5.cell (j:=3) rfl
  have t4:=R5.cell (j:=4) rfl
  have t5:=R5.cell (j:=5) rfl
  have t6:=R5.cell (j:=6) rfl
  have t7:=R5.cell (j:=7) rfl
  have t8:=R5.cell (j:=8) rfl
  have t9:=R5.cell (j:=9) rfl
  have l5:=R5.lt
  have q9:=R9.cell (j:=0) rfl
  have l9:=R9.lt
  go_wp2_with fail
  refine (KCK.out _ _ _ hbA HRI.out).mono ?_
  rintro _ w8 ⟨_,rfl,hb8,rfl⟩
  replace hbA:=ext_trans hbA hb8
  replace R5:=R5.ext hb8
  replace R3:=R3.ext hb8
  replace R8:=R8.ext hb8
  replace R9:=R9.ext hb8
  replace HCI:=Lib.hid (HCI.out.ext hb8)
  replace HRI:=Lib.hid (HRI.out.ext hb8)
  replace HDI:=Lib.hid (HDI.out.ext hb8)
  clear hb8 t0 t1 t2 t3 t4 t5 t6 t7 t8 t9 l5 q9 l9 KCK
  have q9:=R9.cell (j:=0) rfl
  have l9:=R9.lt
  have q8:=R8.cell (j:=0) rfl
  have l8:=R8.lt
  obtain ⟨so9,hso9⟩:∃x,x=so s.ex.length:=⟨_,rfl⟩
  have HS9:=Lib.hid hso9
  rw[←hso9]
  clear hso9
  have HBA:=Lib.hid hbA
  have HEX:=Lib.hid ex
  have HR5:=Lib.hid R5
  have HR3:=Lib.hid R3
  have HR8:=Lib.hid R8
  have HR9:=Lib.hid R9
  clear R5 R3 hbA ex R8 R9
  obtain ⟨D,hD⟩:∃D,D=decL s s.N s.K:=⟨_,rfl⟩
  rw[←hD]at HREL HDI HDL ⊢
  clear hD
  go_wp2
  clear q8 q9 l8 l9
  go_loopw [17,97] (fun _ i wr=>∃k:Nat,k≤D.length∧i=.int .i64 k∧QW w8 wr) (fun _ i _=>D.length - (intOf i).toNat)
  case atStart=>exact ⟨0,Nat.zero_le _,rfl,.refl _⟩
  case round=>
    obtain ⟨k,hk,rfl,hQ⟩:=hrel
    have hDL:=HDL.out
    by_cases hlt:k<D.length
    case pos=>
      obtain ⟨z,hz,hzl,hze⟩:=HREL.out _ (nth_mem hlt)
      have q1:=HDI.out.idx hlt
      have cd:=cell_ext (HDI.out.cellN hlt) hQ.ext
      rw[hz]at cd
      have bd:=World.block_lt_of_cell? _ _ cd
      have hzr:z<rl.length:=by have:=HHL.out.2;omega
      have hzc:z<cl.length:=by have:=HHL.out.1;omega
      have q2:=HRI.out.idx' (n:=s.tab.length) hzr
      have q3:=HCI.out.idx' (n:=s.tab.length) hzc
      have cr:=cell_ext (HRI.out.cellN hzr) hQ.ext
      have cc0:=cell_ext (HCI.out.cellN hzc) hQ.ext
      rw[hze]at cr
      obtain ⟨y,hy⟩:∃y,y=nth cl z:=⟨_,rfl⟩
      rw[←hy]at cr cc0
      have br:=World.block_lt_of_cell? _ _ cr
      have bc0:=World.block_lt_of_cell? _ _ cc0
      have q9:=(HR9.out.ext hQ.ext).cell (j:=0) rfl
      have l9:=(HR9.out.ext hQ.ext).lt
      have q8:=(HR8.out.ext hQ.ext).cell (j:=0) rfl
      have l8:=(HR8.out.ext hQ.ext).lt
      have d1:decide ((z:Int)<0)=false:=decide_eq_false (by omega)
      have d2:decide ((s.tab.length:Int)≤(z:Int))=false:=decide_eq_false (by omega)
      have d3:¬s.tab.length≤z:=by omega
      clear hz hy hze
      go_wp2
      go_quiet (fail)
      refine draw_then fun wq hq4=>?_
      have hQ4:=hQ.trans hq4
      clear q1 cd bd q2 q3 cr cc0 br bc0 q9 l9 q8 l8 d1 d2 d3 hQ hq4
      go_wp2
      go_roundw
      case rel=>exact ⟨k+1,hlt,by go_num,hQ4⟩
      case measure=>simp[intOf];omega
    obtain rfl:k=D.length:=by omega
    obtain ⟨w10,rfl⟩:∃w10:World,w10=wr:=⟨_,rfl⟩
    have HQ8:=Lib.hid hQ
    have t9:=(HR5.out.ext hQ.ext).cell (j:=9) rfl
    have l5:=(HR5.out.ext hQ.ext).lt
    clear hQ
    go_wp2
    clear t9 l5
    go_loopw [18,19,20,21,22,23,24,25,26,27,127] (fun wt fi _ _ _ _ _ _ _ _ i wv=>∃k:Nat,k≤s.ex.length∧i=.int .i64 k∧wt=.bool (decide (so k<0))∧fi=.int .i64 (solI (so k))∧Below w10.heap.size w10 wv) (fun _ _ _ _ _ _ _ _ _ _ i _=>s.ex.length - (intOf i).toNat)
    case atStart=>exact ⟨0,Nat.zero_le _,rfl,by rw[HSO.out.1];rfl,by rw[HSO.out.1];rfl,Below.refl _ w10⟩
    case round=>
      obtain ⟨k,hk,rfl,rfl,rfl,hb⟩:=hrel
      by_cases hlt:k<s.ex.length
      case neg=>
        obtain rfl:k=s.ex.length:=by omega
        rw[←HS9.out]
        obtain ⟨b9,hb9⟩:∃b,b=decide (so9<0):=⟨_,rfl⟩
        obtain ⟨i9,hi9⟩:∃b,b=solI so9:=⟨_,rfl⟩
        rw[←hb9,←hi9]
        clear hb9 hi9
        have g1:(b9==b9)=true:=by simp
        have g2:(i9==i9)=true:=by simp
        go_wp2_with fail
        refine (awake_calls _).mono ?_
        rintro _ w99 ⟨_,rfl,hbz,rfl⟩
        have HE:=Lib.hid (ext_trans (ext_trans HEX.out (ext_trans (ext_trans HBA.out HQ8.out.ext) hb)) hbz)
        clear hbz hb
        go_wp2
        go_ret
        exact .mk HE.out rfl
      have hA:=ext_trans (ext_trans HBA.out HQ8.out.ext) hb
      have q1:=HQ.out k hlt
      obtain ⟨a1,c1,a7,c7,z0,z1,z2,i1,i2⟩:=HX.out.exec hlt
      replace z0:=cell_ext z0 hA
      replace z1:=cell_ext z1 hA
      replace z2:=cell_ext z2 hA
      obtain ⟨f,hf2,hfm,c,hcase,KPE⟩:=HFL.out k hlt
      have KO:=Lib.hid (KOB.out k hlt)
      have HPE:=Lib.hid KPE
      obtain ⟨hvl,hln⟩:=HLN.out k hlt
      have HVK:=Lib.hid (HV.out k hlt)
      have HFK:=Lib.hid (HFI.out k hlt)
      have HSK:=Lib.hid (HSO.out.2 k)
      obtain ⟨ok,hok⟩:∃b,b=okE s cl k:=⟨_,rfl⟩
      rw[←hok]at HPE HSK
      obtain ⟨g,hg⟩:∃g:Nat→Int,g=fun q=>nth cl (vAt s k s.K q):=⟨_,rfl⟩
      have HGV:Hid (∀q,q<s.N→∃z:Nat,nth (nthL (nthX s.ex k).vs s.K) q=z∧z<s.tab.length∧nth cl z=g q):=Lib.hid fun q hq=>⟨_,(HVK.out q hq).1,(HVK.out q hq).2,by rw[hg]⟩
      rw[←hg]at HFK
      rw[hfm]at KO
      rw[hcase]at z0
      obtain ⟨x,hx⟩:∃x,x=nthX s.ex k:=⟨_,rfl⟩
      rw[←hx]at z1 z2 i2 hvl hln HGV
      have bk:=World.block_lt_of_cell? _ _ z0
      have HVL:=Lib.hid hvl
      have HLL:=Lib.hid hln
      have hvw:=i2.ext hA
      have RX:=row_new wr [.int .i64 c,.slice a1 x.word.length c1,.slice a7 x.vs.length c7] 68
      have R5:=((HR5.out.ext HQ8.out.ext).ext hb).alloc (.cells #[.int .i64 c,.slice a1 x.word.length c1,.slice a7 x.vs.length c7] 68)
      have R3:=((HR3.out.ext HQ8.out.ext).ext hb).alloc (.cells #[.int .i64 c,.slice a1 x.word.length c1,.slice a7 x.vs.length c7] 68)
      have R8:=((HR8.out.ext HQ8.out.ext).ext hb).alloc (.cells #[.int .i64 c,.slice a1 x.word.length c1,.slice a7 x.vs.length c7] 68)
      have hA2:=ext_alloc' hA (.cells #[.int .i64 c,.slice a1 x.word.length c1,.slice a7 x.vs.length c7] 68)
      have hb2:=ext_alloc' hb (.cells #[.int .i64 c,.slice a1 x.word.length c1,.slice a7 x.vs.length c7] 68)
      have HVW:=Lib.hid (hvw.ext (ext_alloc wr (.cells #[.int .i64 c,.slice a1 x.word.length c1,.slice a7 x.vs.length c7] 68)))
      obtain ⟨mk,hmk⟩:∃m:Nat,m=without (2 ^ s.N - 1) f:=⟨_,rfl⟩
      have HMKV:=Lib.hid hmk
      rw[←hmk]at KO
      clear hx hvl hln hok hg hfm hcase hvw i1 i2 hA hb HVK hmk KPE
      have t0:=R5.cell (j:=0) rfl
      have t1:=R5.cell (j:=1) rfl
      have t2:=R5.cell (j:=2) rfl
      have t3:=R5.cell (j:=3) rfl
      have t4:=R5.cell (j:=4) rfl
      have t5:=R5.cell (j:=5) rfl
      have t6:=R5.cell (j:=6) rfl
      have t7:=R5.cell (j:=7) rfl
      have t8:=R5.cell (j:=8) rfl
      have t9:=R5.cell (j:=9) rfl
      have l5:=R5.lt
      go_wp2_with fail
      refine (KO.out _ hA2).mono ?_
      rintro _ v1 ⟨_,rfl,hb1,rfl⟩
      replace RX:=RX.ext hb1
      replace R5:=R5.ext hb1
      replace R3:=R3.ext hb1
      replace R8:=R8.ext hb1
      replace hA2:=ext_trans hA2 hb1
      replace hb2:=ext_trans hb2 hb1
      replace HVW:=Lib.hid (HVW.out.ext hb1)
      obtain ⟨BX,hBX⟩:∃B,B=wr.heap.size:=⟨_,rfl⟩
      rw[←hBX]at RX ⊢
      clear hBX hb1 t0 t1 t2 t3 t4 t5 t6 t7 t8 t9 l5 KO z0 z1 z2 bk q1
      have RO:=Row.made v1 (.int .i64 0) s.N 3
      rw[←filTo_zero g s.N]at RO
      have c0:=R3.cell (j:=0) rfl
      have l3:=R3.lt
      have hmk:=HMK.out
      have hbM:=ext_alloc' hb2 (.cells (madeCells #[.int .i64 0] s.N) 3)
      have hAM:Agree (fun b=>b<v1.heap.size) v1 (v1.alloc (.cells (madeCells #[.int .i64 0] s.N) 3)):=(Agree.refl _ v1).alloc _
      have hXO:=RX.lt
      have NB:=hb2.size
      have NC:=R3.lt
      have ND:=R8.lt
      have HB2:=Lib.hid hb2
      have HRX:=Lib.hid RX
      have HR5b:=Lib.hid R5
      have HR3b:=Lib.hid R3
      have HR8b:=Lib.hid R8
      clear RX R5 R3 R8 hb2
      go_upto_region 22 with fail
      obtain ⟨vM,hvM⟩:∃vM,vM=v1.alloc (.cells (madeCells #[.int .i64 0] s.N) 3):=⟨_,rfl⟩
      obtain ⟨BO,hBO⟩:∃B,B=v1.heap.size:=⟨_,rfl⟩
      rw[←hvM]at RO hbM hAM
      rw[←hBO]at RO hXO NB NC ND hAM
      rw[←hvM,←hBO]
      have HBO:=Lib.hid hBO
      clear hvM hBO c0 l3 hmk
      have HA2:=Lib.hid hA2
      have HND:=Lib.hid (And.intro hXO (And.intro NB (And.intro NC ND)))
      clear hA2 hXO NB NC ND
      go_wp2
      go_loopw [25,144] (fun _ i wi=>∃j:Nat,j≤s.N∧i=.int .i64 j∧Below w10.heap.size w10 wi∧Agree (fun b=>b<BO) v1 wi∧Row wi BO 3 ((filTo g s.N j).map (Value.int .i64))) (fun _ i _=>s.N - (intOf i).toNat)
      case atStart=>exact ⟨0,Nat.zero_le _,rfl,hbM,hAM,RO⟩
      case round=>
        clear hbM hAM RO
        obtain ⟨j,hj,rfl,hb,hAg,RO⟩:=hrel
        obtain ⟨NX,NB,NC,ND⟩:=HND.out
        have hBO:=HBO.out
        have RX:=HRX.out.agree hAg NX
        have R3:=HR3b.out.agree hAg NC
        have R8:=HR8b.out.agree hAg ND
        clear hBO
        by_cases hjl:j<s.N
        case pos=>
          obtain ⟨z,hz,hzl,hzg⟩:=HGV.out j hjl
          have hKv:s.K<x.vs.length:=by have:=HVL.out;omega
          obtain ⟨_,_,hee,ad2,_⟩:=HVW.out.form
          cases hee
          obtain ⟨i0,hi,_,hz1,_⟩:=info_parts info_ints
          have q2:=idx_one Tryz.underlying66 hi hz1 ad2 s.K hKv
          obtain ⟨u,cu,iu⟩:=HVW.out.at (.refl _ _) hKv
          obtain ⟨fa,fc,rfl,_⟩:=iu.form
          have hjn:j<(nthL x.vs s.K).length:=by rw[HLL.out];exact hjl
          have q3:=iu.idx hjn
          have cv:=iu.cellN hjn
          rw[hz]at cv
          have hzc:z<cl.length:=by have:=HHL.out.1;omega
          have q4:=HCI.out.idx' (n:=s.tab.length) hzc
          have hb1v:=ext_trans HQ8.out.ext HB2.out
          have cr:=cell_ext (HCI.out.cellN hzc) hb1v
          rw[hzg]at cr
          have bu:=World.block_lt_of_cell? _ _ cu
          have bl:=World.block_lt_of_cell? _ _ cv
          have br:=World.block_lt_of_cell? _ _ cr
          rw[←HBO.out]at bu bl br
          replace cu:=cell_agree cu hAg bu
          replace cv:=cell_agree cv hAg bl
          replace cr:=cell_agree cr hAg br
          obtain ⟨y,hy⟩:∃y,y=g j:=⟨_,rfl⟩
          rw[←hy]at cr
          have HY:=Lib.hid hy
          obtain ⟨fl,hfl⟩:∃l:List Int,l=nthL x.vs s.K:=⟨_,rfl⟩
          rw[←hfl]at cu q3
          obtain ⟨XL,hXL⟩:∃n:Nat,n=x.vs.length:=⟨_,rfl⟩
          have x2:=RX.cell (j:=2) rfl
          have c6:=R3.cell (j:=6) rfl
          have r8:=R8.cell (j:=0) rfl
          rw[←hXL]at x2 q2
          have qo:=idx_own BO s.N s.N hjl
          have cy:=RO.cell (j:=j) (by rw[List.getElem?_map,filTo_at g hjl];rfl)
          have fy:=RO.free j
          have ly:=RO.lt
          have HRO:=Lib.hid RO
          have HAG:=Lib.hid hAg
          have HBB:=Lib.hid hb
          have KEEP:Hid ((fun w':World=>w'.cell? ⟨B8,0,none⟩=some (.slice a3 s.tab.length c3)∧w'.cell? ⟨BX,2,none⟩=some (.slice a7 XL c7)∧w'.cell? ⟨w.heap.size,6,none⟩=some (.int .i64 s.K)∧w'.cell? (adr a7 s.K)=some (.slice fa fl.length fc)∧w'.cell? (adr fa j)=some (.int .i64 z)∧w'.cell? (adr a3 z)=some (.int .i64 y)) (wr.drewN 1)):=Lib.hid ⟨cell_ext r8 (drewN_below _ _ 1),cell_ext x2 (drewN_below _ _ 1),cell_ext c6 (drewN_below _ _ 1),cell_ext cu (drewN_below _ _ 1),cell_ext cv (drewN_below _ _ 1),cell_ext cr (drewN_below _ _ 1)⟩
          clear hy hfl hXL hz hzg hKv ad2 hi hz1 iu hjn hzc hb1v bu bl br RX R3 R8 RO hAg hb NX NB NC ND
          go_wp2
          refine region_E (fun w':World=>w'.cell? ⟨B8,0,none⟩=some (.slice a3 s.tab.length c3)∧w'.cell? ⟨BX,2,none⟩=some (.slice a7 XL c7)∧w'.cell? ⟨w.heap.size,6,none⟩=some (.int .i64 s.K)∧w'.cell? (adr a7 s.K)=some (.slice fa fl.length fc)∧w'.cell? (adr fa j)=some (.int .i64 z)∧w'.cell? (adr a3 z)=some (.int .i64 y)) (fun i=>i==16) (by kernel_rfl) ?_ (fun hHeld=>?_)
          · exact KEEP.out
          refine anyE_take 0 (v:=?_) rfl (by kernel_rfl) (fun _ _ _ h=>h) (by rfl) ?hy0 hHeld ?rest0
          case hy0=>(intro w hSw;(try dsimp only at hSw);go_simp;try with_reducible rfl)
          try simp only[Act.put,zsa,zsz,zss]
          refine anyE_take 1 (v:=?_) rfl (by kernel_rfl) (fun _ _ _ h=>h) (by rfl) ?hy1 hHeld ?rest1
          case hy1=>(intro w hSw;(try dsimp only at hSw);go_simp;try with_reducible rfl)
          try simp only[Act.put,zsa,zsz,zss]
          refine anyE_take 2 (v:=?_) rfl (by kernel_rfl) (fun _ _ _ h=>h) (by rfl) ?hy2 hHeld ?rest2
          case hy2=>(intro w hSw;(try dsimp only at hSw);go_simp;try with_reducible rfl)
          try simp only[Act.put,zsa,zsz,zss]
          refine anyE_take 3 (v:=?_) rfl (by kernel_rfl) (fun _ _ _ h=>h) (by rfl) ?hy3 hHeld ?rest3
          case hy3=>(intro w hSw;(try dsimp only at hSw);go_simp;try with_reducible rfl)
          try simp only[Act.put,zsa,zsz,zss]
          refine anyE_take 4 (v:=?_) rfl (by kernel_rfl) (fun _ _ _ h=>h) (by rfl) ?hy4 hHeld ?rest4
          case hy4=>(intro w hSw;(try dsimp only at hSw);go_simp;try with_reducible rfl)
          try simp only[Act.put,zsa,zsz,zss]
          refine anyE_take 5 (v:=?_) rfl (by kernel_rfl) (fun _ _ _ h=>h) (by rfl) ?hy5 hHeld ?rest5
          case hy5=>(intro w hSw;(try dsimp only at hSw);go_simp;try with_reducible rfl)
          try simp only[Act.put,zsa,zsz,zss]
          refine anyE_take 6 (v:=?_) rfl (by kernel_rfl) (fun _ _ _ h=>h) (by rfl) ?hy6 hHeld ?rest6
          case hy6=>(intro w hSw;(try dsimp only at hSw);go_simp;try with_reducible rfl)
          try simp only[Act.put,zsa,zsz,zss]
          refine anyE_take 7 (v:=?_) rfl (by kernel_rfl) (fun _ _ _ h=>h) (by rfl) ?hy7 hHeld ?rest7
          case hy7=>(intro w hSw;(try dsimp only at hSw);go_simp;try with_reducible rfl)
          try simp only[Act.put,zsa,zsz,zss]
          refine anyE_take 8 (v:=?_) rfl (by kernel_rfl) (fun _ _ _ h=>h) (by rfl) ?hy8 hHeld ?rest8
          case hy8=>(intro w hSw;(try dsimp only at hSw);go_simp;try with_reducible rfl)
          try simp only[Act.put,zsa,zsz,zss]
          refine anyE_take 9 (v:=?_) rfl (by kernel_rfl) (fun _ _ _ h=>h) (by rfl) ?hy9 hHeld ?rest9
          case hy9=>(intro w hSw;(try dsimp only at hSw);go_simp;try with_reducible rfl)
          try simp only[Act.put,zsa,zsz,zss]
          refine anyE_take 10 (v:=?_) rfl (by kernel_rfl) (fun _ _ _ h=>h) (by rfl) ?hy10 hHeld ?rest10
          case hy10=>(intro w hSw;(try dsimp only at hSw);go_simp;try with_reducible rfl)
          try simp only[Act.put,zsa,zsz,zss]
          refine anyE_take 11 (v:=?_) rfl (by kernel_rfl) (fun _ _ _ h=>h) (by rfl) ?hy11 hHeld ?rest11
          case hy11=>(intro w hSw;(try dsimp only at hSw);go_simp;try with_reducible rfl)
          try simp only[Act.put,zsa,zsz,zss]
          refine anyE_take 12 (v:=?_) rfl (by kernel_rfl) (fun _ _ _ h=>h) (by rfl) ?hy12 hHeld ?rest12
          case hy12=>(intro w hSw;(try dsimp only at hSw);go_simp;try with_reducible rfl)
          try simp only[Act.put,zsa,zsz,zss]
          refine anyE_take 13 (v:=?_) rfl (by kernel_rfl) (fun _ _ _ h=>h) (by rfl) ?hy13 hHeld ?rest13
          case hy13=>(intro w hSw;(try dsimp only at hSw);go_simp;try with_reducible rfl)
          try simp only[Act.put,zsa,zsz,zss]
          refine anyE_take 14 (v:=?_) rfl (by kernel_rfl) (fun _ _ _ h=>h) (by rfl) ?hy14 hHeld ?rest14
          case hy14=>(intro w hSw;(try dsimp only at hSw);go_simp;try with_reducible rfl)
          try simp only[Act.put,zsa,zsz,zss]
          refine anyE_take 15 (v:=?_) rfl (by kernel_rfl) (fun _ _ _ h=>h) (by rfl) ?hy15 hHeld ?rest15
          case hy15=>(intro w hSw;(try dsimp only at hSw);go_simp;try with_reducible rfl)
          try simp only[Act.put,zsa,zsz,zss]
          refine anyE_one 16 rfl (by kernel_rfl) (fun K hK=>?_)
          go_simp
          refine hK.out _ _ (fun h=>by simp at h) (fun hHeld=>?_)
          clear hK K
          try simp only[Act.put,zsa,zsz,zss]
          refine anyE_done (by kernel_rfl) ?_ _
          have hset:=grownBy_setCell wr BO j (.int .i64 y)
          have hE:=drewN_below (wr.setCell ⟨BO,j,none⟩ (.int .i64 y)).heap.size (wr.setCell ⟨BO,j,none⟩ (.int .i64 y)) 1
          have hb4:=ext_trans (HBB.out.setCell (p:=⟨BO,j,none⟩) HND.out.2.1 (.int .i64 y)) hE
          have hAg4:=(HAG.out.trans (Agree.of_grown (S:=fun b=>b<BO) hset fun b hb e=>by injection e with e;omega)).trans (.of_ext hE)
          have RO4:=(HRO.out.set j (.int .i64 y)).ext hE
          rw[HY.out,filTo_set g hjl,←HY.out]at RO4
          clear hHeld hset hE KEEP HY HRO HAG HBB q2 q3 q4 x2 c6 r8 qo cy fy ly cu cv cr
          go_wp2
          go_roundw
          case rel=>exact ⟨j+1,hjl,by go_num,hb4,hAg4,RO4⟩
          case measure=>simp[intOf];omega
        obtain rfl:j=s.N:=by omega
        rw[HFK.out]at RO
        have hvl:(valsL cl (finL s k)).length=s.N:=by rw[←HFK.out];exact filTo_len _ _ _
        have hwf:∀y∈valsL cl (finL s k),WF y:=fun y hy=>by
          rw[←HFK.out]at hy
          unfold filTo at hy
          obtain ⟨q,hq,rfl⟩:=List.mem_map.1 hy
          have hqN:=List.mem_range.1 hq
          rw[if_pos hqN]
          obtain ⟨z,_,hzl,hzg⟩:=HGV.out q hqN
          have:=HCB.out z hzl
          rw[←hzg]
          exact wf_small (by omega)
        have HOI:=Lib.hid (RO.ints (by rw[hvl];unfold maxLen;omega) hwf)
        rw[hvl]at HOI
        have hAw:=ext_trans (ext_trans HBA.out HQ8.out.ext) hb
        have HAW:=Lib.hid hAw
        have HBW:=Lib.hid hb
        have KEEPB:Hid (∀W',Below wr.heap.size wr W'→(fun w':World=>w'.cell? ⟨w.heap.size,0,none⟩=some (.int .i64 s.N)∧w'.cell? ⟨w.heap.size,1,none⟩=some (.int .i64 s.p.ins)∧w'.cell? ⟨w.heap.size,2,none⟩=some (.int .i64 s.p.outs)∧w'.cell? ⟨w.heap.size,3,none⟩=some (.slice ca s.p.cs.length cc)∧w'.cell? ⟨BX,0,none⟩=some (.int .i64 c)) W'):=Lib.hid fun W' hW=>⟨(R3.ext hW).cell (j:=0) rfl,(R3.ext hW).cell (j:=1) rfl,(R3.ext hW).cell (j:=2) rfl,(R3.ext hW).cell (j:=3) rfl,(RX.ext hW).cell (j:=0) rfl⟩
        have HAN:Hid (bits .andNot .i64 (IntKind.i64.wrap (IntKind.i64.wrap (2 ^ s.N) - 1)) (mk:Int)=(f:Int)):=Lib.hid (by
          rw[IntWalk.i64_left,IntWalk.i64_left,wrap_full hNK,mask_nat hNK (by rw[HMKV.out];exact without_lo),HMKV.out,without_all hf2])
        clear RO hvl hwf hAw RX R3 R8 hAg hb
        go_wp2
        refine region_E (fun w':World=>w'.cell? ⟨w.heap.size,0,none⟩=some (.int .i64 s.N)∧w'.cell? ⟨w.heap.size,1,none⟩=some (.int .i64 s.p.ins)∧w'.cell? ⟨w.heap.size,2,none⟩=some (.int .i64 s.p.outs)∧w'.cell? ⟨w.heap.size,3,none⟩=some (.slice ca s.p.cs.length cc)∧w'.cell? ⟨BX,0,none⟩=some (.int .i64 c)) (fun i=>false) (by kernel_rfl) ?_ (fun hHeld=>?_)
        · exact KEEPB.out _ (show Below wr.heap.size wr wr.drew from drewN_below wr.heap.size wr 1)
        refine anyE_take 0 (v:=?_) rfl (by kernel_rfl) (fun _ _ _ h=>h) (by rfl) ?hy0q1 hHeld ?rest0q1
        case hy0q1=>(intro w hSw;(try dsimp only at hSw);go_simp;try with_reducible rfl)
        try simp only[Act.put,zsa,zsz,zss]
        refine anyE_take 1 (v:=?_) rfl (by kernel_rfl) (fun _ _ _ h=>h) (by rfl) ?hy1q2 hHeld ?rest1q2
        case hy1q2=>(intro w hSw;(try dsimp only at hSw);go_simp;try with_reducible rfl)
        try simp only[Act.put,zsa,zsz,zss]
        refine anyE_take 2 (v:=?_) rfl (by kernel_rfl) (fun _ _ _ h=>h) (by rfl) ?hy2q3 hHeld ?rest2q3
        case hy2q3=>(intro w hSw;(try dsimp only at hSw);go_simp;try with_reducible rfl)
        try simp only[Act.put,zsa,zsz,zss]
        refine anyE_take 3 (v:=?_) rfl (by kernel_rfl) (fun _ _ _ h=>h) (by rfl) ?hy3q4 hHeld ?rest3q4
        case hy3q4=>(intro w hSw;(try dsimp only at hSw);go_simp;try with_reducible rfl)
        try simp only[Act.put,zsa,zsz,zss]
        refine anyE_take 4 (v:=?_) rfl (by kernel_rfl) (fun _ _ _ h=>h) (by rfl) ?hy4q5 hHeld ?rest4q5
        case hy4q5=>(intro w hSw;(try dsimp only at hSw);go_simp;try with_reducible rfl)
        try simp only[Act.put,zsa,zsz,zss]
        refine anyE_take 5 (v:=?_) rfl (by kernel_rfl) (fun _ _ _ h=>h) (by rfl) ?hy5q6 hHeld ?rest5q6
        case hy5q6=>(intro w hSw;(try dsimp only at hSw);go_simp;try with_reducible rfl)
        try simp only[Act.put,zsa,zsz,zss]
        refine anyE_take 6 (v:=?_) rfl (by kernel_rfl) (fun _ _ _ h=>h) (by rfl) ?hy6q7 hHeld ?rest6q7
        case hy6q7=>(intro w hSw;(try dsimp only at hSw);go_simp;try with_reducible rfl)
        try simp only[Act.put,zsa,zsz,zss]
        refine anyE_take 7 (v:=?_) rfl (by kernel_rfl) (fun _ _ _ h=>h) (by rfl) ?hy7q8 hHeld ?rest7q8
        case hy7q8=>(intro w hSw;(try dsimp only at hSw);go_simp;try with_reducible rfl)
        try simp only[Act.put,zsa,zsz,zss]
        refine anyE_take 8 (v:=?_) rfl (by kernel_rfl) (fun _ _ _ h=>h) (by rfl) ?hy8q9 hHeld ?rest8q9
        case hy8q9=>(intro w hSw;(try dsimp only at hSw);go_simp;try with_reducible rfl)
        try simp only[Act.put,zsa,zsz,zss]
        refine anyE_take 9 (v:=?_) rfl (by kernel_rfl) (fun _ _ _ h=>h) (by rfl) ?hy9q10 hHeld ?rest9q10
        case hy9q10=>(intro w hSw;(try dsimp only at hSw);go_simp;try with_reducible rfl)
        try simp only[Act.put,zsa,zsz,zss]
        refine anyE_take 10 (v:=?_) rfl (by kernel_rfl) (fun _ _ _ h=>h) (by rfl) ?hy10q11 hHeld ?rest10q11
        case hy10q11=>(intro w hSw;(try dsimp only at hSw);go_simp;try with_reducible rfl)
        try simp only[Act.put,zsa,zsz,zss]
        refine anyE_take 11 (v:=?_) rfl (by kernel_rfl) (fun _ _ _ h=>h) (by rfl) ?hy11q12 hHeld ?rest11q12
        case hy11q12=>(intro w hSw;(try dsimp only at hSw);go_simp;try with_reducible rfl)
        try simp only[Act.put,zsa,zsz,zss]
        refine anyE_one 12 rfl (by kernel_rfl) (fun K hK=>?_)
        (go_simp;go_at_call 27;rw[HAN.out];refine (HPE.out _ _ _ (ext_trans HAW.out (show Below wr.heap.size wr wr.drew from drewN_below wr.heap.size wr 1)) (HOI.out.ext (show Below wr.heap.size wr wr.drew from drewN_below wr.heap.size wr 1))).mono ?_;rintro _ v2 ⟨_,rfl,hb,rfl⟩;have y2:=ext_trans (show Below wr.heap.size wr wr.drew from drewN_below wr.heap.size wr 1) hb;clear hb)
        refine hK.out _ _ (fun _=>KEEPB.out _ y2) (fun hHeld=>?_);replace hHeld:=hHeld rfl
        clear hK K
        try simp only[Act.put,zsa,zsz,zss]
        refine anyE_take 13 (v:=?_) rfl (by kernel_rfl) (fun _ _ _ h=>h) (by rfl) ?hy13q13 hHeld ?rest13q13
        case hy13q13=>(intro w hSw;(try dsimp only at hSw);go_simp;try with_reducible rfl)
        try simp only[Act.put,zsa,zsz,zss]
        refine anyE_take 14 (v:=?_) rfl (by kernel_rfl) (fun _ _ _ h=>h) (by rfl) ?hy14q14 hHeld ?rest14q14
        case hy14q14=>(intro w hSw;(try dsimp only at hSw);go_simp;try with_reducible rfl)
        try simp only[Act.put,zsa,zsz,zss]
        refine anyE_take 15 (v:=?_) rfl (by kernel_rfl) (fun _ _ _ h=>h) (by rfl) ?hy15q15 hHeld ?rest15q15
        case hy15q15=>(intro w hSw;(try dsimp only at hSw);go_simp;try with_reducible rfl)
        try simp only[Act.put,zsa,zsz,zss]
        refine anyE_take 16 (v:=?_) rfl (by kernel_rfl) (fun _ _ _ h=>h) (by rfl) ?hy16q16 hHeld ?rest16q16
        case hy16q16=>(intro w hSw;(try dsimp only at hSw);go_simp;try with_reducible rfl)
        try simp only[Act.put,zsa,zsz,zss]
        refine anyE_take 17 (v:=?_) rfl (by kernel_rfl) (fun _ _ _ h=>h) (by rfl) ?hy17q17 hHeld ?rest17q17
        case hy17q17=>(intro w hSw;(try dsimp only at hSw);go_simp;try with_reducible rfl)
        try simp only[Act.put,zsa,zsz,zss]
        refine anyE_done (by kernel_rfl) ?_ _
        have hbz:=Lib.hid (ext_trans HBW.out y2)
        clear hHeld KEEPB HOI HAW HBW HPE HAN y2
        rcases HSK.out with ⟨g1,rfl,g3⟩ | ⟨g1,rfl,g3⟩ | ⟨g1,g3⟩
        · have d1:decide (so k<0)=true:=decide_eq_true g1
          have e1:decide (so (k+1)<0)=false:=by rw[g3];exact decide_eq_false (by omega)
          have e2:solI (so (k+1))=k:=by rw[g3];unfold solI;rw[if_neg (by omega)]
          have E1:=Lib.hid e1
          have E2:=Lib.hid e2
          have D1:=Lib.hid d1
          clear e1 e2 g3 g1
          go_wp2
          go_roundw
          case rel=>exact ⟨k+1,hlt,by go_num,by rw[E1.out],by rw[E2.out],hbz.out⟩
          case measure=>simp[intOf];omega
        · have d1:decide (so k<0)=true:=decide_eq_true g1
          have e1:decide (so (k+1)<0)=decide (so k<0):=by rw[d1,g3];rfl
          have e2:solI (so (k+1))=solI (so k):=by unfold solI;rw[g3,if_pos g1];rfl
          have E1:=Lib.hid e1
          have E2:=Lib.hid e2
          have D1:=Lib.hid d1
          clear e1 e2 g3 g1
          go_wp2
          go_roundw
          case rel=>exact ⟨k+1,hlt,by go_num,by rw[E1.out,D1.out],by rw[E2.out],hbz.out⟩
          case measure=>simp[intOf];omega
        · have d1:decide (so k<0)=false:=decide_eq_false (by omega)
          have E3:=Lib.hid g3
          have D1:=Lib.hid d1
          clear g3 g1
          go_wp2
          go_roundw
          case rel=>exact ⟨k+1,hlt,by go_num,by rw[E3.out,D1.out],by rw[E3.out],hbz.out⟩
          case measure=>simp[intOf];omega
end Go.Proofs.YtcopehiceihdaaaGreat
