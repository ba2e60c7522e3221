/- Part of the proof that the laws of chapter 45 answer true for every input. -/
import Derived.Test.YtcopehiceihdaaaGreatPCf45
set_option linter.unusedSimpArgs false
set_option linter.unnecessarySimpa false
set_option linter.unusedVariables false
set_option maxRecDepth 100000
set_option maxHeartbeats 40000000
namespace Go.Proofs.YtcopehiceihdaaaGreat
open Go.RowKit
attribute [local go_sem ↓] Go.wp_at_zero Go.wp_at_succ
theorem tab_small {s:SysF} (hv:verE s=0) (hf:PFew s.p) (h8:Moves8 s.p.st):s.tab.length≤100000:=by
  unfold verE at hv
  by_cases h0:buildE s.p=0
  case neg=>rw[if_neg h0]at hv;exact absurd hv h0
  rw[if_pos h0]at hv
  by_cases h1:s.tn=s.p.n∧s.tab=s.p.sys.1∧s.ex=s.p.sys.2
  case neg=>rw[if_neg h1]at hv;cases hv
  obtain ⟨h2,h3⟩:=buildE_zero h0
  obtain ⟨N,hok⟩:=probOK h2
  have:=hf.small h2 h3
  have:=sys_small hok.n (by have:=hok.n;omega) hok.r this.1
  have e:s.p.full.tab=s.p.sys.1:=rfl
  rw[h1.2.1,←e];omega
theorem Ints.idx' {S:Nat→Prop} {w:World} {a:Option Addr} {c n:Nat} {l:List Int} (h:Ints S w (.slice a n c) l) {k:Nat} (hk:k<l.length) (W:World):(Instr.indexAt 36 (.slice a n c) (.int .i64 k)).run Tryz.prog W=.ok (.pointer (some (adr a k))) W:=h.idx hk W
theorem tmod_nat (a b:Nat):Int.tmod (a:Int) (b:Int)=((a % b:Nat):Int):=rfl
theorem walkRuleTimes {S S2:Nat→Prop} {w:World} {vc vs:Value} {p:ProbD} {vb:Value} {l:List Int} {z:Int} (hc:Sl kCase S w vc p.cs) (hs:Sl (kSl (kFlat 8)) S w vs p.st) (h2:Sl kU8 S2 w vb l) (hz:0≤z∧z<256):
    Calls Tryz.prog 7 #[.agg #[.int .i64 p.n,.int .i64 p.ins,.int .i64 p.outs,vc,.int .i64 p.an,vs,.int .i64 p.rounds],vb,.int .u8 z] w (Post w fun _ r=>r=.bool true):=by
  obtain ⟨ca,cc,rfl,_⟩:=hc.form
  obtain ⟨sa,sc,rfl,_⟩:=hs.form
  have KB:Hid (∀W,Below w.heap.size w W→Calls Tryz.prog 23 #[.agg #[.int .i64 p.n,.int .i64 p.ins,.int .i64 p.outs,.slice ca p.cs.length cc,.int .i64 p.an,.slice sa p.st.length sc,.int .i64 p.rounds]] W (Post W (BuiltR p))):=Lib.hid fun W hW=>built_calls (hc.ext hW) (hs.ext hW)
  have HB:=Lib.hid h2
  have hbl0:=h2.few
  obtain ⟨ba,bc,rfl,_⟩:=h2.form
  have ex0:=Lib.hid (Below.refl w.heap.size w)
  have ex:=ext_alloc w (.cells #[.int .i64 p.n,.int .i64 p.ins,.int .i64 p.outs,.slice ca p.cs.length cc,.int .i64 p.an,.slice sa p.st.length sc,.int .i64 p.rounds] 29)
  have R3:=row_new w [.int .i64 p.n,.int .i64 p.ins,.int .i64 p.outs,.slice ca p.cs.length cc,.int .i64 p.an,.slice sa p.st.length sc,.int .i64 p.rounds] 29
  clear hc hs
  have c0:=R3.cell (j:=0) rfl
  have c1:=R3.cell (j:=1) rfl
  have c2:=R3.cell (j:=2) rfl
  have c3:=R3.cell (j:=3) rfl
  have c4:=R3.cell (j:=4) rfl
  have c5:=R3.cell (j:=5) rfl
  have c6:=R3.cell (j:=6) rfl
  have l3:=R3.lt
  go_enter Tryz.func7,Tryz.ntmps7
  go_wp2_with fail
  refine (KB.out _ ex).mono ?_
  rintro _ w1 ⟨_,rfl,hb1,hB⟩
  replace R3:=R3.ext hb1
  replace ex:=ext_trans ex hb1
  clear hb1 KB c0 c1 c2 c3 c4 c5 c6 l3
  rcases hB with ⟨s,rfl,hv,hf,v,rfl,hsy⟩ | rfl
  case inr=>
    replace ex:=ext_alloc' ex (.cells #[.int .i64 0,.int .i64 0,.int .i64 0,.slice none 0 0,.int .i64 0,.slice none 0 0,.int .i64 0,.int .i64 0,.slice none 0 0,.slice none 0 0] 35)
    clear R3
    go_wp2_with fail
    refine (awake_calls _).mono ?_
    rintro _ w99 ⟨_,rfl,hb,rfl⟩
    have HE:=Lib.hid (ext_trans ex hb)
    clear hb ex
    go_wp2
    go_ret
    exact .mk HE.out rfl
  have hg:=good_sys hv hsy.moves8
  have hN1:=hg.pok.n1
  have hK6:=hg.K6
  have HfN:Hid (s.p.n=(s.N:Int)):=Lib.hid hg.pok.n
  have HfK:Hid (s.p.rounds=(s.K:Int)):=Lib.hid hg.rnd
  have HV0:=Lib.hid hv
  have houts:1≤s.p.outs∧s.p.outs≤8:=by have:=checkT_zero hg.pok.t;omega
  have htl:s.tab.length≤100000:=tab_small hv hf.few hsy.moves8
  obtain ⟨vc2,vs2,vt2,vx2,rfl,hc2,hs2,ht2,hx2⟩:=hsy
  obtain ⟨ca2,cc2,rfl,_⟩:=hc2.form
  obtain ⟨sa2,sc2,rfl,_⟩:=hs2.form
  obtain ⟨ta2,tc2,rfl,_⟩:=ht2.form
  obtain ⟨xa2,xc2,rfl,xad,_⟩:=hx2.form2
  have hxl:=hx2.few
  have e7:=ext_alloc w1 (.cells #[.int .i64 s.p.n,.int .i64 s.p.ins,.int .i64 s.p.outs,.slice ca2 s.p.cs.length cc2,.int .i64 s.p.an,.slice sa2 s.p.st.length sc2,.int .i64 s.p.rounds,.int .i64 s.tn,.slice ta2 s.tab.length tc2,.slice xa2 s.ex.length xc2] 35)
  have HSY:Hid (SysV TT (w1.alloc (.cells #[.int .i64 s.p.n,.int .i64 s.p.ins,.int .i64 s.p.outs,.slice ca2 s.p.cs.length cc2,.int .i64 s.p.an,.slice sa2 s.p.st.length sc2,.int .i64 s.p.rounds,.int .i64 s.tn,.slice ta2 s.tab.length tc2,.slice xa2 s.ex.length xc2] 35)) (.agg #[.int .i64 s.p.n,.int .i64 s.p.ins,.int .i64 s.p.outs,.slice ca2 s.p.cs.length cc2,.int .i64 s.p.an,.slice sa2 s.p.st.length sc2,.int .i64 s.p.rounds,.int .i64 s.tn,.slice ta2 s.tab.length tc2,.slice xa2 s.ex.length xc2]) s):=Lib.hid ⟨_,_,_,_,rfl,hc2.ext e7,hs2.ext e7,ht2.ext e7,hx2.ext e7⟩
  have HX:=Lib.hid (hx2.ext e7)
  have R7:=row_new w1 [.int .i64 s.p.n,.int .i64 s.p.ins,.int .i64 s.p.outs,.slice ca2 s.p.cs.length cc2,.int .i64 s.p.an,.slice sa2 s.p.st.length sc2,.int .i64 s.p.rounds,.int .i64 s.tn,.slice ta2 s.tab.length tc2,.slice xa2 s.ex.length xc2] 35
  replace R3:=R3.alloc (.cells #[.int .i64 s.p.n,.int .i64 s.p.ins,.int .i64 s.p.outs,.slice ca2 s.p.cs.length cc2,.int .i64 s.p.an,.slice sa2 s.p.st.length sc2,.int .i64 s.p.rounds,.int .i64 s.tn,.slice ta2 s.tab.length tc2,.slice xa2 s.ex.length xc2] 35)
  replace ex:=ext_alloc' ex (.cells #[.int .i64 s.p.n,.int .i64 s.p.ins,.int .i64 s.p.outs,.slice ca2 s.p.cs.length cc2,.int .i64 s.p.an,.slice sa2 s.p.st.length sc2,.int .i64 s.p.rounds,.int .i64 s.tn,.slice ta2 s.tab.length tc2,.slice xa2 s.ex.length xc2] 35)
  clear hc2 hs2 ht2 hx2 e7 hv
  go_upto_region 2 with fail
  obtain ⟨wA,hwA⟩:∃wA,wA=w1.alloc (.cells #[.int .i64 s.p.n,.int .i64 s.p.ins,.int .i64 s.p.outs,.slice ca2 s.p.cs.length cc2,.int .i64 s.p.an,.slice sa2 s.p.st.length sc2,.int .i64 s.p.rounds,.int .i64 s.tn,.slice ta2 s.tab.length tc2,.slice xa2 s.ex.length xc2] 35):=⟨_,rfl⟩
  obtain ⟨B7,hB7⟩:∃B7,B7=w1.heap.size:=⟨_,rfl⟩
  rw[←hwA]at R3 R7 ex HSY HX
  rw[←hB7]at R7
  rw[←hwA,←hB7]
  clear hwA hB7
  by_cases hl1:100<l.length
  case pos=>
    have d1:decide ((100:Int)<(l.length:Int))=true:=by simp;omega
    have d2:(100:Int)<(l.length:Int):=by omega
    clear hl1 R3 R7 HSY HX
    go_wp2_with fail
    refine (awake_calls _).mono ?_
    rintro _ w99 ⟨_,rfl,hb,rfl⟩
    have HE:=Lib.hid (ext_trans ex hb)
    clear hb ex
    go_wp2
    go_ret
    exact .mk HE.out rfl
  have d1:decide ((100:Int)<(l.length:Int))=false:=by simp;omega
  have d2:¬(100:Int)<(l.length:Int):=by omega
  by_cases hx0:s.ex.length=0
  case pos=>
    have d3:((s.ex.length:Int)==0)=true:=by simp[hx0]
    have t9:=R7.cell (j:=9) rfl
    have l7:=R7.lt
    clear hl1 hx0 R3 R7 HSY HX
    go_wp2_with fail
    refine (awake_calls _).mono ?_
    rintro _ w99 ⟨_,rfl,hb,rfl⟩
    have HE:=Lib.hid (ext_trans ex hb)
    clear hb ex t9 l7
    go_wp2
    go_ret
    exact .mk HE.out rfl
  have d3:((s.ex.length:Int)==0)=false:=by simp[hx0]
  obtain ⟨cl,hcl⟩:∃cl,cl=choTo s.p.outs l s.tab.length:=⟨_,rfl⟩
  obtain ⟨rl,hrl⟩:∃rl,rl=earlyL s cl:=⟨_,rfl⟩
  have hcll:cl.length=s.tab.length:=by rw[hcl];exact choTo_len _ _ _
  have hch:Chosen s cl:=fun x hx=>by
    obtain ⟨z,rfl,hz⟩:=decL_nat hx
    rw[hcl,Int.toNat_natCast,choTo_at _ _ hz]
    exact choN_bound houts.1 _ _
  have HRE:Hid (ruleE s rl=0):=Lib.hid (by rw[hrl];exact early_form HV0.out hg hch)
  have hrll:rl.length=s.tab.length:=by rw[hrl];exact earlyL_len _ _
  have KCH:Hid (∀W,Below wA.heap.size wA W→Calls Tryz.prog 24 #[.agg #[.int .i64 s.p.n,.int .i64 s.p.ins,.int .i64 s.p.outs,.slice ca2 s.p.cs.length cc2,.int .i64 s.p.an,.slice sa2 s.p.st.length sc2,.int .i64 s.p.rounds,.int .i64 s.tn,.slice ta2 s.tab.length tc2,.slice xa2 s.ex.length xc2],.slice ba l.length bc] W (Post W fun w' r=>RuleV (fun b=>W.heap.size≤b) w' r cl)):=Lib.hid fun W hW=>by
    have:=choice_calls (HSY.out.ext hW) (HB.out.ext (ext_trans ex hW)) houts htl (by omega)
    rw[←hcl]at this;exact this
  have KEA:Hid (∀W vch S,Below wA.heap.size wA W→Ints S W vch cl→Calls Tryz.prog 14 #[.agg #[.int .i64 s.p.n,.int .i64 s.p.ins,.int .i64 s.p.outs,.slice ca2 s.p.cs.length cc2,.int .i64 s.p.an,.slice sa2 s.p.st.length sc2,.int .i64 s.p.rounds,.int .i64 s.tn,.slice ta2 s.tab.length tc2,.slice xa2 s.ex.length xc2],.agg #[vch]] W (Post W fun w' r=>∃u,r=.tuple #[.agg #[u],.int .i64 0]∧Ints (fun b=>W.heap.size≤b) w' u rl)):=Lib.hid fun W vch S hW hi=>by
    refine (pearly_calls (HSY.out.ext hW) hf.few hi htl).mono ?_
    rintro e w' ⟨r,h1,h2,h3⟩
    refine ⟨r,h1,h2,?_⟩
    rcases h3 with ⟨_,v,h4,u,rfl,h5⟩ | ⟨h4,_⟩
    · rw[hrl];exact ⟨u,h4,h5⟩
    · exact absurd (early_earE HV0.out hcll hch) h4
  obtain ⟨i,hi⟩:∃i,i=z.toNat % s.ex.length:=⟨_,rfl⟩
  have hil:i<s.ex.length:=by rw[hi];exact Nat.mod_lt _ (by omega)
  have hzi:Int.tmod z (s.ex.length:Int)=i:=by
    obtain ⟨y,rfl⟩:∃y:Nat,z=y:=⟨z.toNat,by omega⟩
    rw[tmod_nat,hi,Int.toNat_natCast]
  have hsc:sceneE s rl i=0:=by unfold sceneE;rw[if_pos HRE.out,if_neg (by omega)]
  have KTI:Hid (∀W vch S,Below wA.heap.size wA W→Ints S W vch rl→Calls Tryz.prog 30 #[.agg #[.int .i64 s.p.n,.int .i64 s.p.ins,.int .i64 s.p.outs,.slice ca2 s.p.cs.length cc2,.int .i64 s.p.an,.slice sa2 s.p.st.length sc2,.int .i64 s.p.rounds,.int .i64 s.tn,.slice ta2 s.tab.length tc2,.slice xa2 s.ex.length xc2],.agg #[vch],.int .i64 i] W (Post W fun w' r=>∃u,r=.tuple #[u,.int .i64 0]∧Ints TT w' u (rndL s rl i))):=Lib.hid fun W vch S hW hi=>by
    refine (pTim_calls i (HSY.out.ext hW) hf.few hi).mono ?_
    rintro e w' ⟨r,h1,h2,h3⟩
    refine ⟨r,h1,h2,?_⟩
    rcases h3 with ⟨_,u,h4,h5⟩ | ⟨h4,_⟩
    · rw[Int.toNat_natCast]at h5;exact ⟨u,h4,h5.mono fun _ _=>trivial⟩
    · exact absurd hsc h4
  have KDE:Hid (∀W vch S,Below wA.heap.size wA W→Ints S W vch rl→Calls Tryz.prog 28 #[.agg #[.int .i64 s.p.n,.int .i64 s.p.ins,.int .i64 s.p.outs,.slice ca2 s.p.cs.length cc2,.int .i64 s.p.an,.slice sa2 s.p.st.length sc2,.int .i64 s.p.rounds,.int .i64 s.tn,.slice ta2 s.tab.length tc2,.slice xa2 s.ex.length xc2],.agg #[vch],.int .i64 i] W (Post W fun w' r=>∃u,r=.tuple #[u,.int .i64 0]∧Ints TT w' u (valsL rl (finL s i)))):=Lib.hid fun W vch S hW hi=>by
    refine (pDec_calls i (HSY.out.ext hW) hf.few hi).mono ?_
    rintro e w' ⟨r,h1,h2,h3⟩
    refine ⟨r,h1,h2,?_⟩
    rcases h3 with ⟨_,u,h4,h5⟩ | ⟨h4,_⟩
    · rw[Int.toNat_natCast]at h5;exact ⟨u,h4,h5.mono fun _ _=>trivial⟩
    · exact absurd hsc h4
  have HTL:=Lib.hid fun q (hq:q<s.N)=>times_law hg (ruleE_ok HRE.out).2.2 hil hq
  have HV:=Lib.hid fun k (hk:k≤s.K) q (hq:q<s.N)=>vAt_lt hg hil hk hq
  have HLN:Hid ((nthX s.ex i).vs.length=s.K+1∧∀k,k≤s.K→(nthL (nthX s.ex i).vs k).length=s.N):=Lib.hid (by obtain ⟨c,hc⟩:=hg.ex i hil;exact ⟨hc.len,hc.rows⟩)
  obtain ⟨ti,hti⟩:∃ti,ti=rndL s rl i:=⟨_,rfl⟩
  obtain ⟨ou,hou⟩:∃ou,ou=valsL rl (finL s i):=⟨_,rfl⟩
  rw[←hti]at KTI
  rw[←hou]at KDE
  have htil:ti.length=s.N:=by rw[hti];exact rndL_len _ _ _
  have houl:ou.length=s.N:=by rw[hou,valsL_len];exact (hg.fin hil).1
  have HLAW:Hid (∀q,q<s.N→(∀k,k≤s.K→((0≤nth rl (vAt s i k q)↔0≤nth ti q∧nth ti q≤k)∧(0≤nth rl (vAt s i k q)→nth rl (vAt s i k q)=nth ou q)))∧ -1≤nth ti q∧nth ti q≤s.K∧(nth ti q<0↔nth ou q<0)):=Lib.hid fun q hq=>by
    have h1:=HTL.out q hq
    have h2:nth ti q=rdV s rl i q:=by rw[hti];exact rndL_at _ _ _ hq
    have h3:nth ou q=nth rl (vAt s i s.K q):=by rw[hou,valsL_at (by rw[(hg.fin hil).1];exact hq)];rfl
    rw[h2,h3];exact h1
  have HQ:=Lib.hid (idx_exec xad)
  have HHL:=Lib.hid (And.intro hcll (And.intro hrll (And.intro htil houl)))
  have KEEP:Hid (∀w',Below wA.heap.size wA w'→(fun w':World=>w'.cell? ⟨B7,0,none⟩=some (.int .i64 s.p.n)∧w'.cell? ⟨B7,1,none⟩=some (.int .i64 s.p.ins)∧w'.cell? ⟨B7,2,none⟩=some (.int .i64 s.p.outs)∧w'.cell? ⟨B7,3,none⟩=some (.slice ca2 s.p.cs.length cc2)∧w'.cell? ⟨B7,4,none⟩=some (.int .i64 s.p.an)∧w'.cell? ⟨B7,5,none⟩=some (.slice sa2 s.p.st.length sc2)∧w'.cell? ⟨B7,6,none⟩=some (.int .i64 s.p.rounds)∧w'.cell? ⟨B7,7,none⟩=some (.int .i64 s.tn)∧w'.cell? ⟨B7,8,none⟩=some (.slice ta2 s.tab.length tc2)∧w'.cell? ⟨B7,9,none⟩=some (.slice xa2 s.ex.length xc2)) w'):=Lib.hid fun w' hw=>⟨(R7.ext hw).cell (j:=0) rfl,(R7.ext hw).cell (j:=1) rfl,(R7.ext hw).cell (j:=2) rfl,(R7.ext hw).cell (j:=3) rfl,(R7.ext hw).cell (j:=4) rfl,(R7.ext hw).cell (j:=5) rfl,(R7.ext hw).cell (j:=6) rfl,(R7.ext hw).cell (j:=7) rfl,(R7.ext hw).cell (j:=8) rfl,(R7.ext hw).cell (j:=9) rfl⟩
  have HF:=Lib.hid hf
  have HG:=Lib.hid hg
  clear hcl hrl hcll hch hrll hi hsc hti hou htil houl hf hg HTL xad
  have t9:=R7.cell (j:=9) rfl
  have l7:=R7.lt
  go_upto_region 4 with fail
  clear t9 l7 d1 d2 d3
  have HR7:=Lib.hid R7
  have HR3:=Lib.hid R3
  have HEX:=Lib.hid ex
  clear R7 R3 ex
  go_cut [10,11] (fun s10 s11 wx=>∃(G:Nat) (a:Option Addr) (c:Nat),s10=.pointer (some ⟨G,0,none⟩)∧s11=.int .i64 0∧Below wA.heap.size wA wx∧Row wx G 38 [.slice a rl.length c]∧Ints TT wx (.slice a rl.length c) rl)
  case first=>
    go_wp2_with fail
    refine region_E (fun w':World=>w'.cell? ⟨B7,0,none⟩=some (.int .i64 s.p.n)∧w'.cell? ⟨B7,1,none⟩=some (.int .i64 s.p.ins)∧w'.cell? ⟨B7,2,none⟩=some (.int .i64 s.p.outs)∧w'.cell? ⟨B7,3,none⟩=some (.slice ca2 s.p.cs.length cc2)∧w'.cell? ⟨B7,4,none⟩=some (.int .i64 s.p.an)∧w'.cell? ⟨B7,5,none⟩=some (.slice sa2 s.p.st.length sc2)∧w'.cell? ⟨B7,6,none⟩=some (.int .i64 s.p.rounds)∧w'.cell? ⟨B7,7,none⟩=some (.int .i64 s.tn)∧w'.cell? ⟨B7,8,none⟩=some (.slice ta2 s.tab.length tc2)∧w'.cell? ⟨B7,9,none⟩=some (.slice xa2 s.ex.length xc2)) (fun i=>false) (by kernel_rfl) ?_ (fun hHeld=>?_)
    · exact KEEP.out _ (show Below wA.heap.size wA wA.drew from drewN_below wA.heap.size wA 1)
    refine anyE_take 0 (v:=?_) rfl (by kernel_rfl) (fun _ _ _ h=>h) (by rfl) ?hy0q1 hHeld ?rest0q1
    case hy0q1=>(intro w hSw;(try dsimp only at hSw);go_simp;try with_reducible rfl)
    try simp only[Act.put,zsa,zsz,zss]
    refine anyE_take 1 (v:=?_) rfl (by kernel_rfl) (fun _ _ _ h=>h) (by rfl) ?hy1q2 hHeld ?rest1q2
    case hy1q2=>(intro w hSw;(try dsimp only at hSw);go_simp;try with_reducible rfl)
    try simp only[Act.put,zsa,zsz,zss]
    refine anyE_take 2 (v:=?_) rfl (by kernel_rfl) (fun _ _ _ h=>h) (by rfl) ?hy2q3 hHeld ?rest2q3
    case hy2q3=>(intro w hSw;(try dsimp only at hSw);go_simp;try with_reducible rfl)
    try simp only[Act.put,zsa,zsz,zss]
    refine anyE_two 3 8 rfl rfl (by kernel_rfl) (fun K hK=>?_) (fun K hK=>?_)
    · (go_simp;go_at_call 24;refine (KCH.out _ (show Below wA.heap.size wA wA.drew from drewN_below wA.heap.size wA 1)).mono ?_;rintro _ v3 ⟨_,rfl,hb,u3,rfl,hu3⟩;have y3:=ext_trans (show Below wA.heap.size wA wA.drew from drewN_below wA.heap.size wA 1) hb;clear hb;obtain ⟨a3,c3,rfl,_⟩:=hu3.form)
      refine hK.out _ _ (fun _=>KEEP.out _ y3) (fun hHeld=>?_);replace hHeld:=hHeld rfl
      clear hK K
      try simp only[Act.put,zsa,zsz,zss]
      refine anyE_two 4 8 rfl rfl (by kernel_rfl) (fun K hK=>?_) (fun K hK=>?_)
      · (go_simp;go_at_call 14;refine (KEA.out _ _ _ y3 hu3).mono ?_;rintro _ v4 ⟨_,rfl,hb,u4,rfl,hu4⟩;have y4:=ext_trans y3 hb;obtain ⟨a4,c4,rfl,_⟩:=hu4.form)
        refine hK.out _ _ (fun _=>KEEP.out _ y4) (fun hHeld=>?_);replace hHeld:=hHeld rfl
        clear hK K
        try simp only[Act.put,zsa,zsz,zss]
        clear hb
        refine anyE_take 5 (v:=?_) rfl (by kernel_rfl) (fun _ _ _ h=>h) (by rfl) ?hy5q4 hHeld ?rest5q4
        case hy5q4=>(intro w hSw;(try dsimp only at hSw);go_simp;try with_reducible rfl)
        try simp only[Act.put,zsa,zsz,zss]
        refine anyE_take 6 (v:=?_) rfl (by kernel_rfl) (fun _ _ _ h=>h) (by rfl) ?hy6q5 hHeld ?rest6q5
        case hy6q5=>(intro w hSw;(try dsimp only at hSw);go_simp;try with_reducible rfl)
        try simp only[Act.put,zsa,zsz,zss]
        refine anyE_take 7 (v:=?_) rfl (by kernel_rfl) (fun _ _ _ h=>h) (by rfl) ?hy7q6 hHeld ?rest7q6
        case hy7q6=>(intro w hSw;(try dsimp only at hSw);go_simp;try with_reducible rfl)
        try simp only[Act.put,zsa,zsz,zss]
        refine anyE_one 8 rfl (by kernel_rfl) (fun K hK=>?_)
        go_simp
        refine hK.out _ _ (fun _=>KEEP.out _ (ext_alloc' y4 _)) (fun hHeld=>?_);replace hHeld:=hHeld rfl
        clear hK K
        try simp only[Act.put,zsa,zsz,zss]
        refine anyE_one 9 rfl (by kernel_rfl) (fun K hK=>?_)
        go_simp
        refine hK.out _ _ (fun _=>KEEP.out _ (ext_alloc' y4 _)) (fun hHeld=>?_);replace hHeld:=hHeld rfl
        clear hK K
        try simp only[Act.put,zsa,zsz,zss]
        refine anyE_take 10 (v:=?_) rfl (by kernel_rfl) (fun _ _ _ h=>h) (by rfl) ?hy10q7 hHeld ?rest10q7
        case hy10q7=>(intro w hSw;(try dsimp only at hSw);go_simp;try with_reducible rfl)
        try simp only[Act.put,zsa,zsz,zss]
        refine anyE_done (by kernel_rfl) ?_ _
        have way:=Lib.hid (show∃(G:Nat) (a:Option Addr) (c:Nat),Value.pointer (some ⟨v4.heap.size,0,none⟩)=.pointer (some ⟨G,0,none⟩)∧Below wA.heap.size wA (v4.alloc (.cells #[.slice a4 rl.length c4] 38))∧Row (v4.alloc (.cells #[.slice a4 rl.length c4] 38)) G 38 [.slice a rl.length c]∧Ints TT (v4.alloc (.cells #[.slice a4 rl.length c4] 38)) (.slice a rl.length c) rl from ⟨_,a4,c4,rfl,ext_alloc' y4 _,row_new v4 [.slice a4 rl.length c4] 38,(hu4.ext (ext_alloc v4 _)).mono fun _ _=>trivial⟩)
        clear hHeld KEEP y4 hu4 hu3 y3
        go_wp2_with fail
        go_meet
        obtain ⟨G,a,c,h1,h2,h3,h4⟩:=way.out
        exact ⟨G,a,c,h1,rfl,h2,h3,h4⟩
      · go_simp
        refine hK.out _ _ (fun _=>KEEP.out _ (ext_alloc' y3 _)) (fun hHeld=>?_);replace hHeld:=hHeld rfl
        clear hK K
        try simp only[Act.put,zsa,zsz,zss]
        have RN:=row_new v3 [.slice none 0 0] 38
        have dN:=ext_alloc' y3 (.cells #[.slice none 0 0] 38)
        have hNl:wA.heap.size≤v3.heap.size:=(y3).size
        have hzN:v3.heap.size<(v3.alloc (.cells #[.slice none 0 0] 38)).heap.size:=by simp
        have eN:=ext_alloc v3 (.cells #[.slice none 0 0] 38)
        obtain ⟨BN,hBN'⟩:∃BN,BN=v3.heap.size:=⟨_,rfl⟩
        obtain ⟨wN,hwN⟩:∃wN,wN=v3.alloc (.cells #[.slice none 0 0] 38):=⟨_,rfl⟩
        rw[←hwN]at RN dN hzN eN hHeld ⊢
        rw[←hBN']at RN hNl hzN ⊢
        clear hwN hBN'
        have hu5:=hu3.ext eN
        refine anyE_one 4 rfl (by kernel_rfl) (fun K hK=>?_)
        (go_simp;go_at_call 14;refine (KEA.out _ _ _ dN hu5).mono ?_;rintro _ v4 ⟨_,rfl,hb,u4,rfl,hu4⟩;have y4:=ext_trans dN hb;obtain ⟨a4,c4,rfl,_⟩:=hu4.form)
        refine hK.out _ _ (fun _=>KEEP.out _ y4) (fun hHeld=>?_);replace hHeld:=hHeld rfl
        clear hK K
        try simp only[Act.put,zsa,zsz,zss]
        have RNX:=Lib.hid (RN.ext hb)
        have hBN:=Lib.hid hNl
        have hBE:Hid (BN<wN.heap.size):=Lib.hid hzN
        clear hb RN dN hNl hzN hu5 eN
        refine anyE_take 5 (v:=?_) rfl (by kernel_rfl) (fun _ _ _ h=>h) (by rfl) ?hy5q8 hHeld ?rest5q8
        case hy5q8=>(intro w hSw;(try dsimp only at hSw);go_simp;try with_reducible rfl)
        try simp only[Act.put,zsa,zsz,zss]
        refine anyE_take 6 (v:=?_) rfl (by kernel_rfl) (fun _ _ _ h=>h) (by rfl) ?hy6q9 hHeld ?rest6q9
        case hy6q9=>(intro w hSw;(try dsimp only at hSw);go_simp;try with_reducible rfl)
        try simp only[Act.put,zsa,zsz,zss]
        refine anyE_take 7 (v:=?_) rfl (by kernel_rfl) (fun _ _ _ h=>h) (by rfl) ?hy7q10 hHeld ?rest7q10
        case hy7q10=>(intro w hSw;(try dsimp only at hSw);go_simp;try with_reducible rfl)
        try simp only[Act.put,zsa,zsz,zss]
        have RN4:=RNX.out
        have q0:=RN4.cell (j:=0) rfl
        have f0:=RN4.free 0
        have l0:=RN4.lt
        refine anyE_one 9 rfl (by kernel_rfl) (fun K hK=>?_)
        go_simp
        refine hK.out _ _ (fun _=>KEEP.out _ (y4.setCell (p:=⟨BN,0,none⟩) hBN.out (.slice a4 rl.length c4))) (fun hHeld=>?_);replace hHeld:=hHeld rfl
        clear hK K
        try simp only[Act.put,zsa,zsz,zss]
        refine anyE_take 10 (v:=?_) rfl (by kernel_rfl) (fun _ _ _ h=>h) (by rfl) ?hy10q11 hHeld ?rest10q11
        case hy10q11=>(intro w hSw;(try dsimp only at hSw);go_simp;try with_reducible rfl)
        try simp only[Act.put,zsa,zsz,zss]
        refine anyE_done (by kernel_rfl) ?_ _
        have way:=Lib.hid (show∃(G:Nat) (a:Option Addr) (c:Nat),Value.pointer (some ⟨BN,0,none⟩)=.pointer (some ⟨G,0,none⟩)∧Below wA.heap.size wA (v4.setCell ⟨BN,0,none⟩ (.slice a4 rl.length c4))∧Row (v4.setCell ⟨BN,0,none⟩ (.slice a4 rl.length c4)) G 38 [.slice a rl.length c]∧Ints TT (v4.setCell ⟨BN,0,none⟩ (.slice a4 rl.length c4)) (.slice a rl.length c) rl from ⟨BN,a4,c4,rfl,y4.setCell (p:=⟨BN,0,none⟩) hBN.out _,RN4.set 0 _,(hu4.agree (.of_grown (grownBy_setCell _ _ _ _) fun b hb e=>by injection e with e;have:=hBE.out;omega)).mono fun _ _=>trivial⟩)
        clear hHeld KEEP y4 hu4 hu3 y3 q0 f0 l0 RN4 RNX hBN hBE
        go_wp2_with fail
        go_meet
        obtain ⟨G,a,c,h1,h2,h3,h4⟩:=way.out
        exact ⟨G,a,c,h1,rfl,h2,h3,h4⟩
    · go_simp
      refine hK.out _ _ (fun _=>KEEP.out _ (ext_alloc' (show Below wA.heap.size wA wA.drew from drewN_below wA.heap.size wA 1) _)) (fun hHeld=>?_);replace hHeld:=hHeld rfl
      clear hK K
      try simp only[Act.put,zsa,zsz,zss]
      have RN:Row (wA.alloc (.cells #[.slice none 0 0] 38)).drew wA.heap.size 38 [.slice none 0 0]:=(row_new wA [.slice none 0 0] 38).ext (drewN_below (wA.alloc (.cells #[.slice none 0 0] 38)).heap.size (wA.alloc (.cells #[.slice none 0 0] 38)) 1)
      have dN:Below wA.heap.size wA (wA.alloc (.cells #[.slice none 0 0] 38)).drew:=ext_trans (ext_alloc wA (.cells #[.slice none 0 0] 38)) (drewN_below (wA.alloc (.cells #[.slice none 0 0] 38)).heap.size (wA.alloc (.cells #[.slice none 0 0] 38)) 1)
      have hzN:wA.heap.size<(wA.alloc (.cells #[.slice none 0 0] 38)).drew.heap.size:=RN.lt
      obtain ⟨BN,hBN'⟩:∃BN,BN=wA.heap.size:=⟨_,rfl⟩
      obtain ⟨wN,hwN⟩:∃wN,wN=(wA.alloc (.cells #[.slice none 0 0] 38)).drew:=⟨_,rfl⟩
      rw[←hwN]at RN dN hzN hHeld ⊢
      rw[←hBN']at RN hzN ⊢
      have hNl:wA.heap.size≤BN:=Nat.le_of_eq hBN'.symm
      clear hwN hBN'
      refine anyE_one 3 rfl (by kernel_rfl) (fun K hK=>?_)
      (go_simp;go_at_call 24;refine (KCH.out _ dN).mono ?_;rintro _ v3 ⟨_,rfl,hb,u3,rfl,hu3⟩;have y3:=ext_trans dN hb;have hbx:=hb;clear hb;obtain ⟨a3,c3,rfl,_⟩:=hu3.form)
      have hb3:=Lib.hid (RN.ext hbx)
      have hz3:=Nat.lt_of_lt_of_le hzN hbx.size
      clear hbx
      refine hK.out _ _ (fun _=>KEEP.out _ y3) (fun hHeld=>?_);replace hHeld:=hHeld rfl
      clear hK K
      try simp only[Act.put,zsa,zsz,zss]
      refine anyE_one 4 rfl (by kernel_rfl) (fun K hK=>?_)
      (go_simp;go_at_call 14;refine (KEA.out _ _ _ y3 hu3).mono ?_;rintro _ v4 ⟨_,rfl,hb,u4,rfl,hu4⟩;have y4:=ext_trans y3 hb;obtain ⟨a4,c4,rfl,_⟩:=hu4.form)
      refine hK.out _ _ (fun _=>KEEP.out _ y4) (fun hHeld=>?_);replace hHeld:=hHeld rfl
      clear hK K
      try simp only[Act.put,zsa,zsz,zss]
      have RNX:=Lib.hid (hb3.out.ext hb)
      have hBN:=Lib.hid hNl
      have hBE:Hid (BN<v3.heap.size):=Lib.hid hz3
      clear hb RN dN hNl hzN hb3 hz3
      refine anyE_take 5 (v:=?_) rfl (by kernel_rfl) (fun _ _ _ h=>h) (by rfl) ?hy5q12 hHeld ?rest5q12
      case hy5q12=>(intro w hSw;(try dsimp only at hSw);go_simp;try with_reducible rfl)
      try simp only[Act.put,zsa,zsz,zss]
      refine anyE_take 6 (v:=?_) rfl (by kernel_rfl) (fun _ _ _ h=>h) (by rfl) ?hy6q13 hHeld ?rest6q13
      case hy6q13=>(intro w hSw;(try dsimp only at hSw);go_simp;try with_reducible rfl)
      try simp only[Act.put,zsa,zsz,zss]
      refine anyE_take 7 (v:=?_) rfl (by kernel_rfl) (fun _ _ _ h=>h) (by rfl) ?hy7q14 hHeld ?rest7q14
      case hy7q14=>(intro w hSw;(try dsimp only at hSw);go_simp;try with_reducible rfl)
      try simp only[Act.put,zsa,zsz,zss]
      have RN4:=RNX.out
      have q0:=RN4.cell (j:=0) rfl
      have f0:=RN4.free 0
      have l0:=RN4.lt
      refine anyE_one 9 rfl (by kernel_rfl) (fun K hK=>?_)
      go_simp
      refine hK.out _ _ (fun _=>KEEP.out _ (y4.setCell (p:=⟨BN,0,none⟩) hBN.out (.slice a4 rl.length c4))) (fun hHeld=>?_);replace hHeld:=hHeld rfl
      clear hK K
      try simp only[Act.put,zsa,zsz,zss]
      refine anyE_take 10 (v:=?_) rfl (by kernel_rfl) (fun _ _ _ h=>h) (by rfl) ?hy10q15 hHeld ?rest10q15
      case hy10q15=>(intro w hSw;(try dsimp only at hSw);go_simp;try with_reducible rfl)
      try simp only[Act.put,zsa,zsz,zss]
      refine anyE_done (by kernel_rfl) ?_ _
      have way:=Lib.hid (show∃(G:Nat) (a:Option Addr) (c:Nat),Value.pointer (some ⟨BN,0,none⟩)=.pointer (some ⟨G,0,none⟩)∧Below wA.heap.size wA (v4.setCell ⟨BN,0,none⟩ (.slice a4 rl.length c4))∧Row (v4.setCell ⟨BN,0,none⟩ (.slice a4 rl.length c4)) G 38 [.slice a rl.length c]∧Ints TT (v4.setCell ⟨BN,0,none⟩ (.slice a4 rl.length c4)) (.slice a rl.length c) rl from ⟨BN,a4,c4,rfl,y4.setCell (p:=⟨BN,0,none⟩) hBN.out _,RN4.set 0 _,(hu4.agree (.of_grown (grownBy_setCell _ _ _ _) fun b hb e=>by injection e with e;have:=hBE.out;omega)).mono fun _ _=>trivial⟩)
      clear hHeld KEEP y4 hu4 hu3 y3 q0 f0 l0 RN4 RNX hBN hBE
      go_wp2_with fail
      go_meet
      obtain ⟨G,a,c,h1,h2,h3,h4⟩:=way.out
      exact ⟨G,a,c,h1,rfl,h2,h3,h4⟩
  case rest=>
    obtain ⟨B10,ra,rc,rfl,rfl,hbE,R10,HRI⟩:=hcut
    obtain ⟨wE,rfl⟩:∃wE:World,wE=wc:=⟨_,rfl⟩
    have R7:=HR7.out.ext hbE
    have R3:=HR3.out.ext hbE
    have ex:=ext_trans HEX.out hbE
    have HRI:=Lib.hid HRI
    rw[HfN.out,HfK.out]at R3
    clear HR7 HR3 HEX KEEP KCH KEA
    have t0:=R7.cell (j:=0) rfl
    have t1:=R7.cell (j:=1) rfl
    have t2:=R7.cell (j:=2) rfl
    have t3:=R7.cell (j:=3) rfl
    have t4:=R7.cell (j:=4) rfl
    have t5:=R7.cell (j:=5) rfl
    have t6:=R7.cell (j:=6) rfl
    have t7:=R7.cell (j:=7) rfl
    have t8:=R7.cell (j:=8) rfl
    have t9:=R7.cell (j:=9) rfl
    have r0:=R10.cell (j:=0) rfl
    have l7:=R7.lt
    have l10:=R10.lt
    have d4:wrap64 z=z:=by unfold wrap64;omega
    have d5:¬(s.ex.length:Int)=0:=by omega
    go_wp2_with fail
    refine (KTI.out _ _ _ hbE HRI.out).mono ?_
    rintro _ w8 ⟨_,rfl,hb8,u8,rfl,hu8⟩
    obtain ⟨ta8,tc8,rfl,_⟩:=hu8.form
    replace R7:=R7.ext hb8
    replace R3:=R3.ext hb8
    replace R10:=R10.ext hb8
    replace ex:=ext_trans ex hb8
    replace hbE:=ext_trans hbE hb8
    replace HRI:=Lib.hid (HRI.out.ext hb8)
    have HTI:=Lib.hid hu8
    clear t0 t1 t2 t3 t4 t5 t6 t7 t8 t9 r0 l7 l10 d4 d5 hb8 hu8 KTI
    have t0:=R7.cell (j:=0) rfl
    have t1:=R7.cell (j:=1) rfl
    have t2:=R7.cell (j:=2) rfl
    have t3:=R7.cell (j:=3) rfl
    have t4:=R7.cell (j:=4) rfl
    have t5:=R7.cell (j:=5) rfl
    have t6:=R7.cell (j:=6) rfl
    have t7:=R7.cell (j:=7) rfl
    have t8:=R7.cell (j:=8) rfl
    have t9:=R7.cell (j:=9) rfl
    have r0:=R10.cell (j:=0) rfl
    have l7:=R7.lt
    have l10:=R10.lt
    go_wp2_with fail
    refine (KDE.out _ _ _ hbE HRI.out).mono ?_
    rintro _ w9 ⟨_,rfl,hb9,u9,rfl,hu9⟩
    obtain ⟨oa9,oc9,rfl,_⟩:=hu9.form
    replace R7:=R7.ext hb9
    replace R3:=R3.ext hb9
    replace R10:=R10.ext hb9
    replace ex:=ext_trans ex hb9
    replace hbE:=ext_trans hbE hb9
    replace HRI:=Lib.hid (HRI.out.ext hb9)
    replace HTI:=Lib.hid (HTI.out.ext hb9)
    have HOI:=Lib.hid hu9
    have HXX:=Lib.hid (HX.out.ext hbE)
    have htil:=HHL.out.2.2.1
    have houl:=HHL.out.2.2.2
    have hrll:=HHL.out.2.1
    rw[htil]at HTI ⊢
    rw[houl]at HOI ⊢
    rw[hrll]at HRI R10
    clear t0 t1 t2 t3 t4 t5 t6 t7 t8 t9 r0 l7 l10 hb9 hu9 KDE htil houl hrll
    have t8:=R7.cell (j:=8) rfl
    have r0:=R10.cell (j:=0) rfl
    have c0:=R3.cell (j:=0) rfl
    have l7:=R7.lt
    have l10:=R10.lt
    have l3:=R3.lt
    have HE9:=Lib.hid ex
    go_wp2
    clear t8
    have KC:Hid (∀W,QW w9 W→W.cell? ⟨B7,9,none⟩=some (.slice xa2 s.ex.length xc2)∧W.cell? ⟨B10,0,none⟩=some (.slice ra s.tab.length rc)∧W.cell? ⟨w.heap.size,0,none⟩=some (.int .i64 s.N)∧W.cell? ⟨w.heap.size,6,none⟩=some (.int .i64 s.K)∧B7<W.heap.size∧B10<W.heap.size∧w.heap.size<W.heap.size):=Lib.hid fun W hW=>
      have e:=hW.ext
      ⟨(R7.ext e).cell (j:=9) rfl,(R10.ext e).cell (j:=0) rfl,(R3.ext e).cell (j:=0) rfl,(R3.ext e).cell (j:=6) rfl,(R7.ext e).lt,(R10.ext e).lt,(R3.ext e).lt⟩
    clear ex r0 c0 l7 l10 l3 R7 R10 R3 hbE
    have hNK:=hN1.2
    go_loopw [17,18,19,118] (fun _ _ _ i wr=>∃q:Nat,q≤s.N∧i=.int .i64 q∧QW w9 wr) (fun _ _ _ i _=>s.N - (intOf i).toNat)
    case atStart=>exact ⟨0,Nat.zero_le _,rfl,.refl _⟩
    case round=>
      obtain ⟨q,hq,rfl,hQ⟩:=hrel
      by_cases hlt:q<s.N
      case neg=>
        obtain rfl:q=s.N:=by omega
        go_wp2_with fail
        refine (awake_calls _).mono ?_
        rintro _ w99 ⟨_,rfl,hb,rfl⟩
        have HE:=Lib.hid (ext_trans (ext_trans HE9.out hQ.ext) hb)
        clear hb hQ
        go_wp2
        go_ret
        exact .mk HE.out rfl
      obtain ⟨k9,k10,k0,k6,l7,l10,l3⟩:=KC.out wr hQ
      have HL:=Lib.hid (HLAW.out q hlt)
      have htq:q<ti.length:=by have:=HHL.out.2.2.1;omega
      have hoq:q<ou.length:=by have:=HHL.out.2.2.2;omega
      have qt:=(HTI.out.idx' (n:=s.N) htq)
      have qo:=(HOI.out.idx' (n:=s.N) hoq)
      have ct0:=HTI.out.cellN htq
      have co0:=HOI.out.cellN hoq
      obtain ⟨t,ht⟩:∃t,t=nth ti q:=⟨_,rfl⟩
      obtain ⟨o,ho⟩:∃o,o=nth ou q:=⟨_,rfl⟩
      rw[←ht]at HL ct0
      rw[←ho]at HL co0
      have HCT:=Lib.hid ct0
      have HCO:=Lib.hid co0
      have HQ1:=Lib.hid hQ
      clear ht ho htq hoq ct0 co0 hQ
      obtain ⟨K1,hK1⟩:∃K1,K1=s.K+1:=⟨_,rfl⟩
      have d4:wrap64 ((s.K:Int)+1)=(K1:Int):=by unfold wrap64;omega
      have HK1:=Lib.hid hK1
      clear hK1
      go_wp2
      clear d4 k9 k10 k0 k6 l7 l10 l3
      go_loopw [18,19,124] (fun _ _ i wr=>∃k:Nat,k≤K1∧i=.int .i64 k∧QW w9 wr) (fun _ _ i _=>K1 - (intOf i).toNat)
      case atStart=>exact ⟨0,Nat.zero_le _,rfl,HQ1.out⟩
      case round=>
        obtain ⟨k,hk,rfl,hQ⟩:=hrel
        obtain ⟨k9,k10,k0,k6,l7,l10,l3⟩:=KC.out wr hQ
        have ct:=cell_ext HCT.out hQ.ext
        have co:=cell_ext HCO.out hQ.ext
        have bt:=World.block_lt_of_cell? _ _ ct
        have bo:=World.block_lt_of_cell? _ _ co
        by_cases hkl:k<K1
        case neg=>
          obtain rfl:k=K1:=by omega
          have hkk:¬((k:Int)<(s.K:Int)+1):=by have:=HK1.out;omega
          have hkd:decide ((k:Int)<(s.K:Int)+1)=false:=decide_eq_false hkk
          have h1:=HL.out.2
          have d1:decide (t< -1)=false:=by simp;omega
          have d2:decide ((s.K:Int)<t)=false:=by simp;omega
          have d3:¬t< -1:=by omega
          have d4:¬(s.K:Int)<t:=by omega
          by_cases h0:t<0
          · have d5:decide (t<0)=true:=by simp;omega
            have d6:o<0:=by omega
            have d7:decide (o<0)=true:=by simp;omega
            clear h1
            go_wp2
            go_quiet (fail)
            refine draw_then fun w4 hq4=>?_
            have hQ4:=hQ.trans hq4
            clear ct co bt bo k9 k10 k0 k6 l7 l10 l3 hQ hq4
            go_wp2
            go_roundw
            case rel=>exact ⟨q+1,hlt,by go_num,hQ4⟩
            case measure=>simp[intOf];omega
          · have d5:decide (t<0)=false:=by simp;omega
            have d6:¬o<0:=by omega
            have d7:decide (o<0)=false:=by simp;omega
            clear h1
            go_wp2
            go_quiet (fail)
            refine draw_then fun w4 hq4=>?_
            have hQ4:=hQ.trans hq4
            clear ct co bt bo k9 k10 k0 k6 l7 l10 l3 hQ hq4
            go_wp2
            go_roundw
            case rel=>exact ⟨q+1,hlt,by go_num,hQ4⟩
            case measure=>simp[intOf];omega
        have hkK:k≤s.K:=by have:=HK1.out;omega
        have hK18:K1≤8:=by have:=HK1.out;omega
        have hkk:(k:Int)<(s.K:Int)+1:=by omega
        have hkd:decide ((k:Int)<(s.K:Int)+1)=true:=decide_eq_true hkk
        obtain ⟨hz,hzl⟩:=HV.out k hkK q hlt
        have h1:=HL.out.1 k hkK
        obtain ⟨v,hv⟩:∃v,v=vAt s i k q:=⟨_,rfl⟩
        rw[←hv]at hz hzl h1
        obtain ⟨hvl,hln⟩:=HLN.out
        have q1:=HQ.out i hil
        obtain ⟨a1,c1,a3,c3,z0,z1,z2,i1,i2⟩:=HXX.out.exec hil
        replace z2:=cell_ext z2 hQ.ext
        obtain ⟨x,hx⟩:∃x,x=nthX s.ex i:=⟨_,rfl⟩
        rw[←hx]at z2 i2 hvl hln hz
        have hjv:k<x.vs.length:=by omega
        obtain ⟨_,_,hee,ad2,_⟩:=i2.form
        cases hee
        obtain ⟨i0,hi,_,hz1,_⟩:=info_parts info_ints
        have q2:=idx_one Tryz.underlying66 hi hz1 ad2 k hjv
        obtain ⟨u,cu,iu⟩:=i2.at (.refl _ _) hjv
        obtain ⟨fa,fc,rfl,_⟩:=iu.form
        have hjn:q<(nthL x.vs k).length:=by rw[hln k hkK];exact hlt
        have q3:=iu.idx hjn
        have cl:=cell_ext (iu.cellN hjn) hQ.ext
        rw[hz]at cl
        replace cu:=cell_ext cu hQ.ext
        have hzc:v<rl.length:=by have:=HHL.out.2.1;omega
        have q4:=HRI.out.idx' (n:=s.tab.length) hzc
        have cr:=cell_ext (HRI.out.cellN hzc) hQ.ext
        obtain ⟨d,hd⟩:∃d,d=nth rl v:=⟨_,rfl⟩
        rw[←hd]at cr h1
        obtain ⟨l,hl⟩:∃l,l=nthL x.vs k:=⟨_,rfl⟩
        rw[←hl]at cu q3
        obtain ⟨L,hL⟩:∃L,L=x.vs.length:=⟨_,rfl⟩
        rw[←hL]at z2 q2
        have bk:=World.block_lt_of_cell? _ _ z2
        have bu:=World.block_lt_of_cell? _ _ cu
        have bl:=World.block_lt_of_cell? _ _ cl
        have br:=World.block_lt_of_cell? _ _ cr
        clear hv hx hvl hln hz i1 i2 z0 z1 ad2 hi hz1 iu hjn hzc hd hl hL hjv
        have HH1:=Lib.hid h1
        clear h1
        have hsp:(0≤d∧0≤t∧t≤(k:Int)∧d=o)∨(¬0≤d∧t<0)∨(¬0≤d∧0≤t∧(k:Int)<t):=by have:=HH1.out;omega
        go_wp2
        go_quiet (fail)
        refine draw_then fun w4 hq4=>?_
        have hQ4:=hQ.trans hq4
        obtain ⟨k9',k10',k0',k6',l7',l10',l3'⟩:=KC.out w4 hQ4
        have ct4:=cell_ext ct hq4.ext
        have co4:=cell_ext co hq4.ext
        have bt4:=World.block_lt_of_cell? _ _ ct4
        have bo4:=World.block_lt_of_cell? _ _ co4
        clear ct co bt bo cr cl cu z2 bk bu bl br q1 q2 q3 q4 hq4 hQ k9 k10 k0 k6 l7 l10 l3 k9' k10' k0' k6' l7' l10' l3'
        rcases hsp with ⟨g1,g2,g3,rfl⟩ | ⟨g1,g2⟩ | ⟨g1,g2,g3⟩
        · have d1:decide (0≤d)=true:=decide_eq_true g1
          have d2:decide (0≤t)=true:=decide_eq_true g2
          have d3:decide (t≤(k:Int))=true:=decide_eq_true g3
          go_wp2
          go_roundw
          case rel=>exact ⟨k+1,by omega,by go_num,hQ4⟩
          case measure=>simp[intOf];omega
        · have d1:decide (0≤d)=false:=decide_eq_false (by omega)
          have d2:decide (0≤t)=false:=decide_eq_false (by omega)
          go_wp2
          go_roundw
          case rel=>exact ⟨k+1,by omega,by go_num,hQ4⟩
          case measure=>simp[intOf];omega
        · have d1:decide (0≤d)=false:=decide_eq_false (by omega)
          have d2:decide (0≤t)=true:=decide_eq_true g2
          have d3:decide (t≤(k:Int))=false:=decide_eq_false (by omega)
          go_wp2
          go_roundw
          case rel=>exact ⟨k+1,by omega,by go_num,hQ4⟩
          case measure=>simp[intOf];omega
end Go.Proofs.YtcopehiceihdaaaGreat
