/- Part of the proof that the laws of chapter 45 answer true for every input. -/
import Derived.Test.YtcopehiceihdaaaGreatPCb38
set_option linter.unusedSimpArgs false
set_option linter.unnecessarySimpa false
set_option linter.unusedVariables false
set_option maxRecDepth 100000
set_option maxHeartbeats 40000000
namespace Go.Proofs.YtcopehiceihdaaaGreat
open Go.RowKit
attribute [local go_sem ↓] Go.wp_at_zero Go.wp_at_succ
theorem idx_caseT {S:Nat→Prop} {w:World} {a:Option Addr} {n cap:Nat} (h:Ad S w a n cap):∀k:Nat,k<n→∀W:World,(Instr.indexAt 22 (.slice a n cap) (.int .i64 k)).run Tryz.prog W=.ok (.pointer (some (adr a (k * 3)))) W:=by
  have hic:=congrArg (Option.map (·.2.1)) info_caseB
  cases hi:Tryz.prog.info? 119 with
  | none=>rw[hi]at hic;cases hic
  | some t=>
    rw[hi]at hic
    exact fun k hk W=>idx_wide Tryz.underlying22 hi (by simpa using hic) h k hk W
theorem ProbOK.vecs {p:ProbD} {N c f:Nat} (h:ProbOK p N) (hc:c<p.cs.length):∀v∈vecsOf (nthC p.cs c) f,v.length=N∧∀x∈v,0≤x∧x<p.outs:=by
  have h1:=(caseE_zero ((checkT_zero h.t).2.2.2.2.2.2.2.2 c hc)).2
  unfold vecsE at h1
  split at h1
  · cases h1
  rename_i hlen
  by_cases h2:firstE (outE p.n p.outs (nthC p.cs c).out) (nthC p.cs c).out.length=0
  case neg=>rw[if_neg h2]at h1;exact absurd h1 h2
  rw[if_pos h2]at h1
  have hout:∀v∈(nthC p.cs c).out,v.length=N∧∀x∈v,0≤x∧x<p.outs:=fun v hv=>by
    obtain ⟨j,hj,e⟩:=List.getElem_of_mem hv
    have h3:=firstE_iff.1 h2 j hj
    unfold outE at h3
    by_cases h4:vecE (nthL (nthC p.cs c).out j) p.n p.outs=0
    · have h5:=vecE_zero h4
      rw[nthL_eq hj,e,h.n]at h5
      exact ⟨by omega,h5.2⟩
    · rw[if_neg h4]at h3;exact absurd h3 h4
  intro v hv
  unfold vecsOf at hv
  split at hv
  · obtain ⟨j,hj,e⟩:=List.getElem_of_mem hv
    have h3:=firstE_iff.1 h1 j hj
    unfold calmE at h3
    by_cases h4:nthL (nthC p.cs c).calm j∈(nthC p.cs c).out
    · rw[nthL_eq hj,e]at h4;exact hout v h4
    · rw[decide_eq_false h4]at h3;simp at h3
  · exact hout v hv
theorem mayB_miss {p:ProbD} {N c f q:Nat} {outs:List Int} (h:ProbOK p N) (hc:c<p.cs.length) (hq:q<N) (hf:f.testBit q=false) (hx:nth outs q<0):mayB (nthC p.cs c) f outs=false:=by
  unfold mayB
  rw[List.any_eq_false]
  intro v hv
  obtain ⟨h1,h2⟩:=h.vecs hc v hv
  have h3:agrB f outs v=false:=agrB_no (by omega:q<v.length) (by
    have:=(h2 (nth v q) (nth_mem (by omega))).1
    rw[hf,decide_eq_false (by omega)];rfl)
  rw[h3];simp
def okE (s:SysF) (ch:List Int) (e:Nat):Bool:=mayB (nthC s.p.cs (nthX s.ex e).case.toNat) (fltyW (nthX s.ex e).word).toNat (valsL ch (finL s e))
theorem minT_step {f:Nat→Bool} {E k:Nat} (hk:k<E):minT f k (E - k)=if f k then (k:Int) else minT f (k+1) (E - (k+1)):=by
  rw[show E - k=(E - (k+1))+1 by omega];rfl
def failE (s:SysF) (ch:List Int):Int:=minT (fun e=> !okE s ch e) 0 s.ex.length
def solT (s:SysF) (ch:List Int):Bool×Int×Int:=if ruleE s ch=0 then (if failE s ch<0 then (true,0,0) else (false,failE s ch,0)) else (false,0,ruleE s ch)
def solV (t:Bool×Int×Int):Value:=.tuple #[.bool t.1,.int .i64 t.2.1,.int .i64 t.2.2]
theorem oblB_is {s:SysF} {e q f:Nat} (hf:fltyW (nthX s.ex e).word=f) (hq:q<s.N):(maskW s.N (nthX s.ex e).word).testBit q= !f.testBit q:=by
  unfold maskW
  rw[hf,Int.toNat_natCast,testBit_without,Nat.testBit_two_pow_sub_one]
  simp[hq]
theorem rfails_calls {S S2:Nat→Prop} {w:World} {v vch:Value} {s:SysF} {ch:List Int} (h:SysV S w v s) (hg:GoodS s s.N s.K) (h2:Ints S2 w vch ch) (hcl:ch.length=s.tab.length):
    Calls Tryz.prog 50 #[v,.agg #[vch]] w (Post w fun _ r=>r=.int .i64 (failE s ch)):=by
  have KL:Hid (∀W,Below w.heap.size w W→∀e,e<s.ex.length→Calls Tryz.prog 67 #[v,.agg #[vch],.int .i64 e] W (Post W fun w' r=>Ints (fun b=>W.heap.size≤b) w' r (valsL ch (finL s e)))):=Lib.hid fun W hW e he=>rlast_calls (h.ext hW) hg (h2.ext hW) hcl he
  have KM:Hid (∀W,Below w.heap.size w W→∀e,e<s.ex.length→Calls Tryz.prog 91 #[v,.int .i64 e] W (Post W fun _ r=>r=.int .i64 (maskW s.N (nthX s.ex e).word))):=Lib.hid fun W hW e he=>rmask_calls (h.ext hW) hg he
  have hN:=hg.pok.n1.2
  have HPK:=Lib.hid hg.pok
  have HEX:=Lib.hid hg.ex
  have HFY:=Lib.hid fun e (he:e<s.ex.length)=>hg.flty he
  have HFN:=Lib.hid fun e (he:e<s.ex.length)=>(hg.fin he).1
  obtain ⟨vc,vs,vt,vx,rfl,hc,hs,ht,hx⟩:=h
  obtain ⟨ca,cc,rfl,cad,_⟩:=hc.form
  obtain ⟨sa,sc,rfl,_⟩:=hs.form
  obtain ⟨ta,tc,rfl,_⟩:=ht.form
  obtain ⟨xa,xc,rfl,xad,_⟩:=hx.form2
  have hfew:=hx.few
  have HC:=Lib.hid hc
  have HX:=Lib.hid hx
  have HQ:=Lib.hid (idx_exec xad)
  have HQC:=Lib.hid (idx_caseT cad)
  obtain ⟨a2,c2,rfl,_⟩:=h2.form
  have ex:=ext_alloc' (ext_alloc w (.cells #[.int .i64 s.p.n,.int .i64 s.p.ins,.int .i64 s.p.outs,.slice ca s.p.cs.length cc,.int .i64 s.p.an,.slice sa s.p.st.length sc,.int .i64 s.p.rounds,.int .i64 s.tn,.slice ta s.tab.length tc,.slice xa s.ex.length xc] 35)) (.cells #[.slice a2 ch.length c2] 38)
  have R0:=(row_new w [.int .i64 s.p.n,.int .i64 s.p.ins,.int .i64 s.p.outs,.slice ca s.p.cs.length cc,.int .i64 s.p.an,.slice sa s.p.st.length sc,.int .i64 s.p.rounds,.int .i64 s.tn,.slice ta s.tab.length tc,.slice xa s.ex.length xc] 35).alloc (.cells #[.slice a2 ch.length c2] 38)
  have R1:=row_new (w.alloc (.cells #[.int .i64 s.p.n,.int .i64 s.p.ins,.int .i64 s.p.outs,.slice ca s.p.cs.length cc,.int .i64 s.p.an,.slice sa s.p.st.length sc,.int .i64 s.p.rounds,.int .i64 s.tn,.slice ta s.tab.length tc,.slice xa s.ex.length xc] 35)) [.slice a2 ch.length c2] 38
  rw[World.size_alloc]at R1
  have HFE:Hid (failE s ch=minT (fun e=> !okE s ch e) 0 (s.ex.length - 0)):=Lib.hid rfl
  obtain ⟨fe,hfe⟩:∃fe,fe=failE s ch:=⟨_,rfl⟩
  rw[←hfe]at HFE ⊢
  clear hc hs ht hx h2 hg hcl xad cad hfe
  go_enter Tryz.func50,Tryz.ntmps50
  go_wp2
  go_loopw [5,6,7,8,9] (fun i _ _ _ _ wr=>∃k:Nat,k≤s.ex.length∧i=.int .i64 k∧Below w.heap.size w wr∧Row wr w.heap.size 35 [.int .i64 s.p.n,.int .i64 s.p.ins,.int .i64 s.p.outs,.slice ca s.p.cs.length cc,.int .i64 s.p.an,.slice sa s.p.st.length sc,.int .i64 s.p.rounds,.int .i64 s.tn,.slice ta s.tab.length tc,.slice xa s.ex.length xc]∧Row wr (w.heap.size+1) 38 [.slice a2 ch.length c2]∧Hid (fe=minT (fun e=> !okE s ch e) k (s.ex.length - k))) (fun i _ _ _ _ _=>s.ex.length - (intOf i).toNat)
  case atStart=>exact ⟨0,Nat.zero_le _,rfl,ex,R0,R1,HFE⟩
  case round=>
    clear ex R0 R1 HFE
    obtain ⟨k,hk,rfl,hb,R0,R1,HFE⟩:=hrel
    by_cases hlt:k<s.ex.length
    case neg=>
      obtain rfl:k=s.ex.length:=by omega
      have RR:Hid (fe= -1):=Lib.hid (by rw[HFE.out,Nat.sub_self];rfl)
      have t9:=R0.cell (j:=9) rfl
      have l0:=R0.lt
      go_wp2
      go_ret
      exact .mk hb (int_eq RR.out.symm)
    obtain ⟨i,hX⟩:=HEX.out k hlt
    have hcase:=hX.case
    have hic:=hX.clt
    obtain ⟨f,hf,hf2⟩:=HFY.out k hlt
    have hf32:f<4294967296:=by have:=Nat.pow_le_pow_right (n:=2) (by decide) hN;omega
    obtain ⟨a1,c1,a3,c3,z0,z1,z2,i1,i2⟩:=HX.out.exec hlt
    replace z0:=cell_ext z0 hb
    replace z1:=cell_ext z1 hb
    replace z2:=cell_ext z2 hb
    have bk:=World.block_lt_of_cell? _ _ z0
    have q1:=HQ.out k hlt
    have HI1:=Lib.hid i1
    have HMI:=Lib.hid (minT_step (f:=fun e=> !okE s ch e) hlt)
    rw[HMI.out]at HFE
    have HOK:Hid (okE s ch k=mayB (nthC s.p.cs i) f (valsL ch (finL s k))):=Lib.hid (by unfold okE;rw[hcase,hf,Int.toNat_natCast,Int.toNat_natCast])
    have HMS:Hid (∀q,q<s.N→f.testBit q=false→nth (valsL ch (finL s k)) q<0→okE s ch k=false):=Lib.hid fun q hq h1 h2=>by rw[HOK.out];exact mayB_miss HPK.out hic hq h1 h2
    have HBT:=Lib.hid fun q (hq:q<s.N)=>oblB_is (s:=s) (e:=k) hf hq
    have hmm:=maskW_lt hN (nthX s.ex k).word
    have KL2:=Lib.hid fun W (hW:Below wr.heap.size wr W)=>KL.out W (ext_trans hb hW) k hlt
    have KM2:=Lib.hid fun W (hW:Below wr.heap.size wr W)=>KM.out W (ext_trans hb hW) k hlt
    have hvl:(valsL ch (finL s k)).length=s.N:=by rw[valsL_len];exact HFN.out k hlt
    have HVV:=Lib.hid fun v hv=>HPK.out.vecs (f:=f) hic v hv
    have HWF:=Lib.hid hf
    obtain ⟨ok,hok⟩:∃ok,ok=okE s ch k:=⟨_,rfl⟩
    rw[←hok]at HFE HOK HMS
    obtain ⟨ls,hls⟩:∃ls,ls=valsL ch (finL s k):=⟨_,rfl⟩
    rw[←hls]at HOK HMS KL2 hvl
    obtain ⟨m,hm⟩:∃m,m=maskW s.N (nthX s.ex k).word:=⟨_,rfl⟩
    rw[←hm]at HBT hmm KM2
    rw[hcase]at z0
    obtain ⟨e,he⟩:∃e,e=nthX s.ex k:=⟨_,rfl⟩
    rw[←he]at z1 z2 HI1 HWF
    have HVL:=Lib.hid hvl
    have RX:=row_new wr [.int .i64 i,.slice a1 e.word.length c1,.slice a3 e.vs.length c3] 68
    have exA:=ext_alloc wr (.cells #[.int .i64 i,.slice a1 e.word.length c1,.slice a3 e.vs.length c3] 68)
    have R0A:=R0.alloc (.cells #[.int .i64 i,.slice a1 e.word.length c1,.slice a3 e.vs.length c3] 68)
    have t9:=R0.cell (j:=9) rfl
    have y0:=R0A.cell (j:=0) rfl
    have y1:=R0A.cell (j:=1) rfl
    have y2:=R0A.cell (j:=2) rfl
    have y3:=R0A.cell (j:=3) rfl
    have y4:=R0A.cell (j:=4) rfl
    have y5:=R0A.cell (j:=5) rfl
    have y6:=R0A.cell (j:=6) rfl
    have y7:=R0A.cell (j:=7) rfl
    have y8:=R0A.cell (j:=8) rfl
    have y9:=R0A.cell (j:=9) rfl
    have r1:=(R1.alloc (.cells #[.int .i64 i,.slice a1 e.word.length c1,.slice a3 e.vs.length c3] 68)).cell (j:=0) rfl
    have l1:=R1.lt
    have l0:=R0.lt
    obtain ⟨wb,hwb⟩:∃wb,wb=wr.heap.size:=⟨_,rfl⟩
    have HWB:=Lib.hid hwb
    clear hX hcase hf hok hls hm he hvl HMI KM KL i1 i2 hwb
    go_wp2_with fail
    refine (KL2.out _ exA).mono ?_
    rintro _ w1 ⟨vl,rfl,hb1,hl⟩
    have hr1:=ext_trans exA hb1
    replace R0:=R0A.ext hb1
    replace R1:=R1.ext hr1
    replace RX:=RX.ext hb1
    replace hb:=ext_trans hb hr1
    obtain ⟨la,lc,rfl,_⟩:=hl.form
    rw[HVL.out]at hl ⊢
    have HL:=Lib.hid hl
    rw[←HWB.out]at RX ⊢
    clear t9 y0 y1 y2 y3 y4 y5 y6 y7 y8 y9 r1 l1 l0 z0 z1 z2 bk q1 KL2 exA R0A hb1 hl
    go_wp2
    go_loopw [8,9] (fun b j w'=>∃(q:Nat) (mi:Bool),q≤s.N∧j=.int .i64 q∧b=.bool mi∧Below w.heap.size w w'∧Below w1.heap.size w1 w'∧Row w' w.heap.size 35 [.int .i64 s.p.n,.int .i64 s.p.ins,.int .i64 s.p.outs,.slice ca s.p.cs.length cc,.int .i64 s.p.an,.slice sa s.p.st.length sc,.int .i64 s.p.rounds,.int .i64 s.tn,.slice ta s.tab.length tc,.slice xa s.ex.length xc]∧Row w' (w.heap.size+1) 38 [.slice a2 ch.length c2]∧Hid (mi=true→ok=false)) (fun _ j _=>s.N - (intOf j).toNat)
    case atStart=>exact ⟨0,false,Nat.zero_le _,rfl,rfl,hb,.refl _ _,R0,R1,Lib.hid fun h=>by cases h⟩
    case round=>
      clear hb R0 R1
      have hr1':=hr1
      obtain ⟨q,mi,hq,rfl,rfl,hb,hb1,R0,R1,HMI⟩:=hrel
      have t0:=R0.cell (j:=0) rfl
      have t1:=R0.cell (j:=1) rfl
      have t2:=R0.cell (j:=2) rfl
      have t3:=R0.cell (j:=3) rfl
      have t4:=R0.cell (j:=4) rfl
      have t5:=R0.cell (j:=5) rfl
      have t6:=R0.cell (j:=6) rfl
      have t7:=R0.cell (j:=7) rfl
      have t8:=R0.cell (j:=8) rfl
      have t9:=R0.cell (j:=9) rfl
      have l0:=R0.lt
      by_cases hql:q<s.N
      case neg=>
        obtain rfl:q=s.N:=by omega
        have HB:=Lib.hid hb
        have HR0:=Lib.hid R0
        have HR1:=Lib.hid R1
        clear t0 t1 t2 t4 t5 t6 t7 t8 t9
        cases mi with
        | true=>
          have HO0:Hid (ok=false):=Lib.hid (HMI.out rfl)
          have RR:Hid (fe=k):=Lib.hid (by rw[HFE.out,HO0.out];rfl)
          clear t3 l0
          go_wp2
          refine region_E (fun _:World=>True) (fun i=>false) (by kernel_rfl) ?_ (fun hHeld=>?_)
          · exact trivial
          refine anyE_take 0 (v:=?_) rfl (by kernel_rfl) (fun _ _ _ h=>h) (by rfl) ?hy0t hHeld ?rest0t
          case hy0t=>(intro w hSw;(try dsimp only at hSw);go_simp;try with_reducible rfl)
          try simp only[Act.put,zsa,zsz,zss]
          refine anyE_take 1 (v:=?_) rfl (by kernel_rfl) (fun _ _ _ h=>h) (by rfl) ?hy1t hHeld ?rest1t
          case hy1t=>(intro w hSw;(try dsimp only at hSw);go_simp;try with_reducible rfl)
          try simp only[Act.put,zsa,zsz,zss]
          refine anyE_skip 2 rfl (by kernel_rfl) (fun _ _ _ h=>h) (by rfl) hHeld ?_
          try simp only[Act.put,zsa,zsz,zss]
          refine anyE_skip 3 rfl (by kernel_rfl) (fun _ _ _ h=>h) (by rfl) hHeld ?_
          try simp only[Act.put,zsa,zsz,zss]
          refine anyE_skip 4 rfl (by kernel_rfl) (fun _ _ _ h=>h) (by rfl) hHeld ?_
          try simp only[Act.put,zsa,zsz,zss]
          refine anyE_skip 5 rfl (by kernel_rfl) (fun _ _ _ h=>h) (by rfl) hHeld ?_
          try simp only[Act.put,zsa,zsz,zss]
          refine anyE_skip 6 rfl (by kernel_rfl) (fun _ _ _ h=>h) (by rfl) hHeld ?_
          try simp only[Act.put,zsa,zsz,zss]
          refine anyE_skip 7 rfl (by kernel_rfl) (fun _ _ _ h=>h) (by rfl) hHeld ?_
          try simp only[Act.put,zsa,zsz,zss]
          refine anyE_skip 8 rfl (by kernel_rfl) (fun _ _ _ h=>h) (by rfl) hHeld ?_
          try simp only[Act.put,zsa,zsz,zss]
          refine anyE_skip 9 rfl (by kernel_rfl) (fun _ _ _ h=>h) (by rfl) hHeld ?_
          try simp only[Act.put,zsa,zsz,zss]
          refine anyE_skip 10 rfl (by kernel_rfl) (fun _ _ _ h=>h) (by rfl) hHeld ?_
          try simp only[Act.put,zsa,zsz,zss]
          refine anyE_skip 11 rfl (by kernel_rfl) (fun _ _ _ h=>h) (by rfl) hHeld ?_
          try simp only[Act.put,zsa,zsz,zss]
          refine anyE_skip 12 rfl (by kernel_rfl) (fun _ _ _ h=>h) (by rfl) hHeld ?_
          try simp only[Act.put,zsa,zsz,zss]
          refine anyE_skip 13 rfl (by kernel_rfl) (fun _ _ _ h=>h) (by rfl) hHeld ?_
          try simp only[Act.put,zsa,zsz,zss]
          refine anyE_skip 14 rfl (by kernel_rfl) (fun _ _ _ h=>h) (by rfl) hHeld ?_
          try simp only[Act.put,zsa,zsz,zss]
          refine anyE_take 15 (v:=?_) rfl (by kernel_rfl) (fun _ _ _ h=>h) (by rfl) ?hy15t hHeld ?rest15t
          case hy15t=>(intro w hSw;(try dsimp only at hSw);go_simp;try with_reducible rfl)
          try simp only[Act.put,zsa,zsz,zss]
          refine anyE_done (by kernel_rfl) ?_ _
          have hbf:=Lib.hid (ext_trans HB.out (drewN_below wr.heap.size wr 1))
          clear hHeld HB HR0 HR1 hb hb1 R0 R1
          go_wp2
          go_ret
          exact .mk hbf.out (int_eq RR.out.symm)
        | false=>
          have RXw:=RX.ext hb1
          have x0:=RXw.cell (j:=0) rfl
          have x1:=RXw.cell (j:=1) rfl
          have x2:=RXw.cell (j:=2) rfl
          obtain ⟨v1,v2,v3,e1,e2,e3,j1,j2,j3⟩:=(HC.out.ext hb).case hic
          obtain ⟨d1,k1,rfl,_⟩:=j1.form
          obtain ⟨d2,k2,rfl,_⟩:=j2.form
          obtain ⟨d3,k3,rfl,_⟩:=j3.form
          have qc:=HQC.out i hic
          have KFL:Hid (∀W,Below wr.heap.size wr W→Calls Tryz.prog 93 #[.agg #[.int .i64 i,.slice a1 e.word.length c1,.slice a3 e.vs.length c3]] W (Post W fun _ r=>r=.int .i64 f)):=Lib.hid fun W hW=>by
            have:=rfaulty_calls (va:=a3) (vn:=e.vs.length) (vc:=c3) (i:Int) ((HI1.out.ext hb).ext hW)
            rw[HWF.out]at this;exact this
          have KMY:=Lib.hid fun W (hW:Below wr.heap.size wr W)=>rmay_calls (f:=f) (j1.ext hW) (j2.ext hW) (j3.ext hW) ((HL.out.ext hb1).ext hW) (fun v hv=>by rw[(HVV.out v hv).1,HVL.out];exact Nat.le_refl _) (by rw[HVL.out];exact hN) hf32
          rw[←HOK.out]at KMY
          obtain ⟨l1,hl1⟩:∃l,l=(nthC s.p.cs i).inn.length:=⟨_,rfl⟩
          obtain ⟨l2,hl2⟩:∃l,l=(nthC s.p.cs i).out.length:=⟨_,rfl⟩
          obtain ⟨l3,hl3⟩:∃l,l=(nthC s.p.cs i).calm.length:=⟨_,rfl⟩
          rw[←hl1,←hl2,←hl3]at KMY
          rw[←hl1]at e1
          rw[←hl2]at e2
          rw[←hl3]at e3
          have KEEP:Hid (∀w',Below wr.heap.size wr w'→(fun w':World=>w'.cell? ⟨w.heap.size,3,none⟩=some (.slice ca s.p.cs.length cc)∧w'.cell? ⟨wb,0,none⟩=some (.int .i64 i)∧w'.cell? ⟨wb,1,none⟩=some (.slice a1 e.word.length c1)∧w'.cell? ⟨wb,2,none⟩=some (.slice a3 e.vs.length c3)∧w'.cell? (adr ca (i * 3))=some (.slice d1 l1 k1)∧w'.cell? ⟨(adr ca (i * 3)).block,(adr ca (i * 3)).off+1,none⟩=some (.slice d2 l2 k2)∧w'.cell? ⟨(adr ca (i * 3)).block,(adr ca (i * 3)).off+2,none⟩=some (.slice d3 l3 k3)) w'):=Lib.hid fun w' hw=>⟨cell_ext t3 hw,cell_ext x0 hw,cell_ext x1 hw,cell_ext x2 hw,cell_ext e1 hw,cell_ext e2 hw,cell_ext e3 hw⟩
          clear t3 l0 x0 x1 x2 e1 e2 e3 j1 j2 j3 RXw hl1 hl2 hl3 hb hb1 R0 R1
          go_wp2
          refine region_E (fun w':World=>w'.cell? ⟨w.heap.size,3,none⟩=some (.slice ca s.p.cs.length cc)∧w'.cell? ⟨wb,0,none⟩=some (.int .i64 i)∧w'.cell? ⟨wb,1,none⟩=some (.slice a1 e.word.length c1)∧w'.cell? ⟨wb,2,none⟩=some (.slice a3 e.vs.length c3)∧w'.cell? (adr ca (i * 3))=some (.slice d1 l1 k1)∧w'.cell? ⟨(adr ca (i * 3)).block,(adr ca (i * 3)).off+1,none⟩=some (.slice d2 l2 k2)∧w'.cell? ⟨(adr ca (i * 3)).block,(adr ca (i * 3)).off+2,none⟩=some (.slice d3 l3 k3)) (fun i=>false) (by kernel_rfl) ?_ (fun hHeld=>?_)
          · exact KEEP.out _ (drewN_below _ _ 1)
          refine anyE_take 0 (v:=?_) rfl (by kernel_rfl) (fun _ _ _ h=>h) (by rfl) ?hy0b hHeld ?rest0b
          case hy0b=>(intro w hSw;(try dsimp only at hSw);go_simp;try with_reducible rfl)
          try simp only[Act.put,zsa,zsz,zss]
          refine anyE_take 1 (v:=?_) rfl (by kernel_rfl) (fun _ _ _ h=>h) (by rfl) ?hy1b hHeld ?rest1b
          case hy1b=>(intro w hSw;(try dsimp only at hSw);go_simp;try with_reducible rfl)
          try simp only[Act.put,zsa,zsz,zss]
          refine anyE_take 2 (v:=?_) rfl (by kernel_rfl) (fun _ _ _ h=>h) (by rfl) ?hy2b hHeld ?rest2b
          case hy2b=>(intro w hSw;(try dsimp only at hSw);go_simp;try with_reducible rfl)
          try simp only[Act.put,zsa,zsz,zss]
          refine anyE_take 3 (v:=?_) rfl (by kernel_rfl) (fun _ _ _ h=>h) (by rfl) ?hy3b hHeld ?rest3b
          case hy3b=>(intro w hSw;(try dsimp only at hSw);go_simp;try with_reducible rfl)
          try simp only[Act.put,zsa,zsz,zss]
          refine anyE_take 4 (v:=?_) rfl (by kernel_rfl) (fun _ _ _ h=>h) (by rfl) ?hy4b hHeld ?rest4b
          case hy4b=>(intro w hSw;(try dsimp only at hSw);go_simp;try with_reducible rfl)
          try simp only[Act.put,zsa,zsz,zss]
          refine anyE_take 5 (v:=?_) rfl (by kernel_rfl) (fun _ _ _ h=>h) (by rfl) ?hy5b hHeld ?rest5b
          case hy5b=>(intro w hSw;(try dsimp only at hSw);go_simp;try with_reducible rfl)
          try simp only[Act.put,zsa,zsz,zss]
          refine anyE_take 6 (v:=?_) rfl (by kernel_rfl) (fun _ _ _ h=>h) (by rfl) ?hy6b hHeld ?rest6b
          case hy6b=>(intro w hSw;(try dsimp only at hSw);go_simp;try with_reducible rfl)
          try simp only[Act.put,zsa,zsz,zss]
          refine anyE_take 7 (v:=?_) rfl (by kernel_rfl) (fun _ _ _ h=>h) (by rfl) ?hy7b hHeld ?rest7b
          case hy7b=>(intro w hSw;(try dsimp only at hSw);go_simp;try with_reducible rfl)
          try simp only[Act.put,zsa,zsz,zss]
          refine anyE_take 8 (v:=?_) rfl (by kernel_rfl) (fun _ _ _ h=>h) (by rfl) ?hy8b hHeld ?rest8b
          case hy8b=>(intro w hSw;(try dsimp only at hSw);go_simp;try with_reducible rfl)
          try simp only[Act.put,zsa,zsz,zss]
          refine anyE_take 9 (v:=?_) rfl (by kernel_rfl) (fun _ _ _ h=>h) (by rfl) ?hy9b hHeld ?rest9b
          case hy9b=>(intro w hSw;(try dsimp only at hSw);go_simp;try with_reducible rfl)
          try simp only[Act.put,zsa,zsz,zss]
          refine anyE_take 10 (v:=?_) rfl (by kernel_rfl) (fun _ _ _ h=>h) (by rfl) ?hy10b hHeld ?rest10b
          case hy10b=>(intro w hSw;(try dsimp only at hSw);go_simp;try with_reducible rfl)
          try simp only[Act.put,zsa,zsz,zss]
          refine anyE_take 12 (v:=?_) rfl (by kernel_rfl) (fun _ _ _ h=>h) (by rfl) ?hy12b hHeld ?rest12b
          case hy12b=>(intro w hSw;(try dsimp only at hSw);go_simp;try with_reducible rfl)
          try simp only[Act.put,zsa,zsz,zss]
          refine anyE_one 11 rfl (by kernel_rfl) (fun K hK=>?_)
          (go_simp;go_at_call 93;refine (KFL.out _ (drewN_below _ _ 1)).mono ?_;rintro _ w4 ⟨_,rfl,hb4,rfl⟩;have y4:=ext_trans (drewN_below _ _ 1) hb4;clear hb4)
          refine hK.out _ _ (fun _=>KEEP.out _ y4) (fun hHeld=>?_);replace hHeld:=hHeld rfl
          clear hK K
          try simp only[Act.put,zsa,zsz,zss]
          refine anyE_one 13 rfl (by kernel_rfl) (fun K hK=>?_)
          (go_simp;go_at_call 92;refine (KMY.out _ y4).mono ?_;rintro _ w5 ⟨_,rfl,hb5,rfl⟩;have y5:=ext_trans y4 hb5;clear hb5)
          refine hK.out _ _ (fun _=>KEEP.out _ y5) (fun hHeld=>?_);replace hHeld:=hHeld rfl
          clear hK K
          try simp only[Act.put,zsa,zsz,zss]
          refine anyE_take 14 (v:=?_) rfl (by kernel_rfl) (fun _ _ _ h=>h) (by rfl) ?hy14b hHeld ?rest14b
          case hy14b=>(intro w hSw;(try dsimp only at hSw);go_simp;try with_reducible rfl)
          try simp only[Act.put,zsa,zsz,zss]
          refine anyE_take 15 (v:=?_) rfl (by kernel_rfl) (fun _ _ _ h=>h) (by rfl) ?hy15b hHeld ?rest15b
          case hy15b=>(intro w hSw;(try dsimp only at hSw);go_simp;try with_reducible rfl)
          try simp only[Act.put,zsa,zsz,zss]
          refine anyE_done (by kernel_rfl) ?_ _
          have R05:=HR0.out.ext y5
          have R15:=HR1.out.ext y5
          have hb5:=ext_trans HB.out y5
          clear hHeld KEEP KFL KMY y4 y5 HR0 HR1 HB qc
          cases ok with
          | true=>
            have HF2:Hid (fe=minT (fun e=> !okE s ch e) (k+1) (s.ex.length - (k+1))):=Lib.hid (by rw[HFE.out];rfl)
            go_wp2
            go_roundw
            case rel=>exact ⟨k+1,by omega,by go_num,hb5,R05,R15,HF2⟩
            case measure=>simp[intOf];omega
          | false=>
            have RR:Hid (fe=k):=Lib.hid (by rw[HFE.out];rfl)
            go_wp2
            go_ret
            exact .mk hb5 (int_eq RR.out.symm)
      cases mi with
      | true=>
        go_wp2
        go_roundw
        case rel=>exact ⟨q+1,true,by omega,by go_num,rfl,hb,hb1,R0,R1,HMI⟩
        case measure=>simp[intOf];omega
      | false=>
        have q1:=HL.out.idx (show q<ls.length by rw[HVL.out];exact hql)
        have cx:=(HL.out.ext hb1).cellN (show q<ls.length by rw[HVL.out];exact hql)
        have bx:=World.block_lt_of_cell? _ _ cx
        have HMQ:=Lib.hid (HMS.out q hql)
        have HBQ:=Lib.hid (HBT.out q hql)
        obtain ⟨x,hx⟩:∃x,x=nth ls q:=⟨_,rfl⟩
        rw[←hx]at cx HMQ
        clear hx
        by_cases hx0:x<0
        case neg=>
          have d1:decide (x<0)=false:=decide_eq_false hx0
          clear hx0
          go_wp2
          go_roundw
          case rel=>exact ⟨q+1,false,by omega,by go_num,rfl,hb,hb1,R0,R1,Lib.hid fun h=>by cases h⟩
          case measure=>simp[intOf];omega
        have d1:decide (x<0)=true:=decide_eq_true hx0
        have HX0:=Lib.hid hx0
        have KM3:=Lib.hid (KM2.out wr (ext_trans hr1' hb1))
        clear hx0
        go_wp2_with fail
        refine KM3.out.mono ?_
        rintro _ w3 ⟨_,rfl,hb3,rfl⟩
        replace R0:=R0.ext hb3
        replace R1:=R1.ext hb3
        replace hb:=ext_trans hb hb3
        replace hb1:=ext_trans hb1 hb3
        have KH:=Lib.hid ((has_quiet w3 hmm (show q≤5 by omega)).mono fun _ _ h=>h.take)
        clear KM3 t0 t1 t2 t3 t4 t5 t6 t7 t8 t9 l0 hb3 cx bx q1
        obtain ⟨bt,hbt⟩:∃bt,bt=m.testBit q:=⟨_,rfl⟩
        rw[←hbt]at KH HBQ
        clear hbt
        go_wp2_with fail
        refine KH.out.mono ?_
        rintro _ w4 ⟨_,rfl,hq4,rfl⟩
        have hb4:=hq4.ext
        replace R0:=R0.ext hb4
        replace R1:=R1.ext hb4
        replace hb:=ext_trans hb hb4
        replace hb1:=ext_trans hb1 hb4
        clear KH hb4 hq4
        have HM2:Hid (bt=true→ok=false):=Lib.hid fun h=>HMQ.out (by
          have:=HBQ.out
          rw[h]at this
          cases hft:f.testBit q with
          | false=>rfl
          | true=>rw[hft]at this;cases this) HX0.out
        go_wp2
        go_roundw
        case rel=>exact ⟨q+1,bt,by omega,by go_num,rfl,hb,hb1,R0,R1,HM2⟩
        case measure=>simp[intOf];omega
theorem rsol_calls {S S2:Nat→Prop} {w:World} {v vch:Value} {s:SysF} {ch:List Int} (h:SysV S w v s) (hf:SmallP s.p) (h2:Ints S2 w vch ch):
    Calls Tryz.prog 20 #[v,.agg #[vch]] w (Post w fun _ r=>r=solV (solT s ch)):=by
  have KV:Hid (∀W,Below w.heap.size w W→Calls Tryz.prog 17 #[v,.agg #[vch]] W (Post W fun _ r=>r=.int .i64 (ruleE s ch))):=Lib.hid fun W hW=>rcheck_calls (h.ext hW) hf (h2.ext hW)
  have KD:Hid (ruleE s ch=0→∀W,Below w.heap.size w W→Calls Tryz.prog 50 #[v,.agg #[vch]] W (Post W fun _ r=>r=.int .i64 (failE s ch))):=Lib.hid fun h0 W hW=>rfails_calls (h.ext hW) (good_sys (ruleE_ok h0).1 h.moves8) (h2.ext hW) (ruleE_ok h0).2.1
  obtain ⟨vc,vs,vt,vx,rfl,hc,hs,ht,hx⟩:=h
  obtain ⟨ca,cc,rfl,_⟩:=hc.form
  obtain ⟨sa,sc,rfl,_⟩:=hs.form
  obtain ⟨ta,tc,rfl,_⟩:=ht.form
  obtain ⟨xa,xc,rfl,xad,_⟩:=hx.form2
  obtain ⟨a2,c2,rfl,_⟩:=h2.form
  have ex:=ext_alloc' (ext_alloc w (.cells #[.int .i64 s.p.n,.int .i64 s.p.ins,.int .i64 s.p.outs,.slice ca s.p.cs.length cc,.int .i64 s.p.an,.slice sa s.p.st.length sc,.int .i64 s.p.rounds,.int .i64 s.tn,.slice ta s.tab.length tc,.slice xa s.ex.length xc] 35)) (.cells #[.slice a2 ch.length c2] 38)
  have R0:=(row_new w [.int .i64 s.p.n,.int .i64 s.p.ins,.int .i64 s.p.outs,.slice ca s.p.cs.length cc,.int .i64 s.p.an,.slice sa s.p.st.length sc,.int .i64 s.p.rounds,.int .i64 s.tn,.slice ta s.tab.length tc,.slice xa s.ex.length xc] 35).alloc (.cells #[.slice a2 ch.length c2] 38)
  have R1:=row_new (w.alloc (.cells #[.int .i64 s.p.n,.int .i64 s.p.ins,.int .i64 s.p.outs,.slice ca s.p.cs.length cc,.int .i64 s.p.an,.slice sa s.p.st.length sc,.int .i64 s.p.rounds,.int .i64 s.tn,.slice ta s.tab.length tc,.slice xa s.ex.length xc] 35)) [.slice a2 ch.length c2] 38
  rw[World.size_alloc]at R1
  have t0:=R0.cell (j:=0) rfl
  have t1:=R0.cell (j:=1) rfl
  have t2:=R0.cell (j:=2) rfl
  have t3:=R0.cell (j:=3) rfl
  have t4:=R0.cell (j:=4) rfl
  have t5:=R0.cell (j:=5) rfl
  have t6:=R0.cell (j:=6) rfl
  have t7:=R0.cell (j:=7) rfl
  have t8:=R0.cell (j:=8) rfl
  have t9:=R0.cell (j:=9) rfl
  have r1:=R1.cell (j:=0) rfl
  have l1:=R1.lt
  have l0:=R0.lt
  have HD:Hid ((ruleE s ch=0→failE s ch<0→solT s ch=(true,0,0))∧(ruleE s ch=0→¬failE s ch<0→solT s ch=(false,failE s ch,0))∧(ruleE s ch≠0→solT s ch=(false,0,ruleE s ch))):=Lib.hid ⟨fun h h1=>by unfold solT;rw[if_pos h,if_pos h1],fun h h1=>by unfold solT;rw[if_pos h,if_neg h1],fun h=>by unfold solT;rw[if_neg h]⟩
  obtain ⟨mt,hmt⟩:∃x,x=solT s ch:=⟨_,rfl⟩
  obtain ⟨fe,hfe⟩:∃x,x=failE s ch:=⟨_,rfl⟩
  obtain ⟨ve,hve⟩:∃x,x=ruleE s ch:=⟨_,rfl⟩
  rw[←hmt]at HD ⊢
  rw[←hfe]at HD KD
  rw[←hve]at KV KD HD
  clear hc hs ht hx h2 hf hve xad hmt hfe
  go_enter Tryz.func20,Tryz.ntmps20
  go_wp2_with fail
  refine (KV.out _ ex).mono ?_
  rintro _ w1 ⟨_,rfl,hb1,rfl⟩
  replace R0:=R0.ext hb1
  replace R1:=R1.ext hb1
  replace ex:=ext_trans ex hb1
  clear t0 t1 t2 t3 t4 t5 t6 t7 t8 t9 l0 r1 l1 hb1 KV
  by_cases hv0:ve=0
  case neg=>
    have d0:(ve !=0)=true:=by simp[hv0]
    have RE:=Lib.hid (HD.out.2.2 hv0)
    clear hv0
    go_wp2
    go_ret3
    exact .mk ex (by rw[RE.out];rfl)
  have KD2:=KD.out hv0
  have HV0:=Lib.hid hv0
  have d0:(ve !=0)=false:=by simp[hv0]
  have t0:=R0.cell (j:=0) rfl
  have t1:=R0.cell (j:=1) rfl
  have t2:=R0.cell (j:=2) rfl
  have t3:=R0.cell (j:=3) rfl
  have t4:=R0.cell (j:=4) rfl
  have t5:=R0.cell (j:=5) rfl
  have t6:=R0.cell (j:=6) rfl
  have t7:=R0.cell (j:=7) rfl
  have t8:=R0.cell (j:=8) rfl
  have t9:=R0.cell (j:=9) rfl
  have r1:=R1.cell (j:=0) rfl
  have l1:=R1.lt
  have l0:=R0.lt
  clear hv0
  go_wp2_with fail
  refine (KD2 _ ex).mono ?_
  rintro _ w2 ⟨_,rfl,hb2,rfl⟩
  replace ex:=ext_trans ex hb2
  clear t0 t1 t2 t3 t4 t5 t6 t7 t8 t9 l0 r1 l1 hb2 KD2 KD R0 R1 d0
  by_cases h0:fe<0
  · have d1:decide (0≤fe)=false:=decide_eq_false (by omega)
    have RE:=Lib.hid (HD.out.1 HV0.out (by omega))
    clear h0
    go_wp2
    go_ret3
    exact .mk ex (by rw[RE.out];rfl)
  · have d1:decide (0≤fe)=true:=decide_eq_true (by omega)
    have RE:=Lib.hid (HD.out.2.1 HV0.out (by omega))
    clear h0
    go_wp2
    go_ret3
    exact .mk ex (by rw[RE.out];rfl)
end Go.Proofs.YtcopehiceihdaaaGreat
