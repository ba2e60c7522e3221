/- Part of the proof that the laws of chapter 45 answer true for every input. -/
import Derived.Test.YtcopehiceihdaaaGreatPCb36
set_option linter.unusedSimpArgs false
set_option linter.unnecessarySimpa false
set_option linter.unusedVariables false
set_option maxRecDepth 100000
set_option maxHeartbeats 40000000
namespace Go.Proofs.YtcopehiceihdaaaGreat
open Go.RowKit
attribute [local go_sem ↓] Go.wp_at_zero Go.wp_at_succ
def stepM (o:Bool) (r:Int) (ab:Int×Int):Option (Int×Int):=if o then (if r<0 then none else some (if ab.1<r then r else ab.1,ab.2+r)) else some ab
def meaP (ob:Nat→Bool) (rd:Nat→Int):Nat→Int×Int→Option (Int×Int)
  | 0,ab=>some ab
  | j+1,ab=>(meaP ob rd j ab).bind (stepM (ob j) (rd j))
def meaE (OB:Nat→Nat→Bool) (RD:Nat→Nat→Int) (N:Nat):Nat→Option (Int×Int)
  | 0=>some (0,0)
  | k+1=>(meaE OB RD N k).bind (meaP (OB k) (RD k) N)
theorem meaP_none {ob:Nat→Bool} {rd:Nat→Int} {ab:Int×Int} {j:Nat} (h:meaP ob rd j ab=none):∀{N:Nat},j≤N→meaP ob rd N ab=none:=by
  intro N
  induction N with
  | zero => intro hj; obtain rfl : j = 0 := by omega
            exact h
  | succ N ih=>
    intro hj
    by_cases e:j=N+1
    · rw[←e];exact h
    · unfold meaP;rw[ih (by omega)];rfl
theorem meaE_none {OB:Nat→Nat→Bool} {RD:Nat→Nat→Int} {N k:Nat} (h:meaE OB RD N k=none):∀{K:Nat},k≤K→meaE OB RD N K=none:=by
  intro K
  induction K with
  | zero => intro hj; obtain rfl : k = 0 := by omega
            exact h
  | succ K ih=>
    intro hj
    by_cases e:k=K+1
    · rw[←e];exact h
    · unfold meaE;rw[ih (by omega)];rfl
def oblB (s:SysF) (e q:Nat):Bool:=(maskW s.N (nthX s.ex e).word).testBit q
def rdV (s:SysF) (ch:List Int) (e q:Nat):Int:=rndQ ch (nthX s.ex e).vs s.K q
theorem rdV_bound (s:SysF) (ch:List Int) {K:Nat} (hK:s.K≤6) (e q:Nat): -1≤rdV s ch e q∧rdV s ch e q≤6:=by
  have:=minT_ge (decAt ch (nthX s.ex e).vs q) (s.K+1) 0
  unfold rdV rndQ;omega
theorem rndL_at (s:SysF) (ch:List Int) (e:Nat) {q:Nat} (h:q<s.N):nth (rndL s ch e) q=rdV s ch e q:=by
  unfold rndL rndsTo rdV
  simp[nth,h]
theorem rndL_len (s:SysF) (ch:List Int) (e:Nat):(rndL s ch e).length=s.N:=by simp[rndL,rndsTo]
def meaS (s:SysF) (ch:List Int):Option (Int×Int):=meaE (oblB s) (rdV s ch) s.N s.ex.length
def measT (s:SysF) (ch:List Int):Int×Int×Int:=if ruleE s ch=0 then (match meaS s ch with | some ab=>(ab.1,ab.2,0) | none=>(0,0,20)) else (0,0,ruleE s ch)
def mealT (o:Option (Int×Int)):Value:=match o with | some ab=>.tuple #[.int .i64 ab.1,.int .i64 ab.2,.bool true] | none=>.tuple #[.int .i64 0,.int .i64 0,.bool false]
theorem rmeas0_calls {S S2:Nat→Prop} {w:World} {v vch:Value} {s:SysF} {ch:List Int} (h:SysV S w v s) (hg:GoodS s s.N s.K) (h2:Ints S2 w vch ch) (hcl:ch.length=s.tab.length):
    Calls Tryz.prog 52 #[v,.agg #[vch]] w (Post w fun _ r=>r=mealT (meaS s ch)):=by
  have KR:Hid (∀W,Below w.heap.size w W→∀e,e<s.ex.length→Calls Tryz.prog 68 #[v,.agg #[vch],.int .i64 e] W (Post W fun w' r=>Ints (fun b=>W.heap.size≤b) w' r (rndL s ch e))):=Lib.hid fun W hW e he=>rrnds_calls (h.ext hW) hg (h2.ext hW) hcl he
  have KM:Hid (∀W,Below w.heap.size w W→∀e,e<s.ex.length→Calls Tryz.prog 91 #[v,.int .i64 e] W (Post W fun _ r=>r=.int .i64 (maskW s.N (nthX s.ex e).word))):=Lib.hid fun W hW e he=>rmask_calls (h.ext hW) hg he
  have hN:=hg.pok.n1.2
  have hK6:=hg.K6
  obtain ⟨vc,vs,vt,vx,rfl,hc,hs,ht,hx⟩:=h
  obtain ⟨ca,cc,rfl,_⟩:=hc.form
  obtain ⟨sa,sc,rfl,_⟩:=hs.form
  obtain ⟨ta,tc,rfl,_⟩:=ht.form
  obtain ⟨xa,xc,rfl,xad,_⟩:=hx.form2
  have hfew:=hx.few
  obtain ⟨a2,c2,rfl,_⟩:=h2.form
  have ex:=ext_alloc' (ext_alloc w (.cells #[.int .i64 s.p.n,.int .i64 s.p.ins,.int .i64 s.p.outs,.slice ca s.p.cs.length cc,.int .i64 s.p.an,.slice sa s.p.st.length sc,.int .i64 s.p.rounds,.int .i64 s.tn,.slice ta s.tab.length tc,.slice xa s.ex.length xc] 35)) (.cells #[.slice a2 ch.length c2] 38)
  have R0:=(row_new w [.int .i64 s.p.n,.int .i64 s.p.ins,.int .i64 s.p.outs,.slice ca s.p.cs.length cc,.int .i64 s.p.an,.slice sa s.p.st.length sc,.int .i64 s.p.rounds,.int .i64 s.tn,.slice ta s.tab.length tc,.slice xa s.ex.length xc] 35).alloc (.cells #[.slice a2 ch.length c2] 38)
  have R1:=row_new (w.alloc (.cells #[.int .i64 s.p.n,.int .i64 s.p.ins,.int .i64 s.p.outs,.slice ca s.p.cs.length cc,.int .i64 s.p.an,.slice sa s.p.st.length sc,.int .i64 s.p.rounds,.int .i64 s.tn,.slice ta s.tab.length tc,.slice xa s.ex.length xc] 35)) [.slice a2 ch.length c2] 38
  rw[World.size_alloc]at R1
  have HME:Hid (meaS s ch=meaE (oblB s) (rdV s ch) s.N s.ex.length):=Lib.hid rfl
  obtain ⟨mo,hmo⟩:∃mo,mo=meaS s ch:=⟨_,rfl⟩
  rw[←hmo]at HME ⊢
  clear hc hs ht hx h2 hg hcl xad hmo
  go_enter Tryz.func52,Tryz.ntmps52
  go_wp2
  go_loopw [7,8,9,10,11] (fun a b i _ _ wr=>∃(k:Nat) (x y:Int),k≤s.ex.length∧i=.int .i64 k∧a=.int .i64 x∧b=.int .i64 y∧0≤x∧x≤6∧0≤y∧y≤30 * k∧Hid (meaE (oblB s) (rdV s ch) s.N k=some (x,y))∧Below w.heap.size w wr∧Row wr w.heap.size 35 [.int .i64 s.p.n,.int .i64 s.p.ins,.int .i64 s.p.outs,.slice ca s.p.cs.length cc,.int .i64 s.p.an,.slice sa s.p.st.length sc,.int .i64 s.p.rounds,.int .i64 s.tn,.slice ta s.tab.length tc,.slice xa s.ex.length xc]∧Row wr (w.heap.size+1) 38 [.slice a2 ch.length c2]) (fun _ _ i _ _ _=>s.ex.length - (intOf i).toNat)
  case atStart=>exact ⟨0,0,0,Nat.zero_le _,rfl,rfl,rfl,by decide,by decide,by decide,by decide,Lib.hid rfl,ex,R0,R1⟩
  case round=>
    clear ex R0 R1
    obtain ⟨k,x,y,hk,rfl,rfl,rfl,hx0,hx6,hy0,hy6,HM,hb,R0,R1⟩:=hrel
    have t0:=R0.cell (j:=0) rfl
    have t1:=R0.cell (j:=1) rfl
    have t2:=R0.cell (j:=2) rfl
    have t3:=R0.cell (j:=3) rfl
    have t4:=R0.cell (j:=4) rfl
    have t5:=R0.cell (j:=5) rfl
    have t6:=R0.cell (j:=6) rfl
    have t7:=R0.cell (j:=7) rfl
    have t8:=R0.cell (j:=8) rfl
    have t9:=R0.cell (j:=9) rfl
    have l0:=R0.lt
    have r1:=R1.cell (j:=0) rfl
    have l1:=R1.lt
    by_cases hlt:k<s.ex.length
    case neg=>
      obtain rfl:k=s.ex.length:=by omega
      have HR:Hid (mealT mo=.tuple #[.int .i64 x,.int .i64 y,.bool true]):=Lib.hid (by rw[HME.out,HM.out];rfl)
      go_wp2
      go_ret3
      exact .mk hb HR.out.symm
    have HM2:Hid (∀j,j≤s.N→(meaE (oblB s) (rdV s ch) s.N k).bind (meaP (oblB s k) (rdV s ch k) j)=none→mo=none):=Lib.hid fun j hj h0=>by
      rw[HME.out]
      refine meaE_none (k:=k+1) ?_ hlt
      unfold meaE
      rw[HM.out]at h0 ⊢
      exact meaP_none h0 hj
    have KR2:=Lib.hid (KR.out wr hb k hlt)
    go_wp2_with fail
    refine KR2.out.mono ?_
    rintro _ w1 ⟨vl,rfl,hb1,hl⟩
    replace R0:=R0.ext hb1
    replace R1:=R1.ext hb1
    replace hb:=ext_trans hb hb1
    clear t0 t1 t2 t3 t4 t5 t6 t7 t8 t9 l0 r1 l1 KR2 hb1
    obtain ⟨la,lc,rfl,_⟩:=hl.form
    have hll:=rndL_len s ch k
    rw[hll]at hl ⊢
    have HL:=Lib.hid hl
    have HLA:=Lib.hid fun q (hq:q<s.N)=>rndL_at s ch k hq
    have HLL:=Lib.hid hll
    obtain ⟨l,hle⟩:∃l,l=rndL s ch k:=⟨_,rfl⟩
    rw[←hle]at HL HLA HLL
    clear hl hll hle
    have HM0:Hid ((meaE (oblB s) (rdV s ch) s.N k).bind (meaP (oblB s k) (rdV s ch k) 0)=some (x,y)):=Lib.hid (by rw[HM.out];rfl)
    clear HM
    go_wp2
    go_loopw [7,8,11] (fun a b i wi=>∃(j:Nat) (x y:Int),j≤s.N∧i=.int .i64 j∧a=.int .i64 x∧b=.int .i64 y∧0≤x∧x≤6∧0≤y∧y≤30 * k+6 * j∧Hid ((meaE (oblB s) (rdV s ch) s.N k).bind (meaP (oblB s k) (rdV s ch k) j)=some (x,y))∧Below w.heap.size w wi∧Below w1.heap.size w1 wi∧Row wi w.heap.size 35 [.int .i64 s.p.n,.int .i64 s.p.ins,.int .i64 s.p.outs,.slice ca s.p.cs.length cc,.int .i64 s.p.an,.slice sa s.p.st.length sc,.int .i64 s.p.rounds,.int .i64 s.tn,.slice ta s.tab.length tc,.slice xa s.ex.length xc]∧Row wi (w.heap.size+1) 38 [.slice a2 ch.length c2]) (fun _ _ i _=>s.N - (intOf i).toNat)
    case atStart=>exact ⟨0,x,y,Nat.zero_le _,rfl,rfl,rfl,hx0,hx6,hy0,by omega,HM0,hb,.refl _ _,R0,R1⟩
    case round=>
      clear hb R0 R1 HM0 hx0 hx6 hy0 hy6
      obtain ⟨j,x,y,hj,rfl,rfl,rfl,hx0,hx6,hy0,hy6,HM,hb,hb1,R0,R1⟩:=hrel
      by_cases hjl:j<s.N
      case neg=>
        obtain rfl:j=s.N:=by omega
        have HM3:Hid (meaE (oblB s) (rdV s ch) s.N (k+1)=some (x,y)):=Lib.hid HM.out
        have hy7:y≤30 * ((k+1:Nat):Int):=by omega
        go_wp2
        go_roundw
        case rel=>exact ⟨k+1,x,y,by omega,by go_num,rfl,rfl,hx0,hx6,hy0,hy7,HM3,hb,R0,R1⟩
        case measure=>simp[intOf];omega
      have HMS:Hid ((meaE (oblB s) (rdV s ch) s.N k).bind (meaP (oblB s k) (rdV s ch k) (j+1))=stepM (oblB s k j) (rdV s ch k j) (x,y)):=Lib.hid (by
        have e:=HM.out
        cases hm:meaE (oblB s) (rdV s ch) s.N k with
        | none=>rw[hm]at e;cases e
        | some ab=>
          rw[hm]at e
          show (meaP (oblB s k) (rdV s ch k) (j+1) ab)=_
          unfold meaP
          rw[show meaP (oblB s k) (rdV s ch k) j ab=some (x,y) from e];rfl)
      have KM2:=Lib.hid (KM.out wr hb k hlt)
      have HOB:Hid (oblB s k j=(maskW s.N (nthX s.ex k).word).testBit j):=Lib.hid rfl
      have hmm:=maskW_lt hN (nthX s.ex k).word
      obtain ⟨m,hm⟩:∃m,m=maskW s.N (nthX s.ex k).word:=⟨_,rfl⟩
      rw[←hm]at KM2 HOB hmm
      have t0:=R0.cell (j:=0) rfl
      have t1:=R0.cell (j:=1) rfl
      have t2:=R0.cell (j:=2) rfl
      have t3:=R0.cell (j:=3) rfl
      have t4:=R0.cell (j:=4) rfl
      have t5:=R0.cell (j:=5) rfl
      have t6:=R0.cell (j:=6) rfl
      have t7:=R0.cell (j:=7) rfl
      have t8:=R0.cell (j:=8) rfl
      have t9:=R0.cell (j:=9) rfl
      have l0:=R0.lt
      clear hm HM
      go_wp2_with fail
      refine KM2.out.mono ?_
      rintro _ w2 ⟨_,rfl,hb2,rfl⟩
      replace R0:=R0.ext hb2
      replace R1:=R1.ext hb2
      replace hb:=ext_trans hb hb2
      replace hb1:=ext_trans hb1 hb2
      have KH:=Lib.hid ((has_quiet w2 hmm (show j≤5 by omega)).mono fun _ _ h=>h.take)
      clear KM2 t0 t1 t2 t3 t4 t5 t6 t7 t8 t9 l0 hb2
      obtain ⟨bt,hbt⟩:∃bt,bt=m.testBit j:=⟨_,rfl⟩
      rw[←hbt]at KH HOB
      rw[HOB.out]at HMS
      clear hbt HOB
      go_wp2_with fail
      refine KH.out.mono ?_
      rintro _ w3 ⟨_,rfl,hq3,rfl⟩
      have hb3:=hq3.ext
      replace R0:=R0.ext hb3
      replace R1:=R1.ext hb3
      replace hb:=ext_trans hb hb3
      replace hb1:=ext_trans hb1 hb3
      clear KH hb3 hq3
      cases bt with
      | false=>
        have HM3:Hid ((meaE (oblB s) (rdV s ch) s.N k).bind (meaP (oblB s k) (rdV s ch k) (j+1))=some (x,y)):=Lib.hid (by rw[HMS.out];rfl)
        have hy7:y≤30 * (k:Int)+6 * ((j+1:Nat):Int):=by omega
        go_wp2
        go_roundw
        case rel=>exact ⟨j+1,x,y,by omega,by go_num,rfl,rfl,hx0,hx6,hy0,hy7,HM3,hb,hb1,R0,R1⟩
        case measure=>simp[intOf];omega
      | true=>
        have hrb:=rdV_bound s ch (K:=s.K) hK6 k j
        have hjn:j<l.length:=by rw[HLL.out];exact hjl
        have q1:=HL.out.idx hjn
        have cl:=(HL.out.ext hb1).cellN hjn
        rw[HLA.out j hjl]at cl
        have bl:=World.block_lt_of_cell? _ _ cl
        obtain ⟨r,hr⟩:∃r,r=rdV s ch k j:=⟨_,rfl⟩
        rw[←hr]at cl HMS hrb
        clear hr hjn
        by_cases hr0:r<0
        · have HR:Hid (mealT mo=.tuple #[.int .i64 0,.int .i64 0,.bool false]):=Lib.hid (by
            rw[HM2.out (j+1) hjl (by rw[HMS.out];unfold stepM;rw[if_pos rfl,if_pos hr0])];rfl)
          have d1:decide (r<0)=true:=decide_eq_true hr0
          clear hr0
          go_wp2
          go_ret3
          exact .mk hb HR.out.symm
        · have HM3:Hid ((meaE (oblB s) (rdV s ch) s.N k).bind (meaP (oblB s k) (rdV s ch k) (j+1))=some (if x<r then r else x,y+r)):=Lib.hid (by rw[HMS.out];unfold stepM;rw[if_pos rfl,if_neg hr0])
          have d1:decide (r<0)=false:=decide_eq_false hr0
          have hy7:y+r≤30 * (k:Int)+6 * ((j+1:Nat):Int):=by omega
          have hm0:0≤(if x<r then r else x):=by split<;>omega
          have hm6:(if x<r then r else x)≤6:=by split<;>omega
          have hyr:0≤y+r:=by omega
          have hkk:(k:Int)≤140737488355328:=by omega
          have hjj:(j:Int)≤5:=by omega
          have HWR:Hid (IntKind.i64.wrap (y+r)=y+r):=Lib.hid (by rw[IntKind.wrap_i64];omega)
          have HR0:=Lib.hid R0
          have HR1:=Lib.hid R1
          have HB:=Lib.hid hb
          have HB1:=Lib.hid hb1
          clear hr0 R0 R1 hb hb1
          go_wp2
          refine region_E (fun w':World=>w'.cell? (adr la j)=some (.int .i64 r)) (fun i=>false) (by kernel_rfl) ?_ (fun hHeld=>?_)
          · exact cell_ext cl (drewN_below _ _ 1)
          refine anyE_take 0 (v:=?_) rfl (by kernel_rfl) (fun _ _ _ h=>h) (by rfl) ?hy0 hHeld ?rest0
          case hy0=>(intro w hSw;(try dsimp only at hSw);go_simp;try with_reducible rfl)
          try simp only[Act.put,zsa,zsz,zss]
          refine anyE_take 1 (v:=?_) rfl (by kernel_rfl) (fun _ _ _ h=>h) (by rfl) ?hy1 hHeld ?rest1
          case hy1=>(intro w hSw;(try dsimp only at hSw);go_simp;try with_reducible rfl)
          try simp only[Act.put,zsa,zsz,zss]
          refine anyE_take 2 (v:=?_) rfl (by kernel_rfl) (fun _ _ _ h=>h) (by rfl) ?hy2 hHeld ?rest2
          case hy2=>(intro w hSw;(try dsimp only at hSw);go_simp;try with_reducible rfl)
          try simp only[Act.put,zsa,zsz,zss]
          refine anyE_take 3 (v:=?_) rfl (by kernel_rfl) (fun _ _ _ h=>h) (by rfl) ?hy3 hHeld ?rest3
          case hy3=>(intro w hSw;(try dsimp only at hSw);go_simp;try with_reducible rfl)
          try simp only[Act.put,zsa,zsz,zss]
          refine anyE_take 4 (v:=?_) rfl (by kernel_rfl) (fun _ _ _ h=>h) (by rfl) ?hy4 hHeld ?rest4
          case hy4=>(intro w hSw;(try dsimp only at hSw);go_simp;try with_reducible rfl)
          try simp only[Act.put,zsa,zsz,zss]
          refine anyE_take 5 (v:=?_) rfl (by kernel_rfl) (fun _ _ _ h=>h) (by rfl) ?hy5 hHeld ?rest5
          case hy5=>(intro w hSw;(try dsimp only at hSw);go_simp;try with_reducible rfl)
          try simp only[Act.put,zsa,zsz,zss]
          refine anyE_take 6 (v:=?_) rfl (by kernel_rfl) (fun _ _ _ h=>h) (by rfl) ?hy6 hHeld ?rest6
          case hy6=>(intro w hSw;(try dsimp only at hSw);go_simp;try with_reducible rfl)
          try simp only[Act.put,zsa,zsz,zss]
          refine anyE_take 7 (v:=?_) rfl (by kernel_rfl) (fun _ _ _ h=>h) (by rfl) ?hy7 hHeld ?rest7
          case hy7=>(intro w hSw;(try dsimp only at hSw);go_simp;try with_reducible rfl)
          try simp only[Act.put,zsa,zsz,zss]
          refine anyE_take 8 (v:=?_) rfl (by kernel_rfl) (fun _ _ _ h=>h) (by rfl) ?hy8 hHeld ?rest8
          case hy8=>(intro w hSw;(try dsimp only at hSw);go_simp;try with_reducible rfl)
          try simp only[Act.put,zsa,zsz,zss]
          refine anyE_take 9 (v:=?_) rfl (by kernel_rfl) (fun _ _ _ h=>h) (by rfl) ?hy9 hHeld ?rest9
          case hy9=>(intro w hSw;(try dsimp only at hSw);go_simp;try with_reducible rfl)
          try simp only[Act.put,zsa,zsz,zss]
          refine anyE_take 10 (v:=?_) rfl (by kernel_rfl) (fun _ _ _ h=>h) (by rfl) ?hy10 hHeld ?rest10
          case hy10=>(intro w hSw;(try dsimp only at hSw);go_simp;try with_reducible rfl)
          try simp only[Act.put,zsa,zsz,zss]
          refine anyE_take 11 (v:=?_) rfl (by kernel_rfl) (fun _ _ _ h=>h) (by rfl) ?hy11 hHeld ?rest11
          case hy11=>(intro w hSw;(try dsimp only at hSw);go_simp;try with_reducible rfl)
          try simp only[Act.put,zsa,zsz,zss]
          refine anyE_take 12 (v:=?_) rfl (by kernel_rfl) (fun _ _ _ h=>h) (by rfl) ?hy12 hHeld ?rest12
          case hy12=>(intro w hSw;(try dsimp only at hSw);go_simp;try with_reducible rfl)
          try simp only[Act.put,zsa,zsz,zss]
          refine anyE_take 13 (v:=?_) rfl (by kernel_rfl) (fun _ _ _ h=>h) (by rfl) ?hy13 hHeld ?rest13
          case hy13=>(intro w hSw;(try dsimp only at hSw);go_simp;try with_reducible rfl)
          try simp only[Act.put,zsa,zsz,zss]
          refine anyE_done (by kernel_rfl) ?_ _
          have hq4:Below w3.heap.size w3 w3.drew:=drewN_below _ _ 1
          obtain ⟨w4,hw4⟩:∃w4,w4=w3.drew:=⟨_,rfl⟩
          simp only[HWR.out]
          rw[←hw4]at hq4 ⊢
          have R04:=HR0.out.ext hq4
          have R14:=HR1.out.ext hq4
          have hb4:=ext_trans HB.out hq4
          have hb14:=ext_trans HB1.out hq4
          clear hw4
          clear HR0 HR1 HB HB1 cl bl q1 hHeld hq4
          go_wp2
          go_roundw
          case rel=>exact ⟨j+1,_,_,by omega,by go_num,rfl,rfl,hm0,hm6,hyr,hy7,HM3,hb4,hb14,R04,R14⟩
          case measure=>simp[intOf];omega
def measV (t:Int×Int×Int):Value:=.tuple #[.int .i64 t.1,.int .i64 t.2.1,.int .i64 t.2.2]
theorem rmea_calls {S S2:Nat→Prop} {w:World} {v vch:Value} {s:SysF} {ch:List Int} (h:SysV S w v s) (hf:SmallP s.p) (h2:Ints S2 w vch ch):
    Calls Tryz.prog 22 #[v,.agg #[vch]] w (Post w fun _ r=>r=measV (measT s ch)):=by
  have KV:Hid (∀W,Below w.heap.size w W→Calls Tryz.prog 17 #[v,.agg #[vch]] W (Post W fun _ r=>r=.int .i64 (ruleE s ch))):=Lib.hid fun W hW=>rcheck_calls (h.ext hW) hf (h2.ext hW)
  have KD:Hid (ruleE s ch=0→∀W,Below w.heap.size w W→Calls Tryz.prog 52 #[v,.agg #[vch]] W (Post W fun _ r=>r=mealT (meaS s ch))):=Lib.hid fun h0 W hW=>rmeas0_calls (h.ext hW) (good_sys (ruleE_ok h0).1 h.moves8) (h2.ext hW) (ruleE_ok h0).2.1
  obtain ⟨vc,vs,vt,vx,rfl,hc,hs,ht,hx⟩:=h
  obtain ⟨ca,cc,rfl,_⟩:=hc.form
  obtain ⟨sa,sc,rfl,_⟩:=hs.form
  obtain ⟨ta,tc,rfl,_⟩:=ht.form
  obtain ⟨xa,xc,rfl,xad,_⟩:=hx.form2
  obtain ⟨a2,c2,rfl,_⟩:=h2.form
  have ex:=ext_alloc' (ext_alloc w (.cells #[.int .i64 s.p.n,.int .i64 s.p.ins,.int .i64 s.p.outs,.slice ca s.p.cs.length cc,.int .i64 s.p.an,.slice sa s.p.st.length sc,.int .i64 s.p.rounds,.int .i64 s.tn,.slice ta s.tab.length tc,.slice xa s.ex.length xc] 35)) (.cells #[.slice a2 ch.length c2] 38)
  have R0:=(row_new w [.int .i64 s.p.n,.int .i64 s.p.ins,.int .i64 s.p.outs,.slice ca s.p.cs.length cc,.int .i64 s.p.an,.slice sa s.p.st.length sc,.int .i64 s.p.rounds,.int .i64 s.tn,.slice ta s.tab.length tc,.slice xa s.ex.length xc] 35).alloc (.cells #[.slice a2 ch.length c2] 38)
  have R1:=row_new (w.alloc (.cells #[.int .i64 s.p.n,.int .i64 s.p.ins,.int .i64 s.p.outs,.slice ca s.p.cs.length cc,.int .i64 s.p.an,.slice sa s.p.st.length sc,.int .i64 s.p.rounds,.int .i64 s.tn,.slice ta s.tab.length tc,.slice xa s.ex.length xc] 35)) [.slice a2 ch.length c2] 38
  rw[World.size_alloc]at R1
  have t0:=R0.cell (j:=0) rfl
  have t1:=R0.cell (j:=1) rfl
  have t2:=R0.cell (j:=2) rfl
  have t3:=R0.cell (j:=3) rfl
  have t4:=R0.cell (j:=4) rfl
  have t5:=R0.cell (j:=5) rfl
  have t6:=R0.cell (j:=6) rfl
  have t7:=R0.cell (j:=7) rfl
  have t8:=R0.cell (j:=8) rfl
  have t9:=R0.cell (j:=9) rfl
  have r1:=R1.cell (j:=0) rfl
  have l1:=R1.lt
  have l0:=R0.lt
  have HD:Hid ((ruleE s ch=0→measT s ch=match meaS s ch with | some ab=>(ab.1,ab.2,0) | none=>(0,0,20))∧(ruleE s ch≠0→measT s ch=(0,0,ruleE s ch))):=Lib.hid ⟨fun h=>if_pos h,fun h=>if_neg h⟩
  obtain ⟨mt,hmt⟩:∃x,x=measT s ch:=⟨_,rfl⟩
  obtain ⟨mo,hmo⟩:∃x,x=meaS s ch:=⟨_,rfl⟩
  obtain ⟨ve,hve⟩:∃x,x=ruleE s ch:=⟨_,rfl⟩
  rw[←hmt]at HD ⊢
  rw[←hmo]at HD KD
  rw[←hve]at KV KD HD
  clear hc hs ht hx h2 hf hve xad hmt hmo
  go_enter Tryz.func22,Tryz.ntmps22
  go_wp2_with fail
  refine (KV.out _ ex).mono ?_
  rintro _ w1 ⟨_,rfl,hb1,rfl⟩
  replace R0:=R0.ext hb1
  replace R1:=R1.ext hb1
  replace ex:=ext_trans ex hb1
  clear t0 t1 t2 t3 t4 t5 t6 t7 t8 t9 l0 r1 l1 hb1 KV
  by_cases hv0:ve=0
  case neg=>
    have d0:(ve !=0)=true:=by simp[hv0]
    have RE:=Lib.hid (HD.out.2 hv0)
    clear hv0
    go_wp2
    go_ret3
    exact .mk ex (by rw[RE.out];rfl)
  have KD2:=KD.out hv0
  have RE:=Lib.hid (HD.out.1 hv0)
  have d0:(ve !=0)=false:=by simp[hv0]
  have t0:=R0.cell (j:=0) rfl
  have t1:=R0.cell (j:=1) rfl
  have t2:=R0.cell (j:=2) rfl
  have t3:=R0.cell (j:=3) rfl
  have t4:=R0.cell (j:=4) rfl
  have t5:=R0.cell (j:=5) rfl
  have t6:=R0.cell (j:=6) rfl
  have t7:=R0.cell (j:=7) rfl
  have t8:=R0.cell (j:=8) rfl
  have t9:=R0.cell (j:=9) rfl
  have r1:=R1.cell (j:=0) rfl
  have l1:=R1.lt
  have l0:=R0.lt
  clear hv0
  go_wp2_with fail
  refine (KD2 _ ex).mono ?_
  rintro _ w2 ⟨_,rfl,hb2,rfl⟩
  replace ex:=ext_trans ex hb2
  clear t0 t1 t2 t3 t4 t5 t6 t7 t8 t9 l0 r1 l1 hb2 KD2 KD R0 R1 d0
  cases mo with
  | none=>
    unfold mealT
    go_wp2
    go_ret3
    exact .mk ex (by rw[RE.out];rfl)
  | some ab=>
    unfold mealT
    go_wp2
    go_ret3
    exact .mk ex (by rw[RE.out];rfl)
end Go.Proofs.YtcopehiceihdaaaGreat
namespace Go.Proofs.YtcopehiceihdaaaGreat
open Go.RowKit
attribute [local go_sem ↓] Go.wp_at_zero Go.wp_at_succ
theorem anyE_skip {P:Program} {Q:Exit→Act→World→Prop} {md:Region.Mode} {S:World→Prop} {X:Nat→Bool} {l:List Oper} (i:Nat) {oi:Oper} {fuel:Nat} {listed:Array Bool} {a:Act} {w:World} (hi:l[i]? =some oi)
    (hf:(Region.noSelect l.toArray&&(Region.free md l.toArray listed i&&((Region.ready md l.toArray listed).contains i&&waitFor md l.toArray X i)))=true)
    (hQ:∀c a w,Q (.panic c) (a.put oi.dst undef) w→Q (.panic c) a w) (hw:Region.wanted oi (yielded l.toArray a.tmps)=false) (hS:S w)
    (h:AnyE P md l.toArray Q S X fuel (listed.setIfInBounds i true) (a.put oi.dst undef) w):AnyE P md l.toArray Q S X (fuel+1) listed a w:=by
  simp only[Bool.and_eq_true]at hf
  exact anyE_take0 (by simpa using hi) hf.1 (by simp only[Bool.and_eq_true];exact hf.2) hQ (.inr ⟨hw,rfl⟩) hS h
theorem formE_len {s:SysF} {ch:List Int} (h:formE s ch=0):ch.length=s.tab.length:=by
  unfold formE at h
  split at h
  · assumption
  · omega
end Go.Proofs.YtcopehiceihdaaaGreat
