/- Part of the proof that the laws of chapter 45 answer true for every input. -/
import Derived.Test.YtcopehiceihdaaaGreatPCd36
set_option linter.unusedSimpArgs false
set_option linter.unnecessarySimpa false
set_option linter.unusedVariables false
set_option maxRecDepth 100000
set_option maxHeartbeats 40000000
namespace Go.Proofs.YtcopehiceihdaaaGreat
open Go.RowKit
attribute [local go_sem ↓] Go.wp_at_zero Go.wp_at_succ
theorem anyE_skip {P:Program} {Q:Exit→Act→World→Prop} {md:Region.Mode} {S:World→Prop} {X:Nat→Bool} {l:List Oper} (i:Nat) {oi:Oper} {fuel:Nat} {listed:Array Bool} {a:Act} {w:World} (hi:l[i]? =some oi)
    (hf:(Region.noSelect l.toArray&&(Region.free md l.toArray listed i&&((Region.ready md l.toArray listed).contains i&&waitFor md l.toArray X i)))=true)
    (hQ:∀c a w,Q (.panic c) (a.put oi.dst undef) w→Q (.panic c) a w) (hw:Region.wanted oi (yielded l.toArray a.tmps)=false) (hS:S w)
    (h:AnyE P md l.toArray Q S X fuel (listed.setIfInBounds i true) (a.put oi.dst undef) w):AnyE P md l.toArray Q S X (fuel+1) listed a w:=by
  simp only[Bool.and_eq_true]at hf
  exact anyE_take0 (by simpa using hi) hf.1 (by simp only[Bool.and_eq_true];exact hf.2) hQ (.inr ⟨hw,rfl⟩) hS h
def badB (s:SysF) (a b:List Int) (e q:Nat):Bool:=oblB s e q&&(decide (0≤rdV s b e q)&&(decide (rdV s a e q<0)||decide (rdV s b e q<rdV s a e q)))
def soonE (s:SysF) (a b:List Int) (e j:Nat):Bool:=(List.range j).all fun q=> !badB s a b e q
def soonTo (s:SysF) (a b:List Int) (k:Nat):Bool:=(List.range k).all fun e=>soonE s a b e s.N
def soonB (s:SysF) (a b:List Int):Bool:=soonTo s a b s.ex.length
theorem soonE_succ (s:SysF) (a b:List Int) (e j:Nat):soonE s a b e (j+1)=(soonE s a b e j&& !badB s a b e j):=by unfold soonE;rw[List.range_succ,List.all_append];simp
theorem soonTo_succ (s:SysF) (a b:List Int) (k:Nat):soonTo s a b (k+1)=(soonTo s a b k&&soonE s a b k s.N):=by unfold soonTo;rw[List.range_succ,List.all_append];simp
theorem soonB_bad {s:SysF} {a b:List Int} {e q:Nat} (he:e<s.ex.length) (hq:q<s.N) (h:badB s a b e q=true):soonB s a b=false:=by
  cases hs:soonB s a b with
  | false=>rfl
  | true=>
    have h1:=List.all_eq_true.1 hs e (List.mem_range.2 he)
    have h2:=List.all_eq_true.1 h1 q (List.mem_range.2 hq)
    rw[h]at h2;cases h2
def earlT (s:SysF) (a b:List Int):Bool×Int:=if ruleE s a=0 then (if formE s b=0 then (soonB s a b,0) else (false,formE s b)) else (false,ruleE s a)
theorem rsooner_calls {S S2 S3:Nat→Prop} {w:World} {v vch vck:Value} {s:SysF} {ch ck:List Int} (h:SysV S w v s) (hg:GoodS s s.N s.K) (h2:Ints S2 w vch ch) (hcl:ch.length=s.tab.length) (h3:Ints S3 w vck ck) (hck:ck.length=s.tab.length):
    Calls Tryz.prog 69 #[v,.agg #[vch],.agg #[vck]] w (Post w fun _ r=>r=.bool (soonB s ch ck)):=by
  have KA:Hid (∀W,Below w.heap.size w W→∀e,e<s.ex.length→Calls Tryz.prog 68 #[v,.agg #[vch],.int .i64 e] W (Post W fun w' r=>Ints (fun b=>W.heap.size≤b) w' r (rndL s ch e))):=Lib.hid fun W hW e he=>rrnds_calls (h.ext hW) hg (h2.ext hW) hcl he
  have KB:Hid (∀W,Below w.heap.size w W→∀e,e<s.ex.length→Calls Tryz.prog 68 #[v,.agg #[vck],.int .i64 e] W (Post W fun w' r=>Ints (fun b=>W.heap.size≤b) w' r (rndL s ck e))):=Lib.hid fun W hW e he=>rrnds_calls (h.ext hW) hg (h3.ext hW) hck he
  have KM:Hid (∀W,Below w.heap.size w W→∀e,e<s.ex.length→Calls Tryz.prog 91 #[v,.int .i64 e] W (Post W fun _ r=>r=.int .i64 (maskW s.N (nthX s.ex e).word))):=Lib.hid fun W hW e he=>rmask_calls (h.ext hW) hg he
  have hN:=hg.pok.n1.2
  have hK6:=hg.K6
  have htn:=hg.tn
  obtain ⟨vc,vs,vt,vx,rfl,hc,hs,ht,hx⟩:=h
  obtain ⟨ca,cc,rfl,_⟩:=hc.form
  obtain ⟨sa,sc,rfl,_⟩:=hs.form
  obtain ⟨ta,tc,rfl,_⟩:=ht.form
  obtain ⟨xa,xc,rfl,xad,_⟩:=hx.form2
  have hfew:=hx.few
  obtain ⟨a2,c2,rfl,_⟩:=h2.form
  obtain ⟨a3,c3,rfl,_⟩:=h3.form
  rw[htn]at KA KB KM ⊢
  have ex:=ext_alloc' (ext_alloc' (ext_alloc w (.cells #[.int .i64 s.p.n,.int .i64 s.p.ins,.int .i64 s.p.outs,.slice ca s.p.cs.length cc,.int .i64 s.p.an,.slice sa s.p.st.length sc,.int .i64 s.p.rounds,.int .i64 s.N,.slice ta s.tab.length tc,.slice xa s.ex.length xc] 35)) (.cells #[.slice a2 ch.length c2] 38)) (.cells #[.slice a3 ck.length c3] 38)
  have R0:=((row_new w [.int .i64 s.p.n,.int .i64 s.p.ins,.int .i64 s.p.outs,.slice ca s.p.cs.length cc,.int .i64 s.p.an,.slice sa s.p.st.length sc,.int .i64 s.p.rounds,.int .i64 s.N,.slice ta s.tab.length tc,.slice xa s.ex.length xc] 35).alloc (.cells #[.slice a2 ch.length c2] 38)).alloc (.cells #[.slice a3 ck.length c3] 38)
  have R1:=(row_new (w.alloc (.cells #[.int .i64 s.p.n,.int .i64 s.p.ins,.int .i64 s.p.outs,.slice ca s.p.cs.length cc,.int .i64 s.p.an,.slice sa s.p.st.length sc,.int .i64 s.p.rounds,.int .i64 s.N,.slice ta s.tab.length tc,.slice xa s.ex.length xc] 35)) [.slice a2 ch.length c2] 38).alloc (.cells #[.slice a3 ck.length c3] 38)
  have R2:=row_new ((w.alloc (.cells #[.int .i64 s.p.n,.int .i64 s.p.ins,.int .i64 s.p.outs,.slice ca s.p.cs.length cc,.int .i64 s.p.an,.slice sa s.p.st.length sc,.int .i64 s.p.rounds,.int .i64 s.N,.slice ta s.tab.length tc,.slice xa s.ex.length xc] 35)).alloc (.cells #[.slice a2 ch.length c2] 38)) [.slice a3 ck.length c3] 38
  simp only[World.size_alloc]at R1 R2
  have HSB:Hid (soonB s ch ck=soonTo s ch ck s.ex.length):=Lib.hid rfl
  have HBB:Hid (∀e q,e<s.ex.length→q<s.N→badB s ch ck e q=true→soonB s ch ck=false):=Lib.hid fun e q he hq h=>soonB_bad he hq h
  obtain ⟨sb,hsb⟩:∃sb,sb=soonB s ch ck:=⟨_,rfl⟩
  rw[←hsb]at HSB HBB ⊢
  clear hc hs ht hx h2 h3 hg hcl hck xad hsb htn
  go_enter Tryz.func69,Tryz.ntmps69
  go_wp2
  go_loopw [7,8,9,10] (fun i _ _ _ wr=>∃k:Nat,k≤s.ex.length∧i=.int .i64 k∧Below w.heap.size w wr∧Row wr w.heap.size 35 [.int .i64 s.p.n,.int .i64 s.p.ins,.int .i64 s.p.outs,.slice ca s.p.cs.length cc,.int .i64 s.p.an,.slice sa s.p.st.length sc,.int .i64 s.p.rounds,.int .i64 s.N,.slice ta s.tab.length tc,.slice xa s.ex.length xc]∧Row wr (w.heap.size+1) 38 [.slice a2 ch.length c2]∧Row wr (w.heap.size+1+1) 38 [.slice a3 ck.length c3]∧Hid (soonTo s ch ck k=true)) (fun i _ _ _ _=>s.ex.length - (intOf i).toNat)
  case atStart=>exact ⟨0,Nat.zero_le _,rfl,ex,R0,R1,R2,Lib.hid rfl⟩
  case round=>
    clear ex R0 R1 R2
    obtain ⟨k,hk,rfl,hb,R0,R1,R2,HT⟩:=hrel
    have t0:=R0.cell (j:=0) rfl
    have t1:=R0.cell (j:=1) rfl
    have t2:=R0.cell (j:=2) rfl
    have t3:=R0.cell (j:=3) rfl
    have t4:=R0.cell (j:=4) rfl
    have t5:=R0.cell (j:=5) rfl
    have t6:=R0.cell (j:=6) rfl
    have t7:=R0.cell (j:=7) rfl
    have t8:=R0.cell (j:=8) rfl
    have t9:=R0.cell (j:=9) rfl
    have l0:=R0.lt
    have r1:=R1.cell (j:=0) rfl
    have l1:=R1.lt
    have r2:=R2.cell (j:=0) rfl
    have l2:=R2.lt
    by_cases hlt:k<s.ex.length
    case neg=>
      obtain rfl:k=s.ex.length:=by omega
      have HR:Hid (sb=true):=Lib.hid (by rw[HSB.out];exact HT.out)
      go_wp2
      go_ret
      exact .mk hb (bool_eq HR.out.symm)
    obtain ⟨wo,rfl⟩:∃wo:World,wo=wr:=⟨_,rfl⟩
    have hbo:=hb
    have KEEP:Hid (∀w',Below wo.heap.size wo w'→(fun w':World=>w'.cell? ⟨w.heap.size,0,none⟩=some (.int .i64 s.p.n)∧w'.cell? ⟨w.heap.size,1,none⟩=some (.int .i64 s.p.ins)∧w'.cell? ⟨w.heap.size,2,none⟩=some (.int .i64 s.p.outs)∧w'.cell? ⟨w.heap.size,3,none⟩=some (.slice ca s.p.cs.length cc)∧w'.cell? ⟨w.heap.size,4,none⟩=some (.int .i64 s.p.an)∧w'.cell? ⟨w.heap.size,5,none⟩=some (.slice sa s.p.st.length sc)∧w'.cell? ⟨w.heap.size,6,none⟩=some (.int .i64 s.p.rounds)∧w'.cell? ⟨w.heap.size,7,none⟩=some (.int .i64 s.N)∧w'.cell? ⟨w.heap.size,8,none⟩=some (.slice ta s.tab.length tc)∧w'.cell? ⟨w.heap.size,9,none⟩=some (.slice xa s.ex.length xc)∧w'.cell? ⟨w.heap.size+1,0,none⟩=some (.slice a2 ch.length c2)∧w'.cell? ⟨w.heap.size+2,0,none⟩=some (.slice a3 ck.length c3)) w'):=Lib.hid fun w' hw=>⟨cell_ext t0 hw,cell_ext t1 hw,cell_ext t2 hw,cell_ext t3 hw,cell_ext t4 hw,cell_ext t5 hw,cell_ext t6 hw,cell_ext t7 hw,cell_ext t8 hw,cell_ext t9 hw,cell_ext r1 hw,cell_ext r2 hw⟩
    have HR0:=Lib.hid R0
    have HR1:=Lib.hid R1
    have HR2:=Lib.hid R2
    go_wp2
    clear t0 t1 t2 t3 t4 t5 t6 t7 t8 t9 l0 r1 l1 r2 l2 R0 R1 R2
    refine region_E (fun w':World=>w'.cell? ⟨w.heap.size,0,none⟩=some (.int .i64 s.p.n)∧w'.cell? ⟨w.heap.size,1,none⟩=some (.int .i64 s.p.ins)∧w'.cell? ⟨w.heap.size,2,none⟩=some (.int .i64 s.p.outs)∧w'.cell? ⟨w.heap.size,3,none⟩=some (.slice ca s.p.cs.length cc)∧w'.cell? ⟨w.heap.size,4,none⟩=some (.int .i64 s.p.an)∧w'.cell? ⟨w.heap.size,5,none⟩=some (.slice sa s.p.st.length sc)∧w'.cell? ⟨w.heap.size,6,none⟩=some (.int .i64 s.p.rounds)∧w'.cell? ⟨w.heap.size,7,none⟩=some (.int .i64 s.N)∧w'.cell? ⟨w.heap.size,8,none⟩=some (.slice ta s.tab.length tc)∧w'.cell? ⟨w.heap.size,9,none⟩=some (.slice xa s.ex.length xc)∧w'.cell? ⟨w.heap.size+1,0,none⟩=some (.slice a2 ch.length c2)∧w'.cell? ⟨w.heap.size+2,0,none⟩=some (.slice a3 ck.length c3)) (fun i=>false) (by kernel_rfl) ?_ (fun hHeld=>?_)
    · exact KEEP.out _ (drewN_below _ _ 1)
    refine anyE_take 0 (v:=?_) rfl (by kernel_rfl) (fun _ _ _ h=>h) (by rfl) ?hy0r hHeld ?rest0r
    case hy0r=>(intro w hSw;(try dsimp only at hSw);go_simp;try with_reducible rfl)
    try simp only[Act.put,zsa,zsz,zss]
    refine anyE_take 1 (v:=?_) rfl (by kernel_rfl) (fun _ _ _ h=>h) (by rfl) ?hy1r hHeld ?rest1r
    case hy1r=>(intro w hSw;(try dsimp only at hSw);go_simp;try with_reducible rfl)
    try simp only[Act.put,zsa,zsz,zss]
    refine anyE_take 2 (v:=?_) rfl (by kernel_rfl) (fun _ _ _ h=>h) (by rfl) ?hy2r hHeld ?rest2r
    case hy2r=>(intro w hSw;(try dsimp only at hSw);go_simp;try with_reducible rfl)
    try simp only[Act.put,zsa,zsz,zss]
    refine anyE_take 4 (v:=?_) rfl (by kernel_rfl) (fun _ _ _ h=>h) (by rfl) ?hy4r hHeld ?rest4r
    case hy4r=>(intro w hSw;(try dsimp only at hSw);go_simp;try with_reducible rfl)
    try simp only[Act.put,zsa,zsz,zss]
    refine anyE_take 5 (v:=?_) rfl (by kernel_rfl) (fun _ _ _ h=>h) (by rfl) ?hy5r hHeld ?rest5r
    case hy5r=>(intro w hSw;(try dsimp only at hSw);go_simp;try with_reducible rfl)
    try simp only[Act.put,zsa,zsz,zss]
    refine anyE_take 6 (v:=?_) rfl (by kernel_rfl) (fun _ _ _ h=>h) (by rfl) ?hy6r hHeld ?rest6r
    case hy6r=>(intro w hSw;(try dsimp only at hSw);go_simp;try with_reducible rfl)
    try simp only[Act.put,zsa,zsz,zss]
    refine anyE_one 3 rfl (by kernel_rfl) (fun K hK=>?_)
    (go_simp;go_at_call 68;refine (KA.out _ (ext_trans hbo (drewN_below _ _ 1)) k hlt).mono ?_;rintro _ w1 ⟨vl,rfl,hb1,hl1⟩;obtain ⟨la,lac,rfl,_⟩:=hl1.form;have y1:=ext_trans (drewN_below _ _ 1) hb1;clear hb1)
    refine hK.out _ _ (fun _=>KEEP.out _ y1) (fun hHeld=>?_);replace hHeld:=hHeld rfl
    clear hK K
    try simp only[Act.put,zsa,zsz,zss]
    refine anyE_one 7 rfl (by kernel_rfl) (fun K hK=>?_)
    (go_simp;go_at_call 68;refine (KB.out _ (ext_trans hbo y1) k hlt).mono ?_;rintro _ w2 ⟨vl2,rfl,hb2,hl2⟩;obtain ⟨lb,lbc,rfl,_⟩:=hl2.form;replace hl1:=hl1.ext hb2;have y2:=ext_trans y1 hb2;clear hb2)
    refine hK.out _ _ (fun _=>KEEP.out _ y2) (fun hHeld=>?_);replace hHeld:=hHeld rfl
    clear hK K
    try simp only[Act.put,zsa,zsz,zss]
    refine anyE_take 8 (v:=?_) rfl (by kernel_rfl) (fun _ _ _ h=>h) (by rfl) ?hy8r hHeld ?rest8r
    case hy8r=>(intro w hSw;(try dsimp only at hSw);go_simp;try with_reducible rfl)
    try simp only[Act.put,zsa,zsz,zss]
    refine anyE_take 9 (v:=?_) rfl (by kernel_rfl) (fun _ _ _ h=>h) (by rfl) ?hy9r hHeld ?rest9r
    case hy9r=>(intro w hSw;(try dsimp only at hSw);go_simp;try with_reducible rfl)
    try simp only[Act.put,zsa,zsz,zss]
    refine anyE_done (by kernel_rfl) ?_ _
    have R0:=HR0.out.ext y2
    have R1:=HR1.out.ext y2
    have R2:=HR2.out.ext y2
    replace hb:=ext_trans hb y2
    clear hHeld KEEP y1 y2 HR0 HR1 HR2 hbo
    simp only[rndL_len]at hl1 hl2 ⊢
    have HL1:=Lib.hid hl1
    have HL2:=Lib.hid hl2
    have HA1:=Lib.hid fun q (hq:q<s.N)=>rndL_at s ch k hq
    have HA2:=Lib.hid fun q (hq:q<s.N)=>rndL_at s ck k hq
    have HLL1:=Lib.hid (rndL_len s ch k)
    have HLL2:=Lib.hid (rndL_len s ck k)
    obtain ⟨l1,hl1e⟩:∃l,l=rndL s ch k:=⟨_,rfl⟩
    obtain ⟨l2,hl2e⟩:∃l,l=rndL s ck k:=⟨_,rfl⟩
    rw[←hl1e]at HL1 HA1 HLL1
    rw[←hl2e]at HL2 HA2 HLL2
    clear hl1 hl2 hl1e hl2e
    have KM1:=Lib.hid fun W (hW:Below w2.heap.size w2 W)=>KM.out W (ext_trans hb hW) k hlt
    have hmm:=maskW_lt hN (nthX s.ex k).word
    have HOB:Hid (∀q,oblB s k q=(maskW s.N (nthX s.ex k).word).testBit q):=Lib.hid fun q=>rfl
    obtain ⟨m,hm⟩:∃m,m=maskW s.N (nthX s.ex k).word:=⟨_,rfl⟩
    rw[←hm]at KM1 HOB hmm
    clear hm
    go_wp2
    go_loopw [10] (fun i wi=>∃j:Nat,j≤s.N∧i=.int .i64 j∧Below w.heap.size w wi∧Below w2.heap.size w2 wi∧Row wi w.heap.size 35 [.int .i64 s.p.n,.int .i64 s.p.ins,.int .i64 s.p.outs,.slice ca s.p.cs.length cc,.int .i64 s.p.an,.slice sa s.p.st.length sc,.int .i64 s.p.rounds,.int .i64 s.N,.slice ta s.tab.length tc,.slice xa s.ex.length xc]∧Row wi (w.heap.size+1) 38 [.slice a2 ch.length c2]∧Row wi (w.heap.size+1+1) 38 [.slice a3 ck.length c3]∧Hid (soonE s ch ck k j=true)) (fun i _=>s.N - (intOf i).toNat)
    case atStart=>exact ⟨0,Nat.zero_le _,rfl,hb,.refl _ _,R0,R1,R2,Lib.hid rfl⟩
    case round=>
      clear hb R0 R1 R2
      obtain ⟨j,hj,rfl,hb,hb2,R0,R1,R2,HSJ⟩:=hrel
      have t0:=R0.cell (j:=0) rfl
      have t1:=R0.cell (j:=1) rfl
      have t2:=R0.cell (j:=2) rfl
      have t3:=R0.cell (j:=3) rfl
      have t4:=R0.cell (j:=4) rfl
      have t5:=R0.cell (j:=5) rfl
      have t6:=R0.cell (j:=6) rfl
      have t7:=R0.cell (j:=7) rfl
      have t8:=R0.cell (j:=8) rfl
      have t9:=R0.cell (j:=9) rfl
      have l0:=R0.lt
      by_cases hjl:j<s.N
      case neg=>
        obtain rfl:j=s.N:=by omega
        have HT2:Hid (soonTo s ch ck (k+1)=true):=Lib.hid (by rw[soonTo_succ,HT.out,HSJ.out];rfl)
        go_wp2
        go_roundw
        case rel=>exact ⟨k+1,by omega,by go_num,hb,R0,R1,R2,HT2⟩
        case measure=>simp[intOf];omega
      have q1:=HL1.out.idx (show j<l1.length by rw[HLL1.out];exact hjl)
      have q2:=HL2.out.idx (show j<l2.length by rw[HLL2.out];exact hjl)
      have cx:=(HL1.out.ext hb2).cellN (show j<l1.length by rw[HLL1.out];exact hjl)
      have cy:=(HL2.out.ext hb2).cellN (show j<l2.length by rw[HLL2.out];exact hjl)
      rw[HA1.out j hjl]at cx
      rw[HA2.out j hjl]at cy
      have KM2:=Lib.hid fun W (hW:Below wr.heap.size wr W)=>KM1.out W (ext_trans hb2 hW)
      have KH:=Lib.hid fun W=>(has_quiet W hmm (show j≤5 by omega)).mono fun _ _ h=>h.take
      have HBD:Hid (badB s ch ck k j=(m.testBit j&&(decide (0≤rdV s ck k j)&&(decide (rdV s ch k j<0)||decide (rdV s ck k j<rdV s ch k j))))):=Lib.hid (by unfold badB;rw[HOB.out])
      have HBF:=Lib.hid fun h=>HBB.out k j hlt hjl h
      obtain ⟨x,hx⟩:∃x,x=rdV s ch k j:=⟨_,rfl⟩
      obtain ⟨y,hy⟩:∃y,y=rdV s ck k j:=⟨_,rfl⟩
      obtain ⟨bt,hbt⟩:∃bt,bt=m.testBit j:=⟨_,rfl⟩
      rw[←hx]at cx HBD
      rw[←hy]at cy HBD
      rw[←hbt]at KH HBD
      have KEEP:Hid (∀w',Below wr.heap.size wr w'→(fun w':World=>w'.cell? ⟨w.heap.size,0,none⟩=some (.int .i64 s.p.n)∧w'.cell? ⟨w.heap.size,1,none⟩=some (.int .i64 s.p.ins)∧w'.cell? ⟨w.heap.size,2,none⟩=some (.int .i64 s.p.outs)∧w'.cell? ⟨w.heap.size,3,none⟩=some (.slice ca s.p.cs.length cc)∧w'.cell? ⟨w.heap.size,4,none⟩=some (.int .i64 s.p.an)∧w'.cell? ⟨w.heap.size,5,none⟩=some (.slice sa s.p.st.length sc)∧w'.cell? ⟨w.heap.size,6,none⟩=some (.int .i64 s.p.rounds)∧w'.cell? ⟨w.heap.size,7,none⟩=some (.int .i64 s.N)∧w'.cell? ⟨w.heap.size,8,none⟩=some (.slice ta s.tab.length tc)∧w'.cell? ⟨w.heap.size,9,none⟩=some (.slice xa s.ex.length xc)∧w'.cell? (adr la j)=some (.int .i64 x)∧w'.cell? (adr lb j)=some (.int .i64 y)) w'):=Lib.hid fun w' hw=>⟨cell_ext t0 hw,cell_ext t1 hw,cell_ext t2 hw,cell_ext t3 hw,cell_ext t4 hw,cell_ext t5 hw,cell_ext t6 hw,cell_ext t7 hw,cell_ext t8 hw,cell_ext t9 hw,cell_ext cx hw,cell_ext cy hw⟩
      have HR0:=Lib.hid R0
      have HR1:=Lib.hid R1
      have HR2:=Lib.hid R2
      have HB:=Lib.hid hb
      have HW:=Lib.hid hb2
      clear cx cy hx hy hbt R0 R1 R2 hb hb2
      go_wp2
      clear t0 t1 t2 t3 t4 t5 t6 t7 t8 t9 l0
      cases bt with
      | false=>
        have HS5:Hid (soonE s ch ck k (j+1)=true):=Lib.hid (by rw[soonE_succ,HSJ.out,HBD.out];simp[])
        refine region_E (fun w':World=>w'.cell? ⟨w.heap.size,0,none⟩=some (.int .i64 s.p.n)∧w'.cell? ⟨w.heap.size,1,none⟩=some (.int .i64 s.p.ins)∧w'.cell? ⟨w.heap.size,2,none⟩=some (.int .i64 s.p.outs)∧w'.cell? ⟨w.heap.size,3,none⟩=some (.slice ca s.p.cs.length cc)∧w'.cell? ⟨w.heap.size,4,none⟩=some (.int .i64 s.p.an)∧w'.cell? ⟨w.heap.size,5,none⟩=some (.slice sa s.p.st.length sc)∧w'.cell? ⟨w.heap.size,6,none⟩=some (.int .i64 s.p.rounds)∧w'.cell? ⟨w.heap.size,7,none⟩=some (.int .i64 s.N)∧w'.cell? ⟨w.heap.size,8,none⟩=some (.slice ta s.tab.length tc)∧w'.cell? ⟨w.heap.size,9,none⟩=some (.slice xa s.ex.length xc)∧w'.cell? (adr la j)=some (.int .i64 x)∧w'.cell? (adr lb j)=some (.int .i64 y)) (fun i=>false) (by kernel_rfl) ?_ (fun hHeld=>?_)
        · exact KEEP.out _ (drewN_below _ _ 1)
        refine anyE_take 1 (v:=?_) rfl (by kernel_rfl) (fun _ _ _ h=>h) (by rfl) ?hy1a hHeld ?rest1a
        case hy1a=>(intro w hSw;(try dsimp only at hSw);go_simp;try with_reducible rfl)
        try simp only[Act.put,zsa,zsz,zss]
        refine anyE_take 3 (v:=?_) rfl (by kernel_rfl) (fun _ _ _ h=>h) (by rfl) ?hy3a hHeld ?rest3a
        case hy3a=>(intro w hSw;(try dsimp only at hSw);go_simp;try with_reducible rfl)
        try simp only[Act.put,zsa,zsz,zss]
        refine anyE_take 0 (v:=?_) rfl (by kernel_rfl) (fun _ _ _ h=>h) (by rfl) ?hy0a hHeld ?rest0a
        case hy0a=>(intro w hSw;(try dsimp only at hSw);go_simp;try with_reducible rfl)
        try simp only[Act.put,zsa,zsz,zss]
        refine anyE_one 2 rfl (by kernel_rfl) (fun K hK=>?_)
        (go_simp;go_at_call 91;refine (KM2.out _ (drewN_below _ _ 1)).mono ?_;rintro _ w4 ⟨_,rfl,hb4,rfl⟩;have y4:=ext_trans (drewN_below _ _ 1) hb4;clear hb4)
        refine hK.out _ _ (fun _=>KEEP.out _ y4) (fun hHeld=>?_);replace hHeld:=hHeld rfl
        clear hK K
        try simp only[Act.put,zsa,zsz,zss]
        refine anyE_one 4 rfl (by kernel_rfl) (fun K hK=>?_)
        (go_simp;go_at_call 90;refine (KH.out w4).mono ?_;rintro _ w5 ⟨_,rfl,hq5,rfl⟩;have y5:=ext_trans y4 hq5.ext;clear hq5)
        refine hK.out _ _ (fun _=>KEEP.out _ y5) (fun hHeld=>?_);replace hHeld:=hHeld rfl
        clear hK K
        try simp only[Act.put,zsa,zsz,zss]
        refine anyE_take 5 (v:=?_) rfl (by kernel_rfl) (fun _ _ _ h=>h) (by rfl) ?hy5a hHeld ?rest5a
        case hy5a=>(intro w hSw;(try dsimp only at hSw);go_simp;try with_reducible rfl)
        try simp only[Act.put,zsa,zsz,zss]
        refine anyE_skip 6 rfl (by kernel_rfl) (fun _ _ _ h=>h) (by rfl) hHeld ?_
        try simp only[Act.put,zsa,zsz,zss]
        refine anyE_skip 7 rfl (by kernel_rfl) (fun _ _ _ h=>h) (by rfl) hHeld ?_
        try simp only[Act.put,zsa,zsz,zss]
        refine anyE_skip 8 rfl (by kernel_rfl) (fun _ _ _ h=>h) (by rfl) hHeld ?_
        try simp only[Act.put,zsa,zsz,zss]
        refine anyE_skip 9 rfl (by kernel_rfl) (fun _ _ _ h=>h) (by rfl) hHeld ?_
        try simp only[Act.put,zsa,zsz,zss]
        refine anyE_skip 10 rfl (by kernel_rfl) (fun _ _ _ h=>h) (by rfl) hHeld ?_
        try simp only[Act.put,zsa,zsz,zss]
        refine anyE_take 11 (v:=?_) rfl (by kernel_rfl) (fun _ _ _ h=>h) (by rfl) ?hy11a hHeld ?rest11a
        case hy11a=>(intro w hSw;(try dsimp only at hSw);go_simp;try with_reducible rfl)
        try simp only[Act.put,zsa,zsz,zss]
        refine anyE_take 12 (v:=?_) rfl (by kernel_rfl) (fun _ _ _ h=>h) (by rfl) ?hy12a hHeld ?rest12a
        case hy12a=>(intro w hSw;(try dsimp only at hSw);go_simp;try with_reducible rfl)
        try simp only[Act.put,zsa,zsz,zss]
        refine anyE_skip 13 rfl (by kernel_rfl) (fun _ _ _ h=>h) (by rfl) hHeld ?_
        try simp only[Act.put,zsa,zsz,zss]
        refine anyE_skip 14 rfl (by kernel_rfl) (fun _ _ _ h=>h) (by rfl) hHeld ?_
        try simp only[Act.put,zsa,zsz,zss]
        refine anyE_skip 15 rfl (by kernel_rfl) (fun _ _ _ h=>h) (by rfl) hHeld ?_
        try simp only[Act.put,zsa,zsz,zss]
        refine anyE_skip 16 rfl (by kernel_rfl) (fun _ _ _ h=>h) (by rfl) hHeld ?_
        try simp only[Act.put,zsa,zsz,zss]
        refine anyE_skip 17 rfl (by kernel_rfl) (fun _ _ _ h=>h) (by rfl) hHeld ?_
        try simp only[Act.put,zsa,zsz,zss]
        refine anyE_skip 18 rfl (by kernel_rfl) (fun _ _ _ h=>h) (by rfl) hHeld ?_
        try simp only[Act.put,zsa,zsz,zss]
        refine anyE_skip 19 rfl (by kernel_rfl) (fun _ _ _ h=>h) (by rfl) hHeld ?_
        try simp only[Act.put,zsa,zsz,zss]
        refine anyE_skip 20 rfl (by kernel_rfl) (fun _ _ _ h=>h) (by rfl) hHeld ?_
        try simp only[Act.put,zsa,zsz,zss]
        refine anyE_skip 21 rfl (by kernel_rfl) (fun _ _ _ h=>h) (by rfl) hHeld ?_
        try simp only[Act.put,zsa,zsz,zss]
        refine anyE_skip 22 rfl (by kernel_rfl) (fun _ _ _ h=>h) (by rfl) hHeld ?_
        try simp only[Act.put,zsa,zsz,zss]
        refine anyE_skip 23 rfl (by kernel_rfl) (fun _ _ _ h=>h) (by rfl) hHeld ?_
        try simp only[Act.put,zsa,zsz,zss]
        refine anyE_skip 24 rfl (by kernel_rfl) (fun _ _ _ h=>h) (by rfl) hHeld ?_
        try simp only[Act.put,zsa,zsz,zss]
        refine anyE_skip 25 rfl (by kernel_rfl) (fun _ _ _ h=>h) (by rfl) hHeld ?_
        try simp only[Act.put,zsa,zsz,zss]
        refine anyE_skip 26 rfl (by kernel_rfl) (fun _ _ _ h=>h) (by rfl) hHeld ?_
        try simp only[Act.put,zsa,zsz,zss]
        refine anyE_skip 27 rfl (by kernel_rfl) (fun _ _ _ h=>h) (by rfl) hHeld ?_
        try simp only[Act.put,zsa,zsz,zss]
        refine anyE_skip 28 rfl (by kernel_rfl) (fun _ _ _ h=>h) (by rfl) hHeld ?_
        try simp only[Act.put,zsa,zsz,zss]
        refine anyE_take 29 (v:=?_) rfl (by kernel_rfl) (fun _ _ _ h=>h) (by rfl) ?hy29a hHeld ?rest29a
        case hy29a=>(intro w hSw;(try dsimp only at hSw);go_simp;try with_reducible rfl)
        try simp only[Act.put,zsa,zsz,zss]
        refine anyE_done (by kernel_rfl) ?_ _
        have R05:=HR0.out.ext y5
        have R15:=HR1.out.ext y5
        have R25:=HR2.out.ext y5
        have hb5:=ext_trans HB.out y5
        have hw5:=ext_trans HW.out y5
        clear hHeld KEEP KM2 KH y4 y5 HR0 HR1 HR2 HB HW
        go_wp2
        go_roundw
        case rel=>exact ⟨j+1,by omega,by go_num,hb5,hw5,R05,R15,R25,HS5⟩
        case measure=>simp[intOf];omega
      | true=>
        by_cases hy0:0≤y
        case neg=>
          have d1:decide (0≤y)=false:=decide_eq_false hy0
          have HS5:Hid (soonE s ch ck k (j+1)=true):=Lib.hid (by rw[soonE_succ,HSJ.out,HBD.out];simp[d1])
          clear hy0
          refine region_E (fun w':World=>w'.cell? ⟨w.heap.size,0,none⟩=some (.int .i64 s.p.n)∧w'.cell? ⟨w.heap.size,1,none⟩=some (.int .i64 s.p.ins)∧w'.cell? ⟨w.heap.size,2,none⟩=some (.int .i64 s.p.outs)∧w'.cell? ⟨w.heap.size,3,none⟩=some (.slice ca s.p.cs.length cc)∧w'.cell? ⟨w.heap.size,4,none⟩=some (.int .i64 s.p.an)∧w'.cell? ⟨w.heap.size,5,none⟩=some (.slice sa s.p.st.length sc)∧w'.cell? ⟨w.heap.size,6,none⟩=some (.int .i64 s.p.rounds)∧w'.cell? ⟨w.heap.size,7,none⟩=some (.int .i64 s.N)∧w'.cell? ⟨w.heap.size,8,none⟩=some (.slice ta s.tab.length tc)∧w'.cell? ⟨w.heap.size,9,none⟩=some (.slice xa s.ex.length xc)∧w'.cell? (adr la j)=some (.int .i64 x)∧w'.cell? (adr lb j)=some (.int .i64 y)) (fun i=>false) (by kernel_rfl) ?_ (fun hHeld=>?_)
          · exact KEEP.out _ (drewN_below _ _ 1)
          refine anyE_take 1 (v:=?_) rfl (by kernel_rfl) (fun _ _ _ h=>h) (by rfl) ?hy1b hHeld ?rest1b
          case hy1b=>(intro w hSw;(try dsimp only at hSw);go_simp;try with_reducible rfl)
          try simp only[Act.put,zsa,zsz,zss]
          refine anyE_take 3 (v:=?_) rfl (by kernel_rfl) (fun _ _ _ h=>h) (by rfl) ?hy3b hHeld ?rest3b
          case hy3b=>(intro w hSw;(try dsimp only at hSw);go_simp;try with_reducible rfl)
          try simp only[Act.put,zsa,zsz,zss]
          refine anyE_take 0 (v:=?_) rfl (by kernel_rfl) (fun _ _ _ h=>h) (by rfl) ?hy0b hHeld ?rest0b
          case hy0b=>(intro w hSw;(try dsimp only at hSw);go_simp;try with_reducible rfl)
          try simp only[Act.put,zsa,zsz,zss]
          refine anyE_one 2 rfl (by kernel_rfl) (fun K hK=>?_)
          (go_simp;go_at_call 91;refine (KM2.out _ (drewN_below _ _ 1)).mono ?_;rintro _ w4 ⟨_,rfl,hb4,rfl⟩;have y4:=ext_trans (drewN_below _ _ 1) hb4;clear hb4)
          refine hK.out _ _ (fun _=>KEEP.out _ y4) (fun hHeld=>?_);replace hHeld:=hHeld rfl
          clear hK K
          try simp only[Act.put,zsa,zsz,zss]
          refine anyE_one 4 rfl (by kernel_rfl) (fun K hK=>?_)
          (go_simp;go_at_call 90;refine (KH.out w4).mono ?_;rintro _ w5 ⟨_,rfl,hq5,rfl⟩;have y5:=ext_trans y4 hq5.ext;clear hq5)
          refine hK.out _ _ (fun _=>KEEP.out _ y5) (fun hHeld=>?_);replace hHeld:=hHeld rfl
          clear hK K
          try simp only[Act.put,zsa,zsz,zss]
          refine anyE_take 5 (v:=?_) rfl (by kernel_rfl) (fun _ _ _ h=>h) (by rfl) ?hy5b hHeld ?rest5b
          case hy5b=>(intro w hSw;(try dsimp only at hSw);go_simp;try with_reducible rfl)
          try simp only[Act.put,zsa,zsz,zss]
          refine anyE_take 6 (v:=?_) rfl (by kernel_rfl) (fun _ _ _ h=>h) (by rfl) ?hy6b hHeld ?rest6b
          case hy6b=>(intro w hSw;(try dsimp only at hSw);go_simp;try with_reducible rfl)
          try simp only[Act.put,zsa,zsz,zss]
          refine anyE_take 7 (v:=?_) rfl (by kernel_rfl) (fun _ _ _ h=>h) (by rfl) ?hy7b hHeld ?rest7b
          case hy7b=>(intro w hSw;(try dsimp only at hSw);go_simp;try with_reducible rfl)
          try simp only[Act.put,zsa,zsz,zss]
          refine anyE_take 8 (v:=?_) rfl (by kernel_rfl) (fun _ _ _ h=>h) (by rfl) ?hy8b hHeld ?rest8b
          case hy8b=>(intro w hSw;(try dsimp only at hSw);go_simp;try with_reducible rfl)
          try simp only[Act.put,zsa,zsz,zss]
          refine anyE_take 9 (v:=?_) rfl (by kernel_rfl) (fun _ _ _ h=>h) (by rfl) ?hy9b hHeld ?rest9b
          case hy9b=>(intro w hSw;(try dsimp only at hSw);go_simp;try with_reducible rfl)
          try simp only[Act.put,zsa,zsz,zss]
          refine anyE_take 10 (v:=?_) rfl (by kernel_rfl) (fun _ _ _ h=>h) (by rfl) ?hy10b hHeld ?rest10b
          case hy10b=>(intro w hSw;(try dsimp only at hSw);go_simp;try with_reducible rfl)
          try simp only[Act.put,zsa,zsz,zss]
          refine anyE_take 11 (v:=?_) rfl (by kernel_rfl) (fun _ _ _ h=>h) (by rfl) ?hy11b hHeld ?rest11b
          case hy11b=>(intro w hSw;(try dsimp only at hSw);go_simp;try with_reducible rfl)
          try simp only[Act.put,zsa,zsz,zss]
          refine anyE_take 12 (v:=?_) rfl (by kernel_rfl) (fun _ _ _ h=>h) (by rfl) ?hy12b hHeld ?rest12b
          case hy12b=>(intro w hSw;(try dsimp only at hSw);go_simp;try with_reducible rfl)
          try simp only[Act.put,zsa,zsz,zss]
          refine anyE_skip 13 rfl (by kernel_rfl) (fun _ _ _ h=>h) (by rfl) hHeld ?_
          try simp only[Act.put,zsa,zsz,zss]
          refine anyE_skip 14 rfl (by kernel_rfl) (fun _ _ _ h=>h) (by rfl) hHeld ?_
          try simp only[Act.put,zsa,zsz,zss]
          refine anyE_skip 15 rfl (by kernel_rfl) (fun _ _ _ h=>h) (by rfl) hHeld ?_
          try simp only[Act.put,zsa,zsz,zss]
          refine anyE_skip 16 rfl (by kernel_rfl) (fun _ _ _ h=>h) (by rfl) hHeld ?_
          try simp only[Act.put,zsa,zsz,zss]
          refine anyE_skip 17 rfl (by kernel_rfl) (fun _ _ _ h=>h) (by rfl) hHeld ?_
          try simp only[Act.put,zsa,zsz,zss]
          refine anyE_skip 18 rfl (by kernel_rfl) (fun _ _ _ h=>h) (by rfl) hHeld ?_
          try simp only[Act.put,zsa,zsz,zss]
          refine anyE_skip 19 rfl (by kernel_rfl) (fun _ _ _ h=>h) (by rfl) hHeld ?_
          try simp only[Act.put,zsa,zsz,zss]
          refine anyE_skip 20 rfl (by kernel_rfl) (fun _ _ _ h=>h) (by rfl) hHeld ?_
          try simp only[Act.put,zsa,zsz,zss]
          refine anyE_skip 21 rfl (by kernel_rfl) (fun _ _ _ h=>h) (by rfl) hHeld ?_
          try simp only[Act.put,zsa,zsz,zss]
          refine anyE_skip 22 rfl (by kernel_rfl) (fun _ _ _ h=>h) (by rfl) hHeld ?_
          try simp only[Act.put,zsa,zsz,zss]
          refine anyE_skip 23 rfl (by kernel_rfl) (fun _ _ _ h=>h) (by rfl) hHeld ?_
          try simp only[Act.put,zsa,zsz,zss]
          refine anyE_skip 24 rfl (by kernel_rfl) (fun _ _ _ h=>h) (by rfl) hHeld ?_
          try simp only[Act.put,zsa,zsz,zss]
          refine anyE_skip 25 rfl (by kernel_rfl) (fun _ _ _ h=>h) (by rfl) hHeld ?_
          try simp only[Act.put,zsa,zsz,zss]
          refine anyE_skip 26 rfl (by kernel_rfl) (fun _ _ _ h=>h) (by rfl) hHeld ?_
          try simp only[Act.put,zsa,zsz,zss]
          refine anyE_skip 27 rfl (by kernel_rfl) (fun _ _ _ h=>h) (by rfl) hHeld ?_
          try simp only[Act.put,zsa,zsz,zss]
          refine anyE_skip 28 rfl (by kernel_rfl) (fun _ _ _ h=>h) (by rfl) hHeld ?_
          try simp only[Act.put,zsa,zsz,zss]
          refine anyE_take 29 (v:=?_) rfl (by kernel_rfl) (fun _ _ _ h=>h) (by rfl) ?hy29b hHeld ?rest29b
          case hy29b=>(intro w hSw;(try dsimp only at hSw);go_simp;try with_reducible rfl)
          try simp only[Act.put,zsa,zsz,zss]
          refine anyE_done (by kernel_rfl) ?_ _
          have R05:=HR0.out.ext y5
          have R15:=HR1.out.ext y5
          have R25:=HR2.out.ext y5
          have hb5:=ext_trans HB.out y5
          have hw5:=ext_trans HW.out y5
          clear hHeld KEEP KM2 KH y4 y5 HR0 HR1 HR2 HB HW
          go_wp2
          go_roundw
          case rel=>exact ⟨j+1,by omega,by go_num,hb5,hw5,R05,R15,R25,HS5⟩
          case measure=>simp[intOf];omega
        have d1:decide (0≤y)=true:=decide_eq_true hy0
        by_cases hx0:x<0
        · have d2:decide (x<0)=true:=decide_eq_true hx0
          have HR:Hid (sb=false):=Lib.hid (HBF.out (by rw[HBD.out];simp[d1,d2]))
          clear hy0 hx0
          refine region_E (fun w':World=>w'.cell? ⟨w.heap.size,0,none⟩=some (.int .i64 s.p.n)∧w'.cell? ⟨w.heap.size,1,none⟩=some (.int .i64 s.p.ins)∧w'.cell? ⟨w.heap.size,2,none⟩=some (.int .i64 s.p.outs)∧w'.cell? ⟨w.heap.size,3,none⟩=some (.slice ca s.p.cs.length cc)∧w'.cell? ⟨w.heap.size,4,none⟩=some (.int .i64 s.p.an)∧w'.cell? ⟨w.heap.size,5,none⟩=some (.slice sa s.p.st.length sc)∧w'.cell? ⟨w.heap.size,6,none⟩=some (.int .i64 s.p.rounds)∧w'.cell? ⟨w.heap.size,7,none⟩=some (.int .i64 s.N)∧w'.cell? ⟨w.heap.size,8,none⟩=some (.slice ta s.tab.length tc)∧w'.cell? ⟨w.heap.size,9,none⟩=some (.slice xa s.ex.length xc)∧w'.cell? (adr la j)=some (.int .i64 x)∧w'.cell? (adr lb j)=some (.int .i64 y)) (fun i=>false) (by kernel_rfl) ?_ (fun hHeld=>?_)
          · exact KEEP.out _ (drewN_below _ _ 1)
          refine anyE_take 1 (v:=?_) rfl (by kernel_rfl) (fun _ _ _ h=>h) (by rfl) ?hy1c hHeld ?rest1c
          case hy1c=>(intro w hSw;(try dsimp only at hSw);go_simp;try with_reducible rfl)
          try simp only[Act.put,zsa,zsz,zss]
          refine anyE_take 3 (v:=?_) rfl (by kernel_rfl) (fun _ _ _ h=>h) (by rfl) ?hy3c hHeld ?rest3c
          case hy3c=>(intro w hSw;(try dsimp only at hSw);go_simp;try with_reducible rfl)
          try simp only[Act.put,zsa,zsz,zss]
          refine anyE_take 0 (v:=?_) rfl (by kernel_rfl) (fun _ _ _ h=>h) (by rfl) ?hy0c hHeld ?rest0c
          case hy0c=>(intro w hSw;(try dsimp only at hSw);go_simp;try with_reducible rfl)
          try simp only[Act.put,zsa,zsz,zss]
          refine anyE_one 2 rfl (by kernel_rfl) (fun K hK=>?_)
          (go_simp;go_at_call 91;refine (KM2.out _ (drewN_below _ _ 1)).mono ?_;rintro _ w4 ⟨_,rfl,hb4,rfl⟩;have y4:=ext_trans (drewN_below _ _ 1) hb4;clear hb4)
          refine hK.out _ _ (fun _=>KEEP.out _ y4) (fun hHeld=>?_);replace hHeld:=hHeld rfl
          clear hK K
          try simp only[Act.put,zsa,zsz,zss]
          refine anyE_one 4 rfl (by kernel_rfl) (fun K hK=>?_)
          (go_simp;go_at_call 90;refine (KH.out w4).mono ?_;rintro _ w5 ⟨_,rfl,hq5,rfl⟩;have y5:=ext_trans y4 hq5.ext;clear hq5)
          refine hK.out _ _ (fun _=>KEEP.out _ y5) (fun hHeld=>?_);replace hHeld:=hHeld rfl
          clear hK K
          try simp only[Act.put,zsa,zsz,zss]
          refine anyE_take 5 (v:=?_) rfl (by kernel_rfl) (fun _ _ _ h=>h) (by rfl) ?hy5c hHeld ?rest5c
          case hy5c=>(intro w hSw;(try dsimp only at hSw);go_simp;try with_reducible rfl)
          try simp only[Act.put,zsa,zsz,zss]
          refine anyE_take 6 (v:=?_) rfl (by kernel_rfl) (fun _ _ _ h=>h) (by rfl) ?hy6c hHeld ?rest6c
          case hy6c=>(intro w hSw;(try dsimp only at hSw);go_simp;try with_reducible rfl)
          try simp only[Act.put,zsa,zsz,zss]
          refine anyE_take 7 (v:=?_) rfl (by kernel_rfl) (fun _ _ _ h=>h) (by rfl) ?hy7c hHeld ?rest7c
          case hy7c=>(intro w hSw;(try dsimp only at hSw);go_simp;try with_reducible rfl)
          try simp only[Act.put,zsa,zsz,zss]
          refine anyE_take 8 (v:=?_) rfl (by kernel_rfl) (fun _ _ _ h=>h) (by rfl) ?hy8c hHeld ?rest8c
          case hy8c=>(intro w hSw;(try dsimp only at hSw);go_simp;try with_reducible rfl)
          try simp only[Act.put,zsa,zsz,zss]
          refine anyE_take 9 (v:=?_) rfl (by kernel_rfl) (fun _ _ _ h=>h) (by rfl) ?hy9c hHeld ?rest9c
          case hy9c=>(intro w hSw;(try dsimp only at hSw);go_simp;try with_reducible rfl)
          try simp only[Act.put,zsa,zsz,zss]
          refine anyE_take 10 (v:=?_) rfl (by kernel_rfl) (fun _ _ _ h=>h) (by rfl) ?hy10c hHeld ?rest10c
          case hy10c=>(intro w hSw;(try dsimp only at hSw);go_simp;try with_reducible rfl)
          try simp only[Act.put,zsa,zsz,zss]
          refine anyE_take 11 (v:=?_) rfl (by kernel_rfl) (fun _ _ _ h=>h) (by rfl) ?hy11c hHeld ?rest11c
          case hy11c=>(intro w hSw;(try dsimp only at hSw);go_simp;try with_reducible rfl)
          try simp only[Act.put,zsa,zsz,zss]
          refine anyE_take 12 (v:=?_) rfl (by kernel_rfl) (fun _ _ _ h=>h) (by rfl) ?hy12c hHeld ?rest12c
          case hy12c=>(intro w hSw;(try dsimp only at hSw);go_simp;try with_reducible rfl)
          try simp only[Act.put,zsa,zsz,zss]
          refine anyE_take 13 (v:=?_) rfl (by kernel_rfl) (fun _ _ _ h=>h) (by rfl) ?hy13c hHeld ?rest13c
          case hy13c=>(intro w hSw;(try dsimp only at hSw);go_simp;try with_reducible rfl)
          try simp only[Act.put,zsa,zsz,zss]
          refine anyE_take 14 (v:=?_) rfl (by kernel_rfl) (fun _ _ _ h=>h) (by rfl) ?hy14c hHeld ?rest14c
          case hy14c=>(intro w hSw;(try dsimp only at hSw);go_simp;try with_reducible rfl)
          try simp only[Act.put,zsa,zsz,zss]
          refine anyE_take 15 (v:=?_) rfl (by kernel_rfl) (fun _ _ _ h=>h) (by rfl) ?hy15c hHeld ?rest15c
          case hy15c=>(intro w hSw;(try dsimp only at hSw);go_simp;try with_reducible rfl)
          try simp only[Act.put,zsa,zsz,zss]
          refine anyE_take 16 (v:=?_) rfl (by kernel_rfl) (fun _ _ _ h=>h) (by rfl) ?hy16c hHeld ?rest16c
          case hy16c=>(intro w hSw;(try dsimp only at hSw);go_simp;try with_reducible rfl)
          try simp only[Act.put,zsa,zsz,zss]
          refine anyE_take 17 (v:=?_) rfl (by kernel_rfl) (fun _ _ _ h=>h) (by rfl) ?hy17c hHeld ?rest17c
          case hy17c=>(intro w hSw;(try dsimp only at hSw);go_simp;try with_reducible rfl)
          try simp only[Act.put,zsa,zsz,zss]
          refine anyE_take 18 (v:=?_) rfl (by kernel_rfl) (fun _ _ _ h=>h) (by rfl) ?hy18c hHeld ?rest18c
          case hy18c=>(intro w hSw;(try dsimp only at hSw);go_simp;try with_reducible rfl)
          try simp only[Act.put,zsa,zsz,zss]
          refine anyE_skip 19 rfl (by kernel_rfl) (fun _ _ _ h=>h) (by rfl) hHeld ?_
          try simp only[Act.put,zsa,zsz,zss]
          refine anyE_skip 20 rfl (by kernel_rfl) (fun _ _ _ h=>h) (by rfl) hHeld ?_
          try simp only[Act.put,zsa,zsz,zss]
          refine anyE_skip 21 rfl (by kernel_rfl) (fun _ _ _ h=>h) (by rfl) hHeld ?_
          try simp only[Act.put,zsa,zsz,zss]
          refine anyE_skip 22 rfl (by kernel_rfl) (fun _ _ _ h=>h) (by rfl) hHeld ?_
          try simp only[Act.put,zsa,zsz,zss]
          refine anyE_skip 23 rfl (by kernel_rfl) (fun _ _ _ h=>h) (by rfl) hHeld ?_
          try simp only[Act.put,zsa,zsz,zss]
          refine anyE_skip 24 rfl (by kernel_rfl) (fun _ _ _ h=>h) (by rfl) hHeld ?_
          try simp only[Act.put,zsa,zsz,zss]
          refine anyE_skip 25 rfl (by kernel_rfl) (fun _ _ _ h=>h) (by rfl) hHeld ?_
          try simp only[Act.put,zsa,zsz,zss]
          refine anyE_skip 26 rfl (by kernel_rfl) (fun _ _ _ h=>h) (by rfl) hHeld ?_
          try simp only[Act.put,zsa,zsz,zss]
          refine anyE_skip 27 rfl (by kernel_rfl) (fun _ _ _ h=>h) (by rfl) hHeld ?_
          try simp only[Act.put,zsa,zsz,zss]
          refine anyE_take 28 (v:=?_) rfl (by kernel_rfl) (fun _ _ _ h=>h) (by rfl) ?hy28c hHeld ?rest28c
          case hy28c=>(intro w hSw;(try dsimp only at hSw);go_simp;try with_reducible rfl)
          try simp only[Act.put,zsa,zsz,zss]
          refine anyE_take 29 (v:=?_) rfl (by kernel_rfl) (fun _ _ _ h=>h) (by rfl) ?hy29c hHeld ?rest29c
          case hy29c=>(intro w hSw;(try dsimp only at hSw);go_simp;try with_reducible rfl)
          try simp only[Act.put,zsa,zsz,zss]
          refine anyE_done (by kernel_rfl) ?_ _
          have hb5:=Lib.hid (ext_trans HB.out y5)
          clear hHeld KEEP KM2 KH y4 y5 HR0 HR1 HR2 HB HW
          go_wp2
          go_ret
          exact .mk hb5.out (bool_eq HR.out.symm)
        have d2:decide (x<0)=false:=decide_eq_false hx0
        by_cases hxy:y<x
        · have d3:decide (y<x)=true:=decide_eq_true hxy
          have HR:Hid (sb=false):=Lib.hid (HBF.out (by rw[HBD.out];simp[d1,d2,d3]))
          clear hy0 hx0 hxy
          refine region_E (fun w':World=>w'.cell? ⟨w.heap.size,0,none⟩=some (.int .i64 s.p.n)∧w'.cell? ⟨w.heap.size,1,none⟩=some (.int .i64 s.p.ins)∧w'.cell? ⟨w.heap.size,2,none⟩=some (.int .i64 s.p.outs)∧w'.cell? ⟨w.heap.size,3,none⟩=some (.slice ca s.p.cs.length cc)∧w'.cell? ⟨w.heap.size,4,none⟩=some (.int .i64 s.p.an)∧w'.cell? ⟨w.heap.size,5,none⟩=some (.slice sa s.p.st.length sc)∧w'.cell? ⟨w.heap.size,6,none⟩=some (.int .i64 s.p.rounds)∧w'.cell? ⟨w.heap.size,7,none⟩=some (.int .i64 s.N)∧w'.cell? ⟨w.heap.size,8,none⟩=some (.slice ta s.tab.length tc)∧w'.cell? ⟨w.heap.size,9,none⟩=some (.slice xa s.ex.length xc)∧w'.cell? (adr la j)=some (.int .i64 x)∧w'.cell? (adr lb j)=some (.int .i64 y)) (fun i=>false) (by kernel_rfl) ?_ (fun hHeld=>?_)
          · exact KEEP.out _ (drewN_below _ _ 1)
          refine anyE_take 1 (v:=?_) rfl (by kernel_rfl) (fun _ _ _ h=>h) (by rfl) ?hy1d hHeld ?rest1d
          case hy1d=>(intro w hSw;(try dsimp only at hSw);go_simp;try with_reducible rfl)
          try simp only[Act.put,zsa,zsz,zss]
          refine anyE_take 3 (v:=?_) rfl (by kernel_rfl) (fun _ _ _ h=>h) (by rfl) ?hy3d hHeld ?rest3d
          case hy3d=>(intro w hSw;(try dsimp only at hSw);go_simp;try with_reducible rfl)
          try simp only[Act.put,zsa,zsz,zss]
          refine anyE_take 0 (v:=?_) rfl (by kernel_rfl) (fun _ _ _ h=>h) (by rfl) ?hy0d hHeld ?rest0d
          case hy0d=>(intro w hSw;(try dsimp only at hSw);go_simp;try with_reducible rfl)
          try simp only[Act.put,zsa,zsz,zss]
          refine anyE_one 2 rfl (by kernel_rfl) (fun K hK=>?_)
          (go_simp;go_at_call 91;refine (KM2.out _ (drewN_below _ _ 1)).mono ?_;rintro _ w4 ⟨_,rfl,hb4,rfl⟩;have y4:=ext_trans (drewN_below _ _ 1) hb4;clear hb4)
          refine hK.out _ _ (fun _=>KEEP.out _ y4) (fun hHeld=>?_);replace hHeld:=hHeld rfl
          clear hK K
          try simp only[Act.put,zsa,zsz,zss]
          refine anyE_one 4 rfl (by kernel_rfl) (fun K hK=>?_)
          (go_simp;go_at_call 90;refine (KH.out w4).mono ?_;rintro _ w5 ⟨_,rfl,hq5,rfl⟩;have y5:=ext_trans y4 hq5.ext;clear hq5)
          refine hK.out _ _ (fun _=>KEEP.out _ y5) (fun hHeld=>?_);replace hHeld:=hHeld rfl
          clear hK K
          try simp only[Act.put,zsa,zsz,zss]
          refine anyE_take 5 (v:=?_) rfl (by kernel_rfl) (fun _ _ _ h=>h) (by rfl) ?hy5d hHeld ?rest5d
          case hy5d=>(intro w hSw;(try dsimp only at hSw);go_simp;try with_reducible rfl)
          try simp only[Act.put,zsa,zsz,zss]
          refine anyE_take 6 (v:=?_) rfl (by kernel_rfl) (fun _ _ _ h=>h) (by rfl) ?hy6d hHeld ?rest6d
          case hy6d=>(intro w hSw;(try dsimp only at hSw);go_simp;try with_reducible rfl)
          try simp only[Act.put,zsa,zsz,zss]
          refine anyE_take 7 (v:=?_) rfl (by kernel_rfl) (fun _ _ _ h=>h) (by rfl) ?hy7d hHeld ?rest7d
          case hy7d=>(intro w hSw;(try dsimp only at hSw);go_simp;try with_reducible rfl)
          try simp only[Act.put,zsa,zsz,zss]
          refine anyE_take 8 (v:=?_) rfl (by kernel_rfl) (fun _ _ _ h=>h) (by rfl) ?hy8d hHeld ?rest8d
          case hy8d=>(intro w hSw;(try dsimp only at hSw);go_simp;try with_reducible rfl)
          try simp only[Act.put,zsa,zsz,zss]
          refine anyE_take 9 (v:=?_) rfl (by kernel_rfl) (fun _ _ _ h=>h) (by rfl) ?hy9d hHeld ?rest9d
          case hy9d=>(intro w hSw;(try dsimp only at hSw);go_simp;try with_reducible rfl)
          try simp only[Act.put,zsa,zsz,zss]
          refine anyE_take 10 (v:=?_) rfl (by kernel_rfl) (fun _ _ _ h=>h) (by rfl) ?hy10d hHeld ?rest10d
          case hy10d=>(intro w hSw;(try dsimp only at hSw);go_simp;try with_reducible rfl)
          try simp only[Act.put,zsa,zsz,zss]
          refine anyE_take 11 (v:=?_) rfl (by kernel_rfl) (fun _ _ _ h=>h) (by rfl) ?hy11d hHeld ?rest11d
          case hy11d=>(intro w hSw;(try dsimp only at hSw);go_simp;try with_reducible rfl)
          try simp only[Act.put,zsa,zsz,zss]
          refine anyE_take 12 (v:=?_) rfl (by kernel_rfl) (fun _ _ _ h=>h) (by rfl) ?hy12d hHeld ?rest12d
          case hy12d=>(intro w hSw;(try dsimp only at hSw);go_simp;try with_reducible rfl)
          try simp only[Act.put,zsa,zsz,zss]
          refine anyE_take 13 (v:=?_) rfl (by kernel_rfl) (fun _ _ _ h=>h) (by rfl) ?hy13d hHeld ?rest13d
          case hy13d=>(intro w hSw;(try dsimp only at hSw);go_simp;try with_reducible rfl)
          try simp only[Act.put,zsa,zsz,zss]
          refine anyE_take 14 (v:=?_) rfl (by kernel_rfl) (fun _ _ _ h=>h) (by rfl) ?hy14d hHeld ?rest14d
          case hy14d=>(intro w hSw;(try dsimp only at hSw);go_simp;try with_reducible rfl)
          try simp only[Act.put,zsa,zsz,zss]
          refine anyE_take 15 (v:=?_) rfl (by kernel_rfl) (fun _ _ _ h=>h) (by rfl) ?hy15d hHeld ?rest15d
          case hy15d=>(intro w hSw;(try dsimp only at hSw);go_simp;try with_reducible rfl)
          try simp only[Act.put,zsa,zsz,zss]
          refine anyE_take 16 (v:=?_) rfl (by kernel_rfl) (fun _ _ _ h=>h) (by rfl) ?hy16d hHeld ?rest16d
          case hy16d=>(intro w hSw;(try dsimp only at hSw);go_simp;try with_reducible rfl)
          try simp only[Act.put,zsa,zsz,zss]
          refine anyE_take 17 (v:=?_) rfl (by kernel_rfl) (fun _ _ _ h=>h) (by rfl) ?hy17d hHeld ?rest17d
          case hy17d=>(intro w hSw;(try dsimp only at hSw);go_simp;try with_reducible rfl)
          try simp only[Act.put,zsa,zsz,zss]
          refine anyE_take 18 (v:=?_) rfl (by kernel_rfl) (fun _ _ _ h=>h) (by rfl) ?hy18d hHeld ?rest18d
          case hy18d=>(intro w hSw;(try dsimp only at hSw);go_simp;try with_reducible rfl)
          try simp only[Act.put,zsa,zsz,zss]
          refine anyE_take 19 (v:=?_) rfl (by kernel_rfl) (fun _ _ _ h=>h) (by rfl) ?hy19d hHeld ?rest19d
          case hy19d=>(intro w hSw;(try dsimp only at hSw);go_simp;try with_reducible rfl)
          try simp only[Act.put,zsa,zsz,zss]
          refine anyE_take 20 (v:=?_) rfl (by kernel_rfl) (fun _ _ _ h=>h) (by rfl) ?hy20d hHeld ?rest20d
          case hy20d=>(intro w hSw;(try dsimp only at hSw);go_simp;try with_reducible rfl)
          try simp only[Act.put,zsa,zsz,zss]
          refine anyE_take 21 (v:=?_) rfl (by kernel_rfl) (fun _ _ _ h=>h) (by rfl) ?hy21d hHeld ?rest21d
          case hy21d=>(intro w hSw;(try dsimp only at hSw);go_simp;try with_reducible rfl)
          try simp only[Act.put,zsa,zsz,zss]
          refine anyE_take 22 (v:=?_) rfl (by kernel_rfl) (fun _ _ _ h=>h) (by rfl) ?hy22d hHeld ?rest22d
          case hy22d=>(intro w hSw;(try dsimp only at hSw);go_simp;try with_reducible rfl)
          try simp only[Act.put,zsa,zsz,zss]
          refine anyE_take 23 (v:=?_) rfl (by kernel_rfl) (fun _ _ _ h=>h) (by rfl) ?hy23d hHeld ?rest23d
          case hy23d=>(intro w hSw;(try dsimp only at hSw);go_simp;try with_reducible rfl)
          try simp only[Act.put,zsa,zsz,zss]
          refine anyE_take 24 (v:=?_) rfl (by kernel_rfl) (fun _ _ _ h=>h) (by rfl) ?hy24d hHeld ?rest24d
          case hy24d=>(intro w hSw;(try dsimp only at hSw);go_simp;try with_reducible rfl)
          try simp only[Act.put,zsa,zsz,zss]
          refine anyE_take 25 (v:=?_) rfl (by kernel_rfl) (fun _ _ _ h=>h) (by rfl) ?hy25d hHeld ?rest25d
          case hy25d=>(intro w hSw;(try dsimp only at hSw);go_simp;try with_reducible rfl)
          try simp only[Act.put,zsa,zsz,zss]
          refine anyE_take 26 (v:=?_) rfl (by kernel_rfl) (fun _ _ _ h=>h) (by rfl) ?hy26d hHeld ?rest26d
          case hy26d=>(intro w hSw;(try dsimp only at hSw);go_simp;try with_reducible rfl)
          try simp only[Act.put,zsa,zsz,zss]
          refine anyE_take 27 (v:=?_) rfl (by kernel_rfl) (fun _ _ _ h=>h) (by rfl) ?hy27d hHeld ?rest27d
          case hy27d=>(intro w hSw;(try dsimp only at hSw);go_simp;try with_reducible rfl)
          try simp only[Act.put,zsa,zsz,zss]
          refine anyE_take 28 (v:=?_) rfl (by kernel_rfl) (fun _ _ _ h=>h) (by rfl) ?hy28d hHeld ?rest28d
          case hy28d=>(intro w hSw;(try dsimp only at hSw);go_simp;try with_reducible rfl)
          try simp only[Act.put,zsa,zsz,zss]
          refine anyE_take 29 (v:=?_) rfl (by kernel_rfl) (fun _ _ _ h=>h) (by rfl) ?hy29d hHeld ?rest29d
          case hy29d=>(intro w hSw;(try dsimp only at hSw);go_simp;try with_reducible rfl)
          try simp only[Act.put,zsa,zsz,zss]
          refine anyE_done (by kernel_rfl) ?_ _
          have hb5:=Lib.hid (ext_trans HB.out y5)
          clear hHeld KEEP KM2 KH y4 y5 HR0 HR1 HR2 HB HW
          go_wp2
          go_ret
          exact .mk hb5.out (bool_eq HR.out.symm)
        · have d3:decide (y<x)=false:=decide_eq_false hxy
          have HS5:Hid (soonE s ch ck k (j+1)=true):=Lib.hid (by rw[soonE_succ,HSJ.out,HBD.out];simp[d1,d2,d3])
          clear hy0 hx0 hxy
          refine region_E (fun w':World=>w'.cell? ⟨w.heap.size,0,none⟩=some (.int .i64 s.p.n)∧w'.cell? ⟨w.heap.size,1,none⟩=some (.int .i64 s.p.ins)∧w'.cell? ⟨w.heap.size,2,none⟩=some (.int .i64 s.p.outs)∧w'.cell? ⟨w.heap.size,3,none⟩=some (.slice ca s.p.cs.length cc)∧w'.cell? ⟨w.heap.size,4,none⟩=some (.int .i64 s.p.an)∧w'.cell? ⟨w.heap.size,5,none⟩=some (.slice sa s.p.st.length sc)∧w'.cell? ⟨w.heap.size,6,none⟩=some (.int .i64 s.p.rounds)∧w'.cell? ⟨w.heap.size,7,none⟩=some (.int .i64 s.N)∧w'.cell? ⟨w.heap.size,8,none⟩=some (.slice ta s.tab.length tc)∧w'.cell? ⟨w.heap.size,9,none⟩=some (.slice xa s.ex.length xc)∧w'.cell? (adr la j)=some (.int .i64 x)∧w'.cell? (adr lb j)=some (.int .i64 y)) (fun i=>false) (by kernel_rfl) ?_ (fun hHeld=>?_)
          · exact KEEP.out _ (drewN_below _ _ 1)
          refine anyE_take 1 (v:=?_) rfl (by kernel_rfl) (fun _ _ _ h=>h) (by rfl) ?hy1e hHeld ?rest1e
          case hy1e=>(intro w hSw;(try dsimp only at hSw);go_simp;try with_reducible rfl)
          try simp only[Act.put,zsa,zsz,zss]
          refine anyE_take 3 (v:=?_) rfl (by kernel_rfl) (fun _ _ _ h=>h) (by rfl) ?hy3e hHeld ?rest3e
          case hy3e=>(intro w hSw;(try dsimp only at hSw);go_simp;try with_reducible rfl)
          try simp only[Act.put,zsa,zsz,zss]
          refine anyE_take 0 (v:=?_) rfl (by kernel_rfl) (fun _ _ _ h=>h) (by rfl) ?hy0e hHeld ?rest0e
          case hy0e=>(intro w hSw;(try dsimp only at hSw);go_simp;try with_reducible rfl)
          try simp only[Act.put,zsa,zsz,zss]
          refine anyE_one 2 rfl (by kernel_rfl) (fun K hK=>?_)
          (go_simp;go_at_call 91;refine (KM2.out _ (drewN_below _ _ 1)).mono ?_;rintro _ w4 ⟨_,rfl,hb4,rfl⟩;have y4:=ext_trans (drewN_below _ _ 1) hb4;clear hb4)
          refine hK.out _ _ (fun _=>KEEP.out _ y4) (fun hHeld=>?_);replace hHeld:=hHeld rfl
          clear hK K
          try simp only[Act.put,zsa,zsz,zss]
          refine anyE_one 4 rfl (by kernel_rfl) (fun K hK=>?_)
          (go_simp;go_at_call 90;refine (KH.out w4).mono ?_;rintro _ w5 ⟨_,rfl,hq5,rfl⟩;have y5:=ext_trans y4 hq5.ext;clear hq5)
          refine hK.out _ _ (fun _=>KEEP.out _ y5) (fun hHeld=>?_);replace hHeld:=hHeld rfl
          clear hK K
          try simp only[Act.put,zsa,zsz,zss]
          refine anyE_take 5 (v:=?_) rfl (by kernel_rfl) (fun _ _ _ h=>h) (by rfl) ?hy5e hHeld ?rest5e
          case hy5e=>(intro w hSw;(try dsimp only at hSw);go_simp;try with_reducible rfl)
          try simp only[Act.put,zsa,zsz,zss]
          refine anyE_take 6 (v:=?_) rfl (by kernel_rfl) (fun _ _ _ h=>h) (by rfl) ?hy6e hHeld ?rest6e
          case hy6e=>(intro w hSw;(try dsimp only at hSw);go_simp;try with_reducible rfl)
          try simp only[Act.put,zsa,zsz,zss]
          refine anyE_take 7 (v:=?_) rfl (by kernel_rfl) (fun _ _ _ h=>h) (by rfl) ?hy7e hHeld ?rest7e
          case hy7e=>(intro w hSw;(try dsimp only at hSw);go_simp;try with_reducible rfl)
          try simp only[Act.put,zsa,zsz,zss]
          refine anyE_take 8 (v:=?_) rfl (by kernel_rfl) (fun _ _ _ h=>h) (by rfl) ?hy8e hHeld ?rest8e
          case hy8e=>(intro w hSw;(try dsimp only at hSw);go_simp;try with_reducible rfl)
          try simp only[Act.put,zsa,zsz,zss]
          refine anyE_take 9 (v:=?_) rfl (by kernel_rfl) (fun _ _ _ h=>h) (by rfl) ?hy9e hHeld ?rest9e
          case hy9e=>(intro w hSw;(try dsimp only at hSw);go_simp;try with_reducible rfl)
          try simp only[Act.put,zsa,zsz,zss]
          refine anyE_take 10 (v:=?_) rfl (by kernel_rfl) (fun _ _ _ h=>h) (by rfl) ?hy10e hHeld ?rest10e
          case hy10e=>(intro w hSw;(try dsimp only at hSw);go_simp;try with_reducible rfl)
          try simp only[Act.put,zsa,zsz,zss]
          refine anyE_take 11 (v:=?_) rfl (by kernel_rfl) (fun _ _ _ h=>h) (by rfl) ?hy11e hHeld ?rest11e
          case hy11e=>(intro w hSw;(try dsimp only at hSw);go_simp;try with_reducible rfl)
          try simp only[Act.put,zsa,zsz,zss]
          refine anyE_take 12 (v:=?_) rfl (by kernel_rfl) (fun _ _ _ h=>h) (by rfl) ?hy12e hHeld ?rest12e
          case hy12e=>(intro w hSw;(try dsimp only at hSw);go_simp;try with_reducible rfl)
          try simp only[Act.put,zsa,zsz,zss]
          refine anyE_take 13 (v:=?_) rfl (by kernel_rfl) (fun _ _ _ h=>h) (by rfl) ?hy13e hHeld ?rest13e
          case hy13e=>(intro w hSw;(try dsimp only at hSw);go_simp;try with_reducible rfl)
          try simp only[Act.put,zsa,zsz,zss]
          refine anyE_take 14 (v:=?_) rfl (by kernel_rfl) (fun _ _ _ h=>h) (by rfl) ?hy14e hHeld ?rest14e
          case hy14e=>(intro w hSw;(try dsimp only at hSw);go_simp;try with_reducible rfl)
          try simp only[Act.put,zsa,zsz,zss]
          refine anyE_take 15 (v:=?_) rfl (by kernel_rfl) (fun _ _ _ h=>h) (by rfl) ?hy15e hHeld ?rest15e
          case hy15e=>(intro w hSw;(try dsimp only at hSw);go_simp;try with_reducible rfl)
          try simp only[Act.put,zsa,zsz,zss]
          refine anyE_take 16 (v:=?_) rfl (by kernel_rfl) (fun _ _ _ h=>h) (by rfl) ?hy16e hHeld ?rest16e
          case hy16e=>(intro w hSw;(try dsimp only at hSw);go_simp;try with_reducible rfl)
          try simp only[Act.put,zsa,zsz,zss]
          refine anyE_take 17 (v:=?_) rfl (by kernel_rfl) (fun _ _ _ h=>h) (by rfl) ?hy17e hHeld ?rest17e
          case hy17e=>(intro w hSw;(try dsimp only at hSw);go_simp;try with_reducible rfl)
          try simp only[Act.put,zsa,zsz,zss]
          refine anyE_take 18 (v:=?_) rfl (by kernel_rfl) (fun _ _ _ h=>h) (by rfl) ?hy18e hHeld ?rest18e
          case hy18e=>(intro w hSw;(try dsimp only at hSw);go_simp;try with_reducible rfl)
          try simp only[Act.put,zsa,zsz,zss]
          refine anyE_take 19 (v:=?_) rfl (by kernel_rfl) (fun _ _ _ h=>h) (by rfl) ?hy19e hHeld ?rest19e
          case hy19e=>(intro w hSw;(try dsimp only at hSw);go_simp;try with_reducible rfl)
          try simp only[Act.put,zsa,zsz,zss]
          refine anyE_take 20 (v:=?_) rfl (by kernel_rfl) (fun _ _ _ h=>h) (by rfl) ?hy20e hHeld ?rest20e
          case hy20e=>(intro w hSw;(try dsimp only at hSw);go_simp;try with_reducible rfl)
          try simp only[Act.put,zsa,zsz,zss]
          refine anyE_take 21 (v:=?_) rfl (by kernel_rfl) (fun _ _ _ h=>h) (by rfl) ?hy21e hHeld ?rest21e
          case hy21e=>(intro w hSw;(try dsimp only at hSw);go_simp;try with_reducible rfl)
          try simp only[Act.put,zsa,zsz,zss]
          refine anyE_take 22 (v:=?_) rfl (by kernel_rfl) (fun _ _ _ h=>h) (by rfl) ?hy22e hHeld ?rest22e
          case hy22e=>(intro w hSw;(try dsimp only at hSw);go_simp;try with_reducible rfl)
          try simp only[Act.put,zsa,zsz,zss]
          refine anyE_take 23 (v:=?_) rfl (by kernel_rfl) (fun _ _ _ h=>h) (by rfl) ?hy23e hHeld ?rest23e
          case hy23e=>(intro w hSw;(try dsimp only at hSw);go_simp;try with_reducible rfl)
          try simp only[Act.put,zsa,zsz,zss]
          refine anyE_take 24 (v:=?_) rfl (by kernel_rfl) (fun _ _ _ h=>h) (by rfl) ?hy24e hHeld ?rest24e
          case hy24e=>(intro w hSw;(try dsimp only at hSw);go_simp;try with_reducible rfl)
          try simp only[Act.put,zsa,zsz,zss]
          refine anyE_take 25 (v:=?_) rfl (by kernel_rfl) (fun _ _ _ h=>h) (by rfl) ?hy25e hHeld ?rest25e
          case hy25e=>(intro w hSw;(try dsimp only at hSw);go_simp;try with_reducible rfl)
          try simp only[Act.put,zsa,zsz,zss]
          refine anyE_take 26 (v:=?_) rfl (by kernel_rfl) (fun _ _ _ h=>h) (by rfl) ?hy26e hHeld ?rest26e
          case hy26e=>(intro w hSw;(try dsimp only at hSw);go_simp;try with_reducible rfl)
          try simp only[Act.put,zsa,zsz,zss]
          refine anyE_take 27 (v:=?_) rfl (by kernel_rfl) (fun _ _ _ h=>h) (by rfl) ?hy27e hHeld ?rest27e
          case hy27e=>(intro w hSw;(try dsimp only at hSw);go_simp;try with_reducible rfl)
          try simp only[Act.put,zsa,zsz,zss]
          refine anyE_take 28 (v:=?_) rfl (by kernel_rfl) (fun _ _ _ h=>h) (by rfl) ?hy28e hHeld ?rest28e
          case hy28e=>(intro w hSw;(try dsimp only at hSw);go_simp;try with_reducible rfl)
          try simp only[Act.put,zsa,zsz,zss]
          refine anyE_take 29 (v:=?_) rfl (by kernel_rfl) (fun _ _ _ h=>h) (by rfl) ?hy29e hHeld ?rest29e
          case hy29e=>(intro w hSw;(try dsimp only at hSw);go_simp;try with_reducible rfl)
          try simp only[Act.put,zsa,zsz,zss]
          refine anyE_done (by kernel_rfl) ?_ _
          have R05:=HR0.out.ext y5
          have R15:=HR1.out.ext y5
          have R25:=HR2.out.ext y5
          have hb5:=ext_trans HB.out y5
          have hw5:=ext_trans HW.out y5
          clear hHeld KEEP KM2 KH y4 y5 HR0 HR1 HR2 HB HW
          go_wp2
          go_roundw
          case rel=>exact ⟨j+1,by omega,by go_num,hb5,hw5,R05,R15,R25,HS5⟩
          case measure=>simp[intOf];omega
theorem formE_len {s:SysF} {ch:List Int} (h:formE s ch=0):ch.length=s.tab.length:=by
  unfold formE at h
  split at h
  · assumption
  · omega
def earlV (t:Bool×Int):Value:=.tuple #[.bool t.1,.int .i64 t.2]
theorem rEarl_calls {S S2 S3:Nat→Prop} {w:World} {v vch vck:Value} {s:SysF} {ch ck:List Int} (h:SysV S w v s) (hf:SmallP s.p) (h2:Ints S2 w vch ch) (h3:Ints S3 w vck ck):
    Calls Tryz.prog 34 #[v,.agg #[vch],.agg #[vck]] w (Post w fun _ r=>r=earlV (earlT s ch ck)):=by
  have KV:Hid (∀W,Below w.heap.size w W→Calls Tryz.prog 17 #[v,.agg #[vch]] W (Post W fun _ r=>r=.int .i64 (ruleE s ch))):=Lib.hid fun W hW=>rcheck_calls (h.ext hW) hf (h2.ext hW)
  have KF:Hid (ruleE s ch=0→∀W,Below w.heap.size w W→Calls Tryz.prog 46 #[v,.agg #[vck]] W (Post W fun _ r=>r=.int .i64 (formE s ck))):=Lib.hid fun h0 W hW=>rform_calls (h.ext hW) (good_sys (ruleE_ok h0).1 h.moves8).tab (h3.ext hW)
  have KD:Hid (ruleE s ch=0→formE s ck=0→∀W,Below w.heap.size w W→Calls Tryz.prog 69 #[v,.agg #[vch],.agg #[vck]] W (Post W fun _ r=>r=.bool (soonB s ch ck))):=Lib.hid fun h0 h1 W hW=>rsooner_calls (h.ext hW) (good_sys (ruleE_ok h0).1 h.moves8) (h2.ext hW) (ruleE_ok h0).2.1 (h3.ext hW) (formE_len h1)
  obtain ⟨vc,vs,vt,vx,rfl,hc,hs,ht,hx⟩:=h
  obtain ⟨ca,cc,rfl,_⟩:=hc.form
  obtain ⟨sa,sc,rfl,_⟩:=hs.form
  obtain ⟨ta,tc,rfl,_⟩:=ht.form
  obtain ⟨xa,xc,rfl,xad,_⟩:=hx.form2
  obtain ⟨a2,c2,rfl,_⟩:=h2.form
  obtain ⟨a3,c3,rfl,_⟩:=h3.form
  have ex:=ext_alloc' (ext_alloc' (ext_alloc w (.cells #[.int .i64 s.p.n,.int .i64 s.p.ins,.int .i64 s.p.outs,.slice ca s.p.cs.length cc,.int .i64 s.p.an,.slice sa s.p.st.length sc,.int .i64 s.p.rounds,.int .i64 s.tn,.slice ta s.tab.length tc,.slice xa s.ex.length xc] 35)) (.cells #[.slice a2 ch.length c2] 38)) (.cells #[.slice a3 ck.length c3] 38)
  have R0:=((row_new w [.int .i64 s.p.n,.int .i64 s.p.ins,.int .i64 s.p.outs,.slice ca s.p.cs.length cc,.int .i64 s.p.an,.slice sa s.p.st.length sc,.int .i64 s.p.rounds,.int .i64 s.tn,.slice ta s.tab.length tc,.slice xa s.ex.length xc] 35).alloc (.cells #[.slice a2 ch.length c2] 38)).alloc (.cells #[.slice a3 ck.length c3] 38)
  have R1:=(row_new (w.alloc (.cells #[.int .i64 s.p.n,.int .i64 s.p.ins,.int .i64 s.p.outs,.slice ca s.p.cs.length cc,.int .i64 s.p.an,.slice sa s.p.st.length sc,.int .i64 s.p.rounds,.int .i64 s.tn,.slice ta s.tab.length tc,.slice xa s.ex.length xc] 35)) [.slice a2 ch.length c2] 38).alloc (.cells #[.slice a3 ck.length c3] 38)
  have R2:=row_new ((w.alloc (.cells #[.int .i64 s.p.n,.int .i64 s.p.ins,.int .i64 s.p.outs,.slice ca s.p.cs.length cc,.int .i64 s.p.an,.slice sa s.p.st.length sc,.int .i64 s.p.rounds,.int .i64 s.tn,.slice ta s.tab.length tc,.slice xa s.ex.length xc] 35)).alloc (.cells #[.slice a2 ch.length c2] 38)) [.slice a3 ck.length c3] 38
  simp only[World.size_alloc]at R1 R2
  have t0:=R0.cell (j:=0) rfl
  have t1:=R0.cell (j:=1) rfl
  have t2:=R0.cell (j:=2) rfl
  have t3:=R0.cell (j:=3) rfl
  have t4:=R0.cell (j:=4) rfl
  have t5:=R0.cell (j:=5) rfl
  have t6:=R0.cell (j:=6) rfl
  have t7:=R0.cell (j:=7) rfl
  have t8:=R0.cell (j:=8) rfl
  have t9:=R0.cell (j:=9) rfl
  have r1:=R1.cell (j:=0) rfl
  have l1:=R1.lt
  have r2:=R2.cell (j:=0) rfl
  have l2:=R2.lt
  have l0:=R0.lt
  have HD:Hid ((ruleE s ch=0→formE s ck=0→earlT s ch ck=(soonB s ch ck,0))∧(ruleE s ch=0→formE s ck≠0→earlT s ch ck=(false,formE s ck))∧(ruleE s ch≠0→earlT s ch ck=(false,ruleE s ch))):=Lib.hid ⟨fun h h1=>by unfold earlT;rw[if_pos h,if_pos h1],fun h h1=>by unfold earlT;rw[if_pos h,if_neg h1],fun h=>by unfold earlT;rw[if_neg h]⟩
  obtain ⟨mt,hmt⟩:∃x,x=earlT s ch ck:=⟨_,rfl⟩
  obtain ⟨sb,hsb⟩:∃x,x=soonB s ch ck:=⟨_,rfl⟩
  obtain ⟨ve,hve⟩:∃x,x=ruleE s ch:=⟨_,rfl⟩
  obtain ⟨vf,hvf⟩:∃x,x=formE s ck:=⟨_,rfl⟩
  rw[←hmt]at HD ⊢
  rw[←hsb]at HD KD
  rw[←hve]at KV KD KF HD
  rw[←hvf]at KF KD HD
  clear hc hs ht hx h2 h3 hf hve xad hmt hsb hvf
  go_enter Tryz.func34,Tryz.ntmps34
  go_wp2_with fail
  refine (KV.out _ ex).mono ?_
  rintro _ w1 ⟨_,rfl,hb1,rfl⟩
  replace R0:=R0.ext hb1
  replace R1:=R1.ext hb1
  replace R2:=R2.ext hb1
  replace ex:=ext_trans ex hb1
  clear t0 t1 t2 t3 t4 t5 t6 t7 t8 t9 l0 r1 l1 r2 l2 hb1 KV
  by_cases hv0:ve=0
  case neg=>
    have d0:(ve !=0)=true:=by simp[hv0]
    have RE:=Lib.hid (HD.out.2.2 hv0)
    clear hv0
    go_wp2
    go_ret2
    exact .mk ex (by rw[RE.out];rfl)
  have KF2:=KF.out hv0
  have d0:(ve !=0)=false:=by simp[hv0]
  have t0:=R0.cell (j:=0) rfl
  have t1:=R0.cell (j:=1) rfl
  have t2:=R0.cell (j:=2) rfl
  have t3:=R0.cell (j:=3) rfl
  have t4:=R0.cell (j:=4) rfl
  have t5:=R0.cell (j:=5) rfl
  have t6:=R0.cell (j:=6) rfl
  have t7:=R0.cell (j:=7) rfl
  have t8:=R0.cell (j:=8) rfl
  have t9:=R0.cell (j:=9) rfl
  have r1:=R1.cell (j:=0) rfl
  have l1:=R1.lt
  have r2:=R2.cell (j:=0) rfl
  have l2:=R2.lt
  have l0:=R0.lt
  have HV0:=Lib.hid hv0
  clear hv0
  go_wp2_with fail
  refine (KF2 _ ex).mono ?_
  rintro _ w2 ⟨_,rfl,hb2,rfl⟩
  replace R0:=R0.ext hb2
  replace R1:=R1.ext hb2
  replace R2:=R2.ext hb2
  replace ex:=ext_trans ex hb2
  clear t0 t1 t2 t3 t4 t5 t6 t7 t8 t9 l0 r1 l1 r2 l2 hb2 KF2 KF d0
  by_cases hf0:vf=0
  case neg=>
    have d0:(vf !=0)=true:=by simp[hf0]
    have RE:=Lib.hid (HD.out.2.1 HV0.out hf0)
    clear hf0
    go_wp2
    go_ret2
    exact .mk ex (by rw[RE.out];rfl)
  have KD2:=KD.out HV0.out hf0
  have RE:=Lib.hid (HD.out.1 HV0.out hf0)
  have d0:(vf !=0)=false:=by simp[hf0]
  have t0:=R0.cell (j:=0) rfl
  have t1:=R0.cell (j:=1) rfl
  have t2:=R0.cell (j:=2) rfl
  have t3:=R0.cell (j:=3) rfl
  have t4:=R0.cell (j:=4) rfl
  have t5:=R0.cell (j:=5) rfl
  have t6:=R0.cell (j:=6) rfl
  have t7:=R0.cell (j:=7) rfl
  have t8:=R0.cell (j:=8) rfl
  have t9:=R0.cell (j:=9) rfl
  have r1:=R1.cell (j:=0) rfl
  have l1:=R1.lt
  have r2:=R2.cell (j:=0) rfl
  have l2:=R2.lt
  have l0:=R0.lt
  clear hf0
  go_wp2_with fail
  refine (KD2 _ ex).mono ?_
  rintro _ w3 ⟨_,rfl,hb3,rfl⟩
  replace ex:=ext_trans ex hb3
  clear t0 t1 t2 t3 t4 t5 t6 t7 t8 t9 l0 r1 l1 r2 l2 hb3 KD2 KD R0 R1 R2 d0
  go_wp2
  go_ret2
  exact .mk ex (by rw[RE.out];rfl)
end Go.Proofs.YtcopehiceihdaaaGreat
