/- Part of the proof that the laws of chapter 45 answer true for every input. -/
import Derived.Test.YtcopehiceihdaaaGreatPCc35
set_option linter.unusedSimpArgs false
set_option linter.unnecessarySimpa false
set_option linter.unusedVariables false
set_option maxRecDepth 100000
set_option maxHeartbeats 40000000
namespace Go.Proofs.YtcopehiceihdaaaGreat
open Go.RowKit
attribute [local go_sem ↓] Go.wp_at_zero Go.wp_at_succ
def valsL (ch l:List Int):List Int:=l.map fun x=>nth ch x.toNat
theorem valsL_len (ch l:List Int):(valsL ch l).length=l.length:=by simp[valsL]
theorem valsL_succ {ch l:List Int} {k:Nat} (hk:k<l.length):valsL ch (l.take (k+1))=valsL ch (l.take k)++[nth ch (nth l k).toNat]:=by unfold valsL;rw[take_nth hk,List.map_append];rfl
theorem valsL_wf {ch l:List Int} (h:∀x∈ch,WF x):∀x∈valsL ch l,WF x:=fun x hx=>by
  obtain ⟨y,_,rfl⟩:=List.mem_map.1 hx
  exact nth_wf h _
def finL (s:SysF) (e:Nat):List Int:=nthL (nthX s.ex e).vs s.K
theorem GoodS.rndK {s:SysF} {N K:Nat} (h:GoodS s N K):K=s.K:=by unfold SysF.K;rw[h.rnd];exact (Int.toNat_natCast K).symm
theorem GoodS.nN {s:SysF} {N K:Nat} (h:GoodS s N K):N=s.N:=by unfold SysF.N;rw[h.pok.n];exact (Int.toNat_natCast N).symm
theorem GoodS.fin {s:SysF} {N K:Nat} (h:GoodS s N K) {e:Nat} (he:e<s.ex.length):(finL s e).length=N∧∀q,q<N→∃z:Nat,nth (finL s e) q=z∧z<s.tab.length:=by
  unfold finL
  rw[←h.rndK]
  obtain ⟨c,hc⟩:=h.ex e he
  exact ⟨hc.rows K (Nat.le_refl _),fun q hq=>by obtain ⟨v,h1,h2,_⟩:=h.view he (Nat.le_refl K) hq;exact ⟨v,h2,h1⟩⟩
theorem rlast_calls {S S2:Nat→Prop} {w:World} {v vch:Value} {s:SysF} {N K e:Nat} {ch:List Int} (h:SysV S w v s) (hg:GoodS s N K) (h2:Ints S2 w vch ch) (hcl:ch.length=s.tab.length) (he:e<s.ex.length):
    Calls Tryz.prog 67 #[v,.agg #[vch],.int .i64 e] w (Post w fun w' r=>Ints (fun b=>w.heap.size≤b) w' r (valsL ch (finL s e))):=by
  have KF:Hid (∀W,Below w.heap.size w W→Calls Tryz.prog 98 #[v,.int .i64 e] W (Post W fun w' r=>Ints S w' r (finL s e))):=Lib.hid fun W hW=>by unfold finL;rw[←hg.rndK];exact rfinal_calls (h.ext hW) hg he
  obtain ⟨hfl,hfe⟩:=hg.fin he
  have HFE:=Lib.hid hfe
  have hN:=hg.pok.n1.2
  obtain ⟨vc,vs,vt,vx,rfl,hc,hs,ht,hx⟩:=h
  obtain ⟨ca,cc,rfl,_⟩:=hc.form
  obtain ⟨sa,sc,rfl,_⟩:=hs.form
  obtain ⟨ta,tc,rfl,_⟩:=ht.form
  obtain ⟨xa,xc,rfl,xad,_⟩:=hx.form2
  obtain ⟨a2,c2,rfl,_⟩:=h2.form
  have H2:=Lib.hid h2
  have HCL:=Lib.hid hcl
  have HWF:=Lib.hid (valsL_wf (l:=finL s e) h2.wf)
  have ex:=ext_alloc' (ext_alloc w (.cells #[.int .i64 s.p.n,.int .i64 s.p.ins,.int .i64 s.p.outs,.slice ca s.p.cs.length cc,.int .i64 s.p.an,.slice sa s.p.st.length sc,.int .i64 s.p.rounds,.int .i64 s.tn,.slice ta s.tab.length tc,.slice xa s.ex.length xc] 35)) (.cells #[.slice a2 ch.length c2] 38)
  have R0:=(row_new w [.int .i64 s.p.n,.int .i64 s.p.ins,.int .i64 s.p.outs,.slice ca s.p.cs.length cc,.int .i64 s.p.an,.slice sa s.p.st.length sc,.int .i64 s.p.rounds,.int .i64 s.tn,.slice ta s.tab.length tc,.slice xa s.ex.length xc] 35).alloc (.cells #[.slice a2 ch.length c2] 38)
  have R1:=row_new (w.alloc (.cells #[.int .i64 s.p.n,.int .i64 s.p.ins,.int .i64 s.p.outs,.slice ca s.p.cs.length cc,.int .i64 s.p.an,.slice sa s.p.st.length sc,.int .i64 s.p.rounds,.int .i64 s.tn,.slice ta s.tab.length tc,.slice xa s.ex.length xc] 35)) [.slice a2 ch.length c2] 38
  rw[World.size_alloc]at R1
  have t0:=R0.cell (j:=0) rfl
  have t1:=R0.cell (j:=1) rfl
  have t2:=R0.cell (j:=2) rfl
  have t3:=R0.cell (j:=3) rfl
  have t4:=R0.cell (j:=4) rfl
  have t5:=R0.cell (j:=5) rfl
  have t6:=R0.cell (j:=6) rfl
  have t7:=R0.cell (j:=7) rfl
  have t8:=R0.cell (j:=8) rfl
  have t9:=R0.cell (j:=9) rfl
  have l0:=R0.lt
  obtain ⟨l,hl⟩:∃l,l=finL s e:=⟨_,rfl⟩
  rw[←hl]at KF hfl HFE HWF ⊢
  clear hc hs ht hx h2 hg hfe hl hcl he xad
  have HLN:=Lib.hid hfl
  go_enter Tryz.func67,Tryz.ntmps67
  go_wp2_with fail
  refine (KF.out _ ex).mono ?_
  rintro _ w1 ⟨vf,rfl,hb1,hfin⟩
  replace R0:=R0.ext hb1
  replace R1:=R1.ext hb1
  replace ex:=ext_trans ex hb1
  obtain ⟨fa,fc,rfl,_⟩:=hfin.form
  have HFI:=Lib.hid hfin
  have hw1:=R1.lt
  have hll:l.length≤5:=by omega
  clear t0 t1 t2 t3 t4 t5 t6 t7 t8 t9 l0 hb1 hfin KF hfl R0
  go_wp2
  go_loopw [7,9] (fun o i wr=>∃(k:Nat) (oa:Option Addr) (oc:Nat),k≤l.length∧i=.int .i64 k∧o=.slice oa k oc∧Below w.heap.size w wr∧Below w1.heap.size w1 wr∧Row wr (w.heap.size+1) 38 [.slice a2 ch.length c2]∧Hid (wr.ownsRow w1.heap.size 3 1 (.slice oa k oc) k ((valsL ch (l.take k)).map (Value.int .i64)))) (fun _ i _=>l.length - (intOf i).toNat)
  case atStart=>exact ⟨0,none,0,Nat.zero_le _,rfl,rfl,ex,.refl _ _,R1,Lib.hid (World.ownsRow_nil _ _ _ _)⟩
  case round=>
    clear ex R1
    obtain ⟨k,oa,oc,hk,rfl,rfl,hb,hb1,R1,HO⟩:=hrel
    by_cases hlt:k<l.length
    case neg=>
      obtain rfl:k=l.length:=by omega
      rw[List.take_length]at HO
      have HI:=Lib.hid ((Ints.of_own HO.out HWF.out).mono (S':=fun b=>w.heap.size≤b) fun b hb=>by omega)
      go_wp2
      go_ret
      exact .mk hb HI.out
    obtain ⟨z,hz,hzl⟩:=HFE.out k (by have:=HLN.out;omega)
    have hzc:z<ch.length:=by have:=HCL.out;omega
    have q1:=HFI.out.idx hlt
    have q2:=H2.out.idx hzc
    have clk:=(HFI.out.ext hb1).cellN hlt
    have HP:=Lib.hid (valsL_succ (ch:=ch) hlt)
    rw[hz,Int.toNat_natCast]at HP
    rw[hz]at clk
    have cck:=(H2.out.ext hb).cellN hzc
    have hbk:=World.block_lt_of_cell? _ _ clk
    have hbk2:=World.block_lt_of_cell? _ _ cck
    have hbk3:=World.block_lt_of_cell? _ _ (HFI.out.cellN hlt)
    have hbk4:=World.block_lt_of_cell? _ _ (H2.out.cellN hzc)
    obtain ⟨x,hx⟩:∃x,x=nth ch z:=⟨_,rfl⟩
    rw[←hx]at HP cck
    have r1:=R1.cell (j:=0) rfl
    have l1:=R1.lt
    have hsz:=hb1.size
    have KEEP:Hid (∀w',Below wr.heap.size wr w'→(fun w':World=>w'.cell? ⟨w.heap.size+1,0,none⟩=some (.slice a2 ch.length c2)∧w'.cell? (adr fa k)=some (.int .i64 z)∧w'.cell? (adr a2 z)=some (.int .i64 x)) w'):=Lib.hid fun w' hw=>⟨cell_ext r1 hw,cell_ext clk hw,cell_ext cck hw⟩
    have K5:Hid (∀(w4 w5:World),Below w1.heap.size w4 w5→(fun w':World=>w'.cell? ⟨w.heap.size+1,0,none⟩=some (.slice a2 ch.length c2)∧w'.cell? (adr fa k)=some (.int .i64 z)∧w'.cell? (adr a2 z)=some (.int .i64 x)) w4→(fun w':World=>w'.cell? ⟨w.heap.size+1,0,none⟩=some (.slice a2 ch.length c2)∧w'.cell? (adr fa k)=some (.int .i64 z)∧w'.cell? (adr a2 z)=some (.int .i64 x)) w5):=Lib.hid fun w4 w5 hw h4=>by
      have hA:Agree (fun b=>b<w1.heap.size) w4 w5:=.of_below hw fun b hb _=>hb
      obtain ⟨h0,h1,h2⟩:=h4
      exact ⟨cell_agree h0 hA hw1,cell_agree h1 hA hbk3,cell_agree h2 hA (by omega)⟩
    have HR1:=Lib.hid R1
    clear hz hx R1
    go_wp2
    refine region_E (fun w':World=>w'.cell? ⟨w.heap.size+1,0,none⟩=some (.slice a2 ch.length c2)∧w'.cell? (adr fa k)=some (.int .i64 z)∧w'.cell? (adr a2 z)=some (.int .i64 x)) (fun i=>false) (by kernel_rfl) ?_ (fun hHeld=>?_)
    · exact KEEP.out _ (drewN_below _ _ 1)
    refine anyE_take 0 (v:=?_) rfl (by kernel_rfl) (fun _ _ _ h=>h) (by rfl) ?hy0 hHeld ?rest0
    case hy0=>(intro w hSw;(try dsimp only at hSw);go_simp;try with_reducible rfl)
    try simp only[Act.put,zsa,zsz,zss]
    refine anyE_take 1 (v:=?_) rfl (by kernel_rfl) (fun _ _ _ h=>h) (by rfl) ?hy1 hHeld ?rest1
    case hy1=>(intro w hSw;(try dsimp only at hSw);go_simp;try with_reducible rfl)
    try simp only[Act.put,zsa,zsz,zss]
    refine anyE_take 2 (v:=?_) rfl (by kernel_rfl) (fun _ _ _ h=>h) (by rfl) ?hy2 hHeld ?rest2
    case hy2=>(intro w hSw;(try dsimp only at hSw);go_simp;try with_reducible rfl)
    try simp only[Act.put,zsa,zsz,zss]
    refine anyE_take 3 (v:=?_) rfl (by kernel_rfl) (fun _ _ _ h=>h) (by rfl) ?hy3 hHeld ?rest3
    case hy3=>(intro w hSw;(try dsimp only at hSw);go_simp;try with_reducible rfl)
    try simp only[Act.put,zsa,zsz,zss]
    refine anyE_take 4 (v:=?_) rfl (by kernel_rfl) (fun _ _ _ h=>h) (by rfl) ?hy4 hHeld ?rest4
    case hy4=>(intro w hSw;(try dsimp only at hSw);go_simp;try with_reducible rfl)
    try simp only[Act.put,zsa,zsz,zss]
    refine anyE_take 5 (v:=?_) rfl (by kernel_rfl) (fun _ _ _ h=>h) (by rfl) ?hy5 hHeld ?rest5
    case hy5=>(intro w hSw;(try dsimp only at hSw);go_simp;try with_reducible rfl)
    try simp only[Act.put,zsa,zsz,zss]
    refine anyE_take 6 (v:=?_) rfl (by kernel_rfl) (fun _ _ _ h=>h) (by rfl) ?hy6 hHeld ?rest6
    case hy6=>(intro w hSw;(try dsimp only at hSw);go_simp;try with_reducible rfl)
    try simp only[Act.put,zsa,zsz,zss]
    refine anyE_take 7 (v:=?_) rfl (by kernel_rfl) (fun _ _ _ h=>h) (by rfl) ?hy7 hHeld ?rest7
    case hy7=>(intro w hSw;(try dsimp only at hSw);go_simp;try with_reducible rfl)
    try simp only[Act.put,zsa,zsz,zss]
    refine anyE_take 8 (v:=?_) rfl (by kernel_rfl) (fun _ _ _ h=>h) (by rfl) ?hy8 hHeld ?rest8
    case hy8=>(intro w hSw;(try dsimp only at hSw);go_simp;try with_reducible rfl)
    try simp only[Act.put,zsa,zsz,zss]
    refine anyE_one 9 rfl (by kernel_rfl) (fun K hK=>?_)
    go_simp
    refine hK.out _ _ (fun _=>KEEP.out _ (ext_alloc' (drewN_below _ _ 1) _)) (fun hHeld=>?_);replace hHeld:=hHeld rfl
    clear hK K
    try simp only[Act.put,zsa,zsz,zss]
    refine anyE_one 10 rfl (by kernel_rfl) (fun K hK=>?_)
    (refine step_appendW (w:=wr.drew.alloc (.cells #[.int .i64 x] 3)) rfl _ _ 36 (by rfl) 3 _ 1 8 Tryz.underlying36 info_int rfl (by decide) w1.heap.size _ k _ (by rfl) (owns_ext HO.out (ext_alloc' (drewN_below _ _ 1) _)) (fun _=>True) (some ⟨wr.drew.heap.size,0,none⟩) 1 1 [.int .i64 x] (by rfl) (.inr ⟨_,0,rfl,by simp,trivial⟩) rfl (one_cell wr.drew x) (by simp[Value.oneCell']) (by omega) (by omega) (by simp;omega) ?_;intro v5 w5 hown5 hbel5 hag5 hat5)
    refine hK.out _ _ (fun _=>K5.out _ _ hbel5 (KEEP.out _ (ext_alloc' (drewN_below _ _ 1) _))) (fun hHeld=>?_);replace hHeld:=hHeld rfl
    clear hK K
    try simp only[Act.put,zsa,zsz,zss]
    refine anyE_take 11 (v:=?_) rfl (by kernel_rfl) (fun _ _ _ h=>h) (by rfl) ?hy11 hHeld ?rest11
    case hy11=>(intro w hSw;(try dsimp only at hSw);go_simp;try with_reducible rfl)
    try simp only[Act.put,zsa,zsz,zss]
    refine anyE_done (by kernel_rfl) ?_ _
    obtain ⟨ga,gc,rfl⟩:=own_form hown5
    have HO5:Hid (w5.ownsRow w1.heap.size 3 1 (.slice ga (k+1) gc) (k+1) ((valsL ch (l.take (k+1))).map (Value.int .i64))):=Lib.hid (by rw[HP.out];simpa using hown5)
    have e4:=ext_alloc' (drewN_below wr.heap.size wr 1) (.cells #[.int .i64 x] 3)
    have R15:=row_under (HR1.out.ext e4) hw1 hbel5
    have hb5:=(ext_trans hb e4).trans (hbel5.mono (show w.heap.size≤w1.heap.size by omega))
    have hb15:=(ext_trans hb1 e4).trans hbel5
    clear hHeld KEEP K5 HR1 hown5 hbel5 hag5 hat5 hb hb1 HO e4
    go_wp2
    go_roundw
    case rel=>exact ⟨k+1,_,_,by omega,by go_num,rfl,hb5,hb15,R15,HO5⟩
    case measure=>simp[intOf];omega
end Go.Proofs.YtcopehiceihdaaaGreat
namespace Go.Proofs.YtcopehiceihdaaaGreat
open Go.RowKit
attribute [local go_sem ↓] Go.wp_at_zero Go.wp_at_succ
theorem pdecs_calls {S S2:Nat→Prop} {w:World} {v vch:Value} {s:SysF} {N K e:Nat} {ch:List Int} (h:SysV S w v s) (hg:GoodS s N K) (h2:Ints S2 w vch ch) (hcl:ch.length=s.tab.length) (he:e<s.ex.length):
    Calls Tryz.prog 49 #[v,.agg #[vch],.int .i64 e] w (Post w fun w' r=>Ints (fun b=>w.heap.size≤b) w' r (valsL ch (finL s e))):=by
  obtain ⟨hfl,hfe⟩:=hg.fin he
  have HFE:=Lib.hid hfe
  have hN:=hg.pok.n1.2
  obtain ⟨vc,vs,vt,vx,rfl,hc,hs,ht,hx⟩:=h
  obtain ⟨ca,cc,rfl,_⟩:=hc.form
  obtain ⟨sa,sc,rfl,_⟩:=hs.form
  obtain ⟨ta,tc,rfl,_⟩:=ht.form
  obtain ⟨xa,xc,rfl,xad,_⟩:=hx.form2
  have q1:=idx_exec xad e he
  obtain ⟨a1,c1,a3,c3,z0,z1,z2,i1,i2⟩:=hx.exec he
  have bk:=World.block_lt_of_cell? _ _ z0
  obtain ⟨c,hX⟩:=hg.ex e he
  have hlen:=hX.len
  have hK8:=hg.K6
  have hK:K<(nthX s.ex e).vs.length:=by omega
  obtain ⟨_,_,hee,ad2,_⟩:=i2.form
  cases hee
  obtain ⟨i0,hi,_,hz1,_⟩:=info_parts info_ints
  have q2:=idx_one Tryz.underlying66 hi hz1 ad2 K hK
  obtain ⟨u,cu,iu⟩:=i2.at (.refl _ _) hK
  obtain ⟨fa,fc,rfl,_⟩:=iu.form
  have bu:=World.block_lt_of_cell? _ _ cu
  have HFI:=Lib.hid iu
  obtain ⟨a2,c2,rfl,_⟩:=h2.form
  have H2:=Lib.hid h2
  have HCL:=Lib.hid hcl
  have HWF:=Lib.hid (valsL_wf (l:=finL s e) h2.wf)
  have ex:=ext_alloc' (ext_alloc w (.cells #[.int .i64 s.p.n,.int .i64 s.p.ins,.int .i64 s.p.outs,.slice ca s.p.cs.length cc,.int .i64 s.p.an,.slice sa s.p.st.length sc,.int .i64 s.p.rounds,.int .i64 s.tn,.slice ta s.tab.length tc,.slice xa s.ex.length xc] 35)) (.cells #[.slice a2 ch.length c2] 38)
  have R0:=(row_new w [.int .i64 s.p.n,.int .i64 s.p.ins,.int .i64 s.p.outs,.slice ca s.p.cs.length cc,.int .i64 s.p.an,.slice sa s.p.st.length sc,.int .i64 s.p.rounds,.int .i64 s.tn,.slice ta s.tab.length tc,.slice xa s.ex.length xc] 35).alloc (.cells #[.slice a2 ch.length c2] 38)
  have R1:=row_new (w.alloc (.cells #[.int .i64 s.p.n,.int .i64 s.p.ins,.int .i64 s.p.outs,.slice ca s.p.cs.length cc,.int .i64 s.p.an,.slice sa s.p.st.length sc,.int .i64 s.p.rounds,.int .i64 s.tn,.slice ta s.tab.length tc,.slice xa s.ex.length xc] 35)) [.slice a2 ch.length c2] 38
  rw[World.size_alloc]at R1
  have hfk:finL s e=nthL (nthX s.ex e).vs K:=by unfold finL;rw[←hg.rndK]
  rw[←hfk]at HFI cu
  obtain ⟨l,hl⟩:∃l,l=finL s e:=⟨_,rfl⟩
  rw[←hl]at hfl HFE HWF HFI cu ⊢
  obtain ⟨L,hL⟩:∃L,L=(nthX s.ex e).vs.length:=⟨_,rfl⟩
  rw[←hL]at z2 q2 hlen hK
  have dL:((L:Int) - 1)=(K:Int):=by omega
  have hLm:(L:Int)≤140737488355328:=by omega
  have z2':=cell_ext z2 ex
  have cu':=cell_ext cu ex
  clear hc hs ht hx h2 hg hfe hl hcl he xad hfk hX i1 i2 z0 z1 z2 cu iu hi hz1 ad2 hL
  have HLN:=Lib.hid hfl
  have hll:l.length≤5:=by omega
  have t9:=R0.cell (j:=9) rfl
  have l0:=R0.lt
  have hlN:L≤8:=by omega
  clear hfl hlen hK R0
  go_enter Tryz.func49,Tryz.ntmps49
  go_wp2
  clear t9 l0 z2' cu' q1 q2 dL hLm bk bu
  obtain ⟨w1,hw1⟩:∃w1,w1=(w.alloc (.cells #[.int .i64 s.p.n,.int .i64 s.p.ins,.int .i64 s.p.outs,.slice ca s.p.cs.length cc,.int .i64 s.p.an,.slice sa s.p.st.length sc,.int .i64 s.p.rounds,.int .i64 s.tn,.slice ta s.tab.length tc,.slice xa s.ex.length xc] 35)).alloc (.cells #[.slice a2 ch.length c2] 38):=⟨_,rfl⟩
  have hws:w1.heap.size=w.heap.size+1+1:=by rw[hw1];simp
  have hbk:=Below.refl w1.heap.size w1
  rw[←hw1]at ex R1 ⊢
  clear hw1
  go_loopw [7,10,24] (fun o _ i wr=>∃(k:Nat) (oa:Option Addr) (oc:Nat),k≤l.length∧i=.int .i64 k∧o=.slice oa k oc∧Below w.heap.size w wr∧Row wr (w.heap.size+1) 38 [.slice a2 ch.length c2]∧Hid (wr.ownsRow (w.heap.size+2) 3 1 (.slice oa k oc) k ((valsL ch (l.take k)).map (Value.int .i64)))) (fun _ _ i _=>l.length - (intOf i).toNat)
  case atStart=>exact ⟨0,none,0,Nat.zero_le _,rfl,rfl,ex,R1,Lib.hid (World.ownsRow_nil _ _ _ _)⟩
  case round=>
    clear ex R1 hbk hws w1
    obtain ⟨k,oa,oc,hk,rfl,rfl,hb,R1,HO⟩:=hrel
    by_cases hlt:k<l.length
    case neg=>
      obtain rfl:k=l.length:=by omega
      rw[List.take_length]at HO
      have HI:=Lib.hid ((Ints.of_own HO.out HWF.out).mono (S':=fun b=>w.heap.size≤b) fun b hb=>by omega)
      go_wp2
      go_ret
      exact .mk hb HI.out
    obtain ⟨z,hz,hzl⟩:=HFE.out k (by have:=HLN.out;omega)
    have hzc:z<ch.length:=by have:=HCL.out;omega
    have q1:=HFI.out.idx hlt
    have q2:=H2.out.idx hzc
    have clk:=(HFI.out.ext hb).cellN hlt
    have HP:=Lib.hid (valsL_succ (ch:=ch) hlt)
    rw[hz,Int.toNat_natCast]at HP
    rw[hz]at clk
    have cck:=(H2.out.ext hb).cellN hzc
    have hbk:=World.block_lt_of_cell? _ _ clk
    have hbk2:=World.block_lt_of_cell? _ _ cck
    obtain ⟨x,hx⟩:∃x,x=nth ch z:=⟨_,rfl⟩
    rw[←hx]at HP cck
    have r1:=R1.cell (j:=0) rfl
    have l1:=R1.lt
    have HR1:=Lib.hid R1
    have hsz:=hb.size
    clear hz hx R1
    go_wp2_with (at_builtin;refine wpList_push rfl (.tmp 28) (.tmp 34) 36 rfl 3 _ 8 Tryz.underlying36 info_int rfl (w.heap.size+2) _ _ _ rfl HO.out (.int .i64 x) rfl rfl (by omega) (by omega) (by omega) ?_;intro g' c' w5 hown5 hbel5 hag5 hat5)
    have HO5:Hid (w5.ownsRow (w.heap.size+2) 3 1 (.slice (some ⟨g',0,none⟩) (k+1) c') (k+1) ((valsL ch (l.take (k+1))).map (Value.int .i64))):=Lib.hid (by rw[HP.out];simpa using hown5)
    have R15:=row_under HR1.out (by omega) hbel5
    have hb5:=hb.trans (hbel5.mono (show w.heap.size≤w.heap.size+2 by omega))
    clear HR1 hown5 hbel5 hag5 hat5 hb HO r1 cck clk
    go_wp2
    go_roundw
    case rel=>exact ⟨k+1,_,_,by omega,by go_num,rfl,hb5,R15,HO5⟩
    case measure=>simp[intOf];omega
theorem SysV.moves8 {S:Nat→Prop} {w:World} {v:Value} {s:SysF} (h:SysV S w v s):Moves8 s.p.st:=by obtain ⟨_,_,_,_,_,_,hs,_⟩:=h;exact moves8_of hs
theorem ruleE_ok {s:SysF} {ch:List Int} (h:ruleE s ch=0):verE s=0∧ch.length=s.tab.length∧formE s ch=0:=by
  unfold ruleE at h
  split at h
  · rename_i h0
    refine ⟨h0,?_,h⟩
    unfold formE at h
    split at h
    · assumption
    · omega
  · rename_i h0;exact absurd h h0
theorem sceneE_ok {s:SysF} {ch:List Int} {e:Int} (h:sceneE s ch e=0):verE s=0∧ch.length=s.tab.length∧0≤e∧e<s.ex.length:=by
  unfold sceneE at h
  split at h
  · rename_i h0
    obtain ⟨h1,h2,_⟩:=ruleE_ok h0
    split at h
    · omega
    · exact ⟨h1,h2,by omega,by omega⟩
  · rename_i h0;exact absurd h h0
def DecR (B:Nat) (s:SysF) (ch:List Int) (e:Int) (w':World) (r:Value):Prop:=(sceneE s ch e=0∧(∃u,r=.tuple #[u,.int .i64 0]∧Ints (fun b=>B≤b) w' u (valsL ch (finL s e.toNat))))∨(sceneE s ch e≠0∧r=.tuple #[.slice none 0 0,.int .i64 (sceneE s ch e)])
theorem pDec_calls {S S2:Nat→Prop} {w:World} {v vch:Value} {s:SysF} {ch:List Int} (e:Int) (h:SysV S w v s) (hf:PFew s.p) (h2:Ints S2 w vch ch):
    Calls Tryz.prog 28 #[v,.agg #[vch],.int .i64 e] w (Post w (DecR w.heap.size s ch e)):=by
  have KV:Hid (∀W,Below w.heap.size w W→Calls Tryz.prog 65 #[v,.agg #[vch],.int .i64 e] W (Post W fun _ r=>r=.int .i64 (sceneE s ch e))):=Lib.hid fun W hW=>pscene_calls e (h.ext hW) hf (h2.ext hW)
  have KD:Hid (sceneE s ch e=0→∀W,Below w.heap.size w W→Calls Tryz.prog 49 #[v,.agg #[vch],.int .i64 e] W (Post W fun w' r=>Ints (fun b=>W.heap.size≤b) w' r (valsL ch (finL s e.toNat)))):=Lib.hid fun h0 W hW=>by
    obtain ⟨j1,j2,j3,j4⟩:=sceneE_ok h0
    obtain ⟨m,rfl⟩:=Int.eq_ofNat_of_zero_le j3
    rw[Int.toNat_natCast]
    exact pdecs_calls (h.ext hW) (good_sys j1 h.moves8) (h2.ext hW) j2 (by omega)
  obtain ⟨vc,vs,vt,vx,rfl,hc,hs,ht,hx⟩:=h
  obtain ⟨ca,cc,rfl,_⟩:=hc.form
  obtain ⟨sa,sc,rfl,_⟩:=hs.form
  obtain ⟨ta,tc,rfl,_⟩:=ht.form
  obtain ⟨xa,xc,rfl,xad,_⟩:=hx.form2
  obtain ⟨a2,c2,rfl,_⟩:=h2.form
  have ex:=ext_alloc' (ext_alloc w (.cells #[.int .i64 s.p.n,.int .i64 s.p.ins,.int .i64 s.p.outs,.slice ca s.p.cs.length cc,.int .i64 s.p.an,.slice sa s.p.st.length sc,.int .i64 s.p.rounds,.int .i64 s.tn,.slice ta s.tab.length tc,.slice xa s.ex.length xc] 35)) (.cells #[.slice a2 ch.length c2] 38)
  have R0:=(row_new w [.int .i64 s.p.n,.int .i64 s.p.ins,.int .i64 s.p.outs,.slice ca s.p.cs.length cc,.int .i64 s.p.an,.slice sa s.p.st.length sc,.int .i64 s.p.rounds,.int .i64 s.tn,.slice ta s.tab.length tc,.slice xa s.ex.length xc] 35).alloc (.cells #[.slice a2 ch.length c2] 38)
  have R1:=row_new (w.alloc (.cells #[.int .i64 s.p.n,.int .i64 s.p.ins,.int .i64 s.p.outs,.slice ca s.p.cs.length cc,.int .i64 s.p.an,.slice sa s.p.st.length sc,.int .i64 s.p.rounds,.int .i64 s.tn,.slice ta s.tab.length tc,.slice xa s.ex.length xc] 35)) [.slice a2 ch.length c2] 38
  rw[World.size_alloc]at R1
  have t0:=R0.cell (j:=0) rfl
  have t1:=R0.cell (j:=1) rfl
  have t2:=R0.cell (j:=2) rfl
  have t3:=R0.cell (j:=3) rfl
  have t4:=R0.cell (j:=4) rfl
  have t5:=R0.cell (j:=5) rfl
  have t6:=R0.cell (j:=6) rfl
  have t7:=R0.cell (j:=7) rfl
  have t8:=R0.cell (j:=8) rfl
  have t9:=R0.cell (j:=9) rfl
  have r1:=R1.cell (j:=0) rfl
  have l1:=R1.lt
  have l0:=R0.lt
  have HD:Hid (∀w' r,(sceneE s ch e=0∧(∃u,r=.tuple #[u,.int .i64 0]∧Ints (fun b=>w.heap.size≤b) w' u (valsL ch (finL s e.toNat))))∨(sceneE s ch e≠0∧r=.tuple #[.slice none 0 0,.int .i64 (sceneE s ch e)])→DecR w.heap.size s ch e w' r):=Lib.hid fun w' r h=>h
  obtain ⟨ve,hve⟩:∃x,x=sceneE s ch e:=⟨_,rfl⟩
  rw[←hve]at KV KD HD
  clear hc hs ht hx h2 hf hve xad
  go_enter Tryz.func28,Tryz.ntmps28
  go_wp2_with fail
  refine (KV.out _ ex).mono ?_
  rintro _ w1 ⟨_,rfl,hb1,rfl⟩
  replace R0:=R0.ext hb1
  replace R1:=R1.ext hb1
  replace ex:=ext_trans ex hb1
  clear t0 t1 t2 t3 t4 t5 t6 t7 t8 t9 l0 r1 l1 hb1 KV
  by_cases hv0:ve=0
  case neg=>
    have d0:(ve !=0)=true:=by simp[hv0]
    have RE:=Lib.hid (HD.out w1 _ (.inr ⟨hv0,rfl⟩))
    clear hv0
    go_wp2
    go_ret2
    exact .mk ex RE.out
  subst hv0
  have KD2:=KD.out rfl
  have d0:((0:Int) !=0)=false:=rfl
  have t0:=R0.cell (j:=0) rfl
  have t1:=R0.cell (j:=1) rfl
  have t2:=R0.cell (j:=2) rfl
  have t3:=R0.cell (j:=3) rfl
  have t4:=R0.cell (j:=4) rfl
  have t5:=R0.cell (j:=5) rfl
  have t6:=R0.cell (j:=6) rfl
  have t7:=R0.cell (j:=7) rfl
  have t8:=R0.cell (j:=8) rfl
  have t9:=R0.cell (j:=9) rfl
  have r1:=R1.cell (j:=0) rfl
  have l1:=R1.lt
  have l0:=R0.lt
  go_wp2_with fail
  refine (KD2 _ ex).mono ?_
  rintro _ w2 ⟨vo,rfl,hb2,ho⟩
  have hs1:=ex.size
  replace ex:=ext_trans ex hb2
  obtain ⟨oa,oc,rfl,_⟩:=ho.form
  have RE:=Lib.hid (HD.out w2 _ (.inl ⟨(by first | exact trivial | rfl),_,rfl,ho.mono (fun b hb=>by omega)⟩))
  clear t0 t1 t2 t3 t4 t5 t6 t7 t8 t9 l0 r1 l1 hb2 ho KD2 KD R0 R1 d0
  go_wp2
  go_ret2
  exact .mk ex RE.out
theorem rDec_calls {S S2:Nat→Prop} {w:World} {v vch:Value} {s:SysF} {ch:List Int} (e:Int) (h:SysV S w v s) (hf:SmallP s.p) (h2:Ints S2 w vch ch):
    Calls Tryz.prog 29 #[v,.agg #[vch],.int .i64 e] w (Post w (DecR w.heap.size s ch e)):=by
  have KV:Hid (∀W,Below w.heap.size w W→Calls Tryz.prog 66 #[v,.agg #[vch],.int .i64 e] W (Post W fun _ r=>r=.int .i64 (sceneE s ch e))):=Lib.hid fun W hW=>rscene_calls e (h.ext hW) hf (h2.ext hW)
  have KD:Hid (sceneE s ch e=0→∀W,Below w.heap.size w W→Calls Tryz.prog 67 #[v,.agg #[vch],.int .i64 e] W (Post W fun w' r=>Ints (fun b=>W.heap.size≤b) w' r (valsL ch (finL s e.toNat)))):=Lib.hid fun h0 W hW=>by
    obtain ⟨j1,j2,j3,j4⟩:=sceneE_ok h0
    obtain ⟨m,rfl⟩:=Int.eq_ofNat_of_zero_le j3
    rw[Int.toNat_natCast]
    exact rlast_calls (h.ext hW) (good_sys j1 h.moves8) (h2.ext hW) j2 (by omega)
  obtain ⟨vc,vs,vt,vx,rfl,hc,hs,ht,hx⟩:=h
  obtain ⟨ca,cc,rfl,_⟩:=hc.form
  obtain ⟨sa,sc,rfl,_⟩:=hs.form
  obtain ⟨ta,tc,rfl,_⟩:=ht.form
  obtain ⟨xa,xc,rfl,xad,_⟩:=hx.form2
  obtain ⟨a2,c2,rfl,_⟩:=h2.form
  have ex:=ext_alloc' (ext_alloc w (.cells #[.int .i64 s.p.n,.int .i64 s.p.ins,.int .i64 s.p.outs,.slice ca s.p.cs.length cc,.int .i64 s.p.an,.slice sa s.p.st.length sc,.int .i64 s.p.rounds,.int .i64 s.tn,.slice ta s.tab.length tc,.slice xa s.ex.length xc] 35)) (.cells #[.slice a2 ch.length c2] 38)
  have R0:=(row_new w [.int .i64 s.p.n,.int .i64 s.p.ins,.int .i64 s.p.outs,.slice ca s.p.cs.length cc,.int .i64 s.p.an,.slice sa s.p.st.length sc,.int .i64 s.p.rounds,.int .i64 s.tn,.slice ta s.tab.length tc,.slice xa s.ex.length xc] 35).alloc (.cells #[.slice a2 ch.length c2] 38)
  have R1:=row_new (w.alloc (.cells #[.int .i64 s.p.n,.int .i64 s.p.ins,.int .i64 s.p.outs,.slice ca s.p.cs.length cc,.int .i64 s.p.an,.slice sa s.p.st.length sc,.int .i64 s.p.rounds,.int .i64 s.tn,.slice ta s.tab.length tc,.slice xa s.ex.length xc] 35)) [.slice a2 ch.length c2] 38
  rw[World.size_alloc]at R1
  have t0:=R0.cell (j:=0) rfl
  have t1:=R0.cell (j:=1) rfl
  have t2:=R0.cell (j:=2) rfl
  have t3:=R0.cell (j:=3) rfl
  have t4:=R0.cell (j:=4) rfl
  have t5:=R0.cell (j:=5) rfl
  have t6:=R0.cell (j:=6) rfl
  have t7:=R0.cell (j:=7) rfl
  have t8:=R0.cell (j:=8) rfl
  have t9:=R0.cell (j:=9) rfl
  have r1:=R1.cell (j:=0) rfl
  have l1:=R1.lt
  have l0:=R0.lt
  have HD:Hid (∀w' r,(sceneE s ch e=0∧(∃u,r=.tuple #[u,.int .i64 0]∧Ints (fun b=>w.heap.size≤b) w' u (valsL ch (finL s e.toNat))))∨(sceneE s ch e≠0∧r=.tuple #[.slice none 0 0,.int .i64 (sceneE s ch e)])→DecR w.heap.size s ch e w' r):=Lib.hid fun w' r h=>h
  obtain ⟨ve,hve⟩:∃x,x=sceneE s ch e:=⟨_,rfl⟩
  rw[←hve]at KV KD HD
  clear hc hs ht hx h2 hf hve xad
  go_enter Tryz.func29,Tryz.ntmps29
  go_wp2_with fail
  refine (KV.out _ ex).mono ?_
  rintro _ w1 ⟨_,rfl,hb1,rfl⟩
  replace R0:=R0.ext hb1
  replace R1:=R1.ext hb1
  replace ex:=ext_trans ex hb1
  clear t0 t1 t2 t3 t4 t5 t6 t7 t8 t9 l0 r1 l1 hb1 KV
  by_cases hv0:ve=0
  case neg=>
    have d0:(ve !=0)=true:=by simp[hv0]
    have RE:=Lib.hid (HD.out w1 _ (.inr ⟨hv0,rfl⟩))
    clear hv0
    go_wp2
    go_ret2
    exact .mk ex RE.out
  subst hv0
  have KD2:=KD.out rfl
  have d0:((0:Int) !=0)=false:=rfl
  have t0:=R0.cell (j:=0) rfl
  have t1:=R0.cell (j:=1) rfl
  have t2:=R0.cell (j:=2) rfl
  have t3:=R0.cell (j:=3) rfl
  have t4:=R0.cell (j:=4) rfl
  have t5:=R0.cell (j:=5) rfl
  have t6:=R0.cell (j:=6) rfl
  have t7:=R0.cell (j:=7) rfl
  have t8:=R0.cell (j:=8) rfl
  have t9:=R0.cell (j:=9) rfl
  have r1:=R1.cell (j:=0) rfl
  have l1:=R1.lt
  have l0:=R0.lt
  go_wp2_with fail
  refine (KD2 _ ex).mono ?_
  rintro _ w2 ⟨vo,rfl,hb2,ho⟩
  have hs1:=ex.size
  replace ex:=ext_trans ex hb2
  obtain ⟨oa,oc,rfl,_⟩:=ho.form
  have RE:=Lib.hid (HD.out w2 _ (.inl ⟨(by first | exact trivial | rfl),_,rfl,ho.mono (fun b hb=>by omega)⟩))
  clear t0 t1 t2 t3 t4 t5 t6 t7 t8 t9 l0 r1 l1 hb2 ho KD2 KD R0 R1 d0
  go_wp2
  go_ret2
  exact .mk ex RE.out
end Go.Proofs.YtcopehiceihdaaaGreat
