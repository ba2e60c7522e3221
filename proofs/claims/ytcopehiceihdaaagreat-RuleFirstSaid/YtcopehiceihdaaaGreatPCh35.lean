/- Part of the proof that the laws of chapter 45 answer true for every input. -/
import Derived.Test.YtcopehiceihdaaaGreatPCh34
set_option linter.unusedSimpArgs false
set_option linter.unnecessarySimpa false
set_option linter.unusedVariables false
set_option maxRecDepth 100000
set_option maxHeartbeats 40000000
namespace Go.Proofs.YtcopehiceihdaaaGreat
open Go.RowKit
attribute [local go_sem ↓] Go.wp_at_zero Go.wp_at_succ
def sceneE (s:SysF) (ch:List Int) (e:Int):Int:=if ruleE s ch=0 then (if e<0∨(s.ex.length:Int)≤e then 6 else 0) else ruleE s ch
theorem pscene_calls {S S2:Nat→Prop} {w:World} {v vch:Value} {s:SysF} {ch:List Int} (e:Int) (h:SysV S w v s) (hf:PFew s.p) (h2:Ints S2 w vch ch):
    Calls Tryz.prog 65 #[v,.agg #[vch],.int .i64 e] w (Post w fun _ r=>r=.int .i64 (sceneE s ch e)):=by
  have KV:Hid (∀W,Below w.heap.size w W→Calls Tryz.prog 16 #[v,.agg #[vch]] W (Post W fun _ r=>r=.int .i64 (ruleE s ch))):=Lib.hid fun W hW=>pcheck_calls (h.ext hW) hf (h2.ext hW)
  obtain ⟨vc,vs,vt,vx,rfl,hc,hs,ht,hx⟩:=h
  obtain ⟨ca,cc,rfl,_⟩:=hc.form
  obtain ⟨sa,sc,rfl,_⟩:=hs.form
  obtain ⟨ta,tc,rfl,_⟩:=ht.form
  obtain ⟨xa,xc,rfl,_⟩:=hx.form
  obtain ⟨a2,c2,rfl,_⟩:=h2.form
  have ex:=ext_alloc' (ext_alloc w (.cells #[.int .i64 s.p.n,.int .i64 s.p.ins,.int .i64 s.p.outs,.slice ca s.p.cs.length cc,.int .i64 s.p.an,.slice sa s.p.st.length sc,.int .i64 s.p.rounds,.int .i64 s.tn,.slice ta s.tab.length tc,.slice xa s.ex.length xc] 35)) (.cells #[.slice a2 ch.length c2] 38)
  have R0:=(row_new w [.int .i64 s.p.n,.int .i64 s.p.ins,.int .i64 s.p.outs,.slice ca s.p.cs.length cc,.int .i64 s.p.an,.slice sa s.p.st.length sc,.int .i64 s.p.rounds,.int .i64 s.tn,.slice ta s.tab.length tc,.slice xa s.ex.length xc] 35).alloc (.cells #[.slice a2 ch.length c2] 38)
  have R1:=row_new (w.alloc (.cells #[.int .i64 s.p.n,.int .i64 s.p.ins,.int .i64 s.p.outs,.slice ca s.p.cs.length cc,.int .i64 s.p.an,.slice sa s.p.st.length sc,.int .i64 s.p.rounds,.int .i64 s.tn,.slice ta s.tab.length tc,.slice xa s.ex.length xc] 35)) [.slice a2 ch.length c2] 38
  rw[World.size_alloc]at R1
  have HR:Hid ((ruleE s ch=0→sceneE s ch e=if e<0∨(s.ex.length:Int)≤e then 6 else 0)∧(ruleE s ch≠0→sceneE s ch e=ruleE s ch)):=Lib.hid ⟨fun h=>by unfold sceneE;rw[if_pos h],fun h=>by unfold sceneE;rw[if_neg h]⟩
  obtain ⟨ve,hve⟩:∃e,e=ruleE s ch:=⟨_,rfl⟩
  rw[←hve]at KV HR
  have t0:=R0.cell (j:=0) rfl
  have t1:=R0.cell (j:=1) rfl
  have t2:=R0.cell (j:=2) rfl
  have t3:=R0.cell (j:=3) rfl
  have t4:=R0.cell (j:=4) rfl
  have t5:=R0.cell (j:=5) rfl
  have t6:=R0.cell (j:=6) rfl
  have t7:=R0.cell (j:=7) rfl
  have t8:=R0.cell (j:=8) rfl
  have t9:=R0.cell (j:=9) rfl
  have r1:=R1.cell (j:=0) rfl
  have l1:=R1.lt
  have l0:=R0.lt
  clear hc hs ht hx h2 hve hf
  go_enter Tryz.func65,Tryz.ntmps65
  go_wp2_with fail
  refine (KV.out _ ex).mono ?_
  rintro _ w1 ⟨_,rfl,hb1,rfl⟩
  replace R0:=R0.ext hb1
  replace ex:=ext_trans ex hb1
  clear t0 t1 t2 t3 t4 t5 t6 t7 t8 t9 l0 r1 l1 R1 hb1 KV
  by_cases hv0:ve=0
  case neg=>
    have RE:=Lib.hid (HR.out.2 hv0)
    have d0:(ve !=0)=true:=by simp[hv0]
    clear hv0
    go_wp2
    go_ret
    exact .mk ex (int_eq RE.out.symm)
  have RE:=Lib.hid (HR.out.1 hv0)
  have d0:(ve !=0)=false:=by simp[hv0]
  have t9:=R0.cell (j:=9) rfl
  have l0:=R0.lt
  clear hv0
  by_cases h1:e<0
  · have e1:decide (e<0)=true:=decide_eq_true h1
    have RF:Hid (sceneE s ch e=6):=Lib.hid (by rw[RE.out,if_pos (.inl h1)])
    clear h1
    go_wp2
    go_ret
    exact .mk ex (int_eq RF.out.symm)
  have e1:decide (e<0)=false:=decide_eq_false h1
  by_cases h3:(s.ex.length:Int)≤e
  · have e2:decide ((s.ex.length:Int)≤e)=true:=decide_eq_true h3
    have RF:Hid (sceneE s ch e=6):=Lib.hid (by rw[RE.out,if_pos (.inr h3)])
    clear h1 h3
    go_wp2
    go_ret
    exact .mk ex (int_eq RF.out.symm)
  · have e2:decide ((s.ex.length:Int)≤e)=false:=decide_eq_false h3
    have RF:Hid (sceneE s ch e=0):=Lib.hid (by rw[RE.out,if_neg (fun h=>h.elim h1 h3)])
    clear h1 h3
    go_wp2
    go_ret
    exact .mk ex (int_eq RF.out.symm)
end Go.Proofs.YtcopehiceihdaaaGreat
namespace Go.Proofs.YtcopehiceihdaaaGreat
open Go.RowKit
attribute [local go_sem ↓] Go.wp_at_zero Go.wp_at_succ
def valsL (ch l:List Int):List Int:=l.map fun x=>nth ch x.toNat
theorem valsL_len (ch l:List Int):(valsL ch l).length=l.length:=by simp[valsL]
theorem valsL_succ {ch l:List Int} {k:Nat} (hk:k<l.length):valsL ch (l.take (k+1))=valsL ch (l.take k)++[nth ch (nth l k).toNat]:=by unfold valsL;rw[take_nth hk,List.map_append];rfl
theorem valsL_wf {ch l:List Int} (h:∀x∈ch,WF x):∀x∈valsL ch l,WF x:=fun x hx=>by
  obtain ⟨y,_,rfl⟩:=List.mem_map.1 hx
  exact nth_wf h _
def finL (s:SysF) (e:Nat):List Int:=nthL (nthX s.ex e).vs s.K
theorem GoodS.rndK {s:SysF} {N K:Nat} (h:GoodS s N K):K=s.K:=by unfold SysF.K;rw[h.rnd];exact (Int.toNat_natCast K).symm
theorem GoodS.fin {s:SysF} {N K:Nat} (h:GoodS s N K) {e:Nat} (he:e<s.ex.length):(finL s e).length=N∧∀q,q<N→∃z:Nat,nth (finL s e) q=z∧z<s.tab.length:=by
  unfold finL
  rw[←h.rndK]
  obtain ⟨c,hc⟩:=h.ex e he
  exact ⟨hc.rows K (Nat.le_refl _),fun q hq=>by obtain ⟨v,h1,h2,_⟩:=h.view he (Nat.le_refl K) hq;exact ⟨v,h2,h1⟩⟩
end Go.Proofs.YtcopehiceihdaaaGreat
namespace Go.Proofs.YtcopehiceihdaaaGreat
open Go.RowKit
attribute [local go_sem ↓] Go.wp_at_zero Go.wp_at_succ
theorem pdecs_calls {S S2:Nat→Prop} {w:World} {v vch:Value} {s:SysF} {N K e:Nat} {ch:List Int} (h:SysV S w v s) (hg:GoodS s N K) (h2:Ints S2 w vch ch) (hcl:ch.length=s.tab.length) (he:e<s.ex.length):
    Calls Tryz.prog 49 #[v,.agg #[vch],.int .i64 e] w (Post w fun w' r=>Ints (fun b=>w.heap.size≤b) w' r (valsL ch (finL s e))):=by
  obtain ⟨hfl,hfe⟩:=hg.fin he
  have HFE:=Lib.hid hfe
  have hN:=hg.pok.n1.2
  obtain ⟨vc,vs,vt,vx,rfl,hc,hs,ht,hx⟩:=h
  obtain ⟨ca,cc,rfl,_⟩:=hc.form
  obtain ⟨sa,sc,rfl,_⟩:=hs.form
  obtain ⟨ta,tc,rfl,_⟩:=ht.form
  obtain ⟨xa,xc,rfl,xad,_⟩:=hx.form2
  have q1:=idx_exec xad e he
  obtain ⟨a1,c1,a3,c3,z0,z1,z2,i1,i2⟩:=hx.exec he
  have bk:=World.block_lt_of_cell? _ _ z0
  obtain ⟨c,hX⟩:=hg.ex e he
  have hlen:=hX.len
  have hK8:=hg.K6
  have hK:K<(nthX s.ex e).vs.length:=by omega
  obtain ⟨_,_,hee,ad2,_⟩:=i2.form
  cases hee
  obtain ⟨i0,hi,_,hz1,_⟩:=info_parts info_ints
  have q2:=idx_one Tryz.underlying66 hi hz1 ad2 K hK
  obtain ⟨u,cu,iu⟩:=i2.at (.refl _ _) hK
  obtain ⟨fa,fc,rfl,_⟩:=iu.form
  have bu:=World.block_lt_of_cell? _ _ cu
  have HFI:=Lib.hid iu
  obtain ⟨a2,c2,rfl,_⟩:=h2.form
  have H2:=Lib.hid h2
  have HCL:=Lib.hid hcl
  have HWF:=Lib.hid (valsL_wf (l:=finL s e) h2.wf)
  have ex:=ext_alloc' (ext_alloc w (.cells #[.int .i64 s.p.n,.int .i64 s.p.ins,.int .i64 s.p.outs,.slice ca s.p.cs.length cc,.int .i64 s.p.an,.slice sa s.p.st.length sc,.int .i64 s.p.rounds,.int .i64 s.tn,.slice ta s.tab.length tc,.slice xa s.ex.length xc] 35)) (.cells #[.slice a2 ch.length c2] 38)
  have R0:=(row_new w [.int .i64 s.p.n,.int .i64 s.p.ins,.int .i64 s.p.outs,.slice ca s.p.cs.length cc,.int .i64 s.p.an,.slice sa s.p.st.length sc,.int .i64 s.p.rounds,.int .i64 s.tn,.slice ta s.tab.length tc,.slice xa s.ex.length xc] 35).alloc (.cells #[.slice a2 ch.length c2] 38)
  have R1:=row_new (w.alloc (.cells #[.int .i64 s.p.n,.int .i64 s.p.ins,.int .i64 s.p.outs,.slice ca s.p.cs.length cc,.int .i64 s.p.an,.slice sa s.p.st.length sc,.int .i64 s.p.rounds,.int .i64 s.tn,.slice ta s.tab.length tc,.slice xa s.ex.length xc] 35)) [.slice a2 ch.length c2] 38
  rw[World.size_alloc]at R1
  have hfk:finL s e=nthL (nthX s.ex e).vs K:=by unfold finL;rw[←hg.rndK]
  rw[←hfk]at HFI cu
  obtain ⟨l,hl⟩:∃l,l=finL s e:=⟨_,rfl⟩
  rw[←hl]at hfl HFE HWF HFI cu ⊢
  obtain ⟨L,hL⟩:∃L,L=(nthX s.ex e).vs.length:=⟨_,rfl⟩
  rw[←hL]at z2 q2 hlen hK
  have dL:((L:Int) - 1)=(K:Int):=by omega
  have hLm:(L:Int)≤140737488355328:=by omega
  have z2':=cell_ext z2 ex
  have cu':=cell_ext cu ex
  clear hc hs ht hx h2 hg hfe hl hcl he xad hfk hX i1 i2 z0 z1 z2 cu iu hi hz1 ad2 hL
  have HLN:=Lib.hid hfl
  have hll:l.length≤5:=by omega
  have t9:=R0.cell (j:=9) rfl
  have l0:=R0.lt
  have hlN:L≤8:=by omega
  clear hfl hlen hK R0
  go_enter Tryz.func49,Tryz.ntmps49
  go_wp2
  clear t9 l0 z2' cu' q1 q2 dL hLm bk bu
  obtain ⟨w1,hw1⟩:∃w1,w1=(w.alloc (.cells #[.int .i64 s.p.n,.int .i64 s.p.ins,.int .i64 s.p.outs,.slice ca s.p.cs.length cc,.int .i64 s.p.an,.slice sa s.p.st.length sc,.int .i64 s.p.rounds,.int .i64 s.tn,.slice ta s.tab.length tc,.slice xa s.ex.length xc] 35)).alloc (.cells #[.slice a2 ch.length c2] 38):=⟨_,rfl⟩
  have hws:w1.heap.size=w.heap.size+1+1:=by rw[hw1];simp
  have hbk:=Below.refl w1.heap.size w1
  rw[←hw1]at ex R1 ⊢
  clear hw1
  go_loopw [7,10,24] (fun o _ i wr=>∃(k:Nat) (oa:Option Addr) (oc:Nat),k≤l.length∧i=.int .i64 k∧o=.slice oa k oc∧Below w.heap.size w wr∧Row wr (w.heap.size+1) 38 [.slice a2 ch.length c2]∧Hid (wr.ownsRow (w.heap.size+2) 3 1 (.slice oa k oc) k ((valsL ch (l.take k)).map (Value.int .i64)))) (fun _ _ i _=>l.length - (intOf i).toNat)
  case atStart=>exact ⟨0,none,0,Nat.zero_le _,rfl,rfl,ex,R1,Lib.hid (World.ownsRow_nil _ _ _ _)⟩
  case round=>
    clear ex R1 hbk hws w1
    obtain ⟨k,oa,oc,hk,rfl,rfl,hb,R1,HO⟩:=hrel
    by_cases hlt:k<l.length
    case neg=>
      obtain rfl:k=l.length:=by omega
      rw[List.take_length]at HO
      have HI:=Lib.hid ((Ints.of_own HO.out HWF.out).mono (S':=fun b=>w.heap.size≤b) fun b hb=>by omega)
      go_wp2
      go_ret
      exact .mk hb HI.out
    obtain ⟨z,hz,hzl⟩:=HFE.out k (by have:=HLN.out;omega)
    have hzc:z<ch.length:=by have:=HCL.out;omega
    have q1:=HFI.out.idx hlt
    have q2:=H2.out.idx hzc
    have clk:=(HFI.out.ext hb).cellN hlt
    have HP:=Lib.hid (valsL_succ (ch:=ch) hlt)
    rw[hz,Int.toNat_natCast]at HP
    rw[hz]at clk
    have cck:=(H2.out.ext hb).cellN hzc
    have hbk:=World.block_lt_of_cell? _ _ clk
    have hbk2:=World.block_lt_of_cell? _ _ cck
    obtain ⟨x,hx⟩:∃x,x=nth ch z:=⟨_,rfl⟩
    rw[←hx]at HP cck
    have r1:=R1.cell (j:=0) rfl
    have l1:=R1.lt
    have HR1:=Lib.hid R1
    have hsz:=hb.size
    clear hz hx R1
    go_wp2_with (at_builtin;refine wpList_push rfl (.tmp 28) (.tmp 34) 36 rfl 3 _ 8 Tryz.underlying36 info_int rfl (w.heap.size+2) _ _ _ rfl HO.out (.int .i64 x) rfl rfl (by omega) (by omega) (by omega) ?_;intro g' c' w5 hown5 hbel5 hag5 hat5)
    have HO5:Hid (w5.ownsRow (w.heap.size+2) 3 1 (.slice (some ⟨g',0,none⟩) (k+1) c') (k+1) ((valsL ch (l.take (k+1))).map (Value.int .i64))):=Lib.hid (by rw[HP.out];simpa using hown5)
    have R15:=row_under HR1.out (by omega) hbel5
    have hb5:=hb.trans (hbel5.mono (show w.heap.size≤w.heap.size+2 by omega))
    clear HR1 hown5 hbel5 hag5 hat5 hb HO r1 cck clk
    go_wp2
    go_roundw
    case rel=>exact ⟨k+1,_,_,by omega,by go_num,rfl,hb5,R15,HO5⟩
    case measure=>simp[intOf];omega
theorem SysV.moves8 {S:Nat→Prop} {w:World} {v:Value} {s:SysF} (h:SysV S w v s):Moves8 s.p.st:=by obtain ⟨_,_,_,_,_,_,hs,_⟩:=h;exact moves8_of hs
theorem ruleE_ok {s:SysF} {ch:List Int} (h:ruleE s ch=0):verE s=0∧ch.length=s.tab.length∧formE s ch=0:=by
  unfold ruleE at h
  split at h
  · rename_i h0
    refine ⟨h0,?_,h⟩
    unfold formE at h
    split at h
    · assumption
    · omega
  · rename_i h0;exact absurd h h0
theorem sceneE_ok {s:SysF} {ch:List Int} {e:Int} (h:sceneE s ch e=0):verE s=0∧ch.length=s.tab.length∧0≤e∧e<s.ex.length:=by
  unfold sceneE at h
  split at h
  · rename_i h0
    obtain ⟨h1,h2,_⟩:=ruleE_ok h0
    split at h
    · omega
    · exact ⟨h1,h2,by omega,by omega⟩
  · rename_i h0;exact absurd h h0
def DecR (B:Nat) (s:SysF) (ch:List Int) (e:Int) (w':World) (r:Value):Prop:=(sceneE s ch e=0∧(∃u,r=.tuple #[u,.int .i64 0]∧Ints (fun b=>B≤b) w' u (valsL ch (finL s e.toNat))))∨(sceneE s ch e≠0∧r=.tuple #[.slice none 0 0,.int .i64 (sceneE s ch e)])
theorem pDec_calls {S S2:Nat→Prop} {w:World} {v vch:Value} {s:SysF} {ch:List Int} (e:Int) (h:SysV S w v s) (hf:PFew s.p) (h2:Ints S2 w vch ch):
    Calls Tryz.prog 28 #[v,.agg #[vch],.int .i64 e] w (Post w (DecR w.heap.size s ch e)):=by
  have KV:Hid (∀W,Below w.heap.size w W→Calls Tryz.prog 65 #[v,.agg #[vch],.int .i64 e] W (Post W fun _ r=>r=.int .i64 (sceneE s ch e))):=Lib.hid fun W hW=>pscene_calls e (h.ext hW) hf (h2.ext hW)
  have KD:Hid (sceneE s ch e=0→∀W,Below w.heap.size w W→Calls Tryz.prog 49 #[v,.agg #[vch],.int .i64 e] W (Post W fun w' r=>Ints (fun b=>W.heap.size≤b) w' r (valsL ch (finL s e.toNat)))):=Lib.hid fun h0 W hW=>by
    obtain ⟨j1,j2,j3,j4⟩:=sceneE_ok h0
    obtain ⟨m,rfl⟩:=Int.eq_ofNat_of_zero_le j3
    rw[Int.toNat_natCast]
    exact pdecs_calls (h.ext hW) (good_sys j1 h.moves8) (h2.ext hW) j2 (by omega)
  obtain ⟨vc,vs,vt,vx,rfl,hc,hs,ht,hx⟩:=h
  obtain ⟨ca,cc,rfl,_⟩:=hc.form
  obtain ⟨sa,sc,rfl,_⟩:=hs.form
  obtain ⟨ta,tc,rfl,_⟩:=ht.form
  obtain ⟨xa,xc,rfl,xad,_⟩:=hx.form2
  obtain ⟨a2,c2,rfl,_⟩:=h2.form
  have ex:=ext_alloc' (ext_alloc w (.cells #[.int .i64 s.p.n,.int .i64 s.p.ins,.int .i64 s.p.outs,.slice ca s.p.cs.length cc,.int .i64 s.p.an,.slice sa s.p.st.length sc,.int .i64 s.p.rounds,.int .i64 s.tn,.slice ta s.tab.length tc,.slice xa s.ex.length xc] 35)) (.cells #[.slice a2 ch.length c2] 38)
  have R0:=(row_new w [.int .i64 s.p.n,.int .i64 s.p.ins,.int .i64 s.p.outs,.slice ca s.p.cs.length cc,.int .i64 s.p.an,.slice sa s.p.st.length sc,.int .i64 s.p.rounds,.int .i64 s.tn,.slice ta s.tab.length tc,.slice xa s.ex.length xc] 35).alloc (.cells #[.slice a2 ch.length c2] 38)
  have R1:=row_new (w.alloc (.cells #[.int .i64 s.p.n,.int .i64 s.p.ins,.int .i64 s.p.outs,.slice ca s.p.cs.length cc,.int .i64 s.p.an,.slice sa s.p.st.length sc,.int .i64 s.p.rounds,.int .i64 s.tn,.slice ta s.tab.length tc,.slice xa s.ex.length xc] 35)) [.slice a2 ch.length c2] 38
  rw[World.size_alloc]at R1
  have t0:=R0.cell (j:=0) rfl
  have t1:=R0.cell (j:=1) rfl
  have t2:=R0.cell (j:=2) rfl
  have t3:=R0.cell (j:=3) rfl
  have t4:=R0.cell (j:=4) rfl
  have t5:=R0.cell (j:=5) rfl
  have t6:=R0.cell (j:=6) rfl
  have t7:=R0.cell (j:=7) rfl
  have t8:=R0.cell (j:=8) rfl
  have t9:=R0.cell (j:=9) rfl
  have r1:=R1.cell (j:=0) rfl
  have l1:=R1.lt
  have l0:=R0.lt
  have HD:Hid (∀w' r,(sceneE s ch e=0∧(∃u,r=.tuple #[u,.int .i64 0]∧Ints (fun b=>w.heap.size≤b) w' u (valsL ch (finL s e.toNat))))∨(sceneE s ch e≠0∧r=.tuple #[.slice none 0 0,.int .i64 (sceneE s ch e)])→DecR w.heap.size s ch e w' r):=Lib.hid fun w' r h=>h
  obtain ⟨ve,hve⟩:∃x,x=sceneE s ch e:=⟨_,rfl⟩
  rw[←hve]at KV KD HD
  clear hc hs ht hx h2 hf hve xad
  go_enter Tryz.func28,Tryz.ntmps28
  go_wp2_with fail
  refine (KV.out _ ex).mono ?_
  rintro _ w1 ⟨_,rfl,hb1,rfl⟩
  replace R0:=R0.ext hb1
  replace R1:=R1.ext hb1
  replace ex:=ext_trans ex hb1
  clear t0 t1 t2 t3 t4 t5 t6 t7 t8 t9 l0 r1 l1 hb1 KV
  by_cases hv0:ve=0
  case neg=>
    have d0:(ve !=0)=true:=by simp[hv0]
    have RE:=Lib.hid (HD.out w1 _ (.inr ⟨hv0,rfl⟩))
    clear hv0
    go_wp2
    go_ret2
    exact .mk ex RE.out
  subst hv0
  have KD2:=KD.out rfl
  have d0:((0:Int) !=0)=false:=rfl
  have t0:=R0.cell (j:=0) rfl
  have t1:=R0.cell (j:=1) rfl
  have t2:=R0.cell (j:=2) rfl
  have t3:=R0.cell (j:=3) rfl
  have t4:=R0.cell (j:=4) rfl
  have t5:=R0.cell (j:=5) rfl
  have t6:=R0.cell (j:=6) rfl
  have t7:=R0.cell (j:=7) rfl
  have t8:=R0.cell (j:=8) rfl
  have t9:=R0.cell (j:=9) rfl
  have r1:=R1.cell (j:=0) rfl
  have l1:=R1.lt
  have l0:=R0.lt
  go_wp2_with fail
  refine (KD2 _ ex).mono ?_
  rintro _ w2 ⟨vo,rfl,hb2,ho⟩
  have hs1:=ex.size
  replace ex:=ext_trans ex hb2
  obtain ⟨oa,oc,rfl,_⟩:=ho.form
  have RE:=Lib.hid (HD.out w2 _ (.inl ⟨(by first | exact trivial | rfl),_,rfl,ho.mono (fun b hb=>by omega)⟩))
  clear t0 t1 t2 t3 t4 t5 t6 t7 t8 t9 l0 r1 l1 hb2 ho KD2 KD R0 R1 d0
  go_wp2
  go_ret2
  exact .mk ex RE.out
end Go.Proofs.YtcopehiceihdaaaGreat
namespace Go.Proofs.YtcopehiceihdaaaGreat
open Go.RowKit
attribute [local go_sem ↓] Go.wp_at_zero Go.wp_at_succ
def minT (f:Nat→Bool):Nat→Nat→Int
  | _,0=> -1
  | k,n+1=>if f k then k else minT f (k+1) n
theorem minT_ge (f:Nat→Bool):∀n k, -1≤minT f k n∧minT f k n<(k+n:Nat)
  | 0,k=>by unfold minT;omega
  | n+1,k=>by
    have:=minT_ge f n (k+1)
    unfold minT
    split<;>omega
theorem minT_down {f:Nat→Bool} {K j:Nat} (hj:j≤K):minT f j (K+1 - j)=if f j then (j:Int) else minT f (j+1) (K+1 - (j+1)):=by
  rw[show K+1 - j=(K+1 - (j+1))+1 by omega];rfl
def decAt (ch:List Int) (vs:List (List Int)) (q k:Nat):Bool:=decide (0≤nth ch (nth (nthL vs k) q).toNat)
def rndQ (ch:List Int) (vs:List (List Int)) (K q:Nat):Int:=minT (decAt ch vs q) 0 (K+1)
theorem SysV.num {S:Nat→Prop} {w:World} {v:Value} {s:SysF} (h:SysV S w v s):s.tab.length≤maxLen∧s.ex.length≤maxLen:=by
  obtain ⟨vc,vs,vt,vx,rfl,hc,hs,ht,hx⟩:=h
  exact ⟨ht.len,hx.len⟩
end Go.Proofs.YtcopehiceihdaaaGreat
namespace Go.Proofs.YtcopehiceihdaaaGreat
open Go.RowKit
attribute [local go_sem ↓] Go.wp_at_zero Go.wp_at_succ
def stepM (o:Bool) (r:Int) (ab:Int×Int):Option (Int×Int):=if o then (if r<0 then none else some (if ab.1<r then r else ab.1,ab.2+r)) else some ab
def meaP (ob:Nat→Bool) (rd:Nat→Int):Nat→Int×Int→Option (Int×Int)
  | 0,ab=>some ab
  | j+1,ab=>(meaP ob rd j ab).bind (stepM (ob j) (rd j))
def meaE (OB:Nat→Nat→Bool) (RD:Nat→Nat→Int) (N:Nat):Nat→Option (Int×Int)
  | 0=>some (0,0)
  | k+1=>(meaE OB RD N k).bind (meaP (OB k) (RD k) N)
theorem meaE_none {OB:Nat→Nat→Bool} {RD:Nat→Nat→Int} {N k:Nat} (h:meaE OB RD N k=none):∀{K:Nat},k≤K→meaE OB RD N K=none:=by
  intro K
  induction K with
  | zero => intro hj; obtain rfl : k = 0 := by omega
            exact h
  | succ K ih=>
    intro hj
    by_cases e:k=K+1
    · rw[←e];exact h
    · unfold meaE;rw[ih (by omega)];rfl
def oblB (s:SysF) (e q:Nat):Bool:=(maskW s.N (nthX s.ex e).word).testBit q
def rdV (s:SysF) (ch:List Int) (e q:Nat):Int:=rndQ ch (nthX s.ex e).vs s.K q
theorem rdV_bound (s:SysF) (ch:List Int) {K:Nat} (hK:s.K≤6) (e q:Nat): -1≤rdV s ch e q∧rdV s ch e q≤6:=by
  have:=minT_ge (decAt ch (nthX s.ex e).vs q) (s.K+1) 0
  unfold rdV rndQ;omega
def meaS (s:SysF) (ch:List Int):Option (Int×Int):=meaE (oblB s) (rdV s ch) s.N s.ex.length
def measT (s:SysF) (ch:List Int):Int×Int×Int:=if ruleE s ch=0 then (match meaS s ch with | some ab=>(ab.1,ab.2,0) | none=>(0,0,20)) else (0,0,ruleE s ch)
def measV (t:Int×Int×Int):Value:=.tuple #[.int .i64 t.1,.int .i64 t.2.1,.int .i64 t.2.2]
end Go.Proofs.YtcopehiceihdaaaGreat
namespace Go.Proofs.YtcopehiceihdaaaGreat
open Go.RowKit
attribute [local go_sem ↓] Go.wp_at_zero Go.wp_at_succ
def badB (s:SysF) (a b:List Int) (e q:Nat):Bool:=oblB s e q&&(decide (0≤rdV s b e q)&&(decide (rdV s a e q<0)||decide (rdV s b e q<rdV s a e q)))
def soonE (s:SysF) (a b:List Int) (e j:Nat):Bool:=(List.range j).all fun q=> !badB s a b e q
def soonTo (s:SysF) (a b:List Int) (k:Nat):Bool:=(List.range k).all fun e=>soonE s a b e s.N
def soonB (s:SysF) (a b:List Int):Bool:=soonTo s a b s.ex.length
theorem soonTo_succ (s:SysF) (a b:List Int) (k:Nat):soonTo s a b (k+1)=(soonTo s a b k&&soonE s a b k s.N):=by unfold soonTo;rw[List.range_succ,List.all_append];simp
theorem soonB_bad {s:SysF} {a b:List Int} {e q:Nat} (he:e<s.ex.length) (hq:q<s.N) (h:badB s a b e q=true):soonB s a b=false:=by
  cases hs:soonB s a b with
  | false=>rfl
  | true=>
    have h1:=List.all_eq_true.1 hs e (List.mem_range.2 he)
    have h2:=List.all_eq_true.1 h1 q (List.mem_range.2 hq)
    rw[h]at h2;cases h2
def earlT (s:SysF) (a b:List Int):Bool×Int:=if ruleE s a=0 then (if formE s b=0 then (soonB s a b,0) else (false,formE s b)) else (false,ruleE s a)
theorem formE_len {s:SysF} {ch:List Int} (h:formE s ch=0):ch.length=s.tab.length:=by
  unfold formE at h
  split at h
  · assumption
  · omega
def earlV (t:Bool×Int):Value:=.tuple #[.bool t.1,.int .i64 t.2]
end Go.Proofs.YtcopehiceihdaaaGreat
namespace Go.Proofs.YtcopehiceihdaaaGreat
open Go.RowKit
attribute [local go_sem ↓] Go.wp_at_zero Go.wp_at_succ
def agrB (f:Nat) (outs v:List Int):Bool:=(List.range v.length).all fun p=>f.testBit p||decide (nth outs p=nth v p)
def agrTo (f:Nat) (outs v:List Int) (k:Nat):Bool:=(List.range k).all fun p=>f.testBit p||decide (nth outs p=nth v p)
theorem agrTo_succ (f:Nat) (outs v:List Int) (k:Nat):agrTo f outs v (k+1)=(agrTo f outs v k&&(f.testBit k||decide (nth outs k=nth v k))):=by unfold agrTo;rw[List.range_succ,List.all_append];simp
theorem agrB_no {f:Nat} {outs v:List Int} {k:Nat} (hk:k<v.length) (h:(f.testBit k||decide (nth outs k=nth v k))=false):agrB f outs v=false:=by
  cases hb:agrB f outs v with
  | false=>rfl
  | true=>rw[List.all_eq_true.1 hb k (List.mem_range.2 hk)]at h;cases h
def vecsOf (c:CaseD) (f:Nat):List (List Int):=if f=0∧0<c.calm.length then c.calm else c.out
def mayB (c:CaseD) (f:Nat) (outs:List Int):Bool:=(vecsOf c f).any (agrB f outs)
theorem agrees_q {S S2:Nat→Prop} {w:World} {vv vo:Value} {v outs:List Int} {f:Nat} (h:Ints S w vv v) (ho:Ints S2 w vo outs) (hl:v.length≤outs.length) (h5:v.length≤5):
    Calls Tryz.prog 64 #[vv,vo,.int .i64 f] w (QuietP w (.bool (agrB f outs v))):=by
  obtain ⟨va,vc,rfl,_⟩:=h.form
  obtain ⟨oa,oc,rfl,_⟩:=ho.form
  have HV:=Lib.hid h
  have HO:=Lib.hid ho
  have HB:Hid (agrB f outs v=agrTo f outs v v.length):=Lib.hid rfl
  have HN:Hid (∀k,k<v.length→(f.testBit k||decide (nth outs k=nth v k))=false→agrB f outs v=false):=Lib.hid fun k hk h=>agrB_no hk h
  have HS:=Lib.hid (agrTo_succ f outs v)
  obtain ⟨r,hr⟩:∃r,r=agrB f outs v:=⟨_,rfl⟩
  rw[←hr]at HB HN ⊢
  have hqw:QW w w:=⟨0,rfl⟩
  clear h ho hr
  go_enter Tryz.func64,Tryz.ntmps64
  go_wp2
  go_loopw [7,8,11] (fun _ _ i wr=>∃k:Nat,k≤v.length∧i=.int .i64 k∧QW w wr∧Hid (agrTo f outs v k=true)) (fun _ _ i _=>v.length - (intOf i).toNat)
  case atStart=>exact ⟨0,Nat.zero_le _,rfl,hqw,Lib.hid rfl⟩
  case round=>
    clear hqw
    obtain ⟨k,hk,rfl,hqw,HT⟩:=hrel
    by_cases hlt:k<v.length
    case neg=>
      obtain rfl:k=v.length:=by omega
      have RR:Hid (r=true):=Lib.hid (by rw[HB.out,HT.out])
      go_wp2
      go_ret
      exact .fin (by rw[RR.out];rfl) hqw
    have hko:k<outs.length:=by omega
    have q1:=HV.out.idx hlt
    have q2:=HO.out.idx hko
    have cv:=(HV.out.ext hqw.ext).cellN hlt
    have co:=(HO.out.ext hqw.ext).cellN hko
    have bv:=World.block_lt_of_cell? _ _ cv
    have bo:=World.block_lt_of_cell? _ _ co
    have HK:=Lib.hid (HN.out k hlt)
    have HSK:=Lib.hid (HS.out k)
    obtain ⟨x,hx⟩:∃x,x=nth v k:=⟨_,rfl⟩
    obtain ⟨y,hy⟩:∃y,y=nth outs k:=⟨_,rfl⟩
    rw[←hx,←hy]at HK HSK
    rw[←hx]at cv
    rw[←hy]at co
    have DB:=bit_if (a:=f) (p:=k)
    have hk64:(k:Int)<64:=by omega
    obtain ⟨bt,hbt⟩:∃bt,bt=f.testBit k:=⟨_,rfl⟩
    rw[←hbt]at DB HK HSK
    clear hx hy hbt hko
    cases bt with
    | true=>
      rw[Bool.not_true]at DB
      have HT2:Hid (agrTo f outs v (k+1)=true):=Lib.hid (by rw[HSK.out,HT.out];rfl)
      go_wp2
      go_roundw
      case rel=>exact ⟨k+1,by omega,by go_num,hqw,HT2⟩
      case measure=>simp[intOf];omega
    | false=>
      rw[Bool.not_false]at DB
      by_cases he:y=x
      · have d1:(y !=x)=false:=by simp[he]
        have HT2:Hid (agrTo f outs v (k+1)=true):=Lib.hid (by rw[HSK.out,HT.out,decide_eq_true he];rfl)
        clear he
        go_wp2
        go_roundw
        case rel=>exact ⟨k+1,by omega,by go_num,hqw,HT2⟩
        case measure=>simp[intOf];omega
      · have d1:(y !=x)=true:=by simp[he]
        have RR:Hid (r=false):=Lib.hid (HK.out (by rw[decide_eq_false he];rfl))
        clear he
        go_wp2
        go_ret
        exact .fin (by rw[RR.out];rfl) hqw
theorem pallowed_calls {S:Nat→Prop} {w:World} {v1 v2 v3:Value} {c:CaseD} {f:Nat} (h1:Ints S w v1 c.inn) (h2:Lists S w v2 c.out) (h3:Lists S w v3 c.calm):
    Calls Tryz.prog 62 #[.agg #[v1,v2,v3],.int .i64 f] w (Post w fun w' r=>Lists S w' r (vecsOf c f)):=by
  obtain ⟨a1,c1,rfl,_⟩:=h1.form
  obtain ⟨a2,c2,rfl,_⟩:=h2.form
  obtain ⟨a3,c3,rfl,_⟩:=h3.form
  have ex:=ext_alloc w (.cells #[.slice a1 c.inn.length c1,.slice a2 c.out.length c2,.slice a3 c.calm.length c3] 119)
  have R:=row_new w [.slice a1 c.inn.length c1,.slice a2 c.out.length c2,.slice a3 c.calm.length c3] 119
  have r1:=R.cell (j:=1) rfl
  have r2:=R.cell (j:=2) rfl
  have l:=R.lt
  have HC:=Lib.hid (h2.ext ex)
  have HA:=Lib.hid (h3.ext ex)
  have HX:=Lib.hid ex
  by_cases h0:f=0
  · have d1:((f:Int)==0)=true:=by simp[h0]
    by_cases hc:0<c.calm.length
    · have d2:decide (0<c.calm.length)=true:=decide_eq_true hc
      have RR:Hid (vecsOf c f=c.calm):=Lib.hid (if_pos ⟨h0,hc⟩)
      clear h0 hc h1 h2 h3
      go_enter Tryz.func62,Tryz.ntmps62
      go_wp2
      go_ret
      exact .mk HX.out (by rw[RR.out];exact HA.out)
    · have d2:decide (0<c.calm.length)=false:=decide_eq_false hc
      have RR:Hid (vecsOf c f=c.out):=Lib.hid (if_neg fun h=>hc h.2)
      clear h0 hc h1 h2 h3
      go_enter Tryz.func62,Tryz.ntmps62
      go_wp2
      go_ret
      exact .mk HX.out (by rw[RR.out];exact HC.out)
  · have d1:((f:Int)==0)=false:=by simp[h0]
    have RR:Hid (vecsOf c f=c.out):=Lib.hid (if_neg fun h=>h0 h.1)
    clear h0 h1 h2 h3
    go_enter Tryz.func62,Tryz.ntmps62
    go_wp2
    go_ret
    exact .mk HX.out (by rw[RR.out];exact HC.out)
end Go.Proofs.YtcopehiceihdaaaGreat
namespace Go.Proofs.YtcopehiceihdaaaGreat
open Go.RowKit
attribute [local go_sem ↓] Go.wp_at_zero Go.wp_at_succ
theorem idx_caseT {S:Nat→Prop} {w:World} {a:Option Addr} {n cap:Nat} (h:Ad S w a n cap):∀k:Nat,k<n→∀W:World,(Instr.indexAt 22 (.slice a n cap) (.int .i64 k)).run Tryz.prog W=.ok (.pointer (some (adr a (k * 3)))) W:=by
  have hic:=congrArg (Option.map (·.2.1)) info_caseB
  cases hi:Tryz.prog.info? 119 with
  | none=>rw[hi]at hic;cases hic
  | some t=>
    rw[hi]at hic
    exact fun k hk W=>idx_wide Tryz.underlying22 hi (by simpa using hic) h k hk W
theorem ProbOK.vecs {p:ProbD} {N c f:Nat} (h:ProbOK p N) (hc:c<p.cs.length):∀v∈vecsOf (nthC p.cs c) f,v.length=N∧∀x∈v,0≤x∧x<p.outs:=by
  have h1:=(caseE_zero ((checkT_zero h.t).2.2.2.2.2.2.2.2 c hc)).2
  unfold vecsE at h1
  split at h1
  · cases h1
  rename_i hlen
  by_cases h2:firstE (outE p.n p.outs (nthC p.cs c).out) (nthC p.cs c).out.length=0
  case neg=>rw[if_neg h2]at h1;exact absurd h1 h2
  rw[if_pos h2]at h1
  have hout:∀v∈(nthC p.cs c).out,v.length=N∧∀x∈v,0≤x∧x<p.outs:=fun v hv=>by
    obtain ⟨j,hj,e⟩:=List.getElem_of_mem hv
    have h3:=firstE_iff.1 h2 j hj
    unfold outE at h3
    by_cases h4:vecE (nthL (nthC p.cs c).out j) p.n p.outs=0
    · have h5:=vecE_zero h4
      rw[nthL_eq hj,e,h.n]at h5
      exact ⟨by omega,h5.2⟩
    · rw[if_neg h4]at h3;exact absurd h3 h4
  intro v hv
  unfold vecsOf at hv
  split at hv
  · obtain ⟨j,hj,e⟩:=List.getElem_of_mem hv
    have h3:=firstE_iff.1 h1 j hj
    unfold calmE at h3
    by_cases h4:nthL (nthC p.cs c).calm j∈(nthC p.cs c).out
    · rw[nthL_eq hj,e]at h4;exact hout v h4
    · rw[decide_eq_false h4]at h3;simp at h3
  · exact hout v hv
def okE (s:SysF) (ch:List Int) (e:Nat):Bool:=mayB (nthC s.p.cs (nthX s.ex e).case.toNat) (fltyW (nthX s.ex e).word).toNat (valsL ch (finL s e))
theorem minT_step {f:Nat→Bool} {E k:Nat} (hk:k<E):minT f k (E - k)=if f k then (k:Int) else minT f (k+1) (E - (k+1)):=by
  rw[show E - k=(E - (k+1))+1 by omega];rfl
def failE (s:SysF) (ch:List Int):Int:=minT (fun e=> !okE s ch e) 0 s.ex.length
def solT (s:SysF) (ch:List Int):Bool×Int×Int:=if ruleE s ch=0 then (if failE s ch<0 then (true,0,0) else (false,failE s ch,0)) else (false,0,ruleE s ch)
def solV (t:Bool×Int×Int):Value:=.tuple #[.bool t.1,.int .i64 t.2.1,.int .i64 t.2.2]
theorem oblB_is {s:SysF} {e q f:Nat} (hf:fltyW (nthX s.ex e).word=f) (hq:q<s.N):(maskW s.N (nthX s.ex e).word).testBit q= !f.testBit q:=by
  unfold maskW
  rw[hf,Int.toNat_natCast,testBit_without,Nat.testBit_two_pow_sub_one]
  simp[hq]
end Go.Proofs.YtcopehiceihdaaaGreat
