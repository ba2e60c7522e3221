/- Part of the proof that the laws of chapter 45 answer true for every input. -/
import Derived.Test.YtcopehiceihdaaaGreatPCd35
set_option linter.unusedSimpArgs false
set_option linter.unnecessarySimpa false
set_option linter.unusedVariables false
set_option maxRecDepth 100000
set_option maxHeartbeats 40000000
namespace Go.Proofs.YtcopehiceihdaaaGreat
open Go.RowKit
attribute [local go_sem ↓] Go.wp_at_zero Go.wp_at_succ
theorem pdecs_calls {S S2:Nat→Prop} {w:World} {v vch:Value} {s:SysF} {N K e:Nat} {ch:List Int} (h:SysV S w v s) (hg:GoodS s N K) (h2:Ints S2 w vch ch) (hcl:ch.length=s.tab.length) (he:e<s.ex.length):
    Calls Tryz.prog 49 #[v,.agg #[vch],.int .i64 e] w (Post w fun w' r=>Ints (fun b=>w.heap.size≤b) w' r (valsL ch (finL s e))):=by
  obtain ⟨hfl,hfe⟩:=hg.fin he
  have HFE:=Lib.hid hfe
  have hN:=hg.pok.n1.2
  obtain ⟨vc,vs,vt,vx,rfl,hc,hs,ht,hx⟩:=h
  obtain ⟨ca,cc,rfl,_⟩:=hc.form
  obtain ⟨sa,sc,rfl,_⟩:=hs.form
  obtain ⟨ta,tc,rfl,_⟩:=ht.form
  obtain ⟨xa,xc,rfl,xad,_⟩:=hx.form2
  have q1:=idx_exec xad e he
  obtain ⟨a1,c1,a3,c3,z0,z1,z2,i1,i2⟩:=hx.exec he
  have bk:=World.block_lt_of_cell? _ _ z0
  obtain ⟨c,hX⟩:=hg.ex e he
  have hlen:=hX.len
  have hK8:=hg.K6
  have hK:K<(nthX s.ex e).vs.length:=by omega
  obtain ⟨_,_,hee,ad2,_⟩:=i2.form
  cases hee
  obtain ⟨i0,hi,_,hz1,_⟩:=info_parts info_ints
  have q2:=idx_one Tryz.underlying66 hi hz1 ad2 K hK
  obtain ⟨u,cu,iu⟩:=i2.at (.refl _ _) hK
  obtain ⟨fa,fc,rfl,_⟩:=iu.form
  have bu:=World.block_lt_of_cell? _ _ cu
  have HFI:=Lib.hid iu
  obtain ⟨a2,c2,rfl,_⟩:=h2.form
  have H2:=Lib.hid h2
  have HCL:=Lib.hid hcl
  have HWF:=Lib.hid (valsL_wf (l:=finL s e) h2.wf)
  have ex:=ext_alloc' (ext_alloc w (.cells #[.int .i64 s.p.n,.int .i64 s.p.ins,.int .i64 s.p.outs,.slice ca s.p.cs.length cc,.int .i64 s.p.an,.slice sa s.p.st.length sc,.int .i64 s.p.rounds,.int .i64 s.tn,.slice ta s.tab.length tc,.slice xa s.ex.length xc] 35)) (.cells #[.slice a2 ch.length c2] 38)
  have R0:=(row_new w [.int .i64 s.p.n,.int .i64 s.p.ins,.int .i64 s.p.outs,.slice ca s.p.cs.length cc,.int .i64 s.p.an,.slice sa s.p.st.length sc,.int .i64 s.p.rounds,.int .i64 s.tn,.slice ta s.tab.length tc,.slice xa s.ex.length xc] 35).alloc (.cells #[.slice a2 ch.length c2] 38)
  have R1:=row_new (w.alloc (.cells #[.int .i64 s.p.n,.int .i64 s.p.ins,.int .i64 s.p.outs,.slice ca s.p.cs.length cc,.int .i64 s.p.an,.slice sa s.p.st.length sc,.int .i64 s.p.rounds,.int .i64 s.tn,.slice ta s.tab.length tc,.slice xa s.ex.length xc] 35)) [.slice a2 ch.length c2] 38
  rw[World.size_alloc]at R1
  have hfk:finL s e=nthL (nthX s.ex e).vs K:=by unfold finL;rw[←hg.rndK]
  rw[←hfk]at HFI cu
  obtain ⟨l,hl⟩:∃l,l=finL s e:=⟨_,rfl⟩
  rw[←hl]at hfl HFE HWF HFI cu ⊢
  obtain ⟨L,hL⟩:∃L,L=(nthX s.ex e).vs.length:=⟨_,rfl⟩
  rw[←hL]at z2 q2 hlen hK
  have dL:((L:Int) - 1)=(K:Int):=by omega
  have hLm:(L:Int)≤140737488355328:=by omega
  have z2':=cell_ext z2 ex
  have cu':=cell_ext cu ex
  clear hc hs ht hx h2 hg hfe hl hcl he xad hfk hX i1 i2 z0 z1 z2 cu iu hi hz1 ad2 hL
  have HLN:=Lib.hid hfl
  have hll:l.length≤5:=by omega
  have t9:=R0.cell (j:=9) rfl
  have l0:=R0.lt
  have hlN:L≤8:=by omega
  clear hfl hlen hK R0
  go_enter Tryz.func49,Tryz.ntmps49
  go_wp2
  clear t9 l0 z2' cu' q1 q2 dL hLm bk bu
  obtain ⟨w1,hw1⟩:∃w1,w1=(w.alloc (.cells #[.int .i64 s.p.n,.int .i64 s.p.ins,.int .i64 s.p.outs,.slice ca s.p.cs.length cc,.int .i64 s.p.an,.slice sa s.p.st.length sc,.int .i64 s.p.rounds,.int .i64 s.tn,.slice ta s.tab.length tc,.slice xa s.ex.length xc] 35)).alloc (.cells #[.slice a2 ch.length c2] 38):=⟨_,rfl⟩
  have hws:w1.heap.size=w.heap.size+1+1:=by rw[hw1];simp
  have hbk:=Below.refl w1.heap.size w1
  rw[←hw1]at ex R1 ⊢
  clear hw1
  go_loopw [7,10,24] (fun o _ i wr=>∃(k:Nat) (oa:Option Addr) (oc:Nat),k≤l.length∧i=.int .i64 k∧o=.slice oa k oc∧Below w.heap.size w wr∧Row wr (w.heap.size+1) 38 [.slice a2 ch.length c2]∧Hid (wr.ownsRow (w.heap.size+2) 3 1 (.slice oa k oc) k ((valsL ch (l.take k)).map (Value.int .i64)))) (fun _ _ i _=>l.length - (intOf i).toNat)
  case atStart=>exact ⟨0,none,0,Nat.zero_le _,rfl,rfl,ex,R1,Lib.hid (World.ownsRow_nil _ _ _ _)⟩
  case round=>
    clear ex R1 hbk hws w1
    obtain ⟨k,oa,oc,hk,rfl,rfl,hb,R1,HO⟩:=hrel
    by_cases hlt:k<l.length
    case neg=>
      obtain rfl:k=l.length:=by omega
      rw[List.take_length]at HO
      have HI:=Lib.hid ((Ints.of_own HO.out HWF.out).mono (S':=fun b=>w.heap.size≤b) fun b hb=>by omega)
      go_wp2
      go_ret
      exact .mk hb HI.out
    obtain ⟨z,hz,hzl⟩:=HFE.out k (by have:=HLN.out;omega)
    have hzc:z<ch.length:=by have:=HCL.out;omega
    have q1:=HFI.out.idx hlt
    have q2:=H2.out.idx hzc
    have clk:=(HFI.out.ext hb).cellN hlt
    have HP:=Lib.hid (valsL_succ (ch:=ch) hlt)
    rw[hz,Int.toNat_natCast]at HP
    rw[hz]at clk
    have cck:=(H2.out.ext hb).cellN hzc
    have hbk:=World.block_lt_of_cell? _ _ clk
    have hbk2:=World.block_lt_of_cell? _ _ cck
    obtain ⟨x,hx⟩:∃x,x=nth ch z:=⟨_,rfl⟩
    rw[←hx]at HP cck
    have r1:=R1.cell (j:=0) rfl
    have l1:=R1.lt
    have HR1:=Lib.hid R1
    have hsz:=hb.size
    clear hz hx R1
    go_wp2_with (at_builtin;refine wpList_push rfl (.tmp 28) (.tmp 34) 36 rfl 3 _ 8 Tryz.underlying36 info_int rfl (w.heap.size+2) _ _ _ rfl HO.out (.int .i64 x) rfl rfl (by omega) (by omega) (by omega) ?_;intro g' c' w5 hown5 hbel5 hag5 hat5)
    have HO5:Hid (w5.ownsRow (w.heap.size+2) 3 1 (.slice (some ⟨g',0,none⟩) (k+1) c') (k+1) ((valsL ch (l.take (k+1))).map (Value.int .i64))):=Lib.hid (by rw[HP.out];simpa using hown5)
    have R15:=row_under HR1.out (by omega) hbel5
    have hb5:=hb.trans (hbel5.mono (show w.heap.size≤w.heap.size+2 by omega))
    clear HR1 hown5 hbel5 hag5 hat5 hb HO r1 cck clk
    go_wp2
    go_roundw
    case rel=>exact ⟨k+1,_,_,by omega,by go_num,rfl,hb5,R15,HO5⟩
    case measure=>simp[intOf];omega
theorem SysV.moves8 {S:Nat→Prop} {w:World} {v:Value} {s:SysF} (h:SysV S w v s):Moves8 s.p.st:=by obtain ⟨_,_,_,_,_,_,hs,_⟩:=h;exact moves8_of hs
theorem ruleE_ok {s:SysF} {ch:List Int} (h:ruleE s ch=0):verE s=0∧ch.length=s.tab.length∧formE s ch=0:=by
  unfold ruleE at h
  split at h
  · rename_i h0
    refine ⟨h0,?_,h⟩
    unfold formE at h
    split at h
    · assumption
    · omega
  · rename_i h0;exact absurd h h0
theorem sceneE_ok {s:SysF} {ch:List Int} {e:Int} (h:sceneE s ch e=0):verE s=0∧ch.length=s.tab.length∧0≤e∧e<s.ex.length:=by
  unfold sceneE at h
  split at h
  · rename_i h0
    obtain ⟨h1,h2,_⟩:=ruleE_ok h0
    split at h
    · omega
    · exact ⟨h1,h2,by omega,by omega⟩
  · rename_i h0;exact absurd h h0
def DecR (B:Nat) (s:SysF) (ch:List Int) (e:Int) (w':World) (r:Value):Prop:=(sceneE s ch e=0∧(∃u,r=.tuple #[u,.int .i64 0]∧Ints (fun b=>B≤b) w' u (valsL ch (finL s e.toNat))))∨(sceneE s ch e≠0∧r=.tuple #[.slice none 0 0,.int .i64 (sceneE s ch e)])
theorem pDec_calls {S S2:Nat→Prop} {w:World} {v vch:Value} {s:SysF} {ch:List Int} (e:Int) (h:SysV S w v s) (hf:PFew s.p) (h2:Ints S2 w vch ch):
    Calls Tryz.prog 28 #[v,.agg #[vch],.int .i64 e] w (Post w (DecR w.heap.size s ch e)):=by
  have KV:Hid (∀W,Below w.heap.size w W→Calls Tryz.prog 65 #[v,.agg #[vch],.int .i64 e] W (Post W fun _ r=>r=.int .i64 (sceneE s ch e))):=Lib.hid fun W hW=>pscene_calls e (h.ext hW) hf (h2.ext hW)
  have KD:Hid (sceneE s ch e=0→∀W,Below w.heap.size w W→Calls Tryz.prog 49 #[v,.agg #[vch],.int .i64 e] W (Post W fun w' r=>Ints (fun b=>W.heap.size≤b) w' r (valsL ch (finL s e.toNat)))):=Lib.hid fun h0 W hW=>by
    obtain ⟨j1,j2,j3,j4⟩:=sceneE_ok h0
    obtain ⟨m,rfl⟩:=Int.eq_ofNat_of_zero_le j3
    rw[Int.toNat_natCast]
    exact pdecs_calls (h.ext hW) (good_sys j1 h.moves8) (h2.ext hW) j2 (by omega)
  obtain ⟨vc,vs,vt,vx,rfl,hc,hs,ht,hx⟩:=h
  obtain ⟨ca,cc,rfl,_⟩:=hc.form
  obtain ⟨sa,sc,rfl,_⟩:=hs.form
  obtain ⟨ta,tc,rfl,_⟩:=ht.form
  obtain ⟨xa,xc,rfl,xad,_⟩:=hx.form2
  obtain ⟨a2,c2,rfl,_⟩:=h2.form
  have ex:=ext_alloc' (ext_alloc w (.cells #[.int .i64 s.p.n,.int .i64 s.p.ins,.int .i64 s.p.outs,.slice ca s.p.cs.length cc,.int .i64 s.p.an,.slice sa s.p.st.length sc,.int .i64 s.p.rounds,.int .i64 s.tn,.slice ta s.tab.length tc,.slice xa s.ex.length xc] 35)) (.cells #[.slice a2 ch.length c2] 38)
  have R0:=(row_new w [.int .i64 s.p.n,.int .i64 s.p.ins,.int .i64 s.p.outs,.slice ca s.p.cs.length cc,.int .i64 s.p.an,.slice sa s.p.st.length sc,.int .i64 s.p.rounds,.int .i64 s.tn,.slice ta s.tab.length tc,.slice xa s.ex.length xc] 35).alloc (.cells #[.slice a2 ch.length c2] 38)
  have R1:=row_new (w.alloc (.cells #[.int .i64 s.p.n,.int .i64 s.p.ins,.int .i64 s.p.outs,.slice ca s.p.cs.length cc,.int .i64 s.p.an,.slice sa s.p.st.length sc,.int .i64 s.p.rounds,.int .i64 s.tn,.slice ta s.tab.length tc,.slice xa s.ex.length xc] 35)) [.slice a2 ch.length c2] 38
  rw[World.size_alloc]at R1
  have t0:=R0.cell (j:=0) rfl
  have t1:=R0.cell (j:=1) rfl
  have t2:=R0.cell (j:=2) rfl
  have t3:=R0.cell (j:=3) rfl
  have t4:=R0.cell (j:=4) rfl
  have t5:=R0.cell (j:=5) rfl
  have t6:=R0.cell (j:=6) rfl
  have t7:=R0.cell (j:=7) rfl
  have t8:=R0.cell (j:=8) rfl
  have t9:=R0.cell (j:=9) rfl
  have r1:=R1.cell (j:=0) rfl
  have l1:=R1.lt
  have l0:=R0.lt
  have HD:Hid (∀w' r,(sceneE s ch e=0∧(∃u,r=.tuple #[u,.int .i64 0]∧Ints (fun b=>w.heap.size≤b) w' u (valsL ch (finL s e.toNat))))∨(sceneE s ch e≠0∧r=.tuple #[.slice none 0 0,.int .i64 (sceneE s ch e)])→DecR w.heap.size s ch e w' r):=Lib.hid fun w' r h=>h
  obtain ⟨ve,hve⟩:∃x,x=sceneE s ch e:=⟨_,rfl⟩
  rw[←hve]at KV KD HD
  clear hc hs ht hx h2 hf hve xad
  go_enter Tryz.func28,Tryz.ntmps28
  go_wp2_with fail
  refine (KV.out _ ex).mono ?_
  rintro _ w1 ⟨_,rfl,hb1,rfl⟩
  replace R0:=R0.ext hb1
  replace R1:=R1.ext hb1
  replace ex:=ext_trans ex hb1
  clear t0 t1 t2 t3 t4 t5 t6 t7 t8 t9 l0 r1 l1 hb1 KV
  by_cases hv0:ve=0
  case neg=>
    have d0:(ve !=0)=true:=by simp[hv0]
    have RE:=Lib.hid (HD.out w1 _ (.inr ⟨hv0,rfl⟩))
    clear hv0
    go_wp2
    go_ret2
    exact .mk ex RE.out
  subst hv0
  have KD2:=KD.out rfl
  have d0:((0:Int) !=0)=false:=rfl
  have t0:=R0.cell (j:=0) rfl
  have t1:=R0.cell (j:=1) rfl
  have t2:=R0.cell (j:=2) rfl
  have t3:=R0.cell (j:=3) rfl
  have t4:=R0.cell (j:=4) rfl
  have t5:=R0.cell (j:=5) rfl
  have t6:=R0.cell (j:=6) rfl
  have t7:=R0.cell (j:=7) rfl
  have t8:=R0.cell (j:=8) rfl
  have t9:=R0.cell (j:=9) rfl
  have r1:=R1.cell (j:=0) rfl
  have l1:=R1.lt
  have l0:=R0.lt
  go_wp2_with fail
  refine (KD2 _ ex).mono ?_
  rintro _ w2 ⟨vo,rfl,hb2,ho⟩
  have hs1:=ex.size
  replace ex:=ext_trans ex hb2
  obtain ⟨oa,oc,rfl,_⟩:=ho.form
  have RE:=Lib.hid (HD.out w2 _ (.inl ⟨(by first | exact trivial | rfl),_,rfl,ho.mono (fun b hb=>by omega)⟩))
  clear t0 t1 t2 t3 t4 t5 t6 t7 t8 t9 l0 r1 l1 hb2 ho KD2 KD R0 R1 d0
  go_wp2
  go_ret2
  exact .mk ex RE.out
end Go.Proofs.YtcopehiceihdaaaGreat
namespace Go.Proofs.YtcopehiceihdaaaGreat
open Go.RowKit
attribute [local go_sem ↓] Go.wp_at_zero Go.wp_at_succ
def minT (f:Nat→Bool):Nat→Nat→Int
  | _,0=> -1
  | k,n+1=>if f k then k else minT f (k+1) n
theorem minT_ge (f:Nat→Bool):∀n k, -1≤minT f k n∧minT f k n<(k+n:Nat)
  | 0,k=>by unfold minT;omega
  | n+1,k=>by
    have:=minT_ge f n (k+1)
    unfold minT
    split<;>omega
theorem minT_down {f:Nat→Bool} {K j:Nat} (hj:j≤K):minT f j (K+1 - j)=if f j then (j:Int) else minT f (j+1) (K+1 - (j+1)):=by
  rw[show K+1 - j=(K+1 - (j+1))+1 by omega];rfl
def decAt (ch:List Int) (vs:List (List Int)) (q k:Nat):Bool:=decide (0≤nth ch (nth (nthL vs k) q).toNat)
def rndQ (ch:List Int) (vs:List (List Int)) (K q:Nat):Int:=minT (decAt ch vs q) 0 (K+1)
def rndsTo (ch:List Int) (vs:List (List Int)) (K m:Nat):List Int:=(List.range m).map (rndQ ch vs K)
theorem rndsTo_succ (ch:List Int) (vs:List (List Int)) (K m:Nat):rndsTo ch vs K (m+1)=rndsTo ch vs K m++[rndQ ch vs K m]:=by unfold rndsTo;rw[List.range_succ,List.map_append];rfl
theorem rndQ_wf (ch:List Int) (vs:List (List Int)) {K:Nat} (hK:K≤6) (q:Nat):WF (rndQ ch vs K q):=by
  have:=minT_ge (decAt ch vs q) (K+1) 0
  unfold rndQ WF;omega
theorem rndsTo_wf (ch:List Int) (vs:List (List Int)) {K:Nat} (hK:K≤6) (m:Nat):∀x∈rndsTo ch vs K m,WF x:=fun x hx=>by
  obtain ⟨q,_,rfl⟩:=List.mem_map.1 hx
  exact rndQ_wf ch vs hK q
def rndL (s:SysF) (ch:List Int) (e:Nat):List Int:=rndsTo ch (nthX s.ex e).vs s.K s.N
theorem SysV.num {S:Nat→Prop} {w:World} {v:Value} {s:SysF} (h:SysV S w v s):s.tab.length≤maxLen∧s.ex.length≤maxLen:=by
  obtain ⟨vc,vs,vt,vx,rfl,hc,hs,ht,hx⟩:=h
  exact ⟨ht.len,hx.len⟩
theorem rrnds_calls {S S2:Nat→Prop} {w:World} {v vch:Value} {s:SysF} {N K e:Nat} {ch:List Int} (h:SysV S w v s) (hg:GoodS s N K) (h2:Ints S2 w vch ch) (hcl:ch.length=s.tab.length) (he:e<s.ex.length):
    Calls Tryz.prog 68 #[v,.agg #[vch],.int .i64 e] w (Post w fun w' r=>Ints (fun b=>w.heap.size≤b) w' r (rndL s ch e)):=by
  have HV:=Lib.hid fun k (hk:k≤K) q (hq:q<N)=>hg.view he hk hq
  have hN:=hg.pok.n1.2
  obtain ⟨vc,vs,vt,vx,rfl,hc,hs,ht,hx⟩:=h
  obtain ⟨ca,cc,rfl,_⟩:=hc.form
  obtain ⟨sa,sc,rfl,_⟩:=hs.form
  obtain ⟨ta,tc,rfl,_⟩:=ht.form
  obtain ⟨xa,xc,rfl,xad,_⟩:=hx.form2
  have q1:=idx_exec xad e he
  obtain ⟨a1,c1,a3,c3,z0,z1,z2,i1,i2⟩:=hx.exec he
  have bk:=World.block_lt_of_cell? _ _ z0
  obtain ⟨c,hX⟩:=hg.ex e he
  have hlen:=hX.len
  have hK8:=hg.K6
  have HLN:Hid (∀k,k≤K→(nthL (nthX s.ex e).vs k).length=N):=Lib.hid fun k hk=>hX.rows k hk
  obtain ⟨a2,c2,rfl,_⟩:=h2.form
  have H2:=Lib.hid h2
  have HCL:=Lib.hid hcl
  have hrr:=hg.rnd
  have htn:=hg.tn
  have hrl:rndL s ch e=rndsTo ch (nthX s.ex e).vs K N:=by unfold rndL;rw[←hg.rndK,←hg.nN]
  rw[hrl]
  rw[hrr,htn]
  have ex:=ext_alloc' (ext_alloc w (.cells #[.int .i64 s.p.n,.int .i64 s.p.ins,.int .i64 s.p.outs,.slice ca s.p.cs.length cc,.int .i64 s.p.an,.slice sa s.p.st.length sc,.int .i64 K,.int .i64 N,.slice ta s.tab.length tc,.slice xa s.ex.length xc] 35)) (.cells #[.slice a2 ch.length c2] 38)
  have R0:=(row_new w [.int .i64 s.p.n,.int .i64 s.p.ins,.int .i64 s.p.outs,.slice ca s.p.cs.length cc,.int .i64 s.p.an,.slice sa s.p.st.length sc,.int .i64 K,.int .i64 N,.slice ta s.tab.length tc,.slice xa s.ex.length xc] 35).alloc (.cells #[.slice a2 ch.length c2] 38)
  have R1:=row_new (w.alloc (.cells #[.int .i64 s.p.n,.int .i64 s.p.ins,.int .i64 s.p.outs,.slice ca s.p.cs.length cc,.int .i64 s.p.an,.slice sa s.p.st.length sc,.int .i64 K,.int .i64 N,.slice ta s.tab.length tc,.slice xa s.ex.length xc] 35)) [.slice a2 ch.length c2] 38
  rw[World.size_alloc]at R1
  obtain ⟨vs,hvs⟩:∃vs,vs=(nthX s.ex e).vs:=⟨_,rfl⟩
  rw[←hvs]at z2 i2 hlen HLN HV ⊢
  have hml:=h2.len
  have HVS:=Lib.hid (show Lists S w (.slice a3 vs.length c3) vs from i2)
  have HWF:=Lib.hid (rndsTo_wf ch vs hK8 N)
  have HLE:=Lib.hid hlen
  have Z2:=Lib.hid z2
  have BK:=Lib.hid bk
  have Q1:=Lib.hid q1
  clear hc hs ht hx h2 hg hcl he xad hX i1 i2 z0 z1 z2 hvs hrl hrr htn bk q1 hml
  go_enter Tryz.func68,Tryz.ntmps68
  go_wp2
  go_loopw [7,8,9,10] (fun o i _ _ wr=>∃(q:Nat) (oa:Option Addr) (oc:Nat),q≤N∧i=.int .i64 q∧o=.slice oa q oc∧Below w.heap.size w wr∧Row wr w.heap.size 35 [.int .i64 s.p.n,.int .i64 s.p.ins,.int .i64 s.p.outs,.slice ca s.p.cs.length cc,.int .i64 s.p.an,.slice sa s.p.st.length sc,.int .i64 K,.int .i64 N,.slice ta s.tab.length tc,.slice xa s.ex.length xc]∧Row wr (w.heap.size+1) 38 [.slice a2 ch.length c2]∧Hid (wr.ownsRow (w.heap.size+2) 3 1 (.slice oa q oc) q ((rndsTo ch vs K q).map (Value.int .i64)))) (fun _ i _ _ _=>N - (intOf i).toNat)
  case atStart=>exact ⟨0,none,0,Nat.zero_le _,rfl,rfl,ex,R0,R1,Lib.hid (World.ownsRow_nil _ _ _ _)⟩
  case round=>
    clear ex R0 R1 hlen
    obtain ⟨q,oa,oc,hq,rfl,rfl,hb,R0,R1,HO⟩:=hrel
    have t0:=R0.cell (j:=0) rfl
    have t1:=R0.cell (j:=1) rfl
    have t2:=R0.cell (j:=2) rfl
    have t3:=R0.cell (j:=3) rfl
    have t4:=R0.cell (j:=4) rfl
    have t5:=R0.cell (j:=5) rfl
    have t6:=R0.cell (j:=6) rfl
    have t7:=R0.cell (j:=7) rfl
    have t8:=R0.cell (j:=8) rfl
    have t9:=R0.cell (j:=9) rfl
    have l0:=R0.lt
    by_cases hlt:q<N
    case neg=>
      obtain rfl:q=N:=by omega
      have HI:=Lib.hid ((Ints.of_own HO.out HWF.out).mono (S':=fun b=>w.heap.size≤b) fun b hb=>by omega)
      go_wp2
      go_ret
      exact .mk hb HI.out
    go_wp2
    clear t0 t1 t2 t3 t4 t5 t6 t7 t8 t9 l0
    go_loopw [9,10] (fun t i wi=>∃m:Nat,m≤K+1∧i=.int .i64 ((m:Int) - 1)∧t=.int .i64 (minT (decAt ch vs q) m (K+1 - m))∧Below w.heap.size w wi∧Row wi w.heap.size 35 [.int .i64 s.p.n,.int .i64 s.p.ins,.int .i64 s.p.outs,.slice ca s.p.cs.length cc,.int .i64 s.p.an,.slice sa s.p.st.length sc,.int .i64 K,.int .i64 N,.slice ta s.tab.length tc,.slice xa s.ex.length xc]∧Row wi (w.heap.size+1) 38 [.slice a2 ch.length c2]∧Hid (wi.ownsRow (w.heap.size+2) 3 1 (.slice oa q oc) q ((rndsTo ch vs K q).map (Value.int .i64)))) (fun _ i _=>(intOf i+1).toNat)
    case atStart=>exact ⟨K+1,Nat.le_refl _,by simp,by rw[Nat.sub_self];rfl,hb,R0,R1,HO⟩
    case round=>
      clear hb R0 R1 HO
      obtain ⟨m,hm,rfl,rfl,hb,R0,R1,HO⟩:=hrel
      by_cases hm0:m=0
      · subst hm0
        have HP:=Lib.hid (rndsTo_succ ch vs K q)
        have hxe:minT (decAt ch vs q) 0 (K+1 - 0)=rndQ ch vs K q:=rfl
        obtain ⟨x,hx⟩:∃x,x=rndQ ch vs K q:=⟨_,rfl⟩
        rw[hxe]
        rw[←hx]at HP ⊢
        have d1:decide ((0:Int)≤((0:Nat):Int) - 1)=false:=by decide
        have hsz:=hb.size
        have l1:=R1.lt
        clear hx hxe
        go_wp2_with (at_builtin;refine wpList_push rfl (.tmp 43) (.tmp 45) 36 rfl 3 _ 8 Tryz.underlying36 info_int rfl (w.heap.size+2) _ _ _ rfl HO.out (.int .i64 x) rfl rfl (by omega) (by omega) (by omega) ?_;intro g' c' w5 hown5 hbel5 hag5 hat5)
        have HO5:Hid (w5.ownsRow (w.heap.size+2) 3 1 (.slice (some ⟨g',0,none⟩) (q+1) c') (q+1) ((rndsTo ch vs K (q+1)).map (Value.int .i64))):=Lib.hid (by rw[HP.out];simpa using hown5)
        have R05:=row_under R0 (by omega) hbel5
        have R15:=row_under R1 (by omega) hbel5
        have hb5:=hb.trans (hbel5.mono (show w.heap.size≤w.heap.size+2 by omega))
        clear hown5 hbel5 hag5 hat5 hb HO R0 R1
        go_wp2
        go_roundw
        case rel=>exact ⟨q+1,_,_,by omega,by go_num,rfl,hb5,R05,R15,HO5⟩
        case measure=>simp[intOf];omega
      obtain ⟨j,rfl⟩:∃j,m=j+1:=⟨m - 1,by omega⟩
      have hji:((j+1:Nat):Int) - 1=(j:Int):=by omega
      rw[hji]
      have hjK:j≤K:=by omega
      have hjv:j<vs.length:=by have:=HLE.out;omega
      have MD:=Lib.hid (minT_down (f:=decAt ch vs q) hjK)
      obtain ⟨t0,ht0⟩:∃t0,t0=minT (decAt ch vs q) (j+1) (K+1 - (j+1)):=⟨_,rfl⟩
      rw[←ht0]at MD ⊢
      obtain ⟨z,hzl,hz,_⟩:=HV.out j hjK q hlt
      have hzc:z<ch.length:=by have:=HCL.out;omega
      have hdd:decAt ch vs q j=decide (0≤nth ch z):=by unfold decAt;rw[hz];rfl
      rw[hdd]at MD
      obtain ⟨_,_,hee,ad2,_⟩:=HVS.out.form
      cases hee
      obtain ⟨i0,hi,_,hz1,_⟩:=info_parts info_ints
      have q2:=idx_one Tryz.underlying66 hi hz1 ad2 j hjv
      obtain ⟨u,cu,iu⟩:=HVS.out.at (.refl _ _) hjv
      obtain ⟨fa,fc,rfl,_⟩:=iu.form
      have hjn:q<(nthL vs j).length:=by rw[HLN.out j hjK];exact hlt
      have q3:=iu.idx hjn
      have cl0:=iu.cellN hjn
      rw[hz]at cl0
      have bu:=World.block_lt_of_cell? _ _ cu
      have bl:=World.block_lt_of_cell? _ _ cl0
      have q4:=H2.out.idx hzc
      have cc0:=H2.out.cellN hzc
      have bc:=World.block_lt_of_cell? _ _ cc0
      obtain ⟨x,hx⟩:∃x,x=nth ch z:=⟨_,rfl⟩
      rw[←hx]at MD cc0
      have z2':=cell_ext Z2.out hb
      have cu':=cell_ext cu hb
      have cl':=cell_ext cl0 hb
      have cc':=cell_ext cc0 hb
      have q1:=Q1.out
      have bk:=BK.out
      have hsz:=hb.size
      have t9:=R0.cell (j:=9) rfl
      have r1:=R1.cell (j:=0) rfl
      have l0:=R0.lt
      have l1:=R1.lt
      have HR0:=Lib.hid R0
      have HR1:=Lib.hid R1
      clear hm0 hm hdd ht0 ad2 hi hz1 cu iu cl0 cc0 hx hz hji R0 R1
      by_cases hx0:0≤x
      · have d1:decide (0≤x)=true:=decide_eq_true hx0
        rw[d1,if_pos rfl]at MD
        go_wp2
        go_quiet (fail)
        refine draw_then fun w4 hq4=>?_
        have e4:=hq4.ext
        have hb4:=ext_trans hb e4
        have R04:=HR0.out.ext e4
        have R14:=HR1.out.ext e4
        have HO4:=Lib.hid (owns_ext HO.out e4)
        clear z2' cu' cl' cc' q1 q2 q3 q4 t9 r1 l0 l1 bu bl bc bk HR0 HR1 hb HO hq4 e4
        go_wp2
        go_roundw
        case rel=>exact ⟨j,by omega,rfl,by rw[MD.out],hb4,R04,R14,HO4⟩
        case measure=>simp[intOf]<;>omega
      · have d1:decide (0≤x)=false:=decide_eq_false hx0
        rw[d1,if_neg (by simp)]at MD
        go_wp2
        go_quiet (fail)
        refine draw_then fun w4 hq4=>?_
        have e4:=hq4.ext
        have hb4:=ext_trans hb e4
        have R04:=HR0.out.ext e4
        have R14:=HR1.out.ext e4
        have HO4:=Lib.hid (owns_ext HO.out e4)
        clear z2' cu' cl' cc' q1 q2 q3 q4 t9 r1 l0 l1 bu bl bc bk HR0 HR1 hb HO hq4 e4
        go_wp2
        go_roundw
        case rel=>exact ⟨j,by omega,rfl,by rw[MD.out],hb4,R04,R14,HO4⟩
        case measure=>simp[intOf]<;>omega
end Go.Proofs.YtcopehiceihdaaaGreat
namespace Go.Proofs.YtcopehiceihdaaaGreat
open Go.RowKit
attribute [local go_sem ↓] Go.wp_at_zero Go.wp_at_succ
def stepM (o:Bool) (r:Int) (ab:Int×Int):Option (Int×Int):=if o then (if r<0 then none else some (if ab.1<r then r else ab.1,ab.2+r)) else some ab
def meaP (ob:Nat→Bool) (rd:Nat→Int):Nat→Int×Int→Option (Int×Int)
  | 0,ab=>some ab
  | j+1,ab=>(meaP ob rd j ab).bind (stepM (ob j) (rd j))
def meaE (OB:Nat→Nat→Bool) (RD:Nat→Nat→Int) (N:Nat):Nat→Option (Int×Int)
  | 0=>some (0,0)
  | k+1=>(meaE OB RD N k).bind (meaP (OB k) (RD k) N)
theorem meaE_none {OB:Nat→Nat→Bool} {RD:Nat→Nat→Int} {N k:Nat} (h:meaE OB RD N k=none):∀{K:Nat},k≤K→meaE OB RD N K=none:=by
  intro K
  induction K with
  | zero => intro hj; obtain rfl : k = 0 := by omega
            exact h
  | succ K ih=>
    intro hj
    by_cases e:k=K+1
    · rw[←e];exact h
    · unfold meaE;rw[ih (by omega)];rfl
def oblB (s:SysF) (e q:Nat):Bool:=(maskW s.N (nthX s.ex e).word).testBit q
def rdV (s:SysF) (ch:List Int) (e q:Nat):Int:=rndQ ch (nthX s.ex e).vs s.K q
theorem rdV_bound (s:SysF) (ch:List Int) {K:Nat} (hK:s.K≤6) (e q:Nat): -1≤rdV s ch e q∧rdV s ch e q≤6:=by
  have:=minT_ge (decAt ch (nthX s.ex e).vs q) (s.K+1) 0
  unfold rdV rndQ;omega
theorem rndL_at (s:SysF) (ch:List Int) (e:Nat) {q:Nat} (h:q<s.N):nth (rndL s ch e) q=rdV s ch e q:=by
  unfold rndL rndsTo rdV
  simp[nth,h]
theorem rndL_len (s:SysF) (ch:List Int) (e:Nat):(rndL s ch e).length=s.N:=by simp[rndL,rndsTo]
def meaS (s:SysF) (ch:List Int):Option (Int×Int):=meaE (oblB s) (rdV s ch) s.N s.ex.length
def measT (s:SysF) (ch:List Int):Int×Int×Int:=if ruleE s ch=0 then (match meaS s ch with | some ab=>(ab.1,ab.2,0) | none=>(0,0,20)) else (0,0,ruleE s ch)
def measV (t:Int×Int×Int):Value:=.tuple #[.int .i64 t.1,.int .i64 t.2.1,.int .i64 t.2.2]
end Go.Proofs.YtcopehiceihdaaaGreat
