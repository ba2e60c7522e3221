/- Part of the proof that the laws of chapter 45 answer true for every input. -/
import Derived.Test.YtcopehiceihdaaaGreatPCc36
import Derived.Test.YtcopehiceihdaaaGreatPCc23
import Derived.Test.YtcopehiceihdaaaGreatPCc10
set_option linter.unusedSimpArgs false
set_option linter.unnecessarySimpa false
set_option linter.unusedVariables false
set_option maxRecDepth 100000
set_option maxHeartbeats 40000000
namespace Go.Proofs.YtcopehiceihdaaaGreat
open Go.RowKit
attribute [local go_sem ↓] Go.wp_at_zero Go.wp_at_succ
def minT (f:Nat→Bool):Nat→Nat→Int
  | _,0=> -1
  | k,n+1=>if f k then k else minT f (k+1) n
theorem minT_ge (f:Nat→Bool):∀n k, -1≤minT f k n∧minT f k n<(k+n:Nat)
  | 0,k=>by unfold minT;omega
  | n+1,k=>by
    have:=minT_ge f n (k+1)
    unfold minT
    split<;>omega
theorem minT_down {f:Nat→Bool} {K j:Nat} (hj:j≤K):minT f j (K+1 - j)=if f j then (j:Int) else minT f (j+1) (K+1 - (j+1)):=by
  rw[show K+1 - j=(K+1 - (j+1))+1 by omega];rfl
def decAt (ch:List Int) (vs:List (List Int)) (q k:Nat):Bool:=decide (0≤nth ch (nth (nthL vs k) q).toNat)
def rndQ (ch:List Int) (vs:List (List Int)) (K q:Nat):Int:=minT (decAt ch vs q) 0 (K+1)
def rndsTo (ch:List Int) (vs:List (List Int)) (K m:Nat):List Int:=(List.range m).map (rndQ ch vs K)
theorem rndsTo_succ (ch:List Int) (vs:List (List Int)) (K m:Nat):rndsTo ch vs K (m+1)=rndsTo ch vs K m++[rndQ ch vs K m]:=by unfold rndsTo;rw[List.range_succ,List.map_append];rfl
theorem rndQ_wf (ch:List Int) (vs:List (List Int)) {K:Nat} (hK:K≤6) (q:Nat):WF (rndQ ch vs K q):=by
  have:=minT_ge (decAt ch vs q) (K+1) 0
  unfold rndQ WF;omega
theorem rndsTo_wf (ch:List Int) (vs:List (List Int)) {K:Nat} (hK:K≤6) (m:Nat):∀x∈rndsTo ch vs K m,WF x:=fun x hx=>by
  obtain ⟨q,_,rfl⟩:=List.mem_map.1 hx
  exact rndQ_wf ch vs hK q
def rndL (s:SysF) (ch:List Int) (e:Nat):List Int:=rndsTo ch (nthX s.ex e).vs s.K s.N
theorem SysV.num {S:Nat→Prop} {w:World} {v:Value} {s:SysF} (h:SysV S w v s):s.tab.length≤maxLen∧s.ex.length≤maxLen:=by
  obtain ⟨vc,vs,vt,vx,rfl,hc,hs,ht,hx⟩:=h
  exact ⟨ht.len,hx.len⟩
theorem rrnds_calls {S S2:Nat→Prop} {w:World} {v vch:Value} {s:SysF} {N K e:Nat} {ch:List Int} (h:SysV S w v s) (hg:GoodS s N K) (h2:Ints S2 w vch ch) (hcl:ch.length=s.tab.length) (he:e<s.ex.length):
    Calls Tryz.prog 68 #[v,.agg #[vch],.int .i64 e] w (Post w fun w' r=>Ints (fun b=>w.heap.size≤b) w' r (rndL s ch e)):=by
  have HV:=Lib.hid fun k (hk:k≤K) q (hq:q<N)=>hg.view he hk hq
  have hN:=hg.pok.n1.2
  obtain ⟨vc,vs,vt,vx,rfl,hc,hs,ht,hx⟩:=h
  obtain ⟨ca,cc,rfl,_⟩:=hc.form
  obtain ⟨sa,sc,rfl,_⟩:=hs.form
  obtain ⟨ta,tc,rfl,_⟩:=ht.form
  obtain ⟨xa,xc,rfl,xad,_⟩:=hx.form2
  have q1:=idx_exec xad e he
  obtain ⟨a1,c1,a3,c3,z0,z1,z2,i1,i2⟩:=hx.exec he
  have bk:=World.block_lt_of_cell? _ _ z0
  obtain ⟨c,hX⟩:=hg.ex e he
  have hlen:=hX.len
  have hK8:=hg.K6
  have HLN:Hid (∀k,k≤K→(nthL (nthX s.ex e).vs k).length=N):=Lib.hid fun k hk=>hX.rows k hk
  obtain ⟨a2,c2,rfl,_⟩:=h2.form
  have H2:=Lib.hid h2
  have HCL:=Lib.hid hcl
  have hrr:=hg.rnd
  have htn:=hg.tn
  have hrl:rndL s ch e=rndsTo ch (nthX s.ex e).vs K N:=by unfold rndL;rw[←hg.rndK,←hg.nN]
  rw[hrl]
  rw[hrr,htn]
  have ex:=ext_alloc' (ext_alloc w (.cells #[.int .i64 s.p.n,.int .i64 s.p.ins,.int .i64 s.p.outs,.slice ca s.p.cs.length cc,.int .i64 s.p.an,.slice sa s.p.st.length sc,.int .i64 K,.int .i64 N,.slice ta s.tab.length tc,.slice xa s.ex.length xc] 35)) (.cells #[.slice a2 ch.length c2] 38)
  have R0:=(row_new w [.int .i64 s.p.n,.int .i64 s.p.ins,.int .i64 s.p.outs,.slice ca s.p.cs.length cc,.int .i64 s.p.an,.slice sa s.p.st.length sc,.int .i64 K,.int .i64 N,.slice ta s.tab.length tc,.slice xa s.ex.length xc] 35).alloc (.cells #[.slice a2 ch.length c2] 38)
  have R1:=row_new (w.alloc (.cells #[.int .i64 s.p.n,.int .i64 s.p.ins,.int .i64 s.p.outs,.slice ca s.p.cs.length cc,.int .i64 s.p.an,.slice sa s.p.st.length sc,.int .i64 K,.int .i64 N,.slice ta s.tab.length tc,.slice xa s.ex.length xc] 35)) [.slice a2 ch.length c2] 38
  rw[World.size_alloc]at R1
  obtain ⟨vs,hvs⟩:∃vs,vs=(nthX s.ex e).vs:=⟨_,rfl⟩
  rw[←hvs]at z2 i2 hlen HLN HV ⊢
  have hml:=h2.len
  have HVS:=Lib.hid (show Lists S w (.slice a3 vs.length c3) vs from i2)
  have HWF:=Lib.hid (rndsTo_wf ch vs hK8 N)
  have HLE:=Lib.hid hlen
  have Z2:=Lib.hid z2
  have BK:=Lib.hid bk
  have Q1:=Lib.hid q1
  clear hc hs ht hx h2 hg hcl he xad hX i1 i2 z0 z1 z2 hvs hrl hrr htn bk q1 hml
  go_enter Tryz.func68,Tryz.ntmps68
  go_wp2
  go_loopw [7,8,9,10] (fun o i _ _ wr=>∃(q:Nat) (oa:Option Addr) (oc:Nat),q≤N∧i=.int .i64 q∧o=.slice oa q oc∧Below w.heap.size w wr∧Row wr w.heap.size 35 [.int .i64 s.p.n,.int .i64 s.p.ins,.int .i64 s.p.outs,.slice ca s.p.cs.length cc,.int .i64 s.p.an,.slice sa s.p.st.length sc,.int .i64 K,.int .i64 N,.slice ta s.tab.length tc,.slice xa s.ex.length xc]∧Row wr (w.heap.size+1) 38 [.slice a2 ch.length c2]∧Hid (wr.ownsRow (w.heap.size+2) 3 1 (.slice oa q oc) q ((rndsTo ch vs K q).map (Value.int .i64)))) (fun _ i _ _ _=>N - (intOf i).toNat)
  case atStart=>exact ⟨0,none,0,Nat.zero_le _,rfl,rfl,ex,R0,R1,Lib.hid (World.ownsRow_nil _ _ _ _)⟩
  case round=>
    clear ex R0 R1 hlen
    obtain ⟨q,oa,oc,hq,rfl,rfl,hb,R0,R1,HO⟩:=hrel
    have t0:=R0.cell (j:=0) rfl
    have t1:=R0.cell (j:=1) rfl
    have t2:=R0.cell (j:=2) rfl
    have t3:=R0.cell (j:=3) rfl
    have t4:=R0.cell (j:=4) rfl
    have t5:=R0.cell (j:=5) rfl
    have t6:=R0.cell (j:=6) rfl
    have t7:=R0.cell (j:=7) rfl
    have t8:=R0.cell (j:=8) rfl
    have t9:=R0.cell (j:=9) rfl
    have l0:=R0.lt
    by_cases hlt:q<N
    case neg=>
      obtain rfl:q=N:=by omega
      have HI:=Lib.hid ((Ints.of_own HO.out HWF.out).mono (S':=fun b=>w.heap.size≤b) fun b hb=>by omega)
      go_wp2
      go_ret
      exact .mk hb HI.out
    go_wp2
    clear t0 t1 t2 t3 t4 t5 t6 t7 t8 t9 l0
    go_loopw [9,10] (fun t i wi=>∃m:Nat,m≤K+1∧i=.int .i64 ((m:Int) - 1)∧t=.int .i64 (minT (decAt ch vs q) m (K+1 - m))∧Below w.heap.size w wi∧Row wi w.heap.size 35 [.int .i64 s.p.n,.int .i64 s.p.ins,.int .i64 s.p.outs,.slice ca s.p.cs.length cc,.int .i64 s.p.an,.slice sa s.p.st.length sc,.int .i64 K,.int .i64 N,.slice ta s.tab.length tc,.slice xa s.ex.length xc]∧Row wi (w.heap.size+1) 38 [.slice a2 ch.length c2]∧Hid (wi.ownsRow (w.heap.size+2) 3 1 (.slice oa q oc) q ((rndsTo ch vs K q).map (Value.int .i64)))) (fun _ i _=>(intOf i+1).toNat)
    case atStart=>exact ⟨K+1,Nat.le_refl _,by simp,by rw[Nat.sub_self];rfl,hb,R0,R1,HO⟩
    case round=>
      clear hb R0 R1 HO
      obtain ⟨m,hm,rfl,rfl,hb,R0,R1,HO⟩:=hrel
      by_cases hm0:m=0
      · subst hm0
        have HP:=Lib.hid (rndsTo_succ ch vs K q)
        have hxe:minT (decAt ch vs q) 0 (K+1 - 0)=rndQ ch vs K q:=rfl
        obtain ⟨x,hx⟩:∃x,x=rndQ ch vs K q:=⟨_,rfl⟩
        rw[hxe]
        rw[←hx]at HP ⊢
        have d1:decide ((0:Int)≤((0:Nat):Int) - 1)=false:=by decide
        have hsz:=hb.size
        have l1:=R1.lt
        clear hx hxe
        go_wp2_with (at_builtin;refine wpList_push rfl (.tmp 43) (.tmp 45) 36 rfl 3 _ 8 Tryz.underlying36 info_int rfl (w.heap.size+2) _ _ _ rfl HO.out (.int .i64 x) rfl rfl (by omega) (by omega) (by omega) ?_;intro g' c' w5 hown5 hbel5 hag5 hat5)
        have HO5:Hid (w5.ownsRow (w.heap.size+2) 3 1 (.slice (some ⟨g',0,none⟩) (q+1) c') (q+1) ((rndsTo ch vs K (q+1)).map (Value.int .i64))):=Lib.hid (by rw[HP.out];simpa using hown5)
        have R05:=row_under R0 (by omega) hbel5
        have R15:=row_under R1 (by omega) hbel5
        have hb5:=hb.trans (hbel5.mono (show w.heap.size≤w.heap.size+2 by omega))
        clear hown5 hbel5 hag5 hat5 hb HO R0 R1
        go_wp2
        go_roundw
        case rel=>exact ⟨q+1,_,_,by omega,by go_num,rfl,hb5,R05,R15,HO5⟩
        case measure=>simp[intOf];omega
      obtain ⟨j,rfl⟩:∃j,m=j+1:=⟨m - 1,by omega⟩
      have hji:((j+1:Nat):Int) - 1=(j:Int):=by omega
      rw[hji]
      have hjK:j≤K:=by omega
      have hjv:j<vs.length:=by have:=HLE.out;omega
      have MD:=Lib.hid (minT_down (f:=decAt ch vs q) hjK)
      obtain ⟨t0,ht0⟩:∃t0,t0=minT (decAt ch vs q) (j+1) (K+1 - (j+1)):=⟨_,rfl⟩
      rw[←ht0]at MD ⊢
      obtain ⟨z,hzl,hz,_⟩:=HV.out j hjK q hlt
      have hzc:z<ch.length:=by have:=HCL.out;omega
      have hdd:decAt ch vs q j=decide (0≤nth ch z):=by unfold decAt;rw[hz];rfl
      rw[hdd]at MD
      obtain ⟨_,_,hee,ad2,_⟩:=HVS.out.form
      cases hee
      obtain ⟨i0,hi,_,hz1,_⟩:=info_parts info_ints
      have q2:=idx_one Tryz.underlying66 hi hz1 ad2 j hjv
      obtain ⟨u,cu,iu⟩:=HVS.out.at (.refl _ _) hjv
      obtain ⟨fa,fc,rfl,_⟩:=iu.form
      have hjn:q<(nthL vs j).length:=by rw[HLN.out j hjK];exact hlt
      have q3:=iu.idx hjn
      have cl0:=iu.cellN hjn
      rw[hz]at cl0
      have bu:=World.block_lt_of_cell? _ _ cu
      have bl:=World.block_lt_of_cell? _ _ cl0
      have q4:=H2.out.idx hzc
      have cc0:=H2.out.cellN hzc
      have bc:=World.block_lt_of_cell? _ _ cc0
      obtain ⟨x,hx⟩:∃x,x=nth ch z:=⟨_,rfl⟩
      rw[←hx]at MD cc0
      have z2':=cell_ext Z2.out hb
      have cu':=cell_ext cu hb
      have cl':=cell_ext cl0 hb
      have cc':=cell_ext cc0 hb
      have q1:=Q1.out
      have bk:=BK.out
      have hsz:=hb.size
      have t9:=R0.cell (j:=9) rfl
      have r1:=R1.cell (j:=0) rfl
      have l0:=R0.lt
      have l1:=R1.lt
      have HR0:=Lib.hid R0
      have HR1:=Lib.hid R1
      clear hm0 hm hdd ht0 ad2 hi hz1 cu iu cl0 cc0 hx hz hji R0 R1
      by_cases hx0:0≤x
      · have d1:decide (0≤x)=true:=decide_eq_true hx0
        rw[d1,if_pos rfl]at MD
        go_wp2
        go_quiet (fail)
        refine draw_then fun w4 hq4=>?_
        have e4:=hq4.ext
        have hb4:=ext_trans hb e4
        have R04:=HR0.out.ext e4
        have R14:=HR1.out.ext e4
        have HO4:=Lib.hid (owns_ext HO.out e4)
        clear z2' cu' cl' cc' q1 q2 q3 q4 t9 r1 l0 l1 bu bl bc bk HR0 HR1 hb HO hq4 e4
        go_wp2
        go_roundw
        case rel=>exact ⟨j,by omega,rfl,by rw[MD.out],hb4,R04,R14,HO4⟩
        case measure=>simp[intOf]<;>omega
      · have d1:decide (0≤x)=false:=decide_eq_false hx0
        rw[d1,if_neg (by simp)]at MD
        go_wp2
        go_quiet (fail)
        refine draw_then fun w4 hq4=>?_
        have e4:=hq4.ext
        have hb4:=ext_trans hb e4
        have R04:=HR0.out.ext e4
        have R14:=HR1.out.ext e4
        have HO4:=Lib.hid (owns_ext HO.out e4)
        clear z2' cu' cl' cc' q1 q2 q3 q4 t9 r1 l0 l1 bu bl bc bk HR0 HR1 hb HO hq4 e4
        go_wp2
        go_roundw
        case rel=>exact ⟨j,by omega,rfl,by rw[MD.out],hb4,R04,R14,HO4⟩
        case measure=>simp[intOf]<;>omega
def TimR (B:Nat) (s:SysF) (ch:List Int) (e:Int) (w':World) (r:Value):Prop:=(sceneE s ch e=0∧(∃u,r=.tuple #[u,.int .i64 0]∧Ints (fun b=>B≤b) w' u (rndL s ch e.toNat)))∨(sceneE s ch e≠0∧r=.tuple #[.slice none 0 0,.int .i64 (sceneE s ch e)])
theorem rTim_calls {S S2:Nat→Prop} {w:World} {v vch:Value} {s:SysF} {ch:List Int} (e:Int) (h:SysV S w v s) (hf:SmallP s.p) (h2:Ints S2 w vch ch):
    Calls Tryz.prog 31 #[v,.agg #[vch],.int .i64 e] w (Post w (TimR w.heap.size s ch e)):=by
  have KV:Hid (∀W,Below w.heap.size w W→Calls Tryz.prog 66 #[v,.agg #[vch],.int .i64 e] W (Post W fun _ r=>r=.int .i64 (sceneE s ch e))):=Lib.hid fun W hW=>rscene_calls e (h.ext hW) hf (h2.ext hW)
  have KD:Hid (sceneE s ch e=0→∀W,Below w.heap.size w W→Calls Tryz.prog 68 #[v,.agg #[vch],.int .i64 e] W (Post W fun w' r=>Ints (fun b=>W.heap.size≤b) w' r (rndL s ch e.toNat))):=Lib.hid fun h0 W hW=>by
    obtain ⟨j1,j2,j3,j4⟩:=sceneE_ok h0
    obtain ⟨m,rfl⟩:=Int.eq_ofNat_of_zero_le j3
    rw[Int.toNat_natCast]
    exact rrnds_calls (h.ext hW) (good_sys j1 h.moves8) (h2.ext hW) j2 (by omega)
  obtain ⟨vc,vs,vt,vx,rfl,hc,hs,ht,hx⟩:=h
  obtain ⟨ca,cc,rfl,_⟩:=hc.form
  obtain ⟨sa,sc,rfl,_⟩:=hs.form
  obtain ⟨ta,tc,rfl,_⟩:=ht.form
  obtain ⟨xa,xc,rfl,xad,_⟩:=hx.form2
  obtain ⟨a2,c2,rfl,_⟩:=h2.form
  have ex:=ext_alloc' (ext_alloc w (.cells #[.int .i64 s.p.n,.int .i64 s.p.ins,.int .i64 s.p.outs,.slice ca s.p.cs.length cc,.int .i64 s.p.an,.slice sa s.p.st.length sc,.int .i64 s.p.rounds,.int .i64 s.tn,.slice ta s.tab.length tc,.slice xa s.ex.length xc] 35)) (.cells #[.slice a2 ch.length c2] 38)
  have R0:=(row_new w [.int .i64 s.p.n,.int .i64 s.p.ins,.int .i64 s.p.outs,.slice ca s.p.cs.length cc,.int .i64 s.p.an,.slice sa s.p.st.length sc,.int .i64 s.p.rounds,.int .i64 s.tn,.slice ta s.tab.length tc,.slice xa s.ex.length xc] 35).alloc (.cells #[.slice a2 ch.length c2] 38)
  have R1:=row_new (w.alloc (.cells #[.int .i64 s.p.n,.int .i64 s.p.ins,.int .i64 s.p.outs,.slice ca s.p.cs.length cc,.int .i64 s.p.an,.slice sa s.p.st.length sc,.int .i64 s.p.rounds,.int .i64 s.tn,.slice ta s.tab.length tc,.slice xa s.ex.length xc] 35)) [.slice a2 ch.length c2] 38
  rw[World.size_alloc]at R1
  have t0:=R0.cell (j:=0) rfl
  have t1:=R0.cell (j:=1) rfl
  have t2:=R0.cell (j:=2) rfl
  have t3:=R0.cell (j:=3) rfl
  have t4:=R0.cell (j:=4) rfl
  have t5:=R0.cell (j:=5) rfl
  have t6:=R0.cell (j:=6) rfl
  have t7:=R0.cell (j:=7) rfl
  have t8:=R0.cell (j:=8) rfl
  have t9:=R0.cell (j:=9) rfl
  have r1:=R1.cell (j:=0) rfl
  have l1:=R1.lt
  have l0:=R0.lt
  have HD:Hid (∀w' r,(sceneE s ch e=0∧(∃u,r=.tuple #[u,.int .i64 0]∧Ints (fun b=>w.heap.size≤b) w' u (rndL s ch e.toNat)))∨(sceneE s ch e≠0∧r=.tuple #[.slice none 0 0,.int .i64 (sceneE s ch e)])→TimR w.heap.size s ch e w' r):=Lib.hid fun w' r h=>h
  obtain ⟨ve,hve⟩:∃x,x=sceneE s ch e:=⟨_,rfl⟩
  rw[←hve]at KV KD HD
  clear hc hs ht hx h2 hf hve xad
  go_enter Tryz.func31,Tryz.ntmps31
  go_wp2_with fail
  refine (KV.out _ ex).mono ?_
  rintro _ w1 ⟨_,rfl,hb1,rfl⟩
  replace R0:=R0.ext hb1
  replace R1:=R1.ext hb1
  replace ex:=ext_trans ex hb1
  clear t0 t1 t2 t3 t4 t5 t6 t7 t8 t9 l0 r1 l1 hb1 KV
  by_cases hv0:ve=0
  case neg=>
    have d0:(ve !=0)=true:=by simp[hv0]
    have RE:=Lib.hid (HD.out w1 _ (.inr ⟨hv0,rfl⟩))
    clear hv0
    go_wp2
    go_ret2
    exact .mk ex RE.out
  subst hv0
  have KD2:=KD.out rfl
  have d0:((0:Int) !=0)=false:=rfl
  have t0:=R0.cell (j:=0) rfl
  have t1:=R0.cell (j:=1) rfl
  have t2:=R0.cell (j:=2) rfl
  have t3:=R0.cell (j:=3) rfl
  have t4:=R0.cell (j:=4) rfl
  have t5:=R0.cell (j:=5) rfl
  have t6:=R0.cell (j:=6) rfl
  have t7:=R0.cell (j:=7) rfl
  have t8:=R0.cell (j:=8) rfl
  have t9:=R0.cell (j:=9) rfl
  have r1:=R1.cell (j:=0) rfl
  have l1:=R1.lt
  have l0:=R0.lt
  go_wp2_with fail
  refine (KD2 _ ex).mono ?_
  rintro _ w2 ⟨vo,rfl,hb2,ho⟩
  have hs1:=ex.size
  replace ex:=ext_trans ex hb2
  obtain ⟨oa,oc,rfl,_⟩:=ho.form
  have RE:=Lib.hid (HD.out w2 _ (.inl ⟨(by first | exact trivial | rfl),_,rfl,ho.mono (fun b hb=>by omega)⟩))
  clear t0 t1 t2 t3 t4 t5 t6 t7 t8 t9 l0 r1 l1 hb2 ho KD2 KD R0 R1 d0
  go_wp2
  go_ret2
  exact .mk ex RE.out
end Go.Proofs.YtcopehiceihdaaaGreat
namespace Go.Proofs.YtcopehiceihdaaaGreat
open Go.RowKit
attribute [local go_sem ↓] Go.wp_at_zero Go.wp_at_succ
def stepM (o:Bool) (r:Int) (ab:Int×Int):Option (Int×Int):=if o then (if r<0 then none else some (if ab.1<r then r else ab.1,ab.2+r)) else some ab
def meaP (ob:Nat→Bool) (rd:Nat→Int):Nat→Int×Int→Option (Int×Int)
  | 0,ab=>some ab
  | j+1,ab=>(meaP ob rd j ab).bind (stepM (ob j) (rd j))
def meaE (OB:Nat→Nat→Bool) (RD:Nat→Nat→Int) (N:Nat):Nat→Option (Int×Int)
  | 0=>some (0,0)
  | k+1=>(meaE OB RD N k).bind (meaP (OB k) (RD k) N)
theorem meaE_none {OB:Nat→Nat→Bool} {RD:Nat→Nat→Int} {N k:Nat} (h:meaE OB RD N k=none):∀{K:Nat},k≤K→meaE OB RD N K=none:=by
  intro K
  induction K with
  | zero => intro hj; obtain rfl : k = 0 := by omega
            exact h
  | succ K ih=>
    intro hj
    by_cases e:k=K+1
    · rw[←e];exact h
    · unfold meaE;rw[ih (by omega)];rfl
def oblB (s:SysF) (e q:Nat):Bool:=(maskW s.N (nthX s.ex e).word).testBit q
def rdV (s:SysF) (ch:List Int) (e q:Nat):Int:=rndQ ch (nthX s.ex e).vs s.K q
theorem rdV_bound (s:SysF) (ch:List Int) {K:Nat} (hK:s.K≤6) (e q:Nat): -1≤rdV s ch e q∧rdV s ch e q≤6:=by
  have:=minT_ge (decAt ch (nthX s.ex e).vs q) (s.K+1) 0
  unfold rdV rndQ;omega
def meaS (s:SysF) (ch:List Int):Option (Int×Int):=meaE (oblB s) (rdV s ch) s.N s.ex.length
def measT (s:SysF) (ch:List Int):Int×Int×Int:=if ruleE s ch=0 then (match meaS s ch with | some ab=>(ab.1,ab.2,0) | none=>(0,0,20)) else (0,0,ruleE s ch)
def measV (t:Int×Int×Int):Value:=.tuple #[.int .i64 t.1,.int .i64 t.2.1,.int .i64 t.2.2]
end Go.Proofs.YtcopehiceihdaaaGreat
namespace Go.Proofs.YtcopehiceihdaaaGreat
open Go.RowKit
attribute [local go_sem ↓] Go.wp_at_zero Go.wp_at_succ
theorem formE_len {s:SysF} {ch:List Int} (h:formE s ch=0):ch.length=s.tab.length:=by
  unfold formE at h
  split at h
  · assumption
  · omega
end Go.Proofs.YtcopehiceihdaaaGreat
namespace Go.Proofs.YtcopehiceihdaaaGreat
open Go.RowKit
attribute [local go_sem ↓] Go.wp_at_zero Go.wp_at_succ
def agrB (f:Nat) (outs v:List Int):Bool:=(List.range v.length).all fun p=>f.testBit p||decide (nth outs p=nth v p)
def agrTo (f:Nat) (outs v:List Int) (k:Nat):Bool:=(List.range k).all fun p=>f.testBit p||decide (nth outs p=nth v p)
theorem agrTo_succ (f:Nat) (outs v:List Int) (k:Nat):agrTo f outs v (k+1)=(agrTo f outs v k&&(f.testBit k||decide (nth outs k=nth v k))):=by unfold agrTo;rw[List.range_succ,List.all_append];simp
theorem agrB_no {f:Nat} {outs v:List Int} {k:Nat} (hk:k<v.length) (h:(f.testBit k||decide (nth outs k=nth v k))=false):agrB f outs v=false:=by
  cases hb:agrB f outs v with
  | false=>rfl
  | true=>rw[List.all_eq_true.1 hb k (List.mem_range.2 hk)]at h;cases h
def vecsOf (c:CaseD) (f:Nat):List (List Int):=if f=0∧0<c.calm.length then c.calm else c.out
def mayB (c:CaseD) (f:Nat) (outs:List Int):Bool:=(vecsOf c f).any (agrB f outs)
theorem agrees_q {S S2:Nat→Prop} {w:World} {vv vo:Value} {v outs:List Int} {f:Nat} (h:Ints S w vv v) (ho:Ints S2 w vo outs) (hl:v.length≤outs.length) (h5:v.length≤5):
    Calls Tryz.prog 64 #[vv,vo,.int .i64 f] w (QuietP w (.bool (agrB f outs v))):=by
  obtain ⟨va,vc,rfl,_⟩:=h.form
  obtain ⟨oa,oc,rfl,_⟩:=ho.form
  have HV:=Lib.hid h
  have HO:=Lib.hid ho
  have HB:Hid (agrB f outs v=agrTo f outs v v.length):=Lib.hid rfl
  have HN:Hid (∀k,k<v.length→(f.testBit k||decide (nth outs k=nth v k))=false→agrB f outs v=false):=Lib.hid fun k hk h=>agrB_no hk h
  have HS:=Lib.hid (agrTo_succ f outs v)
  obtain ⟨r,hr⟩:∃r,r=agrB f outs v:=⟨_,rfl⟩
  rw[←hr]at HB HN ⊢
  have hqw:QW w w:=⟨0,rfl⟩
  clear h ho hr
  go_enter Tryz.func64,Tryz.ntmps64
  go_wp2
  go_loopw [7,8,11] (fun _ _ i wr=>∃k:Nat,k≤v.length∧i=.int .i64 k∧QW w wr∧Hid (agrTo f outs v k=true)) (fun _ _ i _=>v.length - (intOf i).toNat)
  case atStart=>exact ⟨0,Nat.zero_le _,rfl,hqw,Lib.hid rfl⟩
  case round=>
    clear hqw
    obtain ⟨k,hk,rfl,hqw,HT⟩:=hrel
    by_cases hlt:k<v.length
    case neg=>
      obtain rfl:k=v.length:=by omega
      have RR:Hid (r=true):=Lib.hid (by rw[HB.out,HT.out])
      go_wp2
      go_ret
      exact .fin (by rw[RR.out];rfl) hqw
    have hko:k<outs.length:=by omega
    have q1:=HV.out.idx hlt
    have q2:=HO.out.idx hko
    have cv:=(HV.out.ext hqw.ext).cellN hlt
    have co:=(HO.out.ext hqw.ext).cellN hko
    have bv:=World.block_lt_of_cell? _ _ cv
    have bo:=World.block_lt_of_cell? _ _ co
    have HK:=Lib.hid (HN.out k hlt)
    have HSK:=Lib.hid (HS.out k)
    obtain ⟨x,hx⟩:∃x,x=nth v k:=⟨_,rfl⟩
    obtain ⟨y,hy⟩:∃y,y=nth outs k:=⟨_,rfl⟩
    rw[←hx,←hy]at HK HSK
    rw[←hx]at cv
    rw[←hy]at co
    have DB:=bit_if (a:=f) (p:=k)
    have hk64:(k:Int)<64:=by omega
    obtain ⟨bt,hbt⟩:∃bt,bt=f.testBit k:=⟨_,rfl⟩
    rw[←hbt]at DB HK HSK
    clear hx hy hbt hko
    cases bt with
    | true=>
      rw[Bool.not_true]at DB
      have HT2:Hid (agrTo f outs v (k+1)=true):=Lib.hid (by rw[HSK.out,HT.out];rfl)
      go_wp2
      go_roundw
      case rel=>exact ⟨k+1,by omega,by go_num,hqw,HT2⟩
      case measure=>simp[intOf];omega
    | false=>
      rw[Bool.not_false]at DB
      by_cases he:y=x
      · have d1:(y !=x)=false:=by simp[he]
        have HT2:Hid (agrTo f outs v (k+1)=true):=Lib.hid (by rw[HSK.out,HT.out,decide_eq_true he];rfl)
        clear he
        go_wp2
        go_roundw
        case rel=>exact ⟨k+1,by omega,by go_num,hqw,HT2⟩
        case measure=>simp[intOf];omega
      · have d1:(y !=x)=true:=by simp[he]
        have RR:Hid (r=false):=Lib.hid (HK.out (by rw[decide_eq_false he];rfl))
        clear he
        go_wp2
        go_ret
        exact .fin (by rw[RR.out];rfl) hqw
theorem pallowed_calls {S:Nat→Prop} {w:World} {v1 v2 v3:Value} {c:CaseD} {f:Nat} (h1:Ints S w v1 c.inn) (h2:Lists S w v2 c.out) (h3:Lists S w v3 c.calm):
    Calls Tryz.prog 62 #[.agg #[v1,v2,v3],.int .i64 f] w (Post w fun w' r=>Lists S w' r (vecsOf c f)):=by
  obtain ⟨a1,c1,rfl,_⟩:=h1.form
  obtain ⟨a2,c2,rfl,_⟩:=h2.form
  obtain ⟨a3,c3,rfl,_⟩:=h3.form
  have ex:=ext_alloc w (.cells #[.slice a1 c.inn.length c1,.slice a2 c.out.length c2,.slice a3 c.calm.length c3] 119)
  have R:=row_new w [.slice a1 c.inn.length c1,.slice a2 c.out.length c2,.slice a3 c.calm.length c3] 119
  have r1:=R.cell (j:=1) rfl
  have r2:=R.cell (j:=2) rfl
  have l:=R.lt
  have HC:=Lib.hid (h2.ext ex)
  have HA:=Lib.hid (h3.ext ex)
  have HX:=Lib.hid ex
  by_cases h0:f=0
  · have d1:((f:Int)==0)=true:=by simp[h0]
    by_cases hc:0<c.calm.length
    · have d2:decide (0<c.calm.length)=true:=decide_eq_true hc
      have RR:Hid (vecsOf c f=c.calm):=Lib.hid (if_pos ⟨h0,hc⟩)
      clear h0 hc h1 h2 h3
      go_enter Tryz.func62,Tryz.ntmps62
      go_wp2
      go_ret
      exact .mk HX.out (by rw[RR.out];exact HA.out)
    · have d2:decide (0<c.calm.length)=false:=decide_eq_false hc
      have RR:Hid (vecsOf c f=c.out):=Lib.hid (if_neg fun h=>hc h.2)
      clear h0 hc h1 h2 h3
      go_enter Tryz.func62,Tryz.ntmps62
      go_wp2
      go_ret
      exact .mk HX.out (by rw[RR.out];exact HC.out)
  · have d1:((f:Int)==0)=false:=by simp[h0]
    have RR:Hid (vecsOf c f=c.out):=Lib.hid (if_neg fun h=>h0 h.1)
    clear h0 h1 h2 h3
    go_enter Tryz.func62,Tryz.ntmps62
    go_wp2
    go_ret
    exact .mk HX.out (by rw[RR.out];exact HC.out)
end Go.Proofs.YtcopehiceihdaaaGreat
namespace Go.Proofs.YtcopehiceihdaaaGreat
open Go.RowKit
attribute [local go_sem ↓] Go.wp_at_zero Go.wp_at_succ
theorem idx_caseT {S:Nat→Prop} {w:World} {a:Option Addr} {n cap:Nat} (h:Ad S w a n cap):∀k:Nat,k<n→∀W:World,(Instr.indexAt 22 (.slice a n cap) (.int .i64 k)).run Tryz.prog W=.ok (.pointer (some (adr a (k * 3)))) W:=by
  have hic:=congrArg (Option.map (·.2.1)) info_caseB
  cases hi:Tryz.prog.info? 119 with
  | none=>rw[hi]at hic;cases hic
  | some t=>
    rw[hi]at hic
    exact fun k hk W=>idx_wide Tryz.underlying22 hi (by simpa using hic) h k hk W
theorem ProbOK.vecs {p:ProbD} {N c f:Nat} (h:ProbOK p N) (hc:c<p.cs.length):∀v∈vecsOf (nthC p.cs c) f,v.length=N∧∀x∈v,0≤x∧x<p.outs:=by
  have h1:=(caseE_zero ((checkT_zero h.t).2.2.2.2.2.2.2.2 c hc)).2
  unfold vecsE at h1
  split at h1
  · cases h1
  rename_i hlen
  by_cases h2:firstE (outE p.n p.outs (nthC p.cs c).out) (nthC p.cs c).out.length=0
  case neg=>rw[if_neg h2]at h1;exact absurd h1 h2
  rw[if_pos h2]at h1
  have hout:∀v∈(nthC p.cs c).out,v.length=N∧∀x∈v,0≤x∧x<p.outs:=fun v hv=>by
    obtain ⟨j,hj,e⟩:=List.getElem_of_mem hv
    have h3:=firstE_iff.1 h2 j hj
    unfold outE at h3
    by_cases h4:vecE (nthL (nthC p.cs c).out j) p.n p.outs=0
    · have h5:=vecE_zero h4
      rw[nthL_eq hj,e,h.n]at h5
      exact ⟨by omega,h5.2⟩
    · rw[if_neg h4]at h3;exact absurd h3 h4
  intro v hv
  unfold vecsOf at hv
  split at hv
  · obtain ⟨j,hj,e⟩:=List.getElem_of_mem hv
    have h3:=firstE_iff.1 h1 j hj
    unfold calmE at h3
    by_cases h4:nthL (nthC p.cs c).calm j∈(nthC p.cs c).out
    · rw[nthL_eq hj,e]at h4;exact hout v h4
    · rw[decide_eq_false h4]at h3;simp at h3
  · exact hout v hv
def okE (s:SysF) (ch:List Int) (e:Nat):Bool:=mayB (nthC s.p.cs (nthX s.ex e).case.toNat) (fltyW (nthX s.ex e).word).toNat (valsL ch (finL s e))
theorem minT_step {f:Nat→Bool} {E k:Nat} (hk:k<E):minT f k (E - k)=if f k then (k:Int) else minT f (k+1) (E - (k+1)):=by
  rw[show E - k=(E - (k+1))+1 by omega];rfl
def failE (s:SysF) (ch:List Int):Int:=minT (fun e=> !okE s ch e) 0 s.ex.length
def solT (s:SysF) (ch:List Int):Bool×Int×Int:=if ruleE s ch=0 then (if failE s ch<0 then (true,0,0) else (false,failE s ch,0)) else (false,0,ruleE s ch)
def solV (t:Bool×Int×Int):Value:=.tuple #[.bool t.1,.int .i64 t.2.1,.int .i64 t.2.2]
end Go.Proofs.YtcopehiceihdaaaGreat
namespace Go.Proofs.YtcopehiceihdaaaGreat
open Go.RowKit Go.Shelf
attribute [local go_sem ↓] Go.wp_at_zero Go.wp_at_succ
theorem minT_up {f:Nat→Bool} {K m:Nat} (hm:m≤K):minT f m (K+1 - m)=if f m then (m:Int) else minT f (m+1) (K+1 - (m+1)):=minT_down hm
theorem range_prefix {k N:Nat} (h:k≤N):List.range k<+:List.range N:=by
  obtain ⟨d,rfl⟩:∃d,N=k+d:=⟨N - k,by omega⟩
  rw[List.range_add]
  exact List.prefix_append _ _
theorem grownBy_drewN (w:World) (n:Nat):w.grownBy (w.drewN n) none:=⟨rfl,rfl,rfl,Nat.le_refl _,fun _ _ _=>rfl⟩
theorem QW.grown {w w':World} (h:QW w w'):w.grownBy w' none:=by obtain ⟨n,rfl⟩:=h;exact grownBy_drewN w n
theorem abides_q {β:Type} {B:Nat} {J:β→World→Prop} (hJ:AbidesFrom B J) {s:β} {W W':World} (h:J s W) (hq:QW W W'):J s W':=hJ s W W' none h hq.grown (fun r e=>by cases e)
structure TimV (w:World) (S S2:Nat→Prop) (xa:Option Addr) (xc:Nat) (xs:List ExecD) (e N K:Nat) (a2:Option Addr) (c2:Nat) (ch:List Int):Prop where
  ex:Sl kExec S w (.slice xa xs.length xc) xs
  lt:e<xs.length
  len:(nthX xs e).vs.length=K+1
  rows:∀k,k≤K→(nthL (nthX xs e).vs k).length=N
  vw:∀k,k≤K→∀q,q<N→∃z:Nat,z<ch.length∧nth (nthL (nthX xs e).vs k) q=z
  rule:Ints S2 w (.slice a2 ch.length c2) ch
  N5:N≤5
  K6:K≤6
theorem times_stops {S S2 T:Nat→Prop} {w:World} {n B1 B2 B3 N K e:Nat} (hn:1≤n) {p1 p2 p3 p4 p5 p6 p7 p8:Value} {xa a2:Option Addr} {xc c2:Nat} {xs:List ExecD} {ch:List Int}
    (R1:Row w B1 35 [.int .i64 N,p1,p2,p3,p4,p5,p6,p7,p8,.slice xa xs.length xc]) (R2:Row w B2 3 [.int .i64 e]) (R3:Row w B3 38 [.slice a2 ch.length c2]) (V:TimV w S S2 xa xc xs e N K a2 c2 ch)
    (hT1:T B1) (hT2:T B2) (hT3:T B3) (hTS:∀b,S b→T b) (hTS2:∀b,S2 b→T b) (hTw:∀b,T b→b<w.heap.size):
    SeqStopsK Fence.wide n Tryz.prog 94 #[.pointer (some ⟨B1,0,none⟩),.pointer (some ⟨B2,0,none⟩),.pointer (some ⟨B3,0,none⟩)] (fun x:{x:Nat // x<N}=>#[.int .i64 x.1,.int .i64 (rndQ ch (nthX xs e).vs K x.1)]) (Agree T) (fun l=>l.map (·.1)=List.range N) (fun pre=>pre.map (·.1)<+:List.range N) N w:=by
  intro l J Jx W hW hJ hJx hY h0
  have he:=V.lt
  have hN5:=V.N5
  have hK6:=V.K6
  have hLE:=V.len
  obtain ⟨_,_,hee0,xad,_⟩:=V.ex.form2
  cases hee0
  have q1:=idx_exec xad e he
  obtain ⟨a1,c1,a3,c3,z0,z1,z2,i1,i2⟩:=V.ex.exec he
  have HR:=V.rule
  have HLN0:=V.rows
  have HVW0:=V.vw
  obtain ⟨vs,hvs⟩:∃vs,vs=(nthX xs e).vs:=⟨_,rfl⟩
  rw[←hvs]at z2 i2 hLE HLN0 HVW0
  simp only[←hvs]at hY
  have HLN:=Lib.hid HLN0
  have HVW:=Lib.hid HVW0
  have HY:=Lib.hid hY
  have H0:=Lib.hid h0
  have HJ:=Lib.hid hJ
  have R1:=R1.ext hW
  have R2:=R2.ext hW
  have R3:=R3.ext hW
  have HR3:Hid (∀W',Agree T W W'→Row W' B3 38 [.slice a2 ch.length c2]):=Lib.hid fun W' h=>R3.agree h hT3
  have HVS:Hid (∀W',Agree T W W'→Lists S W' (.slice a3 vs.length c3) vs):=Lib.hid fun W' h=>Lists.agree i2 ((Agree.of_ext hW).trans (h.mono hTS))
  have HRU:Hid (∀W',Agree T W W'→Ints S2 W' (.slice a2 ch.length c2) ch):=Lib.hid fun W' h=>HR.agree ((Agree.of_ext hW).trans (h.mono hTS2))
  obtain ⟨_,_,hee,ad2,_⟩:=Lists.form i2
  cases hee
  obtain ⟨i0,hi,_,hz1,_⟩:=info_parts info_ints
  have Q2:=Lib.hid (idx_one Tryz.underlying66 hi hz1 ad2)
  obtain ⟨L,hL⟩:∃L,L=vs.length:=⟨_,rfl⟩
  rw[←hL]at z2 hLE HVS Q2
  have HL:=Lib.hid hLE
  have HLV:=Lib.hid hL.symm
  have z2':=cell_ext z2 hW
  have bk:=World.block_lt_of_cell? _ _ z2'
  have t0:=R1.cell (j:=0) rfl
  have t9:=R1.cell (j:=9) rfl
  have te:=R2.cell (j:=0) rfl
  have l1:=R1.lt
  have l2:=R2.lt
  have hag:Agree T W W:=.refl _ _
  have hLm:L≤7:=by omega
  clear hJ hJx hY h0 hTS hTS2 hTw R1 R2 R3 V z0 z1 z2 i1 i2 hvs HLN0 HVW0 HR ad2 hi hz1 hL hLE xad hT1 hT2 hT3
  refine callsIn_of_wp Tryz.func94 rfl trivial ?_ rfl
  simp only[Tryz.ntmps94,List.size_toArray,List.length_cons,List.length_nil,Nat.reduceAdd,Nat.reduceSub,Array.replicate_succ,Array.replicate_zero,List.push_toArray,List.append_toArray,List.nil_append,List.cons_append]
  gi_wp2
  clear t0 t9 te l1 l2 z2' bk q1
  gi_loopw [6,7,8,19] (fun _ _ _ i wr=>∃(k:Nat) (pre:List {x:Nat // x<N}),k≤N∧i=.int .i64 k∧Hid (J pre wr)∧Hid (pre.map (·.1)=List.range k)∧Agree T W wr) (fun _ _ _ i _=>N - (intOf i).toNat)
  case atStart=>exact ⟨0,[],Nat.zero_le _,rfl,H0,Lib.hid rfl,hag⟩
  case round=>
    obtain ⟨k,pre,hk,rfl,HJs,HP,hA⟩:=hrel
    obtain ⟨wo,hwo⟩:∃wo:World,wo=wr:=⟨_,rfl⟩
    rw[←hwo]at HJs hA ⊢
    clear hwo
    by_cases hlt:k<N
    case neg=>
      obtain rfl:k=N:=by omega
      gi_wp2
      go_end0
      exact ⟨⟨_,rfl⟩,.inl ⟨pre,HP.out,HJs.out⟩⟩
    have HPN:Hid ((pre++[(⟨k,hlt⟩:{x:Nat // x<N})]).map (·.1)=List.range (k+1)):=Lib.hid (by rw[List.range_succ,List.map_append,HP.out];rfl)
    have HPX:Hid ((pre++[(⟨k,hlt⟩:{x:Nat // x<N})]).map (·.1)<+:List.range N):=Lib.hid (by rw[HPN.out];exact range_prefix hlt)
    have hpl:pre.length<N:=by
      have h2:=congrArg List.length HP.out
      rw[List.length_map,List.length_range]at h2
      omega
    gi_wp2
    gi_loopw [7,8,24] (fun at' _ i wi=>∃m:Nat,m≤L∧i=.int .i64 m∧at'=.int .i64 (-1)∧Hid (J pre wi)∧Agree T W wi∧Hid (rndQ ch vs K k=minT (decAt ch vs k) m (K+1 - m))) (fun _ _ i _=>L - (intOf i).toNat)
    case atStart=>exact ⟨0,Nat.zero_le _,rfl,rfl,HJs,hA,Lib.hid rfl⟩
    case round=>
      clear HJs HP hA
      obtain ⟨m,hm,rfl,rfl,HJs,hA,HM⟩:=hrel
      by_cases hml:m<L
      case neg=>
        obtain rfl:m=L:=by omega
        have hx:(-1:Int)=rndQ ch vs K k:=by rw[HM.out,HL.out,Nat.sub_self];rfl
        clear HM hml
        obtain ⟨fn,tmps,assign,body,hyy,hRnd⟩:=HY.out pre ⟨k,hlt⟩ _ HJs.out hpl
        dsimp only at hyy
        rw[←hx]at hyy
        clear hx
        gi_wp2
        refine hRnd.mono ?_
        rintro e W3 (⟨rfl,hJ3,hk3⟩ | ⟨rfl,hJx3⟩)
        · have HJ3:=Lib.hid hJ3
          have hA3:=hA.trans hk3
          clear hJ3 hyy hRnd
          gi_wp2
          go_roundw
          case rel=>exact ⟨k+1,_,by omega,by go_num,HJ3,HPN,hA3⟩
          case measure=>simp[intOf];omega
        · have HJ3:=Lib.hid hJx3
          clear hJx3 hyy hRnd
          gi_wp2
          refine bodyPost_ret (results_none rfl _ _ _) rfl ?_
          exact ⟨⟨_,rfl⟩,.inr ⟨_,HPX.out,HJ3.out⟩⟩
      have hmK:m≤K:=by have:=HL.out;omega
      have MU:=Lib.hid (minT_up (f:=decAt ch vs k) hmK)
      obtain ⟨z,hzc,hz⟩:=HVW.out m hmK k hlt
      have hdd:decAt ch vs k m=decide (0≤nth ch z):=by unfold decAt;rw[hz];rfl
      rw[hdd]at MU
      have q2:=Q2.out m hml
      have hmv:m<vs.length:=by rw[HLV.out];exact hml
      have hvl:=HVS.out wr hA
      rw[←HLV.out]at hvl
      obtain ⟨u,cu,iu⟩:=hvl.at (.refl _ _) hmv
      clear hvl
      obtain ⟨fa,fc,rfl,_⟩:=iu.form
      have hjn:k<(nthL vs m).length:=by rw[HLN.out m hmK];exact hlt
      have q3:=iu.idx hjn
      have cl:=iu.cellN hjn
      rw[hz]at cl
      have bu:=World.block_lt_of_cell? _ _ cu
      have bl:=World.block_lt_of_cell? _ _ cl
      have q4:=(HRU.out wr hA).idx hzc
      have cc:=(HRU.out wr hA).cellN hzc
      have bc:=World.block_lt_of_cell? _ _ cc
      have r3:=(HR3.out wr hA).cell (j:=0) rfl
      have l3:=(HR3.out wr hA).lt
      obtain ⟨x,hx⟩:∃x,x=nth ch z:=⟨_,rfl⟩
      rw[←hx]at MU cc
      clear hdd hx hz hjn iu hmv
      by_cases hx0:0≤x
      · have d1:decide (0≤x)=true:=decide_eq_true hx0
        rw[d1,if_pos rfl]at MU
        clear hx0
        gi_wp2
        refine wpIn_wide.2 ?_
        go_quiet (fail)
        refine draw_then fun w4 hq4=>?_
        replace HJs:=Lib.hid (abides_q HJ.out HJs.out hq4)
        replace hA:=hA.trans (Agree.of_ext hq4.ext)
        have hx:(m:Int)=rndQ ch vs K k:=by rw[HM.out,MU.out]
        clear cu cl cc r3 l3 bu bl bc q2 q3 q4 hq4 MU HM d1
        obtain ⟨fn,tmps,assign,body,hyy,hRnd⟩:=HY.out pre ⟨k,hlt⟩ _ HJs.out hpl
        dsimp only at hyy
        rw[←hx]at hyy
        clear hx
        gi_wp2
        refine hRnd.mono ?_
        rintro e W3 (⟨rfl,hJ3,hk3⟩ | ⟨rfl,hJx3⟩)
        · have HJ3:=Lib.hid hJ3
          have hA3:=hA.trans hk3
          clear hJ3 hyy hRnd
          gi_wp2
          go_roundw
          case rel=>exact ⟨k+1,_,by omega,by go_num,HJ3,HPN,hA3⟩
          case measure=>simp[intOf];omega
        · have HJ3:=Lib.hid hJx3
          clear hJx3 hyy hRnd
          gi_wp2
          refine bodyPost_ret (results_none rfl _ _ _) rfl ?_
          exact ⟨⟨_,rfl⟩,.inr ⟨_,HPX.out,HJ3.out⟩⟩
      · have d1:decide (0≤x)=false:=decide_eq_false hx0
        rw[d1,if_neg (by simp)]at MU
        clear hx0
        gi_wp2
        refine wpIn_wide.2 ?_
        go_quiet (fail)
        refine draw_then fun w4 hq4=>?_
        replace HJs:=Lib.hid (abides_q HJ.out HJs.out hq4)
        replace hA:=hA.trans (Agree.of_ext hq4.ext)
        have HM2:Hid (rndQ ch vs K k=minT (decAt ch vs k) (m+1) (K+1 - (m+1))):=Lib.hid (by rw[HM.out,MU.out])
        clear cu cl cc r3 l3 bu bl bc q2 q3 q4 hq4 MU HM d1
        gi_wp2
        go_roundw
        case rel=>exact ⟨m+1,by omega,by go_num,rfl,HJs,hA,HM2⟩
        case measure=>simp[intOf];omega
end Go.Proofs.YtcopehiceihdaaaGreat
