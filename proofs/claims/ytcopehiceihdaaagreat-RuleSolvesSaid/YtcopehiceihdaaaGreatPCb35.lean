/- Part of the proof that the laws of chapter 45 answer true for every input. -/
import Derived.Test.YtcopehiceihdaaaGreatPCb34
set_option linter.unusedSimpArgs false
set_option linter.unnecessarySimpa false
set_option linter.unusedVariables false
set_option maxRecDepth 100000
set_option maxHeartbeats 40000000
namespace Go.Proofs.YtcopehiceihdaaaGreat
open Go.RowKit
attribute [local go_sem ↓] Go.wp_at_zero Go.wp_at_succ
def frmV (T:List (List Int)) (ch:List Int) (outs:Int) (v:Nat):Int:=
  if nth ch v< -1∨outs≤nth ch v then 2 else if 0≤befV T v∧0≤nth ch (befV T v).toNat∧nth ch (befV T v).toNat≠nth ch v then 21 else 0
def formE (s:SysF) (ch:List Int):Int:=if ch.length=s.tab.length then firstE (frmV s.tab ch s.p.outs) ch.length else 15
theorem pform_calls {S S2:Nat→Prop} {w:World} {v vch:Value} {s:SysF} {N K:Nat} {ch:List Int} (h:SysV S w v s) (hT:TabOK N K s.tab) (h2:Ints S2 w vch ch):
    Calls Tryz.prog 45 #[v,.agg #[vch]] w (Post w fun _ r=>r=.int .i64 (formE s ch)):=by
  have H0:=Lib.hid h
  obtain ⟨vc,vs,vt,vx,rfl,hc,hs,ht,hx⟩:=h
  obtain ⟨ca,cc,rfl,_⟩:=hc.form
  obtain ⟨sa,sc,rfl,_⟩:=hs.form
  obtain ⟨ta,tc,rfl,_⟩:=ht.form
  obtain ⟨xa,xc,rfl,_⟩:=hx.form
  obtain ⟨a2,c2,rfl,_⟩:=h2.form
  have hm2:=h2.len
  unfold maxLen at hm2
  have H2:=Lib.hid h2
  have HTT:=Lib.hid hT
  have KB:Hid (∀W,Below w.heap.size w W→∀u,u<s.tab.length→Calls Tryz.prog 40 #[.agg #[.int .i64 s.tn,.slice ta s.tab.length tc],.int .i64 u] W (Post W fun _ r=>r=.int .i64 (befV s.tab u))):=Lib.hid fun W hW u hu=>pbefore_calls _ (ht.ext hW) hT hu
  have ex:=ext_alloc' (ext_alloc w (.cells #[.int .i64 s.p.n,.int .i64 s.p.ins,.int .i64 s.p.outs,.slice ca s.p.cs.length cc,.int .i64 s.p.an,.slice sa s.p.st.length sc,.int .i64 s.p.rounds,.int .i64 s.tn,.slice ta s.tab.length tc,.slice xa s.ex.length xc] 35)) (.cells #[.slice a2 ch.length c2] 38)
  have R0:=(row_new w [.int .i64 s.p.n,.int .i64 s.p.ins,.int .i64 s.p.outs,.slice ca s.p.cs.length cc,.int .i64 s.p.an,.slice sa s.p.st.length sc,.int .i64 s.p.rounds,.int .i64 s.tn,.slice ta s.tab.length tc,.slice xa s.ex.length xc] 35).alloc (.cells #[.slice a2 ch.length c2] 38)
  have R1:=row_new (w.alloc (.cells #[.int .i64 s.p.n,.int .i64 s.p.ins,.int .i64 s.p.outs,.slice ca s.p.cs.length cc,.int .i64 s.p.an,.slice sa s.p.st.length sc,.int .i64 s.p.rounds,.int .i64 s.tn,.slice ta s.tab.length tc,.slice xa s.ex.length xc] 35)) [.slice a2 ch.length c2] 38
  rw[World.size_alloc]at R1
  have t8:=R0.cell (j:=8) rfl
  have r1:=R1.cell (j:=0) rfl
  have l0:=R0.lt
  have l1:=R1.lt
  clear hc hs ht hx h2 hT
  by_cases hlen:ch.length=s.tab.length
  case neg=>
    have RE:Hid (formE s ch=15):=Lib.hid (by unfold formE;rw[if_neg hlen])
    have d1:((ch.length:Int) !=(s.tab.length:Int))=true:=by rw[bne_iff_ne];omega
    clear hlen
    go_enter Tryz.func45,Tryz.ntmps45
    go_wp2
    go_ret
    exact .mk ex (int_eq RE.out.symm)
  have d1:((ch.length:Int) !=(s.tab.length:Int))=false:=by rw[hlen];simp
  have HLEN:=Lib.hid hlen
  obtain ⟨r,hr⟩:∃r,r=formE s ch:=⟨_,rfl⟩
  rw[←hr]
  have HR:Hid (r=firstE (frmV s.tab ch s.p.outs) ch.length):=Lib.hid (by rw[hr];unfold formE;rw[if_pos hlen])
  clear hlen hr
  go_enter Tryz.func45,Tryz.ntmps45
  go_wp2
  clear t8 r1 l0 l1 d1
  go_loopw [5,6,7,19] (fun _ _ _ i wr=>∃k:Nat,k≤ch.length∧i=.int .i64 k∧Below w.heap.size w wr∧Row wr w.heap.size 35 [.int .i64 s.p.n,.int .i64 s.p.ins,.int .i64 s.p.outs,.slice ca s.p.cs.length cc,.int .i64 s.p.an,.slice sa s.p.st.length sc,.int .i64 s.p.rounds,.int .i64 s.tn,.slice ta s.tab.length tc,.slice xa s.ex.length xc]∧Row wr (w.heap.size+1) 38 [.slice a2 ch.length c2]∧Hid (∀j,j<k→frmV s.tab ch s.p.outs j=0)) (fun _ _ _ i _=>ch.length - (intOf i).toNat)
  case atStart=>exact ⟨0,Nat.zero_le _,rfl,ex,R0,R1,Lib.hid fun j hj=>by omega⟩
  case round=>
    clear ex R0 R1
    obtain ⟨k,hk,rfl,hb,R0,R1,HJ⟩:=hrel
    have r1:=R1.cell (j:=0) rfl
    have t2:=R0.cell (j:=2) rfl
    have t7:=R0.cell (j:=7) rfl
    have t8:=R0.cell (j:=8) rfl
    have l0:=R0.lt
    have l1:=R1.lt
    by_cases hlt:k<ch.length
    case neg=>
      have RE:Hid (r=0):=Lib.hid (by rw[HR.out];exact firstE_zero fun j hj=>HJ.out j (by omega))
      go_wp2
      go_ret
      exact .mk hb (int_eq RE.out.symm)
    have q1:=H2.out.idx hlt
    have cck:=(H2.out.ext hb).cellN hlt
    have hbk:=World.block_lt_of_cell? _ _ cck
    have hkT:k<s.tab.length:=by have:=HLEN.out;omega
    have HBF:=Lib.hid (HTT.out.bef hkT)
    have HF:Hid (frmV s.tab ch s.p.outs k=if nth ch k< -1∨s.p.outs≤nth ch k then 2 else if 0≤befV s.tab k∧0≤nth ch (befV s.tab k).toNat∧nth ch (befV s.tab k).toNat≠nth ch k then 21 else 0):=Lib.hid rfl
    have HFE:Hid (frmV s.tab ch s.p.outs k≠0→r=frmV s.tab ch s.p.outs k):=Lib.hid fun h0=>by rw[HR.out];exact firstE_at HJ.out h0 hlt
    have HNX:Hid (frmV s.tab ch s.p.outs k=0→∀j,j<k+1→frmV s.tab ch s.p.outs j=0):=Lib.hid fun h0 j hj=>by
      by_cases e:j=k
      · rw[e];exact h0
      · exact HJ.out j (by omega)
    obtain ⟨y,hy⟩:∃y,y=nth ch k:=⟨_,rfl⟩
    rw[←hy]at cck HF
    have HYY:=Lib.hid hy
    clear hy
    by_cases hA:y< -1∨s.p.outs≤y
    · have RE : Hid (r = 2) := Lib.hid (by have e2 : frmV s.tab ch s.p.outs k = 2 := by rw [HF.out, if_pos hA]
                                           rw[HFE.out (by rw[e2];decide),e2])
      have HA:=Lib.hid hA
      clear hA
      by_cases h1:y< -1
      · have e1:decide (y< -1)=true:=decide_eq_true h1
        clear h1
        go_wp2
        go_ret
        exact .mk hb (int_eq RE.out.symm)
      · have e1:decide (y< -1)=false:=decide_eq_false h1
        have e2:decide (s.p.outs≤y)=true:=decide_eq_true (by have:=HA.out;omega)
        clear h1
        go_wp2
        go_ret
        exact .mk hb (int_eq RE.out.symm)
    have e1:decide (y< -1)=false:=decide_eq_false (by omega)
    have e2:decide (s.p.outs≤y)=false:=decide_eq_false (by omega)
    have HF2:Hid (frmV s.tab ch s.p.outs k=if 0≤befV s.tab k∧0≤nth ch (befV s.tab k).toNat∧nth ch (befV s.tab k).toNat≠y then 21 else 0):=Lib.hid (by rw[HF.out,if_neg hA])
    clear hA HF
    go_wp2_with fail
    refine (KB.out _ hb k hkT).mono ?_
    rintro _ w5 ⟨_,rfl,hb5,rfl⟩
    replace R0:=R0.ext hb5
    replace R1:=R1.ext hb5
    replace hb:=ext_trans hb hb5
    clear r1 t2 t7 t8 l0 l1 cck hbk hb5
    have r1:=R1.cell (j:=0) rfl
    have l1:=R1.lt
    rcases HBF.out with hbv | ⟨u,hu,hbv⟩
    · have HX:=Lib.hid (HNX.out (by rw[HF2.out,if_neg (fun h=>by rw[hbv]at h;exact absurd h.1 (by decide))]))
      rw[hbv]
      clear hbv HF2 HFE HBF
      go_wp2
      go_roundw
      case rel=>exact ⟨k+1,by omega,by go_num,hb,R0,R1,HX⟩
      case measure=>simp[intOf];omega
    rw[hbv,Int.toNat_natCast]at HF2
    rw[hbv]
    have hul:u<ch.length:=by omega
    have q2:=H2.out.idx hul
    have ccu:=(H2.out.ext hb).cellN hul
    have hbu:=World.block_lt_of_cell? _ _ ccu
    have cck:=(H2.out.ext hb).cellN hlt
    rw[←HYY.out]at cck
    have hbk:=World.block_lt_of_cell? _ _ cck
    obtain ⟨y2,hy2⟩:∃y,y=nth ch u:=⟨_,rfl⟩
    rw[←hy2]at ccu HF2
    have d0:decide ((0:Int)≤(u:Int))=true:=decide_eq_true (by omega)
    clear hbv hy2 HBF
    by_cases h2:0≤y2
    case neg=>
      have e3:decide (0≤y2)=false:=decide_eq_false h2
      have HX:=Lib.hid (HNX.out (by rw[HF2.out,if_neg (fun h=>h2 h.2.1)]))
      clear h2
      go_wp2
      go_roundw
      case rel=>exact ⟨k+1,by omega,by go_num,hb,R0,R1,HX⟩
      case measure=>simp[intOf];omega
    have e3:decide (0≤y2)=true:=decide_eq_true h2
    by_cases h3:y2=y
    · have e4:(y2 !=y)=false:=by simp[h3]
      have HX:=Lib.hid (HNX.out (by rw[HF2.out,if_neg (fun h=>h.2.2 h3)]))
      clear h2 h3
      go_wp2
      go_roundw
      case rel=>exact ⟨k+1,by omega,by go_num,hb,R0,R1,HX⟩
      case measure=>simp[intOf];omega
    · have e4:(y2 !=y)=true:=by simp;omega
      have RE : Hid (r = 21) := Lib.hid (by have e5 : frmV s.tab ch s.p.outs k = 21 := by rw [HF2.out, if_pos ⟨by omega, h2, h3⟩]
                                            rw[HFE.out (by rw[e5];decide),e5])
      clear h2 h3
      go_wp2
      go_ret
      exact .mk hb (int_eq RE.out.symm)
theorem rform_calls {S S2:Nat→Prop} {w:World} {v vch:Value} {s:SysF} {N K:Nat} {ch:List Int} (h:SysV S w v s) (hT:TabOK N K s.tab) (h2:Ints S2 w vch ch):
    Calls Tryz.prog 46 #[v,.agg #[vch]] w (Post w fun _ r=>r=.int .i64 (formE s ch)):=by
  have H0:=Lib.hid h
  obtain ⟨vc,vs,vt,vx,rfl,hc,hs,ht,hx⟩:=h
  obtain ⟨ca,cc,rfl,_⟩:=hc.form
  obtain ⟨sa,sc,rfl,_⟩:=hs.form
  obtain ⟨ta,tc,rfl,_⟩:=ht.form
  obtain ⟨xa,xc,rfl,_⟩:=hx.form
  obtain ⟨a2,c2,rfl,_⟩:=h2.form
  have hm2:=h2.len
  unfold maxLen at hm2
  have H2:=Lib.hid h2
  have HTT:=Lib.hid hT
  have KB:Hid (∀W,Below w.heap.size w W→∀u,u<s.tab.length→Calls Tryz.prog 89 #[.agg #[.int .i64 s.tn,.slice ta s.tab.length tc],.int .i64 u] W (Post W fun _ r=>r=.int .i64 (befV s.tab u))):=Lib.hid fun W hW u hu=>rbefore_calls _ (ht.ext hW) hT hu
  have ex:=ext_alloc' (ext_alloc w (.cells #[.int .i64 s.p.n,.int .i64 s.p.ins,.int .i64 s.p.outs,.slice ca s.p.cs.length cc,.int .i64 s.p.an,.slice sa s.p.st.length sc,.int .i64 s.p.rounds,.int .i64 s.tn,.slice ta s.tab.length tc,.slice xa s.ex.length xc] 35)) (.cells #[.slice a2 ch.length c2] 38)
  have R0:=(row_new w [.int .i64 s.p.n,.int .i64 s.p.ins,.int .i64 s.p.outs,.slice ca s.p.cs.length cc,.int .i64 s.p.an,.slice sa s.p.st.length sc,.int .i64 s.p.rounds,.int .i64 s.tn,.slice ta s.tab.length tc,.slice xa s.ex.length xc] 35).alloc (.cells #[.slice a2 ch.length c2] 38)
  have R1:=row_new (w.alloc (.cells #[.int .i64 s.p.n,.int .i64 s.p.ins,.int .i64 s.p.outs,.slice ca s.p.cs.length cc,.int .i64 s.p.an,.slice sa s.p.st.length sc,.int .i64 s.p.rounds,.int .i64 s.tn,.slice ta s.tab.length tc,.slice xa s.ex.length xc] 35)) [.slice a2 ch.length c2] 38
  rw[World.size_alloc]at R1
  have t8:=R0.cell (j:=8) rfl
  have r1:=R1.cell (j:=0) rfl
  have l0:=R0.lt
  have l1:=R1.lt
  clear hc hs ht hx h2 hT
  by_cases hlen:ch.length=s.tab.length
  case neg=>
    have RE:Hid (formE s ch=15):=Lib.hid (by unfold formE;rw[if_neg hlen])
    have d1:((ch.length:Int) !=(s.tab.length:Int))=true:=by rw[bne_iff_ne];omega
    clear hlen
    go_enter Tryz.func46,Tryz.ntmps46
    go_wp2
    go_ret
    exact .mk ex (int_eq RE.out.symm)
  have d1:((ch.length:Int) !=(s.tab.length:Int))=false:=by rw[hlen];simp
  have HLEN:=Lib.hid hlen
  obtain ⟨r,hr⟩:∃r,r=formE s ch:=⟨_,rfl⟩
  rw[←hr]
  have HR:Hid (r=firstE (frmV s.tab ch s.p.outs) ch.length):=Lib.hid (by rw[hr];unfold formE;rw[if_pos hlen])
  clear hlen hr
  go_enter Tryz.func46,Tryz.ntmps46
  go_wp2
  clear t8 r1 l0 l1 d1
  go_loopw [5,6] (fun i _ wr=>∃k:Nat,k≤ch.length∧i=.int .i64 k∧Below w.heap.size w wr∧Row wr w.heap.size 35 [.int .i64 s.p.n,.int .i64 s.p.ins,.int .i64 s.p.outs,.slice ca s.p.cs.length cc,.int .i64 s.p.an,.slice sa s.p.st.length sc,.int .i64 s.p.rounds,.int .i64 s.tn,.slice ta s.tab.length tc,.slice xa s.ex.length xc]∧Row wr (w.heap.size+1) 38 [.slice a2 ch.length c2]∧Hid (∀j,j<k→frmV s.tab ch s.p.outs j=0)) (fun i _ _=>ch.length - (intOf i).toNat)
  case atStart=>exact ⟨0,Nat.zero_le _,rfl,ex,R0,R1,Lib.hid fun j hj=>by omega⟩
  case round=>
    clear ex R0 R1
    obtain ⟨k,hk,rfl,hb,R0,R1,HJ⟩:=hrel
    have r1:=R1.cell (j:=0) rfl
    have t2:=R0.cell (j:=2) rfl
    have t7:=R0.cell (j:=7) rfl
    have t8:=R0.cell (j:=8) rfl
    have l0:=R0.lt
    have l1:=R1.lt
    by_cases hlt:k<ch.length
    case neg=>
      have RE:Hid (r=0):=Lib.hid (by rw[HR.out];exact firstE_zero fun j hj=>HJ.out j (by omega))
      go_wp2
      go_ret
      exact .mk hb (int_eq RE.out.symm)
    have q1:=H2.out.idx hlt
    have cck:=(H2.out.ext hb).cellN hlt
    have hbk:=World.block_lt_of_cell? _ _ cck
    have hkT:k<s.tab.length:=by have:=HLEN.out;omega
    have HBF:=Lib.hid (HTT.out.bef hkT)
    have HF:Hid (frmV s.tab ch s.p.outs k=if nth ch k< -1∨s.p.outs≤nth ch k then 2 else if 0≤befV s.tab k∧0≤nth ch (befV s.tab k).toNat∧nth ch (befV s.tab k).toNat≠nth ch k then 21 else 0):=Lib.hid rfl
    have HFE:Hid (frmV s.tab ch s.p.outs k≠0→r=frmV s.tab ch s.p.outs k):=Lib.hid fun h0=>by rw[HR.out];exact firstE_at HJ.out h0 hlt
    have HNX:Hid (frmV s.tab ch s.p.outs k=0→∀j,j<k+1→frmV s.tab ch s.p.outs j=0):=Lib.hid fun h0 j hj=>by
      by_cases e:j=k
      · rw[e];exact h0
      · exact HJ.out j (by omega)
    obtain ⟨y,hy⟩:∃y,y=nth ch k:=⟨_,rfl⟩
    rw[←hy]at cck HF
    have HYY:=Lib.hid hy
    clear hy
    by_cases hA:y< -1∨s.p.outs≤y
    · have RE : Hid (r = 2) := Lib.hid (by have e2 : frmV s.tab ch s.p.outs k = 2 := by rw [HF.out, if_pos hA]
                                           rw[HFE.out (by rw[e2];decide),e2])
      have HA:=Lib.hid hA
      clear hA
      by_cases h1:y< -1
      · have e1:decide (y< -1)=true:=decide_eq_true h1
        clear h1
        go_wp2
        go_quiet (fail)
        go_wp2
        go_ret
        exact .mk (ext_trans hb (drewN_below _ _ _)) (int_eq RE.out.symm)
      · have e1:decide (y< -1)=false:=decide_eq_false h1
        have e2:decide (s.p.outs≤y)=true:=decide_eq_true (by have:=HA.out;omega)
        clear h1
        go_wp2
        go_quiet (fail)
        go_wp2
        go_ret
        exact .mk (ext_trans hb (drewN_below _ _ _)) (int_eq RE.out.symm)
    have e1:decide (y< -1)=false:=decide_eq_false (by omega)
    have e2:decide (s.p.outs≤y)=false:=decide_eq_false (by omega)
    have HF2:Hid (frmV s.tab ch s.p.outs k=if 0≤befV s.tab k∧0≤nth ch (befV s.tab k).toNat∧nth ch (befV s.tab k).toNat≠y then 21 else 0):=Lib.hid (by rw[HF.out,if_neg hA])
    clear hA HF
    go_wp2
    go_quiet (fail)
    refine draw_then fun w4 hq4=>?_
    replace R0:=R0.ext hq4.ext
    replace R1:=R1.ext hq4.ext
    replace hb:=ext_trans hb hq4.ext
    clear r1 t2 t7 t8 l0 l1 cck hbk
    have r1:=R1.cell (j:=0) rfl
    have t2:=R0.cell (j:=2) rfl
    have t7:=R0.cell (j:=7) rfl
    have t8:=R0.cell (j:=8) rfl
    have l0:=R0.lt
    have l1:=R1.lt
    have cck:=(H2.out.ext hb).cellN hlt
    rw[←HYY.out]at cck
    have hbk:=World.block_lt_of_cell? _ _ cck
    go_wp2_with fail
    refine (KB.out _ hb k hkT).mono ?_
    rintro _ w5 ⟨_,rfl,hb5,rfl⟩
    replace R0:=R0.ext hb5
    replace R1:=R1.ext hb5
    replace hb:=ext_trans hb hb5
    clear r1 t2 t7 t8 l0 l1 cck hbk hb5
    have r1:=R1.cell (j:=0) rfl
    have l1:=R1.lt
    rcases HBF.out with hbv | ⟨u,hu,hbv⟩
    · have HX:=Lib.hid (HNX.out (by rw[HF2.out,if_neg (fun h=>by rw[hbv]at h;exact absurd h.1 (by decide))]))
      rw[hbv]
      clear hbv HF2 HFE HBF
      go_wp2
      go_quiet (fail)
      refine draw_then fun w6 hq4=>?_
      replace R0:=R0.ext hq4.ext
      replace R1:=R1.ext hq4.ext
      replace hb:=ext_trans hb hq4.ext
      go_wp2
      go_roundw
      case rel=>exact ⟨k+1,by omega,by go_num,hb,R0,R1,HX⟩
      case measure=>simp[intOf];omega
    rw[hbv,Int.toNat_natCast]at HF2
    rw[hbv]
    have hul:u<ch.length:=by omega
    have q2:=H2.out.idx hul
    have ccu:=(H2.out.ext hb).cellN hul
    have hbu:=World.block_lt_of_cell? _ _ ccu
    have cck:=(H2.out.ext hb).cellN hlt
    rw[←HYY.out]at cck
    have hbk:=World.block_lt_of_cell? _ _ cck
    obtain ⟨y2,hy2⟩:∃y,y=nth ch u:=⟨_,rfl⟩
    rw[←hy2]at ccu HF2
    have d0:decide ((0:Int)≤(u:Int))=true:=decide_eq_true (by omega)
    clear hbv hy2 HBF
    by_cases h2:0≤y2
    case neg=>
      have e3:decide (0≤y2)=false:=decide_eq_false h2
      have HX:=Lib.hid (HNX.out (by rw[HF2.out,if_neg (fun h=>h2 h.2.1)]))
      clear h2
      go_wp2
      go_quiet (fail)
      refine draw_then fun w6 hq4=>?_
      replace R0:=R0.ext hq4.ext
      replace R1:=R1.ext hq4.ext
      replace hb:=ext_trans hb hq4.ext
      go_wp2
      go_roundw
      case rel=>exact ⟨k+1,by omega,by go_num,hb,R0,R1,HX⟩
      case measure=>simp[intOf];omega
    have e3:decide (0≤y2)=true:=decide_eq_true h2
    by_cases h3:y2=y
    · have e4:(y !=y2)=false:=by simp[h3]
      have HX:=Lib.hid (HNX.out (by rw[HF2.out,if_neg (fun h=>h.2.2 h3)]))
      clear h2 h3
      go_wp2
      go_quiet (fail)
      refine draw_then fun w6 hq4=>?_
      replace R0:=R0.ext hq4.ext
      replace R1:=R1.ext hq4.ext
      replace hb:=ext_trans hb hq4.ext
      go_wp2
      go_roundw
      case rel=>exact ⟨k+1,by omega,by go_num,hb,R0,R1,HX⟩
      case measure=>simp[intOf];omega
    · have e4:(y !=y2)=true:=by simp;omega
      have RE : Hid (r = 21) := Lib.hid (by have e5 : frmV s.tab ch s.p.outs k = 21 := by rw [HF2.out, if_pos ⟨by omega, h2, h3⟩]
                                            rw[HFE.out (by rw[e5];decide),e5])
      clear h2 h3
      go_wp2
      go_quiet (fail)
      go_wp2
      go_ret
      exact .mk (ext_trans hb (drewN_below _ _ _)) (int_eq RE.out.symm)
end Go.Proofs.YtcopehiceihdaaaGreat
namespace Go.Proofs.YtcopehiceihdaaaGreat
open Go.RowKit
attribute [local go_sem ↓] Go.wp_at_zero Go.wp_at_succ
def ruleE (s:SysF) (ch:List Int):Int:=if verE s=0 then formE s ch else verE s
theorem pcheck_calls {S S2:Nat→Prop} {w:World} {v vch:Value} {s:SysF} {ch:List Int} (h:SysV S w v s) (hf:PFew s.p) (h2:Ints S2 w vch ch):
    Calls Tryz.prog 16 #[v,.agg #[vch]] w (Post w fun _ r=>r=.int .i64 (ruleE s ch)):=by
  have KV:Hid (∀W,Below w.heap.size w W→Calls Tryz.prog 44 #[v] W (Post W fun _ r=>r=.int .i64 (verE s))):=Lib.hid fun W hW=>pverify_calls (h.ext hW) hf
  have KO:Hid (verE s=0→∀W,Below w.heap.size w W→Calls Tryz.prog 45 #[v,.agg #[vch]] W (Post W fun _ r=>r=.int .i64 (formE s ch))):=Lib.hid fun h0 W hW=>pform_calls (h.ext hW) (good_sys h0 (by obtain ⟨_,_,_,_,_,_,hs,_⟩:=h;exact moves8_of hs)).tab (h2.ext hW)
  obtain ⟨vc,vs,vt,vx,rfl,hc,hs,ht,hx⟩:=h
  obtain ⟨ca,cc,rfl,_⟩:=hc.form
  obtain ⟨sa,sc,rfl,_⟩:=hs.form
  obtain ⟨ta,tc,rfl,_⟩:=ht.form
  obtain ⟨xa,xc,rfl,_⟩:=hx.form
  obtain ⟨a2,c2,rfl,_⟩:=h2.form
  have ex:=ext_alloc' (ext_alloc w (.cells #[.int .i64 s.p.n,.int .i64 s.p.ins,.int .i64 s.p.outs,.slice ca s.p.cs.length cc,.int .i64 s.p.an,.slice sa s.p.st.length sc,.int .i64 s.p.rounds,.int .i64 s.tn,.slice ta s.tab.length tc,.slice xa s.ex.length xc] 35)) (.cells #[.slice a2 ch.length c2] 38)
  have R0:=(row_new w [.int .i64 s.p.n,.int .i64 s.p.ins,.int .i64 s.p.outs,.slice ca s.p.cs.length cc,.int .i64 s.p.an,.slice sa s.p.st.length sc,.int .i64 s.p.rounds,.int .i64 s.tn,.slice ta s.tab.length tc,.slice xa s.ex.length xc] 35).alloc (.cells #[.slice a2 ch.length c2] 38)
  have R1:=row_new (w.alloc (.cells #[.int .i64 s.p.n,.int .i64 s.p.ins,.int .i64 s.p.outs,.slice ca s.p.cs.length cc,.int .i64 s.p.an,.slice sa s.p.st.length sc,.int .i64 s.p.rounds,.int .i64 s.tn,.slice ta s.tab.length tc,.slice xa s.ex.length xc] 35)) [.slice a2 ch.length c2] 38
  rw[World.size_alloc]at R1
  have HR:Hid ((verE s=0→ruleE s ch=formE s ch)∧(verE s≠0→ruleE s ch=verE s)):=Lib.hid ⟨fun h=>by unfold ruleE;rw[if_pos h],fun h=>by unfold ruleE;rw[if_neg h]⟩
  obtain ⟨ve,hve⟩:∃e,e=verE s:=⟨_,rfl⟩
  rw[←hve]at KV KO HR
  have t0:=R0.cell (j:=0) rfl
  have t1:=R0.cell (j:=1) rfl
  have t2:=R0.cell (j:=2) rfl
  have t3:=R0.cell (j:=3) rfl
  have t4:=R0.cell (j:=4) rfl
  have t5:=R0.cell (j:=5) rfl
  have t6:=R0.cell (j:=6) rfl
  have t7:=R0.cell (j:=7) rfl
  have t8:=R0.cell (j:=8) rfl
  have t9:=R0.cell (j:=9) rfl
  have l0:=R0.lt
  clear hc hs ht hx h2 hve hf
  go_enter Tryz.func16,Tryz.ntmps16
  go_wp2_with fail
  refine (KV.out _ ex).mono ?_
  rintro _ w1 ⟨_,rfl,hb1,rfl⟩
  replace R0:=R0.ext hb1
  replace R1:=R1.ext hb1
  replace ex:=ext_trans ex hb1
  clear t0 t1 t2 t3 t4 t5 t6 t7 t8 t9 l0 hb1 KV
  by_cases hv0:ve=0
  case neg=>
    have RE:=Lib.hid (HR.out.2 hv0)
    have d0:(ve !=0)=true:=by simp[hv0]
    clear hv0
    go_wp2
    go_ret
    exact .mk ex (int_eq RE.out.symm)
  have RE:=Lib.hid (HR.out.1 hv0)
  have d0:(ve !=0)=false:=by simp[hv0]
  replace KO:=Lib.hid (KO.out hv0)
  have t0:=R0.cell (j:=0) rfl
  have t1:=R0.cell (j:=1) rfl
  have t2:=R0.cell (j:=2) rfl
  have t3:=R0.cell (j:=3) rfl
  have t4:=R0.cell (j:=4) rfl
  have t5:=R0.cell (j:=5) rfl
  have t6:=R0.cell (j:=6) rfl
  have t7:=R0.cell (j:=7) rfl
  have t8:=R0.cell (j:=8) rfl
  have t9:=R0.cell (j:=9) rfl
  have l0:=R0.lt
  have r1:=R1.cell (j:=0) rfl
  have l1:=R1.lt
  clear hv0
  go_wp2_with fail
  refine (KO.out _ ex).mono ?_
  rintro _ w2 ⟨_,rfl,hb2,rfl⟩
  replace ex:=ext_trans ex hb2
  clear t0 t1 t2 t3 t4 t5 t6 t7 t8 t9 l0 r1 l1 hb2 KO
  go_wp2
  go_ret
  exact .mk ex (int_eq RE.out.symm)
theorem rcheck_calls {S S2:Nat→Prop} {w:World} {v vch:Value} {s:SysF} {ch:List Int} (h:SysV S w v s) (hf:SmallP s.p) (h2:Ints S2 w vch ch):
    Calls Tryz.prog 17 #[v,.agg #[vch]] w (Post w fun _ r=>r=.int .i64 (ruleE s ch)):=by
  have KV:Hid (∀W,Below w.heap.size w W→Calls Tryz.prog 41 #[v] W (Post W fun _ r=>r=.int .i64 (verE s))):=Lib.hid fun W hW=>rverify_calls (h.ext hW) hf
  have KO:Hid (verE s=0→∀W,Below w.heap.size w W→Calls Tryz.prog 46 #[v,.agg #[vch]] W (Post W fun _ r=>r=.int .i64 (formE s ch))):=Lib.hid fun h0 W hW=>rform_calls (h.ext hW) (good_sys h0 (by obtain ⟨_,_,_,_,_,_,hs,_⟩:=h;exact moves8_of hs)).tab (h2.ext hW)
  obtain ⟨vc,vs,vt,vx,rfl,hc,hs,ht,hx⟩:=h
  obtain ⟨ca,cc,rfl,_⟩:=hc.form
  obtain ⟨sa,sc,rfl,_⟩:=hs.form
  obtain ⟨ta,tc,rfl,_⟩:=ht.form
  obtain ⟨xa,xc,rfl,_⟩:=hx.form
  obtain ⟨a2,c2,rfl,_⟩:=h2.form
  have ex:=ext_alloc' (ext_alloc w (.cells #[.int .i64 s.p.n,.int .i64 s.p.ins,.int .i64 s.p.outs,.slice ca s.p.cs.length cc,.int .i64 s.p.an,.slice sa s.p.st.length sc,.int .i64 s.p.rounds,.int .i64 s.tn,.slice ta s.tab.length tc,.slice xa s.ex.length xc] 35)) (.cells #[.slice a2 ch.length c2] 38)
  have R0:=(row_new w [.int .i64 s.p.n,.int .i64 s.p.ins,.int .i64 s.p.outs,.slice ca s.p.cs.length cc,.int .i64 s.p.an,.slice sa s.p.st.length sc,.int .i64 s.p.rounds,.int .i64 s.tn,.slice ta s.tab.length tc,.slice xa s.ex.length xc] 35).alloc (.cells #[.slice a2 ch.length c2] 38)
  have R1:=row_new (w.alloc (.cells #[.int .i64 s.p.n,.int .i64 s.p.ins,.int .i64 s.p.outs,.slice ca s.p.cs.length cc,.int .i64 s.p.an,.slice sa s.p.st.length sc,.int .i64 s.p.rounds,.int .i64 s.tn,.slice ta s.tab.length tc,.slice xa s.ex.length xc] 35)) [.slice a2 ch.length c2] 38
  rw[World.size_alloc]at R1
  have HR:Hid ((verE s=0→ruleE s ch=formE s ch)∧(verE s≠0→ruleE s ch=verE s)):=Lib.hid ⟨fun h=>by unfold ruleE;rw[if_pos h],fun h=>by unfold ruleE;rw[if_neg h]⟩
  obtain ⟨ve,hve⟩:∃e,e=verE s:=⟨_,rfl⟩
  rw[←hve]at KV KO HR
  have t0:=R0.cell (j:=0) rfl
  have t1:=R0.cell (j:=1) rfl
  have t2:=R0.cell (j:=2) rfl
  have t3:=R0.cell (j:=3) rfl
  have t4:=R0.cell (j:=4) rfl
  have t5:=R0.cell (j:=5) rfl
  have t6:=R0.cell (j:=6) rfl
  have t7:=R0.cell (j:=7) rfl
  have t8:=R0.cell (j:=8) rfl
  have t9:=R0.cell (j:=9) rfl
  have l0:=R0.lt
  clear hc hs ht hx h2 hve hf
  go_enter Tryz.func17,Tryz.ntmps17
  go_wp2_with fail
  refine (KV.out _ ex).mono ?_
  rintro _ w1 ⟨_,rfl,hb1,rfl⟩
  replace R0:=R0.ext hb1
  replace R1:=R1.ext hb1
  replace ex:=ext_trans ex hb1
  clear t0 t1 t2 t3 t4 t5 t6 t7 t8 t9 l0 hb1 KV
  by_cases hv0:ve=0
  case neg=>
    have RE:=Lib.hid (HR.out.2 hv0)
    have d0:(ve !=0)=true:=by simp[hv0]
    clear hv0
    go_wp2
    go_ret
    exact .mk ex (int_eq RE.out.symm)
  have RE:=Lib.hid (HR.out.1 hv0)
  have d0:(ve !=0)=false:=by simp[hv0]
  replace KO:=Lib.hid (KO.out hv0)
  have t0:=R0.cell (j:=0) rfl
  have t1:=R0.cell (j:=1) rfl
  have t2:=R0.cell (j:=2) rfl
  have t3:=R0.cell (j:=3) rfl
  have t4:=R0.cell (j:=4) rfl
  have t5:=R0.cell (j:=5) rfl
  have t6:=R0.cell (j:=6) rfl
  have t7:=R0.cell (j:=7) rfl
  have t8:=R0.cell (j:=8) rfl
  have t9:=R0.cell (j:=9) rfl
  have l0:=R0.lt
  have r1:=R1.cell (j:=0) rfl
  have l1:=R1.lt
  clear hv0
  go_wp2_with fail
  refine (KO.out _ ex).mono ?_
  rintro _ w2 ⟨_,rfl,hb2,rfl⟩
  replace ex:=ext_trans ex hb2
  clear t0 t1 t2 t3 t4 t5 t6 t7 t8 t9 l0 r1 l1 hb2 KO
  go_wp2
  go_ret
  exact .mk ex (int_eq RE.out.symm)
end Go.Proofs.YtcopehiceihdaaaGreat
namespace Go.Proofs.YtcopehiceihdaaaGreat
open Go.RowKit
attribute [local go_sem ↓] Go.wp_at_zero Go.wp_at_succ
def sceneE (s:SysF) (ch:List Int) (e:Int):Int:=if ruleE s ch=0 then (if e<0∨(s.ex.length:Int)≤e then 6 else 0) else ruleE s ch
theorem pscene_calls {S S2:Nat→Prop} {w:World} {v vch:Value} {s:SysF} {ch:List Int} (e:Int) (h:SysV S w v s) (hf:PFew s.p) (h2:Ints S2 w vch ch):
    Calls Tryz.prog 65 #[v,.agg #[vch],.int .i64 e] w (Post w fun _ r=>r=.int .i64 (sceneE s ch e)):=by
  have KV:Hid (∀W,Below w.heap.size w W→Calls Tryz.prog 16 #[v,.agg #[vch]] W (Post W fun _ r=>r=.int .i64 (ruleE s ch))):=Lib.hid fun W hW=>pcheck_calls (h.ext hW) hf (h2.ext hW)
  obtain ⟨vc,vs,vt,vx,rfl,hc,hs,ht,hx⟩:=h
  obtain ⟨ca,cc,rfl,_⟩:=hc.form
  obtain ⟨sa,sc,rfl,_⟩:=hs.form
  obtain ⟨ta,tc,rfl,_⟩:=ht.form
  obtain ⟨xa,xc,rfl,_⟩:=hx.form
  obtain ⟨a2,c2,rfl,_⟩:=h2.form
  have ex:=ext_alloc' (ext_alloc w (.cells #[.int .i64 s.p.n,.int .i64 s.p.ins,.int .i64 s.p.outs,.slice ca s.p.cs.length cc,.int .i64 s.p.an,.slice sa s.p.st.length sc,.int .i64 s.p.rounds,.int .i64 s.tn,.slice ta s.tab.length tc,.slice xa s.ex.length xc] 35)) (.cells #[.slice a2 ch.length c2] 38)
  have R0:=(row_new w [.int .i64 s.p.n,.int .i64 s.p.ins,.int .i64 s.p.outs,.slice ca s.p.cs.length cc,.int .i64 s.p.an,.slice sa s.p.st.length sc,.int .i64 s.p.rounds,.int .i64 s.tn,.slice ta s.tab.length tc,.slice xa s.ex.length xc] 35).alloc (.cells #[.slice a2 ch.length c2] 38)
  have R1:=row_new (w.alloc (.cells #[.int .i64 s.p.n,.int .i64 s.p.ins,.int .i64 s.p.outs,.slice ca s.p.cs.length cc,.int .i64 s.p.an,.slice sa s.p.st.length sc,.int .i64 s.p.rounds,.int .i64 s.tn,.slice ta s.tab.length tc,.slice xa s.ex.length xc] 35)) [.slice a2 ch.length c2] 38
  rw[World.size_alloc]at R1
  have HR:Hid ((ruleE s ch=0→sceneE s ch e=if e<0∨(s.ex.length:Int)≤e then 6 else 0)∧(ruleE s ch≠0→sceneE s ch e=ruleE s ch)):=Lib.hid ⟨fun h=>by unfold sceneE;rw[if_pos h],fun h=>by unfold sceneE;rw[if_neg h]⟩
  obtain ⟨ve,hve⟩:∃e,e=ruleE s ch:=⟨_,rfl⟩
  rw[←hve]at KV HR
  have t0:=R0.cell (j:=0) rfl
  have t1:=R0.cell (j:=1) rfl
  have t2:=R0.cell (j:=2) rfl
  have t3:=R0.cell (j:=3) rfl
  have t4:=R0.cell (j:=4) rfl
  have t5:=R0.cell (j:=5) rfl
  have t6:=R0.cell (j:=6) rfl
  have t7:=R0.cell (j:=7) rfl
  have t8:=R0.cell (j:=8) rfl
  have t9:=R0.cell (j:=9) rfl
  have r1:=R1.cell (j:=0) rfl
  have l1:=R1.lt
  have l0:=R0.lt
  clear hc hs ht hx h2 hve hf
  go_enter Tryz.func65,Tryz.ntmps65
  go_wp2_with fail
  refine (KV.out _ ex).mono ?_
  rintro _ w1 ⟨_,rfl,hb1,rfl⟩
  replace R0:=R0.ext hb1
  replace ex:=ext_trans ex hb1
  clear t0 t1 t2 t3 t4 t5 t6 t7 t8 t9 l0 r1 l1 R1 hb1 KV
  by_cases hv0:ve=0
  case neg=>
    have RE:=Lib.hid (HR.out.2 hv0)
    have d0:(ve !=0)=true:=by simp[hv0]
    clear hv0
    go_wp2
    go_ret
    exact .mk ex (int_eq RE.out.symm)
  have RE:=Lib.hid (HR.out.1 hv0)
  have d0:(ve !=0)=false:=by simp[hv0]
  have t9:=R0.cell (j:=9) rfl
  have l0:=R0.lt
  clear hv0
  by_cases h1:e<0
  · have e1:decide (e<0)=true:=decide_eq_true h1
    have RF:Hid (sceneE s ch e=6):=Lib.hid (by rw[RE.out,if_pos (.inl h1)])
    clear h1
    go_wp2
    go_ret
    exact .mk ex (int_eq RF.out.symm)
  have e1:decide (e<0)=false:=decide_eq_false h1
  by_cases h3:(s.ex.length:Int)≤e
  · have e2:decide ((s.ex.length:Int)≤e)=true:=decide_eq_true h3
    have RF:Hid (sceneE s ch e=6):=Lib.hid (by rw[RE.out,if_pos (.inr h3)])
    clear h1 h3
    go_wp2
    go_ret
    exact .mk ex (int_eq RF.out.symm)
  · have e2:decide ((s.ex.length:Int)≤e)=false:=decide_eq_false h3
    have RF:Hid (sceneE s ch e=0):=Lib.hid (by rw[RE.out,if_neg (fun h=>h.elim h1 h3)])
    clear h1 h3
    go_wp2
    go_ret
    exact .mk ex (int_eq RF.out.symm)
end Go.Proofs.YtcopehiceihdaaaGreat
