/- Part of the proof that the laws answer true for every input. -/
import Derived.Test.YtfjlhjkjjbiliaaGreatPXa30
set_option linter.unusedSimpArgs false
set_option linter.unnecessarySimpa false
set_option linter.unusedVariables false
set_option maxRecDepth 100000
set_option maxHeartbeats 40000000
namespace Go.Proofs.YtfjlhjkjjbiliaaGreat
open Go.RowKit
attribute [local go_sem ↓] Go.wp_at_zero Go.wp_at_succ
def frmV (T:List (List Int)) (ch:List Int) (outs:Int) (v:Nat):Int:=
  if nth ch v< -1∨outs≤nth ch v then 2 else if 0≤befV T v∧0≤nth ch (befV T v).toNat∧nth ch (befV T v).toNat≠nth ch v then 21 else 0
def formE (s:SysF) (ch:List Int):Int:=if ch.length=s.tab.length then firstE (frmV s.tab ch s.p.outs) ch.length else 15
theorem zbn {S S2:Nat→Prop} {w:World} {v vch:Value} {s:SysF} {N K:Nat} {ch:List Int} (h:SysV S w v s) (hT:TabOK N K s.tab) (h2:Ints S2 w vch ch):
    Calls Tryz.prog 83 #[v,.agg #[vch]] w (Post w fun _ r=>r=.int .i64 (formE s ch)):=by
  have H0:=zhd h
  obtain ⟨vc,vs,vt,vx,rfl,hc,hs,ht,hx⟩:=h
  obtain ⟨ca,cc,rfl,_⟩:=hc.form
  obtain ⟨sa,sc,rfl,_⟩:=hs.form
  obtain ⟨ta,tc,rfl,_⟩:=ht.form
  obtain ⟨xa,xc,rfl,_⟩:=hx.form
  obtain ⟨a2,c2,rfl,_⟩:=h2.form
  have hm2:=h2.len
  unfold maxLen at hm2
  have H2:=zhd h2
  have HTT:=zhd hT
  have KB:Hid (∀W,Below w.heap.size w W→∀u,u<s.tab.length→Calls Tryz.prog 108 #[.agg #[.int .i64 s.tn,.slice ta s.tab.length tc],.int .i64 u] W (Post W fun _ r=>r=.int .i64 (befV s.tab u))):=zhd fun W hW u hu=>QK _ (ht.ext hW) hT hu
  have ex:=zg (ze w (.cells #[.int .i64 s.p.n,.int .i64 s.p.ins,.int .i64 s.p.outs,.slice ca s.p.cs.length cc,.int .i64 s.p.an,.slice sa s.p.st.length sc,.int .i64 s.p.rounds,.int .i64 s.tn,.slice ta s.tab.length tc,.slice xa s.ex.length xc] 35)) (.cells #[.slice a2 ch.length c2] 38)
  have R0:=(zh w [.int .i64 s.p.n,.int .i64 s.p.ins,.int .i64 s.p.outs,.slice ca s.p.cs.length cc,.int .i64 s.p.an,.slice sa s.p.st.length sc,.int .i64 s.p.rounds,.int .i64 s.tn,.slice ta s.tab.length tc,.slice xa s.ex.length xc] 35).alloc (.cells #[.slice a2 ch.length c2] 38)
  have R1:=zh (w.alloc (.cells #[.int .i64 s.p.n,.int .i64 s.p.ins,.int .i64 s.p.outs,.slice ca s.p.cs.length cc,.int .i64 s.p.an,.slice sa s.p.st.length sc,.int .i64 s.p.rounds,.int .i64 s.tn,.slice ta s.tab.length tc,.slice xa s.ex.length xc] 35)) [.slice a2 ch.length c2] 38
  rw[World.size_alloc]at R1
  have t8:=R0.zc 8 rfl
  have r1:=R1.zc 0 rfl
  have l0:=R0.lt
  have l1:=R1.lt
  clear hc hs ht hx h2 hT
  by_cases hlen:ch.length=s.tab.length
  case neg=>
    have RE:Hid (formE s ch=15):=zhd (by unfold formE;rw[if_neg hlen])
    have d1:((ch.length:Int) !=(s.tab.length:Int))=true:=by rw[bne_iff_ne];omega
    clear hlen
    go_enter Tryz.func83,Tryz.ntmps83
    go_wp2
    go_ret
    exact .mk ex (zk RE.out.symm)
  have d1:((ch.length:Int) !=(s.tab.length:Int))=false:=by rw[hlen];simp
  have HLEN:=zhd hlen
  obtain ⟨r,hr⟩:∃r,r=formE s ch:=⟨_,rfl⟩
  rw[←hr]
  have HR:Hid (r=firstE (frmV s.tab ch s.p.outs) ch.length):=zhd (by rw[hr];unfold formE;rw[if_pos hlen])
  clear hlen hr
  go_enter Tryz.func83,Tryz.ntmps83
  go_wp2
  clear t8 r1 l0 l1 d1
  go_loopw [5,6,7,19] (fun _ _ _ i wr=>∃k:Nat,k≤ch.length∧i=.int .i64 k∧Below w.heap.size w wr∧Row wr w.heap.size 35 [.int .i64 s.p.n,.int .i64 s.p.ins,.int .i64 s.p.outs,.slice ca s.p.cs.length cc,.int .i64 s.p.an,.slice sa s.p.st.length sc,.int .i64 s.p.rounds,.int .i64 s.tn,.slice ta s.tab.length tc,.slice xa s.ex.length xc]∧Row wr (w.heap.size+1) 38 [.slice a2 ch.length c2]∧Hid (∀j,j<k→frmV s.tab ch s.p.outs j=0)) (fun _ _ _ i _=>ch.length - (intOf i).toNat)
  case atStart=>exact ⟨0,Nat.zero_le _,rfl,ex,R0,R1,zhd fun j hj=>by omega⟩
  case round=>
    clear ex R0 R1
    obtain ⟨k,hk,rfl,hb,R0,R1,HJ⟩:=hrel
    have r1:=R1.zc 0 rfl
    have t2:=R0.zc 2 rfl
    have t7:=R0.zc 7 rfl
    have t8:=R0.zc 8 rfl
    have l0:=R0.lt
    have l1:=R1.lt
    by_cases hlt:k<ch.length
    case neg=>
      have RE:Hid (r=0):=zhd (by rw[HR.out];exact yr fun j hj=>HJ.out j (by omega))
      go_wp2
      go_ret
      exact .mk hb (zk RE.out.symm)
    have q1:=H2.out.idx hlt
    have cck:=(H2.out.ext hb).cellN hlt
    have hbk:=World.block_lt_of_cell? _ _ cck
    have hkT:k<s.tab.length:=by have:=HLEN.out;omega
    have HBF:=zhd (HTT.out.bef hkT)
    have HF:Hid (frmV s.tab ch s.p.outs k=if nth ch k< -1∨s.p.outs≤nth ch k then 2 else if 0≤befV s.tab k∧0≤nth ch (befV s.tab k).toNat∧nth ch (befV s.tab k).toNat≠nth ch k then 21 else 0):=zhd rfl
    have HFE:Hid (frmV s.tab ch s.p.outs k≠0→r=frmV s.tab ch s.p.outs k):=zhd fun h0=>by rw[HR.out];exact Zk HJ.out h0 hlt
    have HNX:Hid (frmV s.tab ch s.p.outs k=0→∀j,j<k+1→frmV s.tab ch s.p.outs j=0):=zhd fun h0 j hj=>by
      by_cases e:j=k
      · rw[e];exact h0
      · exact HJ.out j (by omega)
    obtain ⟨y,hy⟩:∃y,y=nth ch k:=⟨_,rfl⟩
    rw[←hy]at cck HF
    have HYY:=zhd hy
    clear hy
    by_cases hA:y< -1∨s.p.outs≤y
    · have RE : Hid (r = 2) := zhd (by have e2 : frmV s.tab ch s.p.outs k = 2 := by rw [HF.out, if_pos hA]
                                       rw[HFE.out (by rw[e2];decide),e2])
      have HA:=zhd hA
      clear hA
      by_cases h1:y< -1
      · have e1:decide (y< -1)=true:=decide_eq_true h1
        clear h1
        go_wp2
        go_ret
        exact .mk hb (zk RE.out.symm)
      · have e1:decide (y< -1)=false:=decide_eq_false h1
        have e2:decide (s.p.outs≤y)=true:=decide_eq_true (by have:=HA.out;omega)
        clear h1
        go_wp2
        go_ret
        exact .mk hb (zk RE.out.symm)
    have e1:decide (y< -1)=false:=decide_eq_false (by omega)
    have e2:decide (s.p.outs≤y)=false:=decide_eq_false (by omega)
    have HF2:Hid (frmV s.tab ch s.p.outs k=if 0≤befV s.tab k∧0≤nth ch (befV s.tab k).toNat∧nth ch (befV s.tab k).toNat≠y then 21 else 0):=zhd (by rw[HF.out,if_neg hA])
    clear hA HF
    go_wp2_with fail
    refine (KB.out _ hb k hkT).mono ?_
    rintro _ w5 ⟨_,rfl,hb5,rfl⟩
    replace R0:=R0.ext hb5
    replace R1:=R1.ext hb5
    replace hb:=zb hb hb5
    clear r1 t2 t7 t8 l0 l1 cck hbk hb5
    have r1:=R1.zc 0 rfl
    have l1:=R1.lt
    rcases HBF.out with hbv | ⟨u,hu,hbv⟩
    · have HX:=zhd (HNX.out (by rw[HF2.out,if_neg (fun h=>by rw[hbv]at h;exact absurd h.1 (by decide))]))
      rw[hbv]
      clear hbv HF2 HFE HBF
      go_wp2
      go_roundw
      case rel=>exact ⟨k+1,by omega,by go_num,hb,R0,R1,HX⟩
      case measure=>simp[intOf];omega
    rw[hbv,Int.toNat_natCast]at HF2
    rw[hbv]
    have hul:u<ch.length:=by omega
    have q2:=H2.out.idx hul
    have ccu:=(H2.out.ext hb).cellN hul
    have hbu:=World.block_lt_of_cell? _ _ ccu
    have cck:=(H2.out.ext hb).cellN hlt
    rw[←HYY.out]at cck
    have hbk:=World.block_lt_of_cell? _ _ cck
    obtain ⟨y2,hy2⟩:∃y,y=nth ch u:=⟨_,rfl⟩
    rw[←hy2]at ccu HF2
    have d0:decide ((0:Int)≤(u:Int))=true:=decide_eq_true (by omega)
    clear hbv hy2 HBF
    by_cases h2:0≤y2
    case neg=>
      have e3:decide (0≤y2)=false:=decide_eq_false h2
      have HX:=zhd (HNX.out (by rw[HF2.out,if_neg (fun h=>h2 h.2.1)]))
      clear h2
      go_wp2
      go_roundw
      case rel=>exact ⟨k+1,by omega,by go_num,hb,R0,R1,HX⟩
      case measure=>simp[intOf];omega
    have e3:decide (0≤y2)=true:=decide_eq_true h2
    by_cases h3:y2=y
    · have e4:(y2 !=y)=false:=by simp[h3]
      have HX:=zhd (HNX.out (by rw[HF2.out,if_neg (fun h=>h.2.2 h3)]))
      clear h2 h3
      go_wp2
      go_roundw
      case rel=>exact ⟨k+1,by omega,by go_num,hb,R0,R1,HX⟩
      case measure=>simp[intOf];omega
    · have e4:(y2 !=y)=true:=by simp;omega
      have RE : Hid (r = 21) := zhd (by have e5 : frmV s.tab ch s.p.outs k = 21 := by rw [HF2.out, if_pos ⟨by omega, h2, h3⟩]
                                        rw[HFE.out (by rw[e5];decide),e5])
      clear h2 h3
      go_wp2
      go_ret
      exact .mk hb (zk RE.out.symm)
theorem zbD {S S2:Nat→Prop} {w:World} {v vch:Value} {s:SysF} {N K:Nat} {ch:List Int} (h:SysV S w v s) (hT:TabOK N K s.tab) (h2:Ints S2 w vch ch):
    Calls Tryz.prog 56 #[v,.agg #[vch]] w (Post w fun _ r=>r=.int .i64 (formE s ch)):=by
  have H0:=zhd h
  obtain ⟨vc,vs,vt,vx,rfl,hc,hs,ht,hx⟩:=h
  obtain ⟨ca,cc,rfl,_⟩:=hc.form
  obtain ⟨sa,sc,rfl,_⟩:=hs.form
  obtain ⟨ta,tc,rfl,_⟩:=ht.form
  obtain ⟨xa,xc,rfl,_⟩:=hx.form
  obtain ⟨a2,c2,rfl,_⟩:=h2.form
  have hm2:=h2.len
  unfold maxLen at hm2
  have H2:=zhd h2
  have HTT:=zhd hT
  have KB:Hid (∀W,Below w.heap.size w W→∀u,u<s.tab.length→Calls Tryz.prog 85 #[.agg #[.int .i64 s.tn,.slice ta s.tab.length tc],.int .i64 u] W (Post W fun _ r=>r=.int .i64 (befV s.tab u))):=zhd fun W hW u hu=>Xf _ (ht.ext hW) hT hu
  have ex:=zg (ze w (.cells #[.int .i64 s.p.n,.int .i64 s.p.ins,.int .i64 s.p.outs,.slice ca s.p.cs.length cc,.int .i64 s.p.an,.slice sa s.p.st.length sc,.int .i64 s.p.rounds,.int .i64 s.tn,.slice ta s.tab.length tc,.slice xa s.ex.length xc] 35)) (.cells #[.slice a2 ch.length c2] 38)
  have R0:=(zh w [.int .i64 s.p.n,.int .i64 s.p.ins,.int .i64 s.p.outs,.slice ca s.p.cs.length cc,.int .i64 s.p.an,.slice sa s.p.st.length sc,.int .i64 s.p.rounds,.int .i64 s.tn,.slice ta s.tab.length tc,.slice xa s.ex.length xc] 35).alloc (.cells #[.slice a2 ch.length c2] 38)
  have R1:=zh (w.alloc (.cells #[.int .i64 s.p.n,.int .i64 s.p.ins,.int .i64 s.p.outs,.slice ca s.p.cs.length cc,.int .i64 s.p.an,.slice sa s.p.st.length sc,.int .i64 s.p.rounds,.int .i64 s.tn,.slice ta s.tab.length tc,.slice xa s.ex.length xc] 35)) [.slice a2 ch.length c2] 38
  rw[World.size_alloc]at R1
  have t8:=R0.zc 8 rfl
  have r1:=R1.zc 0 rfl
  have l0:=R0.lt
  have l1:=R1.lt
  clear hc hs ht hx h2 hT
  by_cases hlen:ch.length=s.tab.length
  case neg=>
    have RE:Hid (formE s ch=15):=zhd (by unfold formE;rw[if_neg hlen])
    have d1:((ch.length:Int) !=(s.tab.length:Int))=true:=by rw[bne_iff_ne];omega
    clear hlen
    go_enter Tryz.func56,Tryz.ntmps56
    go_wp2
    go_ret
    exact .mk ex (zk RE.out.symm)
  have d1:((ch.length:Int) !=(s.tab.length:Int))=false:=by rw[hlen];simp
  have HLEN:=zhd hlen
  obtain ⟨r,hr⟩:∃r,r=formE s ch:=⟨_,rfl⟩
  rw[←hr]
  have HR:Hid (r=firstE (frmV s.tab ch s.p.outs) ch.length):=zhd (by rw[hr];unfold formE;rw[if_pos hlen])
  clear hlen hr
  go_enter Tryz.func56,Tryz.ntmps56
  go_wp2
  clear t8 r1 l0 l1 d1
  go_loopw [5,6] (fun i _ wr=>∃k:Nat,k≤ch.length∧i=.int .i64 k∧Below w.heap.size w wr∧Row wr w.heap.size 35 [.int .i64 s.p.n,.int .i64 s.p.ins,.int .i64 s.p.outs,.slice ca s.p.cs.length cc,.int .i64 s.p.an,.slice sa s.p.st.length sc,.int .i64 s.p.rounds,.int .i64 s.tn,.slice ta s.tab.length tc,.slice xa s.ex.length xc]∧Row wr (w.heap.size+1) 38 [.slice a2 ch.length c2]∧Hid (∀j,j<k→frmV s.tab ch s.p.outs j=0)) (fun i _ _=>ch.length - (intOf i).toNat)
  case atStart=>exact ⟨0,Nat.zero_le _,rfl,ex,R0,R1,zhd fun j hj=>by omega⟩
  case round=>
    clear ex R0 R1
    obtain ⟨k,hk,rfl,hb,R0,R1,HJ⟩:=hrel
    have r1:=R1.zc 0 rfl
    have t2:=R0.zc 2 rfl
    have t7:=R0.zc 7 rfl
    have t8:=R0.zc 8 rfl
    have l0:=R0.lt
    have l1:=R1.lt
    by_cases hlt:k<ch.length
    case neg=>
      have RE:Hid (r=0):=zhd (by rw[HR.out];exact yr fun j hj=>HJ.out j (by omega))
      go_wp2
      go_ret
      exact .mk hb (zk RE.out.symm)
    have q1:=H2.out.idx hlt
    have cck:=(H2.out.ext hb).cellN hlt
    have hbk:=World.block_lt_of_cell? _ _ cck
    have hkT:k<s.tab.length:=by have:=HLEN.out;omega
    have HBF:=zhd (HTT.out.bef hkT)
    have HF:Hid (frmV s.tab ch s.p.outs k=if nth ch k< -1∨s.p.outs≤nth ch k then 2 else if 0≤befV s.tab k∧0≤nth ch (befV s.tab k).toNat∧nth ch (befV s.tab k).toNat≠nth ch k then 21 else 0):=zhd rfl
    have HFE:Hid (frmV s.tab ch s.p.outs k≠0→r=frmV s.tab ch s.p.outs k):=zhd fun h0=>by rw[HR.out];exact Zk HJ.out h0 hlt
    have HNX:Hid (frmV s.tab ch s.p.outs k=0→∀j,j<k+1→frmV s.tab ch s.p.outs j=0):=zhd fun h0 j hj=>by
      by_cases e:j=k
      · rw[e];exact h0
      · exact HJ.out j (by omega)
    obtain ⟨y,hy⟩:∃y,y=nth ch k:=⟨_,rfl⟩
    rw[←hy]at cck HF
    have HYY:=zhd hy
    clear hy
    by_cases hA:y< -1∨s.p.outs≤y
    · have RE : Hid (r = 2) := zhd (by have e2 : frmV s.tab ch s.p.outs k = 2 := by rw [HF.out, if_pos hA]
                                       rw[HFE.out (by rw[e2];decide),e2])
      have HA:=zhd hA
      clear hA
      by_cases h1:y< -1
      · have e1:decide (y< -1)=true:=decide_eq_true h1
        clear h1
        go_wp2
        go_quiet (fail)
        go_wp2
        go_ret
        exact .mk (zb hb (zf _ _ _)) (zk RE.out.symm)
      · have e1:decide (y< -1)=false:=decide_eq_false h1
        have e2:decide (s.p.outs≤y)=true:=decide_eq_true (by have:=HA.out;omega)
        clear h1
        go_wp2
        go_quiet (fail)
        go_wp2
        go_ret
        exact .mk (zb hb (zf _ _ _)) (zk RE.out.symm)
    have e1:decide (y< -1)=false:=decide_eq_false (by omega)
    have e2:decide (s.p.outs≤y)=false:=decide_eq_false (by omega)
    have HF2:Hid (frmV s.tab ch s.p.outs k=if 0≤befV s.tab k∧0≤nth ch (befV s.tab k).toNat∧nth ch (befV s.tab k).toNat≠y then 21 else 0):=zhd (by rw[HF.out,if_neg hA])
    clear hA HF
    go_wp2
    go_quiet (fail)
    refine zQ fun w4 hq4=>?_
    replace R0:=R0.ext hq4.ext
    replace R1:=R1.ext hq4.ext
    replace hb:=zb hb hq4.ext
    clear r1 t2 t7 t8 l0 l1 cck hbk
    have r1:=R1.zc 0 rfl
    have t2:=R0.zc 2 rfl
    have t7:=R0.zc 7 rfl
    have t8:=R0.zc 8 rfl
    have l0:=R0.lt
    have l1:=R1.lt
    have cck:=(H2.out.ext hb).cellN hlt
    rw[←HYY.out]at cck
    have hbk:=World.block_lt_of_cell? _ _ cck
    go_wp2_with fail
    refine (KB.out _ hb k hkT).mono ?_
    rintro _ w5 ⟨_,rfl,hb5,rfl⟩
    replace R0:=R0.ext hb5
    replace R1:=R1.ext hb5
    replace hb:=zb hb hb5
    clear r1 t2 t7 t8 l0 l1 cck hbk hb5
    have r1:=R1.zc 0 rfl
    have l1:=R1.lt
    rcases HBF.out with hbv | ⟨u,hu,hbv⟩
    · have HX:=zhd (HNX.out (by rw[HF2.out,if_neg (fun h=>by rw[hbv]at h;exact absurd h.1 (by decide))]))
      rw[hbv]
      clear hbv HF2 HFE HBF
      go_wp2
      go_quiet (fail)
      refine zQ fun w6 hq4=>?_
      replace R0:=R0.ext hq4.ext
      replace R1:=R1.ext hq4.ext
      replace hb:=zb hb hq4.ext
      go_wp2
      go_roundw
      case rel=>exact ⟨k+1,by omega,by go_num,hb,R0,R1,HX⟩
      case measure=>simp[intOf];omega
    rw[hbv,Int.toNat_natCast]at HF2
    rw[hbv]
    have hul:u<ch.length:=by omega
    have q2:=H2.out.idx hul
    have ccu:=(H2.out.ext hb).cellN hul
    have hbu:=World.block_lt_of_cell? _ _ ccu
    have cck:=(H2.out.ext hb).cellN hlt
    rw[←HYY.out]at cck
    have hbk:=World.block_lt_of_cell? _ _ cck
    obtain ⟨y2,hy2⟩:∃y,y=nth ch u:=⟨_,rfl⟩
    rw[←hy2]at ccu HF2
    have d0:decide ((0:Int)≤(u:Int))=true:=decide_eq_true (by omega)
    clear hbv hy2 HBF
    by_cases h2:0≤y2
    case neg=>
      have e3:decide (0≤y2)=false:=decide_eq_false h2
      have HX:=zhd (HNX.out (by rw[HF2.out,if_neg (fun h=>h2 h.2.1)]))
      clear h2
      go_wp2
      go_quiet (fail)
      refine zQ fun w6 hq4=>?_
      replace R0:=R0.ext hq4.ext
      replace R1:=R1.ext hq4.ext
      replace hb:=zb hb hq4.ext
      go_wp2
      go_roundw
      case rel=>exact ⟨k+1,by omega,by go_num,hb,R0,R1,HX⟩
      case measure=>simp[intOf];omega
    have e3:decide (0≤y2)=true:=decide_eq_true h2
    by_cases h3:y2=y
    · have e4:(y !=y2)=false:=by simp[h3]
      have HX:=zhd (HNX.out (by rw[HF2.out,if_neg (fun h=>h.2.2 h3)]))
      clear h2 h3
      go_wp2
      go_quiet (fail)
      refine zQ fun w6 hq4=>?_
      replace R0:=R0.ext hq4.ext
      replace R1:=R1.ext hq4.ext
      replace hb:=zb hb hq4.ext
      go_wp2
      go_roundw
      case rel=>exact ⟨k+1,by omega,by go_num,hb,R0,R1,HX⟩
      case measure=>simp[intOf];omega
    · have e4:(y !=y2)=true:=by simp;omega
      have RE : Hid (r = 21) := zhd (by have e5 : frmV s.tab ch s.p.outs k = 21 := by rw [HF2.out, if_pos ⟨by omega, h2, h3⟩]
                                        rw[HFE.out (by rw[e5];decide),e5])
      clear h2 h3
      go_wp2
      go_quiet (fail)
      go_wp2
      go_ret
      exact .mk (zb hb (zf _ _ _)) (zk RE.out.symm)
end Go.Proofs.YtfjlhjkjjbiliaaGreat
