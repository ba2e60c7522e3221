/- Part of the proof that the laws answer true for every input. -/
import Derived.Test.YtjpakklplhabdaaGreatPGaA35
set_option linter.unusedSimpArgs false
set_option linter.unnecessarySimpa false
set_option linter.unusedVariables false
set_option maxRecDepth 100000
set_option maxHeartbeats 40000000
namespace Go.Proofs.YtjpakklplhabdaaGreat
open Go.RowKit
attribute [local go_sem ↓] Go.wp_at_zero Go.wp_at_succ
def frmV (T:List (List Int)) (ch:List Int) (outs:Int) (v:Nat):Int:=
 if nth ch v< -1∨outs≤nth ch v then 2 else if 0≤befV T v∧0≤nth ch (befV T v).toNat∧nth ch (befV T v).toNat≠nth ch v then 21 else 0
def formE (s:SysF) (ch:List Int):Int:=if ch.length=s.tab.length then firstE (frmV s.tab ch s.p.outs) ch.length else 15
theorem XY {S S2:Nat→Prop} {w:World} {v vch:Value} {s:SysF} {N K:Nat} {ch:List Int} (h:SysV S w v s) (hT:TabOK N K s.tab) (h2:Ints S2 w vch ch):
  Calls Tryz.prog 67 #[v,.agg #[vch]] w (Post w fun _ r=>r=.int .i64 (formE s ch)):=by
 have H0:=zhd h
 obtain ⟨vc,vs,vt,vx,rfl,hc,hs,ht,hx⟩:=h
 obtain ⟨ca,cc,rfl,_⟩:=hc.form
 obtain ⟨sa,sc,rfl,_⟩:=hs.form
 obtain ⟨ta,tc,rfl,_⟩:=ht.form
 obtain ⟨xa,xc,rfl,_⟩:=hx.form
 obtain ⟨a2,c2,rfl,_⟩:=h2.form
 have hm2:=h2.len
 unfold maxLen at hm2
 have H2:=zhd h2
 have HTT:=zhd hT
 have KB:Hid (∀W,Below w.heap.size w W→∀u,u<s.tab.length→Calls Tryz.prog 99 #[.agg #[.int .i64 s.tn,.slice ta s.tab.length tc],.int .i64 u] W (Post W fun _ r=>r=.int .i64 (befV s.tab u))):=zhd fun W hW u hu=>Qc _ (ht.ext hW) hT hu
 obtain ⟨ex,R0,R1⟩:=zb2 w [.int .i64 s.p.n,.int .i64 s.p.ins,.int .i64 s.p.outs,.slice ca s.p.cs.length cc,.int .i64 s.p.an,.slice sa s.p.st.length sc,.int .i64 s.p.rounds,.int .i64 s.tn,.slice ta s.tab.length tc,.slice xa s.ex.length xc] [.slice a2 ch.length c2] 39 32
 have t8:=R0.zc 8 rfl
 have r1:=R1.zc 0 rfl
 have l0:=R0.lt
 have l1:=R1.lt
 clear hc hs ht hx h2 hT
 by_cases hlen:ch.length=s.tab.length
 case neg=>
  have RE:Hid (formE s ch=15):=zhd (by unfold formE;rw[if_neg hlen])
  have d1:((ch.length:Int) !=(s.tab.length:Int))=true:=by rw[bne_iff_ne];omega
  clear hlen
  go_enter Tryz.func67,Tryz.ntmps67
  go_wp2
  go_ret
  exact .mk ex (zi RE.out.symm)
 have d1:((ch.length:Int) !=(s.tab.length:Int))=false:=by rw[hlen];simp
 have HLEN:=zhd hlen
 obtain ⟨r,hr⟩:∃r,r=formE s ch:=⟨_,rfl⟩
 rw[←hr]
 have HR:Hid (r=firstE (frmV s.tab ch s.p.outs) ch.length):=zhd (by rw[hr];unfold formE;rw[if_pos hlen])
 clear hlen hr
 go_enter Tryz.func67,Tryz.ntmps67
 go_wp2
 clear t8 r1 l0 l1 d1
 go_loopw [5,6,7,19] (fun _ _ _ i wr=>∃k:Nat,k≤ch.length∧i=.int .i64 k∧Below w.heap.size w wr∧Row wr w.heap.size 39 [.int .i64 s.p.n,.int .i64 s.p.ins,.int .i64 s.p.outs,.slice ca s.p.cs.length cc,.int .i64 s.p.an,.slice sa s.p.st.length sc,.int .i64 s.p.rounds,.int .i64 s.tn,.slice ta s.tab.length tc,.slice xa s.ex.length xc]∧Row wr (w.heap.size+1) 32 [.slice a2 ch.length c2]∧Hid (∀j,j<k→frmV s.tab ch s.p.outs j=0)) (fun _ _ _ i _=>ch.length - (intOf i).toNat)
 case atStart=>exact ⟨0,Nat.zero_le _,rfl,ex,R0,R1,zhd fun j hj=>by omega⟩
 case round=>
  clear ex R0 R1
  obtain ⟨k,hk,rfl,hb,R0,R1,HJ⟩:=hrel
  have r1:=R1.zc 0 rfl
  have t2:=R0.zc 2 rfl
  have t7:=R0.zc 7 rfl
  have t8:=R0.zc 8 rfl
  have l0:=R0.lt
  have l1:=R1.lt
  by_cases hlt:k<ch.length
  case neg=>
   have RE:Hid (r=0):=zhd (by rw[HR.out];exact yj fun j hj=>HJ.out j (by omega))
   go_wp2
   go_ret
   exact .mk hb (zi RE.out.symm)
  have q1:=H2.out.idx hlt
  have cck:=(H2.out.ext hb).cellN hlt
  have hbk:=World.block_lt_of_cell? _ _ cck
  have hkT:k<s.tab.length:=by have:=HLEN.out;omega
  have HBF:=zhd (HTT.out.bef hkT)
  have HF:Hid (frmV s.tab ch s.p.outs k=if nth ch k< -1∨s.p.outs≤nth ch k then 2 else if 0≤befV s.tab k∧0≤nth ch (befV s.tab k).toNat∧nth ch (befV s.tab k).toNat≠nth ch k then 21 else 0):=zhd rfl
  have HFE:Hid (frmV s.tab ch s.p.outs k≠0→r=frmV s.tab ch s.p.outs k):=zhd fun h0=>by rw[HR.out];exact qZ HJ.out h0 hlt
  have HNX:Hid (frmV s.tab ch s.p.outs k=0→∀j,j<k+1→frmV s.tab ch s.p.outs j=0):=zhd fun h0 j hj=>by
   by_cases e:j=k
   ·rw[e];exact h0
   ·exact HJ.out j (by omega)
  obtain ⟨y,hy⟩:∃y,y=nth ch k:=⟨_,rfl⟩
  rw[←hy]at cck HF
  have HYY:=zhd hy
  clear hy
  by_cases hA:y< -1∨s.p.outs≤y
  ·have RE:Hid (r=2):=zhd (by
    have e2:frmV s.tab ch s.p.outs k=2:=by rw[HF.out,if_pos hA]
    rw[HFE.out (by rw[e2];decide),e2])
   have HA:=zhd hA
   clear hA
   by_cases h1:y< -1
   ·have e1:decide (y< -1)=true:=decide_eq_true h1
    clear h1
    go_wp2
    go_ret
    exact .mk hb (zi RE.out.symm)
   ·have e1:decide (y< -1)=false:=decide_eq_false h1
    have e2:decide (s.p.outs≤y)=true:=decide_eq_true (by have:=HA.out;omega)
    clear h1
    go_wp2
    go_ret
    exact .mk hb (zi RE.out.symm)
  have e1:decide (y< -1)=false:=decide_eq_false (by omega)
  have e2:decide (s.p.outs≤y)=false:=decide_eq_false (by omega)
  have HF2:Hid (frmV s.tab ch s.p.outs k=if 0≤befV s.tab k∧0≤nth ch (befV s.tab k).toNat∧nth ch (befV s.tab k).toNat≠y then 21 else 0):=zhd (by rw[HF.out,if_neg hA])
  clear hA HF
  go_wp2_with fail
  refine (KB.out _ hb k hkT).mono ?_
  rintro _ w5 ⟨_,rfl,hb5,rfl⟩
  replace R0:=R0.ext hb5
  replace R1:=R1.ext hb5
  replace hb:=za hb hb5
  clear r1 t2 t7 t8 l0 l1 cck hbk hb5
  have r1:=R1.zc 0 rfl
  have l1:=R1.lt
  rcases HBF.out with hbv | ⟨u,hu,hbv⟩
  ·have HX:=zhd (HNX.out (by rw[HF2.out,if_neg (fun h=>by rw[hbv]at h;exact absurd h.1 (by decide))]))
   rw[hbv]
   clear hbv HF2 HFE HBF
   go_wp2
   go_roundw
   case rel=>exact ⟨k+1,by omega,by go_num,hb,R0,R1,HX⟩
   case measure=>simp[intOf];omega
  rw[hbv,Int.toNat_natCast]at HF2
  rw[hbv]
  have hul:u<ch.length:=by omega
  have q2:=H2.out.idx hul
  have ccu:=(H2.out.ext hb).cellN hul
  have hbu:=World.block_lt_of_cell? _ _ ccu
  have cck:=(H2.out.ext hb).cellN hlt
  rw[←HYY.out]at cck
  have hbk:=World.block_lt_of_cell? _ _ cck
  obtain ⟨y2,hy2⟩:∃y,y=nth ch u:=⟨_,rfl⟩
  rw[←hy2]at ccu HF2
  have d0:decide ((0:Int)≤(u:Int))=true:=decide_eq_true (by omega)
  clear hbv hy2 HBF
  by_cases h2:0≤y2
  case neg=>
   have e3:decide (0≤y2)=false:=decide_eq_false h2
   have HX:=zhd (HNX.out (by rw[HF2.out,if_neg (fun h=>h2 h.2.1)]))
   clear h2
   go_wp2
   go_roundw
   case rel=>exact ⟨k+1,by omega,by go_num,hb,R0,R1,HX⟩
   case measure=>simp[intOf];omega
  have e3:decide (0≤y2)=true:=decide_eq_true h2
  by_cases h3:y2=y
  ·have e4:(y2 !=y)=false:=by simp[h3]
   have HX:=zhd (HNX.out (by rw[HF2.out,if_neg (fun h=>h.2.2 h3)]))
   clear h2 h3
   go_wp2
   go_roundw
   case rel=>exact ⟨k+1,by omega,by go_num,hb,R0,R1,HX⟩
   case measure=>simp[intOf];omega
  ·have e4:(y2 !=y)=true:=by simp;omega
   have RE:Hid (r=21):=zhd (by
    have e5:frmV s.tab ch s.p.outs k=21:=by rw[HF2.out,if_pos ⟨by omega,h2,h3⟩]
    rw[HFE.out (by rw[e5];decide),e5])
   clear h2 h3
   go_wp2
   go_ret
   exact .mk hb (zi RE.out.symm)
theorem zaG {S S2:Nat→Prop} {w:World} {v vch:Value} {s:SysF} {N K:Nat} {ch:List Int} (h:SysV S w v s) (hT:TabOK N K s.tab) (h2:Ints S2 w vch ch):
  Calls Tryz.prog 40 #[v,.agg #[vch]] w (Post w fun _ r=>r=.int .i64 (formE s ch)):=by
 have H0:=zhd h
 obtain ⟨vc,vs,vt,vx,rfl,hc,hs,ht,hx⟩:=h
 obtain ⟨ca,cc,rfl,_⟩:=hc.form
 obtain ⟨sa,sc,rfl,_⟩:=hs.form
 obtain ⟨ta,tc,rfl,_⟩:=ht.form
 obtain ⟨xa,xc,rfl,_⟩:=hx.form
 obtain ⟨a2,c2,rfl,_⟩:=h2.form
 have hm2:=h2.len
 unfold maxLen at hm2
 have H2:=zhd h2
 have HTT:=zhd hT
 have KB:Hid (∀W,Below w.heap.size w W→∀u,u<s.tab.length→Calls Tryz.prog 80 #[.agg #[.int .i64 s.tn,.slice ta s.tab.length tc],.int .i64 u] W (Post W fun _ r=>r=.int .i64 (befV s.tab u))):=zhd fun W hW u hu=>Y6 _ (ht.ext hW) hT hu
 obtain ⟨ex,R0,R1⟩:=zb2 w [.int .i64 s.p.n,.int .i64 s.p.ins,.int .i64 s.p.outs,.slice ca s.p.cs.length cc,.int .i64 s.p.an,.slice sa s.p.st.length sc,.int .i64 s.p.rounds,.int .i64 s.tn,.slice ta s.tab.length tc,.slice xa s.ex.length xc] [.slice a2 ch.length c2] 39 32
 have t8:=R0.zc 8 rfl
 have r1:=R1.zc 0 rfl
 have l0:=R0.lt
 have l1:=R1.lt
 clear hc hs ht hx h2 hT
 by_cases hlen:ch.length=s.tab.length
 case neg=>
  have RE:Hid (formE s ch=15):=zhd (by unfold formE;rw[if_neg hlen])
  have d1:((ch.length:Int) !=(s.tab.length:Int))=true:=by rw[bne_iff_ne];omega
  clear hlen
  go_enter Tryz.func40,Tryz.ntmps40
  go_wp2
  go_ret
  exact .mk ex (zi RE.out.symm)
 have d1:((ch.length:Int) !=(s.tab.length:Int))=false:=by rw[hlen];simp
 have HLEN:=zhd hlen
 obtain ⟨r,hr⟩:∃r,r=formE s ch:=⟨_,rfl⟩
 rw[←hr]
 have HR:Hid (r=firstE (frmV s.tab ch s.p.outs) ch.length):=zhd (by rw[hr];unfold formE;rw[if_pos hlen])
 clear hlen hr
 go_enter Tryz.func40,Tryz.ntmps40
 go_wp2
 clear t8 r1 l0 l1 d1
 go_loopw [5,6] (fun i _ wr=>∃k:Nat,k≤ch.length∧i=.int .i64 k∧Below w.heap.size w wr∧Row wr w.heap.size 39 [.int .i64 s.p.n,.int .i64 s.p.ins,.int .i64 s.p.outs,.slice ca s.p.cs.length cc,.int .i64 s.p.an,.slice sa s.p.st.length sc,.int .i64 s.p.rounds,.int .i64 s.tn,.slice ta s.tab.length tc,.slice xa s.ex.length xc]∧Row wr (w.heap.size+1) 32 [.slice a2 ch.length c2]∧Hid (∀j,j<k→frmV s.tab ch s.p.outs j=0)) (fun i _ _=>ch.length - (intOf i).toNat)
 case atStart=>exact ⟨0,Nat.zero_le _,rfl,ex,R0,R1,zhd fun j hj=>by omega⟩
 case round=>
  clear ex R0 R1
  obtain ⟨k,hk,rfl,hb,R0,R1,HJ⟩:=hrel
  have r1:=R1.zc 0 rfl
  have t2:=R0.zc 2 rfl
  have t7:=R0.zc 7 rfl
  have t8:=R0.zc 8 rfl
  have l0:=R0.lt
  have l1:=R1.lt
  by_cases hlt:k<ch.length
  case neg=>
   have RE:Hid (r=0):=zhd (by rw[HR.out];exact yj fun j hj=>HJ.out j (by omega))
   go_wp2
   go_ret
   exact .mk hb (zi RE.out.symm)
  have q1:=H2.out.idx hlt
  have cck:=(H2.out.ext hb).cellN hlt
  have hbk:=World.block_lt_of_cell? _ _ cck
  have hkT:k<s.tab.length:=by have:=HLEN.out;omega
  have HBF:=zhd (HTT.out.bef hkT)
  have HF:Hid (frmV s.tab ch s.p.outs k=if nth ch k< -1∨s.p.outs≤nth ch k then 2 else if 0≤befV s.tab k∧0≤nth ch (befV s.tab k).toNat∧nth ch (befV s.tab k).toNat≠nth ch k then 21 else 0):=zhd rfl
  have HFE:Hid (frmV s.tab ch s.p.outs k≠0→r=frmV s.tab ch s.p.outs k):=zhd fun h0=>by rw[HR.out];exact qZ HJ.out h0 hlt
  have HNX:Hid (frmV s.tab ch s.p.outs k=0→∀j,j<k+1→frmV s.tab ch s.p.outs j=0):=zhd fun h0 j hj=>by
   by_cases e:j=k
   ·rw[e];exact h0
   ·exact HJ.out j (by omega)
  obtain ⟨y,hy⟩:∃y,y=nth ch k:=⟨_,rfl⟩
  rw[←hy]at cck HF
  have HYY:=zhd hy
  clear hy
  by_cases hA:y< -1∨s.p.outs≤y
  ·have RE:Hid (r=2):=zhd (by
    have e2:frmV s.tab ch s.p.outs k=2:=by rw[HF.out,if_pos hA]
    rw[HFE.out (by rw[e2];decide),e2])
   have HA:=zhd hA
   clear hA
   by_cases h1:y< -1
   ·have e1:decide (y< -1)=true:=decide_eq_true h1
    clear h1
    go_wp2
    go_quiet (fail)
    go_wp2
    go_ret
    exact .mk (za hb (zh _ _ _)) (zi RE.out.symm)
   ·have e1:decide (y< -1)=false:=decide_eq_false h1
    have e2:decide (s.p.outs≤y)=true:=decide_eq_true (by have:=HA.out;omega)
    clear h1
    go_wp2
    go_quiet (fail)
    go_wp2
    go_ret
    exact .mk (za hb (zh _ _ _)) (zi RE.out.symm)
  have e1:decide (y< -1)=false:=decide_eq_false (by omega)
  have e2:decide (s.p.outs≤y)=false:=decide_eq_false (by omega)
  have HF2:Hid (frmV s.tab ch s.p.outs k=if 0≤befV s.tab k∧0≤nth ch (befV s.tab k).toNat∧nth ch (befV s.tab k).toNat≠y then 21 else 0):=zhd (by rw[HF.out,if_neg hA])
  clear hA HF
  go_wp2
  go_quiet (fail)
  refine zK fun w4 hq4=>?_
  replace R0:=R0.ext hq4.ext
  replace R1:=R1.ext hq4.ext
  replace hb:=za hb hq4.ext
  clear r1 t2 t7 t8 l0 l1 cck hbk
  have r1:=R1.zc 0 rfl
  have t2:=R0.zc 2 rfl
  have t7:=R0.zc 7 rfl
  have t8:=R0.zc 8 rfl
  have l0:=R0.lt
  have l1:=R1.lt
  have cck:=(H2.out.ext hb).cellN hlt
  rw[←HYY.out]at cck
  have hbk:=World.block_lt_of_cell? _ _ cck
  go_wp2_with fail
  refine (KB.out _ hb k hkT).mono ?_
  rintro _ w5 ⟨_,rfl,hb5,rfl⟩
  replace R0:=R0.ext hb5
  replace R1:=R1.ext hb5
  replace hb:=za hb hb5
  clear r1 t2 t7 t8 l0 l1 cck hbk hb5
  have r1:=R1.zc 0 rfl
  have l1:=R1.lt
  rcases HBF.out with hbv | ⟨u,hu,hbv⟩
  ·have HX:=zhd (HNX.out (by rw[HF2.out,if_neg (fun h=>by rw[hbv]at h;exact absurd h.1 (by decide))]))
   rw[hbv]
   clear hbv HF2 HFE HBF
   go_wp2
   go_quiet (fail)
   refine zK fun w6 hq4=>?_
   replace R0:=R0.ext hq4.ext
   replace R1:=R1.ext hq4.ext
   replace hb:=za hb hq4.ext
   go_wp2
   go_roundw
   case rel=>exact ⟨k+1,by omega,by go_num,hb,R0,R1,HX⟩
   case measure=>simp[intOf];omega
  rw[hbv,Int.toNat_natCast]at HF2
  rw[hbv]
  have hul:u<ch.length:=by omega
  have q2:=H2.out.idx hul
  have ccu:=(H2.out.ext hb).cellN hul
  have hbu:=World.block_lt_of_cell? _ _ ccu
  have cck:=(H2.out.ext hb).cellN hlt
  rw[←HYY.out]at cck
  have hbk:=World.block_lt_of_cell? _ _ cck
  obtain ⟨y2,hy2⟩:∃y,y=nth ch u:=⟨_,rfl⟩
  rw[←hy2]at ccu HF2
  have d0:decide ((0:Int)≤(u:Int))=true:=decide_eq_true (by omega)
  clear hbv hy2 HBF
  by_cases h2:0≤y2
  case neg=>
   have e3:decide (0≤y2)=false:=decide_eq_false h2
   have HX:=zhd (HNX.out (by rw[HF2.out,if_neg (fun h=>h2 h.2.1)]))
   clear h2
   go_wp2
   go_quiet (fail)
   refine zK fun w6 hq4=>?_
   replace R0:=R0.ext hq4.ext
   replace R1:=R1.ext hq4.ext
   replace hb:=za hb hq4.ext
   go_wp2
   go_roundw
   case rel=>exact ⟨k+1,by omega,by go_num,hb,R0,R1,HX⟩
   case measure=>simp[intOf];omega
  have e3:decide (0≤y2)=true:=decide_eq_true h2
  by_cases h3:y2=y
  ·have e4:(y !=y2)=false:=by simp[h3]
   have HX:=zhd (HNX.out (by rw[HF2.out,if_neg (fun h=>h.2.2 h3)]))
   clear h2 h3
   go_wp2
   go_quiet (fail)
   refine zK fun w6 hq4=>?_
   replace R0:=R0.ext hq4.ext
   replace R1:=R1.ext hq4.ext
   replace hb:=za hb hq4.ext
   go_wp2
   go_roundw
   case rel=>exact ⟨k+1,by omega,by go_num,hb,R0,R1,HX⟩
   case measure=>simp[intOf];omega
  ·have e4:(y !=y2)=true:=by simp;omega
   have RE:Hid (r=21):=zhd (by
    have e5:frmV s.tab ch s.p.outs k=21:=by rw[HF2.out,if_pos ⟨by omega,h2,h3⟩]
    rw[HFE.out (by rw[e5];decide),e5])
   clear h2 h3
   go_wp2
   go_quiet (fail)
   go_wp2
   go_ret
   exact .mk (za hb (zh _ _ _)) (zi RE.out.symm)
def ruleE (s:SysF) (ch:List Int):Int:=if verE s=0 then formE s ch else verE s
theorem xU {S S2:Nat→Prop} {w:World} {v vch:Value} {s:SysF} {ch:List Int} (h:SysV S w v s) (hf:PFew s.p) (h2:Ints S2 w vch ch):
  Calls Tryz.prog 34 #[v,.agg #[vch]] w (Post w fun _ r=>r=.int .i64 (ruleE s ch)):=by
 have KV:Hid (∀W,Below w.heap.size w W→Calls Tryz.prog 66 #[v] W (Post W fun _ r=>r=.int .i64 (verE s))):=zhd fun W hW=>yX (h.ext hW) hf
 have KO:Hid (verE s=0→∀W,Below w.heap.size w W→Calls Tryz.prog 67 #[v,.agg #[vch]] W (Post W fun _ r=>r=.int .i64 (formE s ch))):=zhd fun h0 W hW=>XY (h.ext hW) (qF h0 (by obtain ⟨_,_,_,_,_,_,hs,_⟩:=h;exact qC hs)).tab (h2.ext hW)
 obtain ⟨vc,vs,vt,vx,rfl,hc,hs,ht,hx⟩:=h
 obtain ⟨ca,cc,rfl,_⟩:=hc.form
 obtain ⟨sa,sc,rfl,_⟩:=hs.form
 obtain ⟨ta,tc,rfl,_⟩:=ht.form
 obtain ⟨xa,xc,rfl,_⟩:=hx.form
 obtain ⟨a2,c2,rfl,_⟩:=h2.form
 obtain ⟨ex,R0,R1⟩:=zb2 w [.int .i64 s.p.n,.int .i64 s.p.ins,.int .i64 s.p.outs,.slice ca s.p.cs.length cc,.int .i64 s.p.an,.slice sa s.p.st.length sc,.int .i64 s.p.rounds,.int .i64 s.tn,.slice ta s.tab.length tc,.slice xa s.ex.length xc] [.slice a2 ch.length c2] 39 32
 have HR:Hid ((verE s=0→ruleE s ch=formE s ch)∧(verE s≠0→ruleE s ch=verE s)):=zhd ⟨fun h=>by unfold ruleE;rw[if_pos h],fun h=>by unfold ruleE;rw[if_neg h]⟩
 obtain ⟨ve,hve⟩:∃e,e=verE s:=⟨_,rfl⟩
 rw[←hve]at KV KO HR
 obtain ⟨t0,t1,t2,t3,t4,t5,t6,t7,t8,t9⟩:=R0.ten
 have l0:=R0.lt
 clear hc hs ht hx h2 hve hf
 go_enter Tryz.func34,Tryz.ntmps34
 go_wp2_with fail
 refine (KV.out _ ex).mono ?_
 rintro _ w1 ⟨_,rfl,hb1,rfl⟩
 replace R0:=R0.ext hb1
 replace R1:=R1.ext hb1
 replace ex:=za ex hb1
 clear t0 t1 t2 t3 t4 t5 t6 t7 t8 t9 l0 hb1 KV
 by_cases hv0:ve=0
 case neg=>
  have RE:=zhd (HR.out.2 hv0)
  have d0:(ve !=0)=true:=by simp[hv0]
  clear hv0
  go_wp2
  go_ret
  exact .mk ex (zi RE.out.symm)
 have RE:=zhd (HR.out.1 hv0)
 have d0:(ve !=0)=false:=by simp[hv0]
 replace KO:=zhd (KO.out hv0)
 obtain ⟨t0,t1,t2,t3,t4,t5,t6,t7,t8,t9⟩:=R0.ten
 have l0:=R0.lt
 have r1:=R1.zc 0 rfl
 have l1:=R1.lt
 clear hv0
 go_wp2_with fail
 refine (KO.out _ ex).mono ?_
 rintro _ w2 ⟨_,rfl,hb2,rfl⟩
 replace ex:=za ex hb2
 clear t0 t1 t2 t3 t4 t5 t6 t7 t8 t9 l0 r1 l1 hb2 KO
 go_wp2
 go_ret
 exact .mk ex (zi RE.out.symm)
theorem Qr {S S2:Nat→Prop} {w:World} {v vch:Value} {s:SysF} {ch:List Int} (h:SysV S w v s) (hf:SmallP s.p) (h2:Ints S2 w vch ch):
  Calls Tryz.prog 18 #[v,.agg #[vch]] w (Post w fun _ r=>r=.int .i64 (ruleE s ch)):=by
 have KV:Hid (∀W,Below w.heap.size w W→Calls Tryz.prog 39 #[v] W (Post W fun _ r=>r=.int .i64 (verE s))):=zhd fun W hW=>YV (h.ext hW) hf
 have KO:Hid (verE s=0→∀W,Below w.heap.size w W→Calls Tryz.prog 40 #[v,.agg #[vch]] W (Post W fun _ r=>r=.int .i64 (formE s ch))):=zhd fun h0 W hW=>zaG (h.ext hW) (qF h0 (by obtain ⟨_,_,_,_,_,_,hs,_⟩:=h;exact qC hs)).tab (h2.ext hW)
 obtain ⟨vc,vs,vt,vx,rfl,hc,hs,ht,hx⟩:=h
 obtain ⟨ca,cc,rfl,_⟩:=hc.form
 obtain ⟨sa,sc,rfl,_⟩:=hs.form
 obtain ⟨ta,tc,rfl,_⟩:=ht.form
 obtain ⟨xa,xc,rfl,_⟩:=hx.form
 obtain ⟨a2,c2,rfl,_⟩:=h2.form
 obtain ⟨ex,R0,R1⟩:=zb2 w [.int .i64 s.p.n,.int .i64 s.p.ins,.int .i64 s.p.outs,.slice ca s.p.cs.length cc,.int .i64 s.p.an,.slice sa s.p.st.length sc,.int .i64 s.p.rounds,.int .i64 s.tn,.slice ta s.tab.length tc,.slice xa s.ex.length xc] [.slice a2 ch.length c2] 39 32
 have HR:Hid ((verE s=0→ruleE s ch=formE s ch)∧(verE s≠0→ruleE s ch=verE s)):=zhd ⟨fun h=>by unfold ruleE;rw[if_pos h],fun h=>by unfold ruleE;rw[if_neg h]⟩
 obtain ⟨ve,hve⟩:∃e,e=verE s:=⟨_,rfl⟩
 rw[←hve]at KV KO HR
 obtain ⟨t0,t1,t2,t3,t4,t5,t6,t7,t8,t9⟩:=R0.ten
 have l0:=R0.lt
 clear hc hs ht hx h2 hve hf
 go_enter Tryz.func18,Tryz.ntmps18
 go_wp2_with fail
 refine (KV.out _ ex).mono ?_
 rintro _ w1 ⟨_,rfl,hb1,rfl⟩
 replace R0:=R0.ext hb1
 replace R1:=R1.ext hb1
 replace ex:=za ex hb1
 clear t0 t1 t2 t3 t4 t5 t6 t7 t8 t9 l0 hb1 KV
 by_cases hv0:ve=0
 case neg=>
  have RE:=zhd (HR.out.2 hv0)
  have d0:(ve !=0)=true:=by simp[hv0]
  clear hv0
  go_wp2
  go_ret
  exact .mk ex (zi RE.out.symm)
 have RE:=zhd (HR.out.1 hv0)
 have d0:(ve !=0)=false:=by simp[hv0]
 replace KO:=zhd (KO.out hv0)
 obtain ⟨t0,t1,t2,t3,t4,t5,t6,t7,t8,t9⟩:=R0.ten
 have l0:=R0.lt
 have r1:=R1.zc 0 rfl
 have l1:=R1.lt
 clear hv0
 go_wp2_with fail
 refine (KO.out _ ex).mono ?_
 rintro _ w2 ⟨_,rfl,hb2,rfl⟩
 replace ex:=za ex hb2
 clear t0 t1 t2 t3 t4 t5 t6 t7 t8 t9 l0 r1 l1 hb2 KO
 go_wp2
 go_ret
 exact .mk ex (zi RE.out.symm)
def sceneE (s:SysF) (ch:List Int) (e:Int):Int:=if ruleE s ch=0 then (if e<0∨(s.ex.length:Int)≤e then 6 else 0) else ruleE s ch
theorem XG {S S2:Nat→Prop} {w:World} {v vch:Value} {s:SysF} {ch:List Int} (e:Int) (h:SysV S w v s) (hf:PFew s.p) (h2:Ints S2 w vch ch):
  Calls Tryz.prog 23 #[v,.agg #[vch],.int .i64 e] w (Post w fun _ r=>r=.int .i64 (sceneE s ch e)):=by
 have KV:Hid (∀W,Below w.heap.size w W→Calls Tryz.prog 34 #[v,.agg #[vch]] W (Post W fun _ r=>r=.int .i64 (ruleE s ch))):=zhd fun W hW=>xU (h.ext hW) hf (h2.ext hW)
 obtain ⟨vc,vs,vt,vx,rfl,hc,hs,ht,hx⟩:=h
 obtain ⟨ca,cc,rfl,_⟩:=hc.form
 obtain ⟨sa,sc,rfl,_⟩:=hs.form
 obtain ⟨ta,tc,rfl,_⟩:=ht.form
 obtain ⟨xa,xc,rfl,_⟩:=hx.form
 obtain ⟨a2,c2,rfl,_⟩:=h2.form
 obtain ⟨ex,R0,R1⟩:=zb2 w [.int .i64 s.p.n,.int .i64 s.p.ins,.int .i64 s.p.outs,.slice ca s.p.cs.length cc,.int .i64 s.p.an,.slice sa s.p.st.length sc,.int .i64 s.p.rounds,.int .i64 s.tn,.slice ta s.tab.length tc,.slice xa s.ex.length xc] [.slice a2 ch.length c2] 39 32
 have HR:Hid ((ruleE s ch=0→sceneE s ch e=if e<0∨(s.ex.length:Int)≤e then 6 else 0)∧(ruleE s ch≠0→sceneE s ch e=ruleE s ch)):=zhd ⟨fun h=>by unfold sceneE;rw[if_pos h],fun h=>by unfold sceneE;rw[if_neg h]⟩
 obtain ⟨ve,hve⟩:∃e,e=ruleE s ch:=⟨_,rfl⟩
 rw[←hve]at KV HR
 obtain ⟨t0,t1,t2,t3,t4,t5,t6,t7,t8,t9⟩:=R0.ten
 have r1:=R1.zc 0 rfl
 have l1:=R1.lt
 have l0:=R0.lt
 clear hc hs ht hx h2 hve hf
 go_enter Tryz.func23,Tryz.ntmps23
 go_wp2_with fail
 refine (KV.out _ ex).mono ?_
 rintro _ w1 ⟨_,rfl,hb1,rfl⟩
 replace R0:=R0.ext hb1
 replace ex:=za ex hb1
 clear t0 t1 t2 t3 t4 t5 t6 t7 t8 t9 l0 r1 l1 R1 hb1 KV
 by_cases hv0:ve=0
 case neg=>
  have RE:=zhd (HR.out.2 hv0)
  have d0:(ve !=0)=true:=by simp[hv0]
  clear hv0
  go_wp2
  go_ret
  exact .mk ex (zi RE.out.symm)
 have RE:=zhd (HR.out.1 hv0)
 have d0:(ve !=0)=false:=by simp[hv0]
 have t9:=R0.zc 9 rfl
 have l0:=R0.lt
 clear hv0
 by_cases h1:e<0
 ·have e1:decide (e<0)=true:=decide_eq_true h1
  have RF:Hid (sceneE s ch e=6):=zhd (by rw[RE.out,if_pos (.inl h1)])
  clear h1
  go_wp2
  go_ret
  exact .mk ex (zi RF.out.symm)
 have e1:decide (e<0)=false:=decide_eq_false h1
 by_cases h3:(s.ex.length:Int)≤e
 ·have e2:decide ((s.ex.length:Int)≤e)=true:=decide_eq_true h3
  have RF:Hid (sceneE s ch e=6):=zhd (by rw[RE.out,if_pos (.inr h3)])
  clear h1 h3
  go_wp2
  go_ret
  exact .mk ex (zi RF.out.symm)
 ·have e2:decide ((s.ex.length:Int)≤e)=false:=decide_eq_false h3
  have RF:Hid (sceneE s ch e=0):=zhd (by rw[RE.out,if_neg (fun h=>h.elim h1 h3)])
  clear h1 h3
  go_wp2
  go_ret
  exact .mk ex (zi RF.out.symm)
def valsL (ch l:List Int):List Int:=l.map fun x=>nth ch x.toNat
theorem yO (ch l:List Int):(valsL ch l).length=l.length:=by simp[valsL]
theorem Z7 {ch l:List Int} {k:Nat} (hk:k<l.length):valsL ch (l.take (k+1))=valsL ch (l.take k)++[nth ch (nth l k).toNat]:=by unfold valsL;rw[YT hk,List.map_append];rfl
theorem zaL {ch l:List Int} (h:∀x∈ch,WF x):∀x∈valsL ch l,WF x:=fun x hx=>by
 obtain ⟨y,_,rfl⟩:=List.mem_map.1 hx
 exact zd4 h _
def finL (s:SysF) (e:Nat):List Int:=nthL (nthX s.ex e).vs s.K
theorem GoodS.rndK {s:SysF} {N K:Nat} (h:GoodS s N K):K=s.K:=by unfold SysF.K;rw[h.rnd];exact (Int.toNat_natCast K).symm
theorem GoodS.fin {s:SysF} {N K:Nat} (h:GoodS s N K) {e:Nat} (he:e<s.ex.length):(finL s e).length=N∧∀q,q<N→∃z:Nat,nth (finL s e) q=z∧z<s.tab.length:=by
 unfold finL
 rw[←h.rndK]
 obtain ⟨c,hc⟩:=h.ex e he
 exact ⟨hc.rows K (Nat.le_refl _),fun q hq=>by obtain ⟨v,h1,h2,_⟩:=h.view he (Nat.le_refl K) hq;exact ⟨v,h2,h1⟩⟩
theorem XX {S S2:Nat→Prop} {w:World} {v vch:Value} {s:SysF} {N K e:Nat} {ch:List Int} (h:SysV S w v s) (hg:GoodS s N K) (h2:Ints S2 w vch ch) (hcl:ch.length=s.tab.length) (he:e<s.ex.length):
  Calls Tryz.prog 41 #[v,.agg #[vch],.int .i64 e] w (Post w fun w' r=>Ints (fun b=>w.heap.size≤b) w' r (valsL ch (finL s e))):=by
 have KF:Hid (∀W,Below w.heap.size w W→Calls Tryz.prog 81 #[v,.int .i64 e] W (Post W fun w' r=>Ints S w' r (finL s e))):=zhd fun W hW=>by unfold finL;rw[←hg.rndK];exact XJ (h.ext hW) hg he
 obtain ⟨hfl,hfe⟩:=hg.fin he
 have HFE:=zhd hfe
 have hN:=hg.pok.n1.2
 obtain ⟨vc,vs,vt,vx,rfl,hc,hs,ht,hx⟩:=h
 obtain ⟨ca,cc,rfl,_⟩:=hc.form
 obtain ⟨sa,sc,rfl,_⟩:=hs.form
 obtain ⟨ta,tc,rfl,_⟩:=ht.form
 obtain ⟨xa,xc,rfl,xad,_⟩:=hx.form2
 obtain ⟨a2,c2,rfl,_⟩:=h2.form
 have H2:=zhd h2
 have HCL:=zhd hcl
 have HWF:=zhd (zaL (l:=finL s e) h2.wf)
 obtain ⟨ex,R0,R1⟩:=zb2 w [.int .i64 s.p.n,.int .i64 s.p.ins,.int .i64 s.p.outs,.slice ca s.p.cs.length cc,.int .i64 s.p.an,.slice sa s.p.st.length sc,.int .i64 s.p.rounds,.int .i64 s.tn,.slice ta s.tab.length tc,.slice xa s.ex.length xc] [.slice a2 ch.length c2] 39 32
 obtain ⟨t0,t1,t2,t3,t4,t5,t6,t7,t8,t9⟩:=R0.ten
 have l0:=R0.lt
 obtain ⟨l,hl⟩:∃l,l=finL s e:=⟨_,rfl⟩
 rw[←hl]at KF hfl HFE HWF ⊢
 clear hc hs ht hx h2 hg hfe hl hcl he xad
 have HLN:=zhd hfl
 go_enter Tryz.func41,Tryz.ntmps41
 go_wp2_with fail
 refine (KF.out _ ex).mono ?_
 rintro _ w1 ⟨vf,rfl,hb1,hfin⟩
 replace R0:=R0.ext hb1
 replace R1:=R1.ext hb1
 replace ex:=za ex hb1
 obtain ⟨fa,fc,rfl,_⟩:=hfin.form
 have HFI:=zhd hfin
 have hw1:=R1.lt
 have hll:l.length≤5:=by omega
 clear t0 t1 t2 t3 t4 t5 t6 t7 t8 t9 l0 hb1 hfin KF hfl R0
 go_wp2
 go_loopw [7,9] (fun o i wr=>∃(k:Nat) (oa:Option Addr) (oc:Nat),k≤l.length∧i=.int .i64 k∧o=.slice oa k oc∧Below w.heap.size w wr∧Below w1.heap.size w1 wr∧Row wr (w.heap.size+1) 32 [.slice a2 ch.length c2]∧Hid (wr.ownsRow w1.heap.size 3 1 (.slice oa k oc) k ((valsL ch (l.take k)).map (Value.int .i64)))) (fun _ i _=>l.length - (intOf i).toNat)
 case atStart=>exact ⟨0,none,0,Nat.zero_le _,rfl,rfl,ex,.refl _ _,R1,zhd (World.ownsRow_nil _ _ _ _)⟩
 case round=>
  clear ex R1
  obtain ⟨k,oa,oc,hk,rfl,rfl,hb,hb1,R1,HO⟩:=hrel
  by_cases hlt:k<l.length
  case neg=>
   obtain rfl:k=l.length:=by omega
   rw[List.take_length]at HO
   have HI:=zhd ((Ints.of_own HO.out HWF.out).mono (S':=fun b=>w.heap.size≤b) fun b hb=>by omega)
   go_wp2
   go_ret
   exact .mk hb HI.out
  obtain ⟨z,hz,hzl⟩:=HFE.out k (by have:=HLN.out;omega)
  have hzc:z<ch.length:=by have:=HCL.out;omega
  have q1:=HFI.out.idx hlt
  have q2:=H2.out.idx hzc
  have clk:=(HFI.out.ext hb1).cellN hlt
  have HP:=zhd (Z7 (ch:=ch) hlt)
  rw[hz,Int.toNat_natCast]at HP
  rw[hz]at clk
  have cck:=(H2.out.ext hb).cellN hzc
  have hbk:=World.block_lt_of_cell? _ _ clk
  have hbk2:=World.block_lt_of_cell? _ _ cck
  have hbk3:=World.block_lt_of_cell? _ _ (HFI.out.cellN hlt)
  have hbk4:=World.block_lt_of_cell? _ _ (H2.out.cellN hzc)
  obtain ⟨x,hx⟩:∃x,x=nth ch z:=⟨_,rfl⟩
  rw[←hx]at HP cck
  have r1:=R1.zc 0 rfl
  have l1:=R1.lt
  have hsz:=hb1.size
  have KEEP:Hid (∀w',Below wr.heap.size wr w'→(fun w':World=>w'.cell? ⟨w.heap.size+1,0,none⟩=some (.slice a2 ch.length c2)∧w'.cell? (adr fa k)=some (.int .i64 z)∧w'.cell? (adr a2 z)=some (.int .i64 x)) w'):=zhd fun w' hw=>⟨zm r1 hw,zm clk hw,zm cck hw⟩
  have K5:Hid (∀(w4 w5:World),Below w1.heap.size w4 w5→(fun w':World=>w'.cell? ⟨w.heap.size+1,0,none⟩=some (.slice a2 ch.length c2)∧w'.cell? (adr fa k)=some (.int .i64 z)∧w'.cell? (adr a2 z)=some (.int .i64 x)) w4→(fun w':World=>w'.cell? ⟨w.heap.size+1,0,none⟩=some (.slice a2 ch.length c2)∧w'.cell? (adr fa k)=some (.int .i64 z)∧w'.cell? (adr a2 z)=some (.int .i64 x)) w5):=zhd fun w4 w5 hw h4=>by
   have hA:Agree (fun b=>b<w1.heap.size) w4 w5:=.of_below hw fun b hb _=>hb
   obtain ⟨h0,h1,h2⟩:=h4
   exact ⟨yQ h0 hA hw1,yQ h1 hA hbk3,yQ h2 hA (by omega)⟩
  have HR1:=zhd R1
  clear hz hx R1
  go_wp2
  refine zH (fun w':World=>w'.cell? ⟨w.heap.size+1,0,none⟩=some (.slice a2 ch.length c2)∧w'.cell? (adr fa k)=some (.int .i64 z)∧w'.cell? (adr a2 z)=some (.int .i64 x)) (fun i=>false) (by kernel_rfl) ?_ (fun hHeld=>?_)
  ·exact KEEP.out _ (zh _ _ 1)
  refine anyE_take 0 (v:=?_) rfl (by kernel_rfl) (fun _ _ _ h=>h) (by rfl) ?hy0 hHeld ?r0
  case hy0=>(intro w hSw;(try dsimp only at hSw);go_simp;try with_reducible rfl)
  try simp only[Act.put,zsa,zsz,zss]
  refine anyE_take 1 (v:=?_) rfl (by kernel_rfl) (fun _ _ _ h=>h) (by rfl) ?hy1 hHeld ?r1
  case hy1=>(intro w hSw;(try dsimp only at hSw);go_simp;try with_reducible rfl)
  try simp only[Act.put,zsa,zsz,zss]
  refine anyE_take 2 (v:=?_) rfl (by kernel_rfl) (fun _ _ _ h=>h) (by rfl) ?hy2 hHeld ?r2
  case hy2=>(intro w hSw;(try dsimp only at hSw);go_simp;try with_reducible rfl)
  try simp only[Act.put,zsa,zsz,zss]
  refine anyE_take 3 (v:=?_) rfl (by kernel_rfl) (fun _ _ _ h=>h) (by rfl) ?hy3 hHeld ?r3
  case hy3=>(intro w hSw;(try dsimp only at hSw);go_simp;try with_reducible rfl)
  try simp only[Act.put,zsa,zsz,zss]
  refine anyE_take 4 (v:=?_) rfl (by kernel_rfl) (fun _ _ _ h=>h) (by rfl) ?hy4 hHeld ?r4
  case hy4=>(intro w hSw;(try dsimp only at hSw);go_simp;try with_reducible rfl)
  try simp only[Act.put,zsa,zsz,zss]
  refine anyE_take 5 (v:=?_) rfl (by kernel_rfl) (fun _ _ _ h=>h) (by rfl) ?hy5 hHeld ?r5
  case hy5=>(intro w hSw;(try dsimp only at hSw);go_simp;try with_reducible rfl)
  try simp only[Act.put,zsa,zsz,zss]
  refine anyE_take 6 (v:=?_) rfl (by kernel_rfl) (fun _ _ _ h=>h) (by rfl) ?hy6 hHeld ?r6
  case hy6=>(intro w hSw;(try dsimp only at hSw);go_simp;try with_reducible rfl)
  try simp only[Act.put,zsa,zsz,zss]
  refine anyE_take 7 (v:=?_) rfl (by kernel_rfl) (fun _ _ _ h=>h) (by rfl) ?hy7 hHeld ?r7
  case hy7=>(intro w hSw;(try dsimp only at hSw);go_simp;try with_reducible rfl)
  try simp only[Act.put,zsa,zsz,zss]
  refine anyE_take 8 (v:=?_) rfl (by kernel_rfl) (fun _ _ _ h=>h) (by rfl) ?hy8 hHeld ?r8
  case hy8=>(intro w hSw;(try dsimp only at hSw);go_simp;try with_reducible rfl)
  try simp only[Act.put,zsa,zsz,zss]
  refine anyE_one 9 rfl (by kernel_rfl) (fun K hK=>?_)
  go_simp
  refine hK.out _ _ (fun _=>KEEP.out _ (zg (zh _ _ 1) _)) (fun hHeld=>?_);replace hHeld:=hHeld rfl
  clear hK K
  try simp only[Act.put,zsa,zsz,zss]
  refine anyE_one 10 rfl (by kernel_rfl) (fun K hK=>?_)
  (refine yp (w:=wr.drew.alloc (.cells #[.int .i64 x] 3)) rfl _ _ 30 (by rfl) 3 _ 1 8 Tryz.underlying30 zC rfl (by decide) w1.heap.size _ k _ (by rfl) (qn HO.out (zg (zh _ _ 1) _)) (fun _=>True) (some ⟨wr.drew.heap.size,0,none⟩) 1 1 [.int .i64 x] (by rfl) (.inr ⟨_,0,rfl,by simp,trivial⟩) rfl (zdu wr.drew x) (by simp[Value.oneCell']) (by omega) (by omega) (by simp;omega) ?_;intro v5 w5 hown5 hbel5 hag5 hat5)
  refine hK.out _ _ (fun _=>K5.out _ _ hbel5 (KEEP.out _ (zg (zh _ _ 1) _))) (fun hHeld=>?_);replace hHeld:=hHeld rfl
  clear hK K
  try simp only[Act.put,zsa,zsz,zss]
  refine anyE_take 11 (v:=?_) rfl (by kernel_rfl) (fun _ _ _ h=>h) (by rfl) ?hy11 hHeld ?r11
  case hy11=>(intro w hSw;(try dsimp only at hSw);go_simp;try with_reducible rfl)
  try simp only[Act.put,zsa,zsz,zss]
  refine zy (by kernel_rfl) ?_ _
  obtain ⟨ga,gc,rfl⟩:=xw hown5
  have HO5:Hid (w5.ownsRow w1.heap.size 3 1 (.slice ga (k+1) gc) (k+1) ((valsL ch (l.take (k+1))).map (Value.int .i64))):=zhd (by rw[HP.out];simpa using hown5)
  have e4:=zg (zh wr.heap.size wr 1) (.cells #[.int .i64 x] 3)
  have R15:=Qh (HR1.out.ext e4) hw1 hbel5
  have hb5:=(za hb e4).trans (hbel5.mono (show w.heap.size≤w1.heap.size by omega))
  have hb15:=(za hb1 e4).trans hbel5
  clear hHeld KEEP K5 HR1 hown5 hbel5 hag5 hat5 hb hb1 HO e4
  go_wp2
  go_roundw
  case rel=>exact ⟨k+1,_,_,by omega,by go_num,rfl,hb5,hb15,R15,HO5⟩
  case measure=>simp[intOf];omega
theorem ZO {S S2:Nat→Prop} {w:World} {v vch:Value} {s:SysF} {N K e:Nat} {ch:List Int} (h:SysV S w v s) (hg:GoodS s N K) (h2:Ints S2 w vch ch) (hcl:ch.length=s.tab.length) (he:e<s.ex.length):
  Calls Tryz.prog 24 #[v,.agg #[vch],.int .i64 e] w (Post w fun w' r=>Ints (fun b=>w.heap.size≤b) w' r (valsL ch (finL s e))):=by
 obtain ⟨hfl,hfe⟩:=hg.fin he
 have HFE:=zhd hfe
 have hN:=hg.pok.n1.2
 obtain ⟨vc,vs,vt,vx,rfl,hc,hs,ht,hx⟩:=h
 obtain ⟨ca,cc,rfl,_⟩:=hc.form
 obtain ⟨sa,sc,rfl,_⟩:=hs.form
 obtain ⟨ta,tc,rfl,_⟩:=ht.form
 obtain ⟨xa,xc,rfl,xad,_⟩:=hx.form2
 have q1:=yg xad e he
 obtain ⟨a1,c1,a3,c3,z0,z1,z2,i1,i2⟩:=hx.exec he
 have bk:=World.block_lt_of_cell? _ _ z0
 obtain ⟨c,hX⟩:=hg.ex e he
 have hlen:=hX.len
 have hK8:=hg.K6
 have hK:K<(nthX s.ex e).vs.length:=by omega
 obtain ⟨_,_,hee,ad2,_⟩:=i2.form
 cases hee
 obtain ⟨i0,hi,_,hz1,_⟩:=info_parts zF
 have q2:=zz Tryz.underlying47 hi hz1 ad2 K hK
 obtain ⟨u,cu,iu⟩:=i2.at (.refl _ _) hK
 obtain ⟨fa,fc,rfl,_⟩:=iu.form
 have bu:=World.block_lt_of_cell? _ _ cu
 have HFI:=zhd iu
 obtain ⟨a2,c2,rfl,_⟩:=h2.form
 have H2:=zhd h2
 have HCL:=zhd hcl
 have HWF:=zhd (zaL (l:=finL s e) h2.wf)
 obtain ⟨ex,R0,R1⟩:=zb2 w [.int .i64 s.p.n,.int .i64 s.p.ins,.int .i64 s.p.outs,.slice ca s.p.cs.length cc,.int .i64 s.p.an,.slice sa s.p.st.length sc,.int .i64 s.p.rounds,.int .i64 s.tn,.slice ta s.tab.length tc,.slice xa s.ex.length xc] [.slice a2 ch.length c2] 39 32
 have hfk:finL s e=nthL (nthX s.ex e).vs K:=by unfold finL;rw[←hg.rndK]
 rw[←hfk]at HFI cu
 obtain ⟨l,hl⟩:∃l,l=finL s e:=⟨_,rfl⟩
 rw[←hl]at hfl HFE HWF HFI cu ⊢
 obtain ⟨L,hL⟩:∃L,L=(nthX s.ex e).vs.length:=⟨_,rfl⟩
 rw[←hL]at z2 q2 hlen hK
 have dL:((L:Int) - 1)=(K:Int):=by omega
 have hLm:(L:Int)≤140737488355328:=by omega
 have z2':=zm z2 ex
 have cu':=zm cu ex
 clear hc hs ht hx h2 hg hfe hl hcl he xad hfk hX i1 i2 z0 z1 z2 cu iu hi hz1 ad2 hL
 have HLN:=zhd hfl
 have hll:l.length≤5:=by omega
 have t9:=R0.zc 9 rfl
 have l0:=R0.lt
 have hlN:L≤8:=by omega
 clear hfl hlen hK R0
 go_enter Tryz.func24,Tryz.ntmps24
 go_wp2
 clear t9 l0 z2' cu' q1 q2 dL hLm bk bu
 obtain ⟨w1,hw1⟩:∃w1,w1=(w.alloc (.cells #[.int .i64 s.p.n,.int .i64 s.p.ins,.int .i64 s.p.outs,.slice ca s.p.cs.length cc,.int .i64 s.p.an,.slice sa s.p.st.length sc,.int .i64 s.p.rounds,.int .i64 s.tn,.slice ta s.tab.length tc,.slice xa s.ex.length xc] 39)).alloc (.cells #[.slice a2 ch.length c2] 32):=⟨_,rfl⟩
 have hws:w1.heap.size=w.heap.size+1+1:=by rw[hw1];simp
 have hbk:=Below.refl w1.heap.size w1
 rw[←hw1]at ex R1 ⊢
 clear hw1
 go_loopw [7,10,24] (fun o _ i wr=>∃(k:Nat) (oa:Option Addr) (oc:Nat),k≤l.length∧i=.int .i64 k∧o=.slice oa k oc∧Below w.heap.size w wr∧Row wr (w.heap.size+1) 32 [.slice a2 ch.length c2]∧Hid (wr.ownsRow (w.heap.size+2) 3 1 (.slice oa k oc) k ((valsL ch (l.take k)).map (Value.int .i64)))) (fun _ _ i _=>l.length - (intOf i).toNat)
 case atStart=>exact ⟨0,none,0,Nat.zero_le _,rfl,rfl,ex,R1,zhd (World.ownsRow_nil _ _ _ _)⟩
 case round=>
  clear ex R1 hbk hws w1
  obtain ⟨k,oa,oc,hk,rfl,rfl,hb,R1,HO⟩:=hrel
  by_cases hlt:k<l.length
  case neg=>
   obtain rfl:k=l.length:=by omega
   rw[List.take_length]at HO
   have HI:=zhd ((Ints.of_own HO.out HWF.out).mono (S':=fun b=>w.heap.size≤b) fun b hb=>by omega)
   go_wp2
   go_ret
   exact .mk hb HI.out
  obtain ⟨z,hz,hzl⟩:=HFE.out k (by have:=HLN.out;omega)
  have hzc:z<ch.length:=by have:=HCL.out;omega
  have q1:=HFI.out.idx hlt
  have q2:=H2.out.idx hzc
  have clk:=(HFI.out.ext hb).cellN hlt
  have HP:=zhd (Z7 (ch:=ch) hlt)
  rw[hz,Int.toNat_natCast]at HP
  rw[hz]at clk
  have cck:=(H2.out.ext hb).cellN hzc
  have hbk:=World.block_lt_of_cell? _ _ clk
  have hbk2:=World.block_lt_of_cell? _ _ cck
  obtain ⟨x,hx⟩:∃x,x=nth ch z:=⟨_,rfl⟩
  rw[←hx]at HP cck
  have r1:=R1.zc 0 rfl
  have l1:=R1.lt
  have HR1:=zhd R1
  have hsz:=hb.size
  clear hz hx R1
  go_wp2_with (at_builtin;refine yc rfl (.tmp 28) (.tmp 34) 30 rfl 3 _ 8 Tryz.underlying30 zC rfl (w.heap.size+2) _ _ _ rfl HO.out (.int .i64 x) rfl rfl (by omega) (by omega) (by omega) ?_;intro g' c' w5 hown5 hbel5 hag5 hat5)
  have HO5:Hid (w5.ownsRow (w.heap.size+2) 3 1 (.slice (some ⟨g',0,none⟩) (k+1) c') (k+1) ((valsL ch (l.take (k+1))).map (Value.int .i64))):=zhd (by rw[HP.out];simpa using hown5)
  have R15:=Qh HR1.out (by omega) hbel5
  have hb5:=hb.trans (hbel5.mono (show w.heap.size≤w.heap.size+2 by omega))
  clear HR1 hown5 hbel5 hag5 hat5 hb HO r1 cck clk
  go_wp2
  go_roundw
  case rel=>exact ⟨k+1,_,_,by omega,by go_num,rfl,hb5,R15,HO5⟩
  case measure=>simp[intOf];omega
theorem SysV.moves8 {S:Nat→Prop} {w:World} {v:Value} {s:SysF} (h:SysV S w v s):Moves8 s.p.st:=by obtain ⟨_,_,_,_,_,_,hs,_⟩:=h;exact qC hs
theorem xf {s:SysF} {ch:List Int} (h:ruleE s ch=0):verE s=0∧ch.length=s.tab.length∧formE s ch=0:=by
 unfold ruleE at h
 split at h
 ·rename_i h0
  refine ⟨h0,?_,h⟩
  unfold formE at h
  split at h
  ·assumption
  ·omega
 ·rename_i h0;exact absurd h h0
theorem zcW {s:SysF} {ch:List Int} {e:Int} (h:sceneE s ch e=0):verE s=0∧ch.length=s.tab.length∧0≤e∧e<s.ex.length:=by
 unfold sceneE at h
 split at h
 ·rename_i h0
  obtain ⟨h1,h2,_⟩:=xf h0
  split at h
  ·omega
  ·exact ⟨h1,h2,by omega,by omega⟩
 ·rename_i h0;exact absurd h h0
def DecR (B:Nat) (s:SysF) (ch:List Int) (e:Int) (w':World) (r:Value):Prop:=(sceneE s ch e=0∧(∃u,r=.tuple #[u,.int .i64 0]∧Ints (fun b=>B≤b) w' u (valsL ch (finL s e.toNat))))∨(sceneE s ch e≠0∧r=.tuple #[.slice none 0 0,.int .i64 (sceneE s ch e)])
theorem zbe {S S2:Nat→Prop} {w:World} {v vch:Value} {s:SysF} {ch:List Int} (e:Int) (h:SysV S w v s) (hf:PFew s.p) (h2:Ints S2 w vch ch):
  Calls Tryz.prog 10 #[v,.agg #[vch],.int .i64 e] w (Post w (DecR w.heap.size s ch e)):=by
 have KV:Hid (∀W,Below w.heap.size w W→Calls Tryz.prog 23 #[v,.agg #[vch],.int .i64 e] W (Post W fun _ r=>r=.int .i64 (sceneE s ch e))):=zhd fun W hW=>XG e (h.ext hW) hf (h2.ext hW)
 have KD:Hid (sceneE s ch e=0→∀W,Below w.heap.size w W→Calls Tryz.prog 24 #[v,.agg #[vch],.int .i64 e] W (Post W fun w' r=>Ints (fun b=>W.heap.size≤b) w' r (valsL ch (finL s e.toNat)))):=zhd fun h0 W hW=>by
  obtain ⟨j1,j2,j3,j4⟩:=zcW h0
  obtain ⟨m,rfl⟩:=Int.eq_ofNat_of_zero_le j3
  rw[Int.toNat_natCast]
  exact ZO (h.ext hW) (qF j1 h.moves8) (h2.ext hW) j2 (by omega)
 obtain ⟨vc,vs,vt,vx,rfl,hc,hs,ht,hx⟩:=h
 obtain ⟨ca,cc,rfl,_⟩:=hc.form
 obtain ⟨sa,sc,rfl,_⟩:=hs.form
 obtain ⟨ta,tc,rfl,_⟩:=ht.form
 obtain ⟨xa,xc,rfl,xad,_⟩:=hx.form2
 obtain ⟨a2,c2,rfl,_⟩:=h2.form
 obtain ⟨ex,R0,R1⟩:=zb2 w [.int .i64 s.p.n,.int .i64 s.p.ins,.int .i64 s.p.outs,.slice ca s.p.cs.length cc,.int .i64 s.p.an,.slice sa s.p.st.length sc,.int .i64 s.p.rounds,.int .i64 s.tn,.slice ta s.tab.length tc,.slice xa s.ex.length xc] [.slice a2 ch.length c2] 39 32
 obtain ⟨t0,t1,t2,t3,t4,t5,t6,t7,t8,t9⟩:=R0.ten
 have r1:=R1.zc 0 rfl
 have l1:=R1.lt
 have l0:=R0.lt
 have HD:Hid (∀w' r,(sceneE s ch e=0∧(∃u,r=.tuple #[u,.int .i64 0]∧Ints (fun b=>w.heap.size≤b) w' u (valsL ch (finL s e.toNat))))∨(sceneE s ch e≠0∧r=.tuple #[.slice none 0 0,.int .i64 (sceneE s ch e)])→DecR w.heap.size s ch e w' r):=zhd fun w' r h=>h
 obtain ⟨ve,hve⟩:∃x,x=sceneE s ch e:=⟨_,rfl⟩
 rw[←hve]at KV KD HD
 clear hc hs ht hx h2 hf hve xad
 go_enter Tryz.func10,Tryz.ntmps10
 go_wp2_with fail
 refine (KV.out _ ex).mono ?_
 rintro _ w1 ⟨_,rfl,hb1,rfl⟩
 replace R0:=R0.ext hb1
 replace R1:=R1.ext hb1
 replace ex:=za ex hb1
 clear t0 t1 t2 t3 t4 t5 t6 t7 t8 t9 l0 r1 l1 hb1 KV
 by_cases hv0:ve=0
 case neg=>
  have d0:(ve !=0)=true:=by simp[hv0]
  have RE:=zhd (HD.out w1 _ (.inr ⟨hv0,rfl⟩))
  clear hv0
  go_wp2
  go_ret2
  exact .mk ex RE.out
 subst hv0
 have KD2:=KD.out rfl
 have d0:((0:Int) !=0)=false:=rfl
 obtain ⟨t0,t1,t2,t3,t4,t5,t6,t7,t8,t9⟩:=R0.ten
 have r1:=R1.zc 0 rfl
 have l1:=R1.lt
 have l0:=R0.lt
 go_wp2_with fail
 refine (KD2 _ ex).mono ?_
 rintro _ w2 ⟨vo,rfl,hb2,ho⟩
 have hs1:=ex.size
 replace ex:=za ex hb2
 obtain ⟨oa,oc,rfl,_⟩:=ho.form
 have RE:=zhd (HD.out w2 _ (.inl ⟨(by first | exact trivial | rfl),_,rfl,ho.mono (fun b hb=>by omega)⟩))
 clear t0 t1 t2 t3 t4 t5 t6 t7 t8 t9 l0 r1 l1 hb2 ho KD2 KD R0 R1 d0
 go_wp2
 go_ret2
 exact .mk ex RE.out
def minT (f:Nat→Bool):Nat→Nat→Int
 | _,0=> -1
 | k,n+1=>if f k then k else minT f (k+1) n
theorem zG {P:Program} {Q:Exit→Act→World→Prop} {md:Region.Mode} {S:World→Prop} {X:Nat→Bool} {l:List Oper} (i:Nat) {oi:Oper} {fuel:Nat} {listed:Array Bool} {a:Act} {w:World} (hi:l[i]? =some oi)
  (hf:(Region.noSelect l.toArray&&(Region.free md l.toArray listed i&&((Region.ready md l.toArray listed).contains i&&waitFor md l.toArray X i)))=true)
  (hQ:∀c a w,Q (.panic c) (a.put oi.dst undef) w→Q (.panic c) a w) (hw:Region.wanted oi (yielded l.toArray a.tmps)=false) (hS:S w)
  (h:AnyE P md l.toArray Q S X fuel (listed.setIfInBounds i true) (a.put oi.dst undef) w):AnyE P md l.toArray Q S X (fuel+1) listed a w:=by
 simp only[Bool.and_eq_true]at hf
 exact Yc (by simpa using hi) hf.1 (by simp only[Bool.and_eq_true];exact hf.2) hQ (.inr ⟨hw,rfl⟩) hS h
theorem zcV {s:SysF} {ch:List Int} (h:formE s ch=0):ch.length=s.tab.length:=by
 unfold formE at h
 split at h
 ·assumption
 ·omega
end Go.Proofs.YtjpakklplhabdaaGreat
