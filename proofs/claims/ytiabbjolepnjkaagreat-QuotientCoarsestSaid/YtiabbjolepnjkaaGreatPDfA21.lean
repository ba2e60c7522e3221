/- Part of the proof that the laws answer true for every input. -/
import Derived.Test.YtiabbjolepnjkaaGreatPDfA20
set_option linter.unusedSimpArgs false
set_option linter.unnecessarySimpa false
set_option linter.unusedVariables false
set_option maxRecDepth 100000
set_option maxHeartbeats 40000000
namespace Go.Proofs.YtiabbjolepnjkaaGreat
open Go.RowKit
attribute [local go_sem ↓] Go.wp_at_zero Go.wp_at_succ
def frmV (T:List (List Int)) (ch:List Int) (outs:Int) (v:Nat):Int:=
 if nth ch v< -1∨outs≤nth ch v then 2 else if 0≤befV T v∧0≤nth ch (befV T v).toNat∧nth ch (befV T v).toNat≠nth ch v then 21 else 0
def formE (s:SysF) (ch:List Int):Int:=if ch.length=s.tab.length then firstE (frmV s.tab ch s.p.outs) ch.length else 15
theorem zde {S S2:Nat→Prop} {w:World} {v vch:Value} {s:SysF} {N K:Nat} {ch:List Int} (h:SysV S w v s) (hT:TabOK N K s.tab) (h2:Ints S2 w vch ch):
  Calls Tryz.prog 118 #[v,.agg #[vch]] w (Post w fun _ r=>r=.int .i64 (formE s ch)):=by
 have H0:=zhd h;obtain ⟨ca,cc,sa,sc,ta,tc,xa,xc,rfl,hc,hs,ht,hx⟩:=h.zf;obtain ⟨a2,c2,rfl,_⟩:=h2.form;have hm2:=h2.len;unfold maxLen at hm2;have H2:=zhd h2;have HTT:=zhd hT;have KB:Hid (∀W,Below w.heap.size w W→∀u,u<s.tab.length→Calls Tryz.prog 146 #[.agg #[s.tn,.slice ta s.tab.length tc],u] W (Post W fun _ r=>r=.int .i64 (befV s.tab u))):=zhd fun W hW u hu=>zbg _ (ht.ext hW) hT hu;obtain ⟨ex,R0,R1⟩:=zb2 w [s.p.n,s.p.ins,s.p.outs,.slice ca s.p.cs.length cc,s.p.an,.slice sa s.p.st.length sc,s.p.rounds,s.tn,.slice ta s.tab.length tc,.slice xa s.ex.length xc] [.slice a2 ch.length c2] 35 38;have t8:=R0.zc 8 rfl;have r1:=R1.zc 0 rfl;have l0:=R0.lt;have l1:=R1.lt;clear hc hs ht hx h2 hT;by_cases hlen:ch.length=s.tab.length
 case neg=>
  have RE:Hid (formE s ch=15):=zhd (by unfold formE;rw[if_neg hlen]);have d1:((ch.length:Int) !=(s.tab.length:Int))=true:=by rw[bne_iff_ne];omega
  clear hlen;go_enter Tryz.func118,Tryz.ntmps118;go_wp2;go_ret;exact .mk ex (zr RE.out.symm)
 have d1:((ch.length:Int) !=(s.tab.length:Int))=false:=by rw[hlen];simp
 have HLEN:=zhd hlen;obtain ⟨r,hr⟩:=zn (formE s ch);rw[←hr];have HR:Hid (r=firstE (frmV s.tab ch s.p.outs) ch.length):=zhd (by rw[hr];unfold formE;rw[if_pos hlen]);clear hlen hr;go_enter Tryz.func118,Tryz.ntmps118;go_wp2;clear t8 r1 l0 l1 d1;go_loopw [5,6,7,19] (fun _ _ _ i wr=>∃k:Nat,k≤ch.length∧i=.int .i64 k∧Below w.heap.size w wr∧Row wr w.heap.size 35 [s.p.n,s.p.ins,s.p.outs,.slice ca s.p.cs.length cc,s.p.an,.slice sa s.p.st.length sc,s.p.rounds,s.tn,.slice ta s.tab.length tc,.slice xa s.ex.length xc]∧Row wr (w.heap.size+1) 38 [.slice a2 ch.length c2]∧Hid (∀j,j<k→frmV s.tab ch s.p.outs j=0)) (fun _ _ _ i _=>ch.length - (intOf i).toNat)
 case atStart=>exact ⟨0,Nat.zero_le _,rfl,ex,R0,R1,zhd fun j hj=>by omega⟩
 case round=>
  clear ex R0 R1;obtain ⟨k,hk,rfl,hb,R0,R1,HJ⟩:=hrel;have r1:=R1.zc 0 rfl;have t2:=R0.zc 2 rfl;have t7:=R0.zc 7 rfl;have t8:=R0.zc 8 rfl;have l0:=R0.lt;have l1:=R1.lt;by_cases hlt:k<ch.length
  case neg=>
   have RE:Hid (r=0):=zhd (by rw[HR.out];exact yG fun j hj=>HJ.out j (by omega));go_wp2;go_ret;exact .mk hb (zr RE.out.symm)
  have q1:=H2.out.idx hlt;have cck:=(H2.out.ext hb).cellN hlt;have hbk:=World.block_lt_of_cell? _ _ cck;have hkT:k<s.tab.length:=by have:=HLEN.out;omega
  have HBF:=zhd (HTT.out.bef hkT);have HF:Hid (frmV s.tab ch s.p.outs k=if nth ch k< -1∨s.p.outs≤nth ch k then 2 else if 0≤befV s.tab k∧0≤nth ch (befV s.tab k).toNat∧nth ch (befV s.tab k).toNat≠nth ch k then 21 else 0):=zhd rfl;have HFE:Hid (frmV s.tab ch s.p.outs k≠0→r=frmV s.tab ch s.p.outs k):=zhd fun h0=>by rw[HR.out];exact Z8 HJ.out h0 hlt
  have HNX:Hid (frmV s.tab ch s.p.outs k=0→∀j,j<k+1→frmV s.tab ch s.p.outs j=0):=zhd fun h0 j hj=>by
   by_cases e:j=k
   ·rw[e];exact h0
   ·exact HJ.out j (by omega)
  obtain ⟨y,hy⟩:=zn (nth ch k);rw[←hy]at cck HF;have HYY:=zhd hy;clear hy;by_cases hA:y< -1∨s.p.outs≤y
  ·have RE:Hid (r=2):=zhd (by
    have e2:frmV s.tab ch s.p.outs k=2:=by rw[HF.out,if_pos hA]
    rw[HFE.out (by rw[e2];decide),e2])
   have HA:=zhd hA;clear hA;by_cases h1:y< -1
   ·have e1:decide (y< -1)=true:=decide_eq_true h1;clear h1;go_wp2;go_ret;exact .mk hb (zr RE.out.symm)
   ·have e1:decide (y< -1)=false:=decide_eq_false h1;have e2:decide (s.p.outs≤y)=true:=decide_eq_true (by have:=HA.out;omega);clear h1;go_wp2;go_ret;exact .mk hb (zr RE.out.symm)
  have e1:decide (y< -1)=false:=decide_eq_false (by omega);have e2:decide (s.p.outs≤y)=false:=decide_eq_false (by omega);have HF2:Hid (frmV s.tab ch s.p.outs k=if 0≤befV s.tab k∧0≤nth ch (befV s.tab k).toNat∧nth ch (befV s.tab k).toNat≠y then 21 else 0):=zhd (by rw[HF.out,if_neg hA]);clear hA HF;go_wp2_with fail;refine (KB.out _ hb k hkT).mono ?_;rintro _ w5 ⟨_,rfl,hb5,rfl⟩;replace R0:=R0.ext hb5;replace R1:=R1.ext hb5;replace hb:=za hb hb5;clear r1 t2 t7 t8 l0 l1 cck hbk hb5;have r1:=R1.zc 0 rfl;have l1:=R1.lt;rcases HBF.out with hbv | ⟨u,hu,hbv⟩
  ·have HX:=zhd (HNX.out (by rw[HF2.out,if_neg (fun h=>by rw[hbv]at h;exact absurd h.1 (by decide))]));rw[hbv];clear hbv HF2 HFE HBF;go_wp2;go_roundw
   case rel=>exact ⟨k+1,by omega,by go_num,hb,R0,R1,HX⟩
   case measure=>simp[intOf];omega
  rw[hbv,Int.toNat_natCast]at HF2;rw[hbv];have hul:u<ch.length:=by omega
  have q2:=H2.out.idx hul;have ccu:=(H2.out.ext hb).cellN hul;have hbu:=World.block_lt_of_cell? _ _ ccu;have cck:=(H2.out.ext hb).cellN hlt;rw[←HYY.out]at cck;have hbk:=World.block_lt_of_cell? _ _ cck;obtain ⟨y2,hy2⟩:∃y,y=nth ch u:=⟨_,rfl⟩;rw[←hy2]at ccu HF2;have d0:decide ((0:Int)≤(u:Int))=true:=decide_eq_true (by omega);clear hbv hy2 HBF;by_cases h2:0≤y2
  case neg=>
   have e3:decide (0≤y2)=false:=decide_eq_false h2;have HX:=zhd (HNX.out (by rw[HF2.out,if_neg (fun h=>h2 h.2.1)]));clear h2;go_wp2;go_roundw
   case rel=>exact ⟨k+1,by omega,by go_num,hb,R0,R1,HX⟩
   case measure=>simp[intOf];omega
  have e3:decide (0≤y2)=true:=decide_eq_true h2;by_cases h3:y2=y
  ·have e4:(y2 !=y)=false:=by simp[h3]
   have HX:=zhd (HNX.out (by rw[HF2.out,if_neg (fun h=>h.2.2 h3)]));clear h2 h3;go_wp2;go_roundw
   case rel=>exact ⟨k+1,by omega,by go_num,hb,R0,R1,HX⟩
   case measure=>simp[intOf];omega
  ·have e4:(y2 !=y)=true:=by simp;omega
   have RE:Hid (r=21):=zhd (by
    have e5:frmV s.tab ch s.p.outs k=21:=by rw[HF2.out,if_pos ⟨by omega,h2,h3⟩]
    rw[HFE.out (by rw[e5];decide),e5])
   clear h2 h3;go_wp2;go_ret;exact .mk hb (zr RE.out.symm)
theorem zcV {S S2:Nat→Prop} {w:World} {v vch:Value} {s:SysF} {N K:Nat} {ch:List Int} (h:SysV S w v s) (hT:TabOK N K s.tab) (h2:Ints S2 w vch ch):
  Calls Tryz.prog 87 #[v,.agg #[vch]] w (Post w fun _ r=>r=.int .i64 (formE s ch)):=by
 have H0:=zhd h;obtain ⟨ca,cc,sa,sc,ta,tc,xa,xc,rfl,hc,hs,ht,hx⟩:=h.zf;obtain ⟨a2,c2,rfl,_⟩:=h2.form;have hm2:=h2.len;unfold maxLen at hm2;have H2:=zhd h2;have HTT:=zhd hT;have KB:Hid (∀W,Below w.heap.size w W→∀u,u<s.tab.length→Calls Tryz.prog 120 #[.agg #[s.tn,.slice ta s.tab.length tc],u] W (Post W fun _ r=>r=.int .i64 (befV s.tab u))):=zhd fun W hW u hu=>zay _ (ht.ext hW) hT hu;obtain ⟨ex,R0,R1⟩:=zb2 w [s.p.n,s.p.ins,s.p.outs,.slice ca s.p.cs.length cc,s.p.an,.slice sa s.p.st.length sc,s.p.rounds,s.tn,.slice ta s.tab.length tc,.slice xa s.ex.length xc] [.slice a2 ch.length c2] 35 38;have t8:=R0.zc 8 rfl;have r1:=R1.zc 0 rfl;have l0:=R0.lt;have l1:=R1.lt;clear hc hs ht hx h2 hT;by_cases hlen:ch.length=s.tab.length
 case neg=>
  have RE:Hid (formE s ch=15):=zhd (by unfold formE;rw[if_neg hlen]);have d1:((ch.length:Int) !=(s.tab.length:Int))=true:=by rw[bne_iff_ne];omega
  clear hlen;go_enter Tryz.func87,Tryz.ntmps87;go_wp2;go_ret;exact .mk ex (zr RE.out.symm)
 have d1:((ch.length:Int) !=(s.tab.length:Int))=false:=by rw[hlen];simp
 have HLEN:=zhd hlen;obtain ⟨r,hr⟩:=zn (formE s ch);rw[←hr];have HR:Hid (r=firstE (frmV s.tab ch s.p.outs) ch.length):=zhd (by rw[hr];unfold formE;rw[if_pos hlen]);clear hlen hr;go_enter Tryz.func87,Tryz.ntmps87;go_wp2;clear t8 r1 l0 l1 d1;go_loopw [5,6] (fun i _ wr=>∃k:Nat,k≤ch.length∧i=.int .i64 k∧Below w.heap.size w wr∧Row wr w.heap.size 35 [s.p.n,s.p.ins,s.p.outs,.slice ca s.p.cs.length cc,s.p.an,.slice sa s.p.st.length sc,s.p.rounds,s.tn,.slice ta s.tab.length tc,.slice xa s.ex.length xc]∧Row wr (w.heap.size+1) 38 [.slice a2 ch.length c2]∧Hid (∀j,j<k→frmV s.tab ch s.p.outs j=0)) (fun i _ _=>ch.length - (intOf i).toNat)
 case atStart=>exact ⟨0,Nat.zero_le _,rfl,ex,R0,R1,zhd fun j hj=>by omega⟩
 case round=>
  clear ex R0 R1;obtain ⟨k,hk,rfl,hb,R0,R1,HJ⟩:=hrel;have r1:=R1.zc 0 rfl;have t2:=R0.zc 2 rfl;have t7:=R0.zc 7 rfl;have t8:=R0.zc 8 rfl;have l0:=R0.lt;have l1:=R1.lt;by_cases hlt:k<ch.length
  case neg=>
   have RE:Hid (r=0):=zhd (by rw[HR.out];exact yG fun j hj=>HJ.out j (by omega));go_wp2;go_ret;exact .mk hb (zr RE.out.symm)
  have q1:=H2.out.idx hlt;have cck:=(H2.out.ext hb).cellN hlt;have hbk:=World.block_lt_of_cell? _ _ cck;have hkT:k<s.tab.length:=by have:=HLEN.out;omega
  have HBF:=zhd (HTT.out.bef hkT);have HF:Hid (frmV s.tab ch s.p.outs k=if nth ch k< -1∨s.p.outs≤nth ch k then 2 else if 0≤befV s.tab k∧0≤nth ch (befV s.tab k).toNat∧nth ch (befV s.tab k).toNat≠nth ch k then 21 else 0):=zhd rfl;have HFE:Hid (frmV s.tab ch s.p.outs k≠0→r=frmV s.tab ch s.p.outs k):=zhd fun h0=>by rw[HR.out];exact Z8 HJ.out h0 hlt
  have HNX:Hid (frmV s.tab ch s.p.outs k=0→∀j,j<k+1→frmV s.tab ch s.p.outs j=0):=zhd fun h0 j hj=>by
   by_cases e:j=k
   ·rw[e];exact h0
   ·exact HJ.out j (by omega)
  obtain ⟨y,hy⟩:=zn (nth ch k);rw[←hy]at cck HF;have HYY:=zhd hy;clear hy;by_cases hA:y< -1∨s.p.outs≤y
  ·have RE:Hid (r=2):=zhd (by
    have e2:frmV s.tab ch s.p.outs k=2:=by rw[HF.out,if_pos hA]
    rw[HFE.out (by rw[e2];decide),e2])
   have HA:=zhd hA;clear hA;by_cases h1:y< -1
   ·have e1:decide (y< -1)=true:=decide_eq_true h1;clear h1;go_wp2;go_quiet (fail);go_wp2;go_ret;exact .mk (za hb (zb _ _ _)) (zr RE.out.symm)
   ·have e1:decide (y< -1)=false:=decide_eq_false h1;have e2:decide (s.p.outs≤y)=true:=decide_eq_true (by have:=HA.out;omega);clear h1;go_wp2;go_quiet (fail);go_wp2;go_ret;exact .mk (za hb (zb _ _ _)) (zr RE.out.symm)
  have e1:decide (y< -1)=false:=decide_eq_false (by omega);have e2:decide (s.p.outs≤y)=false:=decide_eq_false (by omega);have HF2:Hid (frmV s.tab ch s.p.outs k=if 0≤befV s.tab k∧0≤nth ch (befV s.tab k).toNat∧nth ch (befV s.tab k).toNat≠y then 21 else 0):=zhd (by rw[HF.out,if_neg hA]);clear hA HF;go_wp2;go_quiet (fail);refine zU fun w4 hq4=>?_;replace R0:=R0.ext hq4.ext;replace R1:=R1.ext hq4.ext;replace hb:=za hb hq4.ext;clear r1 t2 t7 t8 l0 l1 cck hbk;have r1:=R1.zc 0 rfl;have t2:=R0.zc 2 rfl;have t7:=R0.zc 7 rfl;have t8:=R0.zc 8 rfl;have l0:=R0.lt;have l1:=R1.lt;have cck:=(H2.out.ext hb).cellN hlt;rw[←HYY.out]at cck;have hbk:=World.block_lt_of_cell? _ _ cck;go_wp2_with fail;refine (KB.out _ hb k hkT).mono ?_;rintro _ w5 ⟨_,rfl,hb5,rfl⟩;replace R0:=R0.ext hb5;replace R1:=R1.ext hb5;replace hb:=za hb hb5;clear r1 t2 t7 t8 l0 l1 cck hbk hb5;have r1:=R1.zc 0 rfl;have l1:=R1.lt;rcases HBF.out with hbv | ⟨u,hu,hbv⟩
  ·have HX:=zhd (HNX.out (by rw[HF2.out,if_neg (fun h=>by rw[hbv]at h;exact absurd h.1 (by decide))]));rw[hbv];clear hbv HF2 HFE HBF;go_wp2;go_quiet (fail);refine zU fun w6 hq4=>?_;replace R0:=R0.ext hq4.ext;replace R1:=R1.ext hq4.ext;replace hb:=za hb hq4.ext;go_wp2;go_roundw
   case rel=>exact ⟨k+1,by omega,by go_num,hb,R0,R1,HX⟩
   case measure=>simp[intOf];omega
  rw[hbv,Int.toNat_natCast]at HF2;rw[hbv];have hul:u<ch.length:=by omega
  have q2:=H2.out.idx hul;have ccu:=(H2.out.ext hb).cellN hul;have hbu:=World.block_lt_of_cell? _ _ ccu;have cck:=(H2.out.ext hb).cellN hlt;rw[←HYY.out]at cck;have hbk:=World.block_lt_of_cell? _ _ cck;obtain ⟨y2,hy2⟩:∃y,y=nth ch u:=⟨_,rfl⟩;rw[←hy2]at ccu HF2;have d0:decide ((0:Int)≤(u:Int))=true:=decide_eq_true (by omega);clear hbv hy2 HBF;by_cases h2:0≤y2
  case neg=>
   have e3:decide (0≤y2)=false:=decide_eq_false h2;have HX:=zhd (HNX.out (by rw[HF2.out,if_neg (fun h=>h2 h.2.1)]));clear h2;go_wp2;go_quiet (fail);refine zU fun w6 hq4=>?_;replace R0:=R0.ext hq4.ext;replace R1:=R1.ext hq4.ext;replace hb:=za hb hq4.ext;go_wp2;go_roundw
   case rel=>exact ⟨k+1,by omega,by go_num,hb,R0,R1,HX⟩
   case measure=>simp[intOf];omega
  have e3:decide (0≤y2)=true:=decide_eq_true h2;by_cases h3:y2=y
  ·have e4:(y !=y2)=false:=by simp[h3]
   have HX:=zhd (HNX.out (by rw[HF2.out,if_neg (fun h=>h.2.2 h3)]));clear h2 h3;go_wp2;go_quiet (fail);refine zU fun w6 hq4=>?_;replace R0:=R0.ext hq4.ext;replace R1:=R1.ext hq4.ext;replace hb:=za hb hq4.ext;go_wp2;go_roundw
   case rel=>exact ⟨k+1,by omega,by go_num,hb,R0,R1,HX⟩
   case measure=>simp[intOf];omega
  ·have e4:(y !=y2)=true:=by simp;omega
   have RE:Hid (r=21):=zhd (by
    have e5:frmV s.tab ch s.p.outs k=21:=by rw[HF2.out,if_pos ⟨by omega,h2,h3⟩]
    rw[HFE.out (by rw[e5];decide),e5])
   clear h2 h3;go_wp2;go_quiet (fail);go_wp2;go_ret;exact .mk (za hb (zb _ _ _)) (zr RE.out.symm)
def ruleE (s:SysF) (ch:List Int):Int:=if verE s=0 then formE s ch else verE s
theorem zbt {S S2:Nat→Prop} {w:World} {v vch:Value} {s:SysF} {ch:List Int} (h:SysV S w v s) (hf:PFew s.p) (h2:Ints S2 w vch ch):
  Calls Tryz.prog 83 #[v,.agg #[vch]] w (Post w fun _ r=>r=.int .i64 (ruleE s ch)):=by
 have KV:Hid (∀W,Below w.heap.size w W→Calls Tryz.prog 117 #[v] W (Post W fun _ r=>r=.int .i64 (verE s))):=zhd fun W hW=>zaP (h.ext hW) hf;have KO:Hid (verE s=0→∀W,Below w.heap.size w W→Calls Tryz.prog 118 #[v,.agg #[vch]] W (Post W fun _ r=>r=.int .i64 (formE s ch))):=zhd fun h0 W hW=>zde (h.ext hW) (qG h0 (by obtain ⟨_,_,_,_,_,_,hs,_⟩:=h;exact xU hs)).tab (h2.ext hW);obtain ⟨ca,cc,sa,sc,ta,tc,xa,xc,rfl,hc,hs,ht,hx⟩:=h.zf;obtain ⟨a2,c2,rfl,_⟩:=h2.form;obtain ⟨ex,R0,R1⟩:=zb2 w [s.p.n,s.p.ins,s.p.outs,.slice ca s.p.cs.length cc,s.p.an,.slice sa s.p.st.length sc,s.p.rounds,s.tn,.slice ta s.tab.length tc,.slice xa s.ex.length xc] [.slice a2 ch.length c2] 35 38;have HR:Hid ((verE s=0→ruleE s ch=formE s ch)∧(verE s≠0→ruleE s ch=verE s)):=zhd ⟨fun h=>by unfold ruleE;rw[if_pos h],fun h=>by unfold ruleE;rw[if_neg h]⟩;obtain ⟨ve,hve⟩:∃e,e=verE s:=⟨_,rfl⟩;rw[←hve]at KV KO HR;obtain ⟨t0,t1,t2,t3,t4,t5,t6,t7,t8,t9⟩:=R0.ten;have l0:=R0.lt;clear hc hs ht hx h2 hve hf;go_enter Tryz.func83,Tryz.ntmps83;go_wp2_with fail;refine (KV.out _ ex).mono ?_;rintro _ w1 ⟨_,rfl,hb1,rfl⟩;replace R0:=R0.ext hb1;replace R1:=R1.ext hb1;replace ex:=za ex hb1;clear t0 t1 t2 t3 t4 t5 t6 t7 t8 t9 l0 hb1 KV;by_cases hv0:ve=0
 case neg=>
  have RE:=zhd (HR.out.2 hv0);have d0:(ve !=0)=true:=by simp[hv0]
  clear hv0;go_wp2;go_ret;exact .mk ex (zr RE.out.symm)
 have RE:=zhd (HR.out.1 hv0);have d0:(ve !=0)=false:=by simp[hv0]
 replace KO:=zhd (KO.out hv0);obtain ⟨t0,t1,t2,t3,t4,t5,t6,t7,t8,t9⟩:=R0.ten;have l0:=R0.lt;have r1:=R1.zc 0 rfl;have l1:=R1.lt;clear hv0;go_wp2_with fail;refine (KO.out _ ex).mono ?_;rintro _ w2 ⟨_,rfl,hb2,rfl⟩;replace ex:=za ex hb2;clear t0 t1 t2 t3 t4 t5 t6 t7 t8 t9 l0 r1 l1 hb2 KO;go_wp2;go_ret;exact .mk ex (zr RE.out.symm)
theorem YY {S S2:Nat→Prop} {w:World} {v vch:Value} {s:SysF} {ch:List Int} (h:SysV S w v s) (hf:SmallP s.p) (h2:Ints S2 w vch ch):
  Calls Tryz.prog 50 #[v,.agg #[vch]] w (Post w fun _ r=>r=.int .i64 (ruleE s ch)):=by
 have KV:Hid (∀W,Below w.heap.size w W→Calls Tryz.prog 86 #[v] W (Post W fun _ r=>r=.int .i64 (verE s))):=zhd fun W hW=>zaX (h.ext hW) hf;have KO:Hid (verE s=0→∀W,Below w.heap.size w W→Calls Tryz.prog 87 #[v,.agg #[vch]] W (Post W fun _ r=>r=.int .i64 (formE s ch))):=zhd fun h0 W hW=>zcV (h.ext hW) (qG h0 (by obtain ⟨_,_,_,_,_,_,hs,_⟩:=h;exact xU hs)).tab (h2.ext hW);obtain ⟨ca,cc,sa,sc,ta,tc,xa,xc,rfl,hc,hs,ht,hx⟩:=h.zf;obtain ⟨a2,c2,rfl,_⟩:=h2.form;obtain ⟨ex,R0,R1⟩:=zb2 w [s.p.n,s.p.ins,s.p.outs,.slice ca s.p.cs.length cc,s.p.an,.slice sa s.p.st.length sc,s.p.rounds,s.tn,.slice ta s.tab.length tc,.slice xa s.ex.length xc] [.slice a2 ch.length c2] 35 38;have HR:Hid ((verE s=0→ruleE s ch=formE s ch)∧(verE s≠0→ruleE s ch=verE s)):=zhd ⟨fun h=>by unfold ruleE;rw[if_pos h],fun h=>by unfold ruleE;rw[if_neg h]⟩;obtain ⟨ve,hve⟩:∃e,e=verE s:=⟨_,rfl⟩;rw[←hve]at KV KO HR;obtain ⟨t0,t1,t2,t3,t4,t5,t6,t7,t8,t9⟩:=R0.ten;have l0:=R0.lt;clear hc hs ht hx h2 hve hf;go_enter Tryz.func50,Tryz.ntmps50;go_wp2_with fail;refine (KV.out _ ex).mono ?_;rintro _ w1 ⟨_,rfl,hb1,rfl⟩;replace R0:=R0.ext hb1;replace R1:=R1.ext hb1;replace ex:=za ex hb1;clear t0 t1 t2 t3 t4 t5 t6 t7 t8 t9 l0 hb1 KV;by_cases hv0:ve=0
 case neg=>
  have RE:=zhd (HR.out.2 hv0);have d0:(ve !=0)=true:=by simp[hv0]
  clear hv0;go_wp2;go_ret;exact .mk ex (zr RE.out.symm)
 have RE:=zhd (HR.out.1 hv0);have d0:(ve !=0)=false:=by simp[hv0]
 replace KO:=zhd (KO.out hv0);obtain ⟨t0,t1,t2,t3,t4,t5,t6,t7,t8,t9⟩:=R0.ten;have l0:=R0.lt;have r1:=R1.zc 0 rfl;have l1:=R1.lt;clear hv0;go_wp2_with fail;refine (KO.out _ ex).mono ?_;rintro _ w2 ⟨_,rfl,hb2,rfl⟩;replace ex:=za ex hb2;clear t0 t1 t2 t3 t4 t5 t6 t7 t8 t9 l0 r1 l1 hb2 KO;go_wp2;go_ret;exact .mk ex (zr RE.out.symm)
theorem SysV.moves8 {S:Nat→Prop} {w:World} {v:Value} {s:SysF} (h:SysV S w v s):Moves8 s.p.st:=by obtain ⟨_,_,_,_,_,_,hs,_⟩:=h;exact xU hs
theorem ZY {s:SysF} {ch:List Int} (h:ruleE s ch=0):verE s=0∧ch.length=s.tab.length∧formE s ch=0:=by
 unfold ruleE at h;split at h
 ·rename_i h0;refine ⟨h0,?_,h⟩;unfold formE at h;split at h
  ·assumption
  ·omega
 ·rename_i h0;exact absurd h h0
def minT (f:Nat→Bool):Nat→Nat→Int
 | _,0=> -1
 | k,n+1=>if f k then k else minT f (k+1) n
end Go.Proofs.YtiabbjolepnjkaaGreat
namespace Go.Proofs.YtiabbjolepnjkaaGreat
theorem zel {l:List Int} {k i:Nat} {x:Int} (hk:k<l.length):nth (l.set k x) i=if i=k then x else nth l i:=by
 unfold nth;rw[List.getD_eq_getElem?_getD,List.getD_eq_getElem?_getD,List.getElem?_set];by_cases e:k=i
 ·subst e;rw[if_pos rfl,if_pos hk,if_pos rfl];rfl
 ·rw[if_neg e,if_neg (fun h=>e h.symm)]
theorem minF (f:Nat→Bool):∀(n k:Nat),(minT f k n= -1∧∀i,k≤i→i<k+n→f i=false)∨∃t:Nat,minT f k n=t∧k≤t∧t<k+n∧f t=true∧∀i,k≤i→i<t→f i=false
 | 0,k=>.inl ⟨rfl,fun i h1 h2=>by omega⟩
 | n+1,k=>by
  rw[show minT f k (n+1)=if f k then (k:Int) else minT f (k+1) n from rfl];cases h:f k with
  | true=>rw[if_pos rfl];exact .inr ⟨k,rfl,Nat.le_refl _,by omega,h,fun i h1 h2=>by omega⟩
  | false=>
   rw[if_neg (by simp)];rcases minF f n (k+1) with ⟨h1,h2⟩ | ⟨t,h1,h2,h3,h4,h5⟩
   ·refine .inl ⟨h1,fun i h3 h4=>?_⟩;by_cases e1:i=k
    ·subst e1;exact h
    ·exact h2 i (by omega) (by omega)
   ·refine .inr ⟨t,h1,by omega,by omega,h4,fun i h6 h7=>?_⟩;by_cases e1:i=k
    ·subst e1;exact h
    ·exact h5 i (by omega) (by omega)
def prcT (T:List (List Int)) (v:Nat):Nat:=(nth (nthL T v) 0).toNat
theorem TabV.prc {N K:Nat} {T:List (List Int)} {v q k:Nat} (h:TabV N K T v q k):prcT T v=q:=by unfold prcT;rw[h.q0];exact Int.toNat_natCast q
def hrsB (T:List (List Int)) (u w:Nat):Bool:=decide (nth (nthL T u) (3+prcT T w)=(w:Int))
theorem xX {T:List (List Int)} {u w:Nat}:hrsB T u w=true↔nth (nthL T u) (3+prcT T w)=(w:Int):=by unfold hrsB;exact decide_eq_true_iff
theorem YL {N K:Nat} {T:List (List Int)} (hT:TabOK N K T) {u w:Nat} (hu:u<T.length) (hw:w<T.length) (h:hrsB T u w=true):rndT T u=rndT T w+1:=by
 obtain ⟨q,k,hV⟩:=hT.2 u hu;obtain ⟨p,j,hW⟩:=hT.2 w hw;have hN:=hT.1;have hp:=hW.ql;rw[xX,hW.prc]at h;rcases hV.heard p (by omega) with h1 | ⟨x,h1,h2,h3,h4,h5,h6⟩
 ·omega
 ·have e:x=w:=by omega
  subst e;rw[hV.rnd,hW.rnd];have:=hW.k0;omega
theorem zgw {N K:Nat} {T:List (List Int)} (hT:TabOK N K T) {u w j:Nat} (hu:u<T.length) (hw:w<T.length) (hj:j<5) (h:nth (nthL T u) (3+j)=(w:Int)):prcT T w=j:=by
 obtain ⟨q,k,hV⟩:=hT.2 u hu;rcases hV.heard j hj with h1 | ⟨x,h1,h2,h3,h4,h5,h6⟩
 ·omega
 ·have e:x=w:=by omega
  subst e;unfold prcT;rw[h4];exact Int.toNat_natCast j
def indV (T:List (List Int)) (x:List Int):Int:=if x∈T then (idxV T x:Int) else -1
theorem Qz {T:List (List Int)} {x:List Int}:(indV T x= -1∧x∉T)∨∃y:Nat,indV T x=y∧y<T.length∧nthL T y=x:=by
 unfold indV;by_cases h:x∈T
 ·rw[if_pos h];exact .inr ⟨_,rfl,Zh.2 h,Zf h⟩
 ·rw[if_neg h];exact .inl ⟨rfl,h⟩
theorem Zw {T:List (List Int)} (h:T.Nodup) {i j:Nat} (hi:i<T.length) (hj:j<T.length) (e:nthL T i=nthL T j):i=j:=by
 rw[ya hi,ya hj]at e;have hp:=List.pairwise_iff_getElem.1 h;rcases Nat.lt_trichotomy i j with h1 | h1 | h1
 ·exact absurd e (hp i j hi hj h1)
 ·exact h1
 ·exact absurd e.symm (hp j i hj hi h1)
theorem zfZ {T:List (List Int)} (h:T.Nodup) {u:Nat} (hu:u<T.length):indV T (nthL T u)=u:=by
 rcases Qz (T:=T) (x:=nthL T u) with ⟨_,h1⟩ | ⟨y,h1,h2,h3⟩
 ·exact absurd (yh hu) h1
 ·rw[h1,Zw h h2 hu h3]
def repT (T:List (List Int)) (u w:Nat) (b:Int):Int:=indV T ((nthL T u).set (3+prcT T w) b)
theorem Qo {T:List (List Int)} (hn:T.Nodup) {u w:Nat} (hu:u<T.length) (h:hrsB T u w=true):repT T u w w=u:=by
 unfold repT;rw[xX]at h;have:(nthL T u).set (3+prcT T w) (w:Int)=nthL T u:=by
  apply List.ext_getElem?;intro i;rw[List.getElem?_set];by_cases e:3+prcT T w=i
  ·subst e;rw[if_pos rfl];by_cases hl:3+prcT T w<(nthL T u).length
   ·rw[if_pos hl,List.getElem?_eq_getElem hl,←yM hl,h]
   ·rw[if_neg hl,List.getElem?_eq_none (by omega)]
  ·rw[if_neg e]
 rw[this];exact zfZ hn hu
theorem ZR {T:List (List Int)} {u w:Nat} {b:Int}: -1≤repT T u w b∧repT T u w b<T.length:=by
 unfold repT;rcases Qz (T:=T) (x:=(nthL T u).set (3+prcT T w) b) with ⟨h,_⟩ | ⟨y,h,h1,_⟩<;>omega
theorem zap {N K:Nat} {T:List (List Int)} (hT:TabOK N K T) {u v w y:Nat} {b:Int} (hu:u<T.length) (hv:v<T.length) (hp:prcT T v=prcT T w) (h:hrsB T u v=true) (hy:repT T u v w=(y:Int)):
  y<T.length∧hrsB T y w=true∧repT T y w b=repT T u v b:=by
 unfold repT at hy;rcases Qz (T:=T) (x:=(nthL T u).set (3+prcT T v) (w:Int)) with ⟨h1,_⟩ | ⟨z,h1,h2,h3⟩
 ·omega
 ·obtain rfl:z=y:=by omega
  obtain ⟨q,k,hV⟩:=hT.2 u hu;obtain ⟨p,j,hW⟩:=hT.2 v hv;have hN:=hT.1;have hpl:=hW.ql;have hlen:3+prcT T v<(nthL T u).length:=by rw[hV.len,hW.prc];omega
  refine ⟨h2,?_,?_⟩
  ·rw[xX,h3,←hp];have:=zel (l:=nthL T u) (k:=3+prcT T v) (i:=3+prcT T v) (x:=(w:Int)) hlen;rw[this,if_pos rfl]
  ·unfold repT;rw[h3,←hp,List.set_set]
def folB (T:List (List Int)) (lab:Nat→Int) (v w:Nat):Bool:=(List.range T.length).all fun u=> !hrsB T u v||(decide (0≤repT T u v w)&&decide (lab (repT T u v w).toNat=lab u))
theorem yH {T:List (List Int)} {lab:Nat→Int} {v w:Nat}:folB T lab v w=true↔∀u,u<T.length→hrsB T u v=true→0≤repT T u v w∧lab (repT T u v w).toNat=lab u:=by
 unfold folB;simp only[List.all_eq_true,List.mem_range,Bool.or_eq_true,Bool.not_eq_true',Bool.and_eq_true,decide_eq_true_iff];constructor
 ·intro h u hu h1;rcases h u hu with h2 | h2
  ·rw[h1]at h2;cases h2
  ·exact h2
 ·intro h u hu;cases h1:hrsB T u v with
  | false=>exact .inl rfl
  | true=>exact .inr (h u hu h1)
theorem zdY {T:List (List Int)} (hn:T.Nodup) (lab:Nat→Int) (v:Nat):folB T lab v v=true:=yH.2 fun u hu h=>by
 rw[Qo hn hu h];exact ⟨by omega,by rw[Int.toNat_natCast]⟩
theorem zcc {N K:Nat} {T:List (List Int)} (hT:TabOK N K T) {lab:Nat→Int} {v w x:Nat} (hv:v<T.length) (hp:prcT T v=prcT T w) (h:folB T lab v w=true) (h':folB T lab w x=true):folB T lab v x=true:=yH.2 fun u hu hh=>by
 obtain ⟨h1,h2⟩:=yH.1 h u hu hh;obtain ⟨y,hy⟩:∃y:Nat,repT T u v w=y:=⟨(repT T u v w).toNat,by omega⟩;obtain ⟨h3,h4,h5⟩:=zap (b:=(x:Int)) hT hu hv hp hh hy;obtain ⟨h6,h7⟩:=yH.1 h' y h3 h4;rw[hy,Int.toNat_natCast]at h2;rw[h5]at h6 h7;exact ⟨h6,by rw[h7,h2]⟩
def samB (T:List (List Int)) (ch:List Int) (lab:Nat→Int) (v w:Nat):Bool:=(decide (prcT T v=prcT T w)&&decide (rndT T v=rndT T w))&&(decide (nth ch v=nth ch w)&&(folB T lab v w&&folB T lab w v))
theorem yn {T:List (List Int)} {ch:List Int} {lab:Nat→Int} {v w:Nat}:samB T ch lab v w=true↔prcT T v=prcT T w∧rndT T v=rndT T w∧nth ch v=nth ch w∧folB T lab v w=true∧folB T lab w v=true:=by
 unfold samB;simp only[Bool.and_eq_true,decide_eq_true_iff];constructor
 ·rintro ⟨⟨a,b⟩,c,d,e⟩;exact ⟨a,b,c,d,e⟩
 ·rintro ⟨a,b,c,d,e⟩;exact ⟨⟨a,b⟩,c,d,e⟩
theorem zaA {T:List (List Int)} (hn:T.Nodup) (ch:List Int) (lab:Nat→Int) (v:Nat):samB T ch lab v v=true:=yn.2 ⟨rfl,rfl,rfl,zdY hn _ _,zdY hn _ _⟩
theorem zao {T:List (List Int)} {ch:List Int} {lab:Nat→Int} {v w:Nat} (h:samB T ch lab v w=true):samB T ch lab w v=true:=by
 obtain ⟨a,b,c,d,e⟩:=yn.1 h;exact yn.2 ⟨a.symm,b.symm,c.symm,e,d⟩
theorem Ys {N K:Nat} {T:List (List Int)} (hT:TabOK N K T) {ch:List Int} {lab:Nat→Int} {v w x:Nat} (hv:v<T.length) (hx:x<T.length) (h:samB T ch lab v w=true) (h':samB T ch lab w x=true):samB T ch lab v x=true:=by
 obtain ⟨a,b,c,d,e⟩:=yn.1 h;obtain ⟨a',b',c',d',e'⟩:=yn.1 h';exact yn.2 ⟨a.trans a',b.trans b',c.trans c',zcc hT hv a d d',zcc hT hx a'.symm e' e⟩
theorem Xm {N K:Nat} {T:List (List Int)} (hT:TabOK N K T) {lab lab':Nat→Int} {v w:Nat} (hv:v<T.length) (hw:w<T.length) (hp:prcT T v=prcT T w) (h:∀u,u<T.length→rndT T u=rndT T v+1→lab u=lab' u) (hr:rndT T v=rndT T w):folB T lab v w=folB T lab' v w:=by
 have key:∀{l l':Nat→Int},(∀u,u<T.length→rndT T u=rndT T v+1→l u=l' u)→folB T l v w=true→folB T l' v w=true:=fun hl hh=>yH.2 fun u hu h1=>by
  obtain ⟨h2,h3⟩:=yH.1 hh u hu h1;obtain ⟨y,hy⟩:∃y:Nat,repT T u v w=y:=⟨(repT T u v w).toNat,by omega⟩;obtain ⟨h4,h5,_⟩:=zap (b:=0) hT hu hv hp h1 hy;rw[hy,Int.toNat_natCast]at h3 ⊢;have e1:=hl u hu (YL hT hu hv h1);have e2:=hl y h4 (by rw[YL hT h4 hw h5,hr]);exact ⟨by omega,by rw[←e1,←e2];exact h3⟩
 rw[Bool.eq_iff_iff];exact ⟨key h,key fun u hu h1=>(h u hu h1).symm⟩
end Go.Proofs.YtiabbjolepnjkaaGreat
