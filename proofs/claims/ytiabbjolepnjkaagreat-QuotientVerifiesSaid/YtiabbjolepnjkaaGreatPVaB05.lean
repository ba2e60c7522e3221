/- Part of the proof that the laws answer true for every input. -/
import Derived.Test.YtiabbjolepnjkaaGreatPVaA26
import Derived.Test.YtiabbjolepnjkaaGreatPVaB04
set_option linter.unusedSimpArgs false
set_option linter.unnecessarySimpa false
set_option linter.unusedVariables false
set_option maxRecDepth 100000
set_option maxHeartbeats 40000000
namespace Go.Proofs.YtiabbjolepnjkaaGreat
open Go.RowKit
attribute [local go_sem ↓] Go.wp_at_zero Go.wp_at_succ
theorem zbd {S S2 S3:Nat→Prop} {w:World} {v vch vcl:Value} {s:SysF} {ch cl:List Int} (h:SysV S w v s) (hg:GoodS s s.N s.K) (h2:Ints S2 w vch ch) (h3:Ints S3 w vcl cl) (hl:ch.length=s.tab.length) (hm:s.tab.length≤60000):
  Calls Tryz.prog 51 #[v,.agg #[vch],vcl] w (Post w fun _ r=>r=.int .i64 (chkQ s ch cl)):=by
 have KC:Hid (∀W,Below w.heap.size w W→Calls Tryz.prog 81 #[vcl] W (Post W fun _ r=>r=.int .i64 (checkS cl))):=zhd fun W hW=>Qe (h3.ext hW);have KF:Hid (cl.length=s.tab.length→∀W,Below w.heap.size w W→Calls Tryz.prog 88 #[v,.agg #[vch],vcl] W (Post W fun _ r=>r=.bool (fitB s.tab ch cl))):=zhd fun hl3 W hW=>zbt (h.ext hW) hg (h2.ext hW) (h3.ext hW) hl hl3 hm;have HQ:Hid (chkQ s ch cl=if checkS cl=0 then (if cl.length=s.tab.length then (if fitB s.tab ch cl then 0 else 18) else 15) else checkS cl):=zhd rfl;obtain ⟨r,hr⟩:=zn (chkQ s ch cl);rw[←hr]at HQ ⊢;obtain ⟨e,hee⟩:=zn (checkS cl);rw[←hee]at KC HQ;obtain ⟨b,hb⟩:=zn (fitB s.tab ch cl);rw[←hb]at KF HQ;obtain ⟨ca,cc,sa,sc,ta,tc,xa,xc,rfl,hc,hs,ht,hx⟩:=h.zf;obtain ⟨a2,c2,rfl,_⟩:=h2.form;obtain ⟨a3,c3,rfl,_⟩:=h3.form;obtain ⟨ex,R0,R1⟩:=zb2 w [s.p.n,s.p.ins,s.p.outs,.slice ca s.p.cs.length cc,s.p.an,.slice sa s.p.st.length sc,s.p.rounds,s.tn,.slice ta s.tab.length tc,.slice xa s.ex.length xc] [.slice a2 ch.length c2] 35 38;obtain ⟨n,hn⟩:=zn s.tab.length;rw[←hn]at KF HQ ex R0 R1;obtain ⟨m,hmm⟩:=zn cl.length;rw[←hmm]at KF HQ KC;clear hc hs ht hx h2 h3 hee hr hb hl hm hg;go_enter Tryz.func51,Tryz.ntmps51;rw[←hn,←hmm];clear hn hmm;obtain ⟨t0,t1,t2,t3,t4,t5,t6,t7,t8,t9⟩:=R0.ten;have l0:=R0.lt;have r0:=R1.zc 0 rfl;have l1:=R1.lt;go_wp2_with fail;refine (KC.out _ ex).mono ?_;rintro _ w1 ⟨_,rfl,hb,rfl⟩;replace R0:=R0.ext hb;replace R1:=R1.ext hb;replace ex:=za ex hb;clear hb KC t0 t1 t2 t3 t4 t5 t6 t7 t8 t9 l0 r0 l1;by_cases h0:e=0
 case neg=>
  have RE:=zhd (HQ.out.trans (if_neg h0));have d0:(e !=0)=true:=by simp[h0]
  clear h0 HQ;go_wp2;go_ret;exact .mk ex (zj RE.out.symm)
 have HQ1:=zhd (HQ.out.trans (if_pos h0));have d0:(e !=0)=false:=by simp[h0]
 obtain ⟨t0,t1,t2,t3,t4,t5,t6,t7,t8,t9⟩:=R0.ten;have l0:=R0.lt;have r0:=R1.zc 0 rfl;have l1:=R1.lt;by_cases h1:m=n
 case neg=>
  have RE:=zhd (HQ1.out.trans (if_neg h1));have d1:((m:Int) !=(n:Int))=true:=by rw[bne_iff_ne];omega
  clear h0 h1 HQ HQ1;go_wp2;go_ret;exact .mk ex (zj RE.out.symm)
 have HQ2:=zhd (HQ1.out.trans (if_pos h1));have KF1:=zhd (KF.out h1);have d1:((m:Int) !=(n:Int))=false:=by rw[h1];simp
 clear h0 h1 HQ HQ1 KF;go_wp2_with fail;refine (KF1.out _ ex).mono ?_;rintro _ w2 ⟨_,rfl,hb2,rfl⟩;replace ex:=za ex hb2;clear hb2 KF1 t0 t1 t2 t3 t4 t5 t6 t7 t8 t9 l0 r0 l1;cases b with
 | false=>
  have RE:Hid (r=18):=zhd (by rw[HQ2.out];rfl);go_wp2;go_ret;exact .mk ex (zj RE.out.symm)
 | true=>
  have RE:Hid (r=0):=zhd (by rw[HQ2.out];rfl);go_wp2;go_ret;exact .mk ex (zj RE.out.symm)
theorem zbI {S S2 S3:Nat→Prop} {w:World} {v vch vcl:Value} {s:SysF} {ch cl:List Int} (h:SysV S w v s) (hf:SmallP s.p) (h2:Ints S2 w vch ch) (h3:Ints S3 w vcl cl) (hm:s.tab.length≤60000):
  Calls Tryz.prog 19 #[v,.agg #[vch],vcl] w (Post w fun _ r=>r=.int .i64 (verQ s ch cl)):=by
 have KC:Hid (∀W,Below w.heap.size w W→Calls Tryz.prog 50 #[v,.agg #[vch]] W (Post W fun _ r=>r=.int .i64 (ruleE s ch))):=zhd fun W hW=>Z4 (h.ext hW) hf (h2.ext hW);have KF:Hid (ruleE s ch=0→∀W,Below w.heap.size w W→Calls Tryz.prog 51 #[v,.agg #[vch],vcl] W (Post W fun _ r=>r=.int .i64 (chkQ s ch cl))):=zhd fun h0 W hW=>zbd (h.ext hW) (yc h h0).1 (h2.ext hW) (h3.ext hW) (yc h h0).2 hm;have HQ:Hid (verQ s ch cl=if ruleE s ch=0 then chkQ s ch cl else ruleE s ch):=zhd rfl;obtain ⟨r,hr⟩:=zn (verQ s ch cl);rw[←hr]at HQ ⊢;obtain ⟨e,hee⟩:=zn (ruleE s ch);rw[←hee]at KC KF HQ;obtain ⟨b,hb⟩:=zn (chkQ s ch cl);rw[←hb]at KF HQ;obtain ⟨ca,cc,sa,sc,ta,tc,xa,xc,rfl,hc,hs,ht,hx⟩:=h.zf;obtain ⟨a2,c2,rfl,_⟩:=h2.form;obtain ⟨a3,c3,rfl,_⟩:=h3.form;obtain ⟨ex,R0,R1⟩:=zb2 w [s.p.n,s.p.ins,s.p.outs,.slice ca s.p.cs.length cc,s.p.an,.slice sa s.p.st.length sc,s.p.rounds,s.tn,.slice ta s.tab.length tc,.slice xa s.ex.length xc] [.slice a2 ch.length c2] 35 38;clear hc hs ht hx h2 h3 hee hr hb hm hf;go_enter Tryz.func19,Tryz.ntmps19;obtain ⟨t0,t1,t2,t3,t4,t5,t6,t7,t8,t9⟩:=R0.ten;have l0:=R0.lt;have r0:=R1.zc 0 rfl;have l1:=R1.lt;go_wp2_with fail;refine (KC.out _ ex).mono ?_;rintro _ w1 ⟨_,rfl,hb,rfl⟩;replace R0:=R0.ext hb;replace R1:=R1.ext hb;replace ex:=za ex hb;clear hb KC t0 t1 t2 t3 t4 t5 t6 t7 t8 t9 l0 r0 l1;by_cases h0:e=0
 case neg=>
  have RE:=zhd (HQ.out.trans (if_neg h0));have d0:(e !=0)=true:=by simp[h0]
  clear h0 HQ;go_wp2;go_ret;exact .mk ex (zj RE.out.symm)
 have HQ1:=zhd (HQ.out.trans (if_pos h0));have d0:(e !=0)=false:=by simp[h0]
 have KF1:=zhd (KF.out h0);obtain ⟨t0,t1,t2,t3,t4,t5,t6,t7,t8,t9⟩:=R0.ten;have l0:=R0.lt;have r0:=R1.zc 0 rfl;have l1:=R1.lt;clear h0 HQ KF;go_wp2_with fail;refine (KF1.out _ ex).mono ?_;rintro _ w2 ⟨_,rfl,hb2,rfl⟩;replace ex:=za ex hb2;clear hb2 KF1 t0 t1 t2 t3 t4 t5 t6 t7 t8 t9 l0 r0 l1;go_wp2;go_ret;exact .mk ex (zj HQ1.out.symm)
end Go.Proofs.YtiabbjolepnjkaaGreat
