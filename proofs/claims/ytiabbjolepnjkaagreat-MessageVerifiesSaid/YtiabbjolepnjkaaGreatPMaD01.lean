/- Part of the proof that the laws answer true for every input. -/
import Derived.Test.YtiabbjolepnjkaaGreatPMaA27
set_option linter.unusedSimpArgs false
set_option linter.unnecessarySimpa false
set_option linter.unusedVariables false
set_option maxRecDepth 100000
set_option maxHeartbeats 40000000
namespace Go.Proofs.YtiabbjolepnjkaaGreat
open Go.RowKit
attribute [local go_sem ↓] Go.wp_at_zero Go.wp_at_succ
theorem ZP {S S3:Nat→Prop} {w:World} {v vcl:Value} {s:SysF} {cl:List Int} (r f t:Int) (h:SysV S w v s) (hf:SmallP s.p) (h3:Ints S3 w vcl cl) (hm:s.tab.length≤60000):
  Calls Tryz.prog 65 #[v,vcl,.agg #[r,f,t]] w (Post w fun _ r'=>r'=.int .i64 (plcE s cl r f t)):=by
 have KM:Hid (∀W,Below w.heap.size w W→Calls Tryz.prog 71 #[v,vcl] W (Post W fun _ r=>r=.int .i64 (mesE s cl))):=zhd fun W hW=>Qe (h.ext hW) hf (h3.ext hW) hm;have HQ:Hid (plcE s cl r f t=if mesE s cl=0 then (if r<0∨s.p.rounds≤r then 2 else if f<0∨s.tn≤f∨t<0∨s.tn≤t then 6 else if f=t then 11 else 0) else mesE s cl):=zhd rfl;obtain ⟨q,hq⟩:=zn (plcE s cl r f t);rw[←hq]at HQ ⊢;obtain ⟨e,hee⟩:=zn (mesE s cl);rw[←hee]at KM HQ;obtain ⟨ca,cc,sa,sc,ta,tc,xa,xc,rfl,hc,hs,ht,hx⟩:=h.zf;obtain ⟨a3,c3,rfl,_⟩:=h3.form;clear hc hs ht hx h3 hf hm hq hee;obtain ⟨K,hK⟩:=zn s.p.rounds;obtain ⟨n,hn⟩:=zn s.tn;rw[←hK,←hn]at KM HQ ⊢;clear hK hn;obtain ⟨ex,R0,R1⟩:=zb2 w [s.p.n,s.p.ins,s.p.outs,.slice ca s.p.cs.length cc,s.p.an,.slice sa s.p.st.length sc,K,n,.slice ta s.tab.length tc,.slice xa s.ex.length xc] [r,f,t] 35 72;obtain ⟨t0,t1,t2,t3,t4,t5,t6,t7,t8,t9⟩:=R0.ten;have l0:=R0.lt;have p0:=R1.zc 0 rfl;have p1:=R1.zc 1 rfl;have p2:=R1.zc 2 rfl;have l1:=R1.lt;go_enter Tryz.func65,Tryz.ntmps65;go_wp2_with fail;refine (KM.out _ ex).mono ?_;rintro _ w1 ⟨_,rfl,hb,rfl⟩;replace R0:=R0.ext hb;replace R1:=R1.ext hb;replace ex:=za ex hb;clear hb KM t0 t1 t2 t3 t4 t5 t6 t7 t8 t9 l0 p0 p1 p2 l1;by_cases h0:e=0
 case neg=>
  have RE:=zhd (HQ.out.trans (if_neg h0));have d0:(e !=0)=true:=by simp[h0]
  clear h0 HQ;go_wp2;go_ret;exact .mk ex (zm RE.out.symm)
 have HQ1:=zhd (HQ.out.trans (if_pos h0));have d0:(e !=0)=false:=by simp[h0]
 clear h0 HQ;obtain ⟨t0,t1,t2,t3,t4,t5,t6,t7,t8,t9⟩:=R0.ten;have l0:=R0.lt;have p0:=R1.zc 0 rfl;have p1:=R1.zc 1 rfl;have p2:=R1.zc 2 rfl;have l1:=R1.lt;by_cases c0:r<0
 case pos=>
  have b0:decide (r<0)=true:=decide_eq_true c0;have RE:Hid (q=2):=zhd (by rw[HQ1.out,if_pos (by omega)]);clear HQ1 c0;go_wp2;go_ret;exact .mk ex (zm RE.out.symm)
 have b0:decide (r<0)=false:=decide_eq_false c0;by_cases c1:K≤r
 case pos=>
  have b1:decide (K≤r)=true:=decide_eq_true c1;have RE:Hid (q=2):=zhd (by rw[HQ1.out,if_pos (by omega)]);clear HQ1 c0 c1;go_wp2;go_ret;exact .mk ex (zm RE.out.symm)
 have b1:decide (K≤r)=false:=decide_eq_false c1;by_cases c2:f<0
 case pos=>
  have b2:decide (f<0)=true:=decide_eq_true c2;have RE:Hid (q=6):=zhd (by rw[HQ1.out,if_neg (by omega),if_pos (by omega)]);clear HQ1 c0 c1 c2;go_wp2;go_ret;exact .mk ex (zm RE.out.symm)
 have b2:decide (f<0)=false:=decide_eq_false c2;by_cases c3:n≤f
 case pos=>
  have b3:decide (n≤f)=true:=decide_eq_true c3;have RE:Hid (q=6):=zhd (by rw[HQ1.out,if_neg (by omega),if_pos (by omega)]);clear HQ1 c0 c1 c2 c3;go_wp2;go_ret;exact .mk ex (zm RE.out.symm)
 have b3:decide (n≤f)=false:=decide_eq_false c3;by_cases c4:t<0
 case pos=>
  have b4:decide (t<0)=true:=decide_eq_true c4;have RE:Hid (q=6):=zhd (by rw[HQ1.out,if_neg (by omega),if_pos (by omega)]);clear HQ1 c0 c1 c2 c3 c4;go_wp2;go_ret;exact .mk ex (zm RE.out.symm)
 have b4:decide (t<0)=false:=decide_eq_false c4;by_cases c5:n≤t
 case pos=>
  have b5:decide (n≤t)=true:=decide_eq_true c5;have RE:Hid (q=6):=zhd (by rw[HQ1.out,if_neg (by omega),if_pos (by omega)]);clear HQ1 c0 c1 c2 c3 c4 c5;go_wp2;go_ret;exact .mk ex (zm RE.out.symm)
 have b5:decide (n≤t)=false:=decide_eq_false c5;by_cases c6:f=t
 case pos=>
  have b6:(f==t)=true:=by rw[beq_iff_eq];exact c6
  have RE:Hid (q=11):=zhd (by rw[HQ1.out,if_neg (by omega),if_neg (by omega),if_pos c6]);clear HQ1 c0 c1 c2 c3 c4 c5 c6;go_wp2;go_ret;exact .mk ex (zm RE.out.symm)
 have b6:(f==t)=false:=by rw[beq_eq_false_iff_ne];exact c6
 have RE:Hid (q=0):=zhd (by rw[HQ1.out,if_neg (by omega),if_neg (by omega),if_neg c6]);clear HQ1 c0 c1 c2 c3 c4 c5 c6;go_wp2;go_ret;exact .mk ex (zm RE.out.symm)
end Go.Proofs.YtiabbjolepnjkaaGreat
