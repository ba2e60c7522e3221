/- Part of the proof that the laws answer true for every input. -/
import Derived.Test.YtiabbjolepnjkaaGreatPDfA23
import Derived.Test.YtiabbjolepnjkaaGreatPDfA24
set_option linter.unusedSimpArgs false
set_option linter.unnecessarySimpa false
set_option linter.unusedVariables false
set_option maxRecDepth 100000
set_option maxHeartbeats 40000000
namespace Go.Proofs.YtiabbjolepnjkaaGreat
open Go.RowKit
attribute [local go_sem ↓] Go.wp_at_zero Go.wp_at_succ
noncomputable def key52:KeyB Tryz.prog 3 Int:=intKey Tryz.underlying3
def fstM (cl:List Int) (k:Nat) (c:Int):Option Value:=if 0≤minT (fun w=>decide (nth cl w=c)) 0 k then some (.int .i64 (minT (fun w=>decide (nth cl w=c)) 0 k)) else none
theorem Zx (cl:List Int) (k:Nat) (c:Int):(fstM cl k c=none∧∀j,j<k→nth cl j≠c)∨∃t:Nat,t<k∧fstM cl k c=some (.int .i64 t)∧nth cl t=c∧∀j,j<t→nth cl j≠c:=by
 unfold fstM;rcases minF (fun w=>decide (nth cl w=c)) k 0 with ⟨h,h1⟩ | ⟨t,h1,h2,h3,h4,h5⟩
 ·left;rw[h,if_neg (by decide)];exact ⟨rfl,fun j hj=>of_decide_eq_false (h1 j (by omega) (by omega))⟩
 ·right;rw[h1,if_pos (by omega)];exact ⟨t,by omega,rfl,of_decide_eq_true h4,fun j hj=>of_decide_eq_false (h5 j (by omega) hj)⟩
theorem zdx {cl:List Int} {k t:Nat} {c:Int} (ht:t<k) (hc:nth cl t=c) (hl:∀j,j<t→nth cl j≠c):fstM cl k c=some (.int .i64 t):=by
 rcases Zx cl k c with ⟨_,h⟩ | ⟨t',h1,h2,h3,h4⟩
 ·exact absurd hc (h t ht)
 ·have:t'=t:=by
   rcases Nat.lt_trichotomy t' t with h | h | h
   ·exact absurd h3 (hl _ h)
   ·exact h
   ·exact absurd hc (h4 _ h)
  rw[h2,this]
theorem zfJ {cl:List Int} {k:Nat} {c:Int} (h:∀j,j<k→nth cl j≠c):fstM cl k c=none:=by
 rcases Zx cl k c with ⟨h1,_⟩ | ⟨t',h1,h2,h3,h4⟩
 ·exact h1
 ·exact absurd h3 (h _ h1)
theorem zbn (cl:List Int):fstM cl 0=fun _=>none:=by
 funext c;exact zfJ fun j hj=>by omega
theorem zgA {cl:List Int} {v t:Nat} (ht:t≤v) (hc:nth cl t=nth cl v) (hl:∀j,j<t→nth cl j≠nth cl v):fstC cl v=t:=by
 obtain ⟨a1,a2,a3⟩:=qK cl v;rcases Nat.lt_trichotomy (fstC cl v) t with h | h | h
 ·exact absurd a2 (hl _ h)
 ·exact h
 ·exact absurd hc (a3 _ h)
theorem QA (cl:List Int) (k:Nat):(fstM cl k (nth cl k)=none∧fstC cl k=k∧(fun z=>if z=nth cl k then some (Value.int .i64 (k:Int)) else fstM cl k z)=fstM cl (k+1))∨∃t:Nat,t<k∧fstM cl k (nth cl k)=some (.int .i64 t)∧fstC cl k=t∧fstM cl (k+1)=fstM cl k:=by
 have keep:∀z,z≠nth cl k→fstM cl (k+1) z=fstM cl k z:=fun z hz=>by
  rcases Zx cl k z with ⟨h1,h2⟩ | ⟨t,h1,h2,h3,h4⟩
  ·rw[h1];exact zfJ fun j hj=>by
    by_cases e:j=k
    ·subst e;exact fun e=>hz e.symm
    ·exact h2 j (by omega)
  ·rw[h2];exact zdx (by omega) h3 h4
 rcases Zx cl k (nth cl k) with ⟨h1,h2⟩ | ⟨t,h1,h2,h3,h4⟩
 ·left;refine ⟨h1,zgA (Nat.le_refl _) rfl h2,?_⟩;funext z
  by_cases e:z=nth cl k
  ·rw[if_pos e,e];exact (zdx (by omega) rfl h2).symm
  ·rw[if_neg e];exact (keep z e).symm
 ·right;refine ⟨t,h1,h2,zgA (by omega) h3 h4,?_⟩;funext z
  by_cases e:z=nth cl k
  ·rw[e,h2];exact zdx (by omega) h3 h4
  ·exact keep z e
def ofS2 (l:List Int):List Int×Int:=if 65536<l.length then ([],5) else (labs l,0)
theorem zb0 {S:Nat→Prop} {w:World} {v:Value} {l:List Int} (h:Ints S w v l):
  Calls Tryz.prog 38 #[v] w (Post w (RetL w.heap.size (ofS2 l))):=by
 have h0:=h;obtain ⟨a,cap,rfl,_⟩:=h0;go_enter Tryz.func38,Tryz.ntmps38;by_cases hbig:65536<l.length
 ·go_wp2_with fail;go_ret2;exact .same (.nil _ _ rfl (by simp[ofS2,hbig]))
 ·go_wp2_with fail;refine (Xl h (by omega)).mono ?_;rintro _ w1 ⟨v,rfl,hb1,hv⟩;go_wp2;go_ret2;exact .mk hb1 (.mk hv (by simp[ofS2,hbig]))
theorem zjQ {T:List (List Int)} {ch:List Int} {K:Nat} (h:T.length≤120):ofS2 (keys (quoE T ch K) T.length)=(labs (keys (quoE T ch K) T.length),0):=by
 unfold ofS2;rw[if_neg (by rw[length_keys];omega)]
theorem yL {S:Nat→Prop} {w:World} {v vch:Value} {s:SysF} {ch:List Int} (h:SysV S w v s) (hf:PFew s.p) (h2:Ints S w vch ch) (hm:s.tab.length≤120):
  Calls Tryz.prog 26 #[v,.agg #[vch]] w (Post w (ClaR w.heap.size s ch)):=by
 have KO:Hid (∀W,Below w.heap.size w W→Calls Tryz.prog 47 #[v,.agg #[vch]] W (Post W (OfQ W.heap.size (fun b=>S b∧b<W.heap.size) s ch))):=zhd fun W hW=>Xt (h.ext hW) hf (h2.ext hW) hm;have HO:Hid (∀w' u,ruleE s ch=0→Ints (fun b=>w.heap.size≤b) w' u (quoL s ch)→ClaR w.heap.size s ch w' (.tuple #[u,.int .i64 0])):=zhd fun w' u h0 hu=>.inl ⟨h0,u,rfl,hu⟩;have HE:Hid (∀w',ruleE s ch≠0→ClaR w.heap.size s ch w' (.tuple #[.slice none 0 0,ruleE s ch])):=zhd fun w' h0=>.inr ⟨h0,rfl⟩;have KQ:Hid (∀(A:Nat→Prop) W g,ScnV A W g s ch→Calls Tryz.prog 53 #[.pointer (some ⟨g,0,none⟩)] W (Post W fun w' r=>Ints (fun b=>W.heap.size≤b) w' r (keys (quoE s.tab ch s.K) s.tab.length))):=zhd fun A W g hs=>ZB hs;have KP:Hid (∀S3 W u,Ints S3 W u (keys (quoE s.tab ch s.K) s.tab.length)→Calls Tryz.prog 38 #[u] W (Post W (RetL W.heap.size (quoL s ch,0)))):=zhd fun S3 W u hu=>by
  have:=zb0 hu;rw[zjQ hm]at this;exact this
 obtain ⟨CR,hCR⟩:=zn (ClaR w.heap.size s ch);rw[←hCR]at HO HE ⊢;obtain ⟨kl,hkl⟩:∃l,l=keys (quoE s.tab ch s.K) s.tab.length:=⟨_,rfl⟩;rw[←hkl]at KQ KP;obtain ⟨ql,hql⟩:∃l,l=quoL s ch:=⟨_,rfl⟩;rw[←hql]at KP HO;obtain ⟨ca,cc,sa,sc,ta,tc,xa,xc,rfl,hc,hs,ht,hx⟩:=h.zf;obtain ⟨a2,c2,rfl,_⟩:=h2.form;obtain ⟨ex,R0,R1⟩:=zb2 w [s.p.n,s.p.ins,s.p.outs,.slice ca s.p.cs.length cc,s.p.an,.slice sa s.p.st.length sc,s.p.rounds,s.tn,.slice ta s.tab.length tc,.slice xa s.ex.length xc] [.slice a2 ch.length c2] 35 38;clear hc hs ht hx h2 hf hm hCR hkl hql;go_enter Tryz.func26,Tryz.ntmps26;obtain ⟨t0,t1,t2,t3,t4,t5,t6,t7,t8,t9⟩:=R0.ten;have l0:=R0.lt;have r0:=R1.zc 0 rfl;have l1:=R1.lt;go_wp2_with fail;refine (KO.out _ ex).mono ?_;rintro _ w1 ⟨_,rfl,hb,hO⟩;replace R0:=R0.ext hb;replace R1:=R1.ext hb;replace ex:=za ex hb;clear hb KO t0 t1 t2 t3 t4 t5 t6 t7 t8 t9 l0 r0 l1;rcases hO with ⟨h0,g,rfl,hSc,_⟩ | ⟨h0,rfl⟩
 case inr=>
  have RE:=zhd (HE.out w1 h0);obtain ⟨e,hee⟩:=zn (ruleE s ch);rw[←hee]at RE h0 ⊢;have d0:(e !=0)=true:=by simp[h0]
  clear h0 HO HE hee;go_wp2;go_ret2;exact .mk ex RE.out
 have HO1:=zhd (fun w' u=>HO.out w' u h0);have KQ1:=zhd (KQ.out _ _ _ hSc);have d0:((0:Int) !=0)=false:=rfl;have lg:=hSc.lt;clear h0 HO HE KQ hSc;go_wp2_with fail;refine KQ1.out.mono ?_;rintro _ w2 ⟨u,rfl,hb2,hi2⟩;have KP1:=zhd (KP.out _ _ _ hi2);replace ex:=za ex hb2;clear hb2 hi2 KQ1 KP;go_wp2_with fail;refine KP1.out.mono ?_;rintro _ w3 ⟨_,rfl,hb3,u3,rfl,hi3⟩;have hsz:=ex.size;replace ex:=za ex hb3;have RE:=zhd (HO1.out w3 u3 (hi3.mono fun b hb=>by omega));obtain ⟨a3,c3,rfl,_⟩:=hi3.form;clear hb3 hi3 KP1;go_wp2;go_ret2;exact .mk ex RE.out
theorem xF {S S3:Nat→Prop} {w:World} {v vch vcl:Value} {s:SysF} {ch cl:List Int} (h:SysV S w v s) (hf:PFew s.p) (h2:Ints S w vch ch) (h3:Ints S3 w vcl cl) (hm:s.tab.length≤120):
  Calls Tryz.prog 18 #[v,.agg #[vch],vcl] w (Post w fun _ r=>r=.int .i64 (verQ s ch cl)):=by
 have KO:Hid (∀W,Below w.heap.size w W→Calls Tryz.prog 47 #[v,.agg #[vch]] W (Post W (OfQ W.heap.size (fun b=>S b∧b<W.heap.size) s ch))):=zhd fun W hW=>Xt (h.ext hW) hf (h2.ext hW) hm;have KC:Hid (∀W,Below w.heap.size w W→Calls Tryz.prog 48 #[vcl] W (Post W fun _ r=>r=.int .i64 (checkS cl))):=zhd fun W hW=>xO (h3.ext hW);have KS:Hid (∀(A:Nat→Prop) W g u x,ScnV A W g s ch→cl.length=s.tab.length→u<s.tab.length→x<s.tab.length→Below w.heap.size w W→Calls Tryz.prog 49 #[.pointer (some ⟨g,0,none⟩),vcl,u,x] W (Post W fun _ r=>r=.bool (samB s.tab ch (nth cl) u x))):=zhd fun A W g u x hs hl hu hx hW=>Qv hs (h3.ext hW) hl hu hx;have HQ1:Hid (ruleE s ch≠0→verQ s ch cl=ruleE s ch):=zhd fun h0=>by unfold verQ;rw[if_neg h0]
 have HQ2:Hid (ruleE s ch=0→verQ s ch cl=if checkS cl=0 then (if cl.length=s.tab.length then (if fitB s.tab ch cl then 0 else 18) else 15) else checkS cl):=zhd fun h0=>by unfold verQ;rw[if_pos h0];rfl
 have HFY:Hid (ruleE s ch=0→(∀v,v<s.tab.length→samB s.tab ch (nth cl) v (fstC cl v)=true)→fitB s.tab ch cl=true):=zhd fun h0 hh=>Qj.2 ((zcR (yj h h0).1.tab (yj h h0).1.nodup).2 hh);have HFN:Hid (ruleE s ch=0→∀v,v<s.tab.length→samB s.tab ch (nth cl) v (fstC cl v)=false→fitB s.tab ch cl=false):=zhd fun h0 v hv hh=>by
  cases e:fitB s.tab ch cl with
  | false=>rfl
  | true=>
   have:=(zcR (yj h h0).1.tab (yj h h0).1.nodup).1 (Qj.1 e) v hv;rw[hh]at this;cases this
 have HRF:Hid (ruleE s ch=0→∀v,samB s.tab ch (nth cl) v v=true):=zhd fun h0 v=>zaA (yj h h0).1.nodup _ _ _;obtain ⟨r,hr⟩:=zn (verQ s ch cl);rw[←hr]at HQ1 HQ2 ⊢;obtain ⟨ca,cc,sa,sc,ta,tc,xa,xc,rfl,hc,hs,ht,hx⟩:=h.zf;obtain ⟨a2,c2,rfl,_⟩:=h2.form;obtain ⟨a3,c3,rfl,_⟩:=h3.form;have HC:Hid (∀k,k<cl.length→w.cell? (adr a3 k)=some (.int .i64 (nth cl k))):=zhd fun k hk=>h3.cellN hk;have HQ:Hid (∀k,k<cl.length→∀W:World,(Instr.indexAt 36 (.slice a3 cl.length c3) (.int .i64 k)).run Tryz.prog W=.ok (.pointer (some (adr a3 k))) W):=zhd fun k hk W=>h3.idx hk W;have HWF:=zhd h3.wf;obtain ⟨ex,R0,R1⟩:=zb2 w [s.p.n,s.p.ins,s.p.outs,.slice ca s.p.cs.length cc,s.p.an,.slice sa s.p.st.length sc,s.p.rounds,s.tn,.slice ta s.tab.length tc,.slice xa s.ex.length xc] [.slice a2 ch.length c2] 35 38;clear hc hs ht hx h2 h3 hf hr;go_enter Tryz.func18,Tryz.ntmps18;obtain ⟨t0,t1,t2,t3,t4,t5,t6,t7,t8,t9⟩:=R0.ten;have l0:=R0.lt;have r0:=R1.zc 0 rfl;have l1:=R1.lt;go_wp2_with fail;refine (KO.out _ ex).mono ?_;rintro _ w1 ⟨_,rfl,hb,hO⟩;replace R0:=R0.ext hb;replace R1:=R1.ext hb;replace ex:=za ex hb;clear hb KO t0 t1 t2 t3 t4 t5 t6 t7 t8 t9 l0 r0 l1;rcases hO with ⟨h0,g,rfl,hSc,_⟩ | ⟨h0,rfl⟩
 case inr=>
  have RE:=zhd (HQ1.out h0);obtain ⟨e,hee⟩:=zn (ruleE s ch);rw[←hee]at RE h0 ⊢;have d0:(e !=0)=true:=by simp[h0]
  clear h0 HQ1 HQ2 hee HFY HFN HRF;go_wp2;go_ret;exact .mk ex (zr RE.out.symm)
 have HV:=zhd (HQ2.out h0);have HY:=zhd (HFY.out h0);have HN:=zhd (HFN.out h0);have HR:=zhd (HRF.out h0);have HSc:=zhd hSc;have d0:((0:Int) !=0)=false:=rfl;clear h0 HQ1 HQ2 HFY HFN HRF hSc;obtain ⟨e,hee⟩:=zn (checkS cl);rw[←hee]at KC HV;clear hee;go_wp2_with fail;refine (KC.out _ ex).mono ?_;rintro _ w2 ⟨_,rfl,hb,rfl⟩;replace R0:=R0.ext hb;replace R1:=R1.ext hb;replace HSc:=zhd (HSc.out.ext hb);replace ex:=za ex hb;clear hb KC d0;by_cases h1:e=0
 case neg=>
  have RE:=zhd (HV.out.trans (if_neg h1));have d1:(e !=0)=true:=by simp[h1]
  clear h1 HV;go_wp2;go_ret;exact .mk ex (zr RE.out.symm)
 have HV1:=zhd (HV.out.trans (if_pos h1));have d1:(e !=0)=false:=by simp[h1]
 clear h1 HV;have t8:=R0.zc 8 rfl;have l0:=R0.lt;by_cases hl:cl.length=s.tab.length
 case neg=>
  have RE:=zhd (HV1.out.trans (if_neg hl));have d2:((cl.length:Int) !=(s.tab.length:Int))=true:=by rw[bne_iff_ne];omega
  clear hl HV1;go_wp2;go_ret;exact .mk ex (zr RE.out.symm)
 have HV2:=zhd (HV1.out.trans (if_pos hl));have d2:((cl.length:Int) !=(s.tab.length:Int))=false:=by rw[hl];simp
 have HL:=zhd hl;have hmm:=@run_makeMap Tryz.prog;have hc120:cl.length≤120:=by omega
 have hxm:=za ex (ze w2 (.map #[] 0));have HM0:Hid (MapV key52 (w2.alloc (.map #[] 0)) w2.heap.size (fstM cl 0) 0):=zhd (by rw[zbn];exact MapV.made key52 w2);have HScm:=zhd (HSc.out.ext (ze w2 (.map #[] 0)));have hsz:=ex.size;clear hl HV1;go_wp2;obtain ⟨MB,hMB⟩:=zn w2.heap.size;obtain ⟨w3,hw3⟩:=zn (w2.alloc (.map #[] 0));rw[←hMB]at HM0 hsz ⊢;rw[←hw3]at HM0 HScm hxm ⊢;have hb30:=Below.refl MB w3;have HEX3:=zhd hxm;have HMBs:Hid (MB<w3.heap.size):=zhd HM0.out.lt;have HScB:Hid (∀W,Below MB w3 W→ScnV (fun b=>b<MB) W g s ch):=zhd fun W hW=>by
  have h1:ScnV (fun b=>b<MB) w3 g s ch:=by
   rw[hw3];exact ((HSc.out.block).mono (A':=fun b=>b<MB) fun b hb=>by omega).ext (ze w2 _)
  exact h1.agree (.of_below hW fun b hb _=>hb)
 have HEW:Hid (∀W,Below MB w3 W→Below w.heap.size w W):=zhd fun W hW=>hxm.trans (hW.mono hsz);clear hmm hMB hw3 R0 R1 t8 l0 ex d1 d2 hxm HSc HScm;go_loopw [11,12,13,14,39] (fun _ _ _ _ iv wr=>∃k nn:Nat,k≤cl.length∧iv=.int .i64 k∧nn≤k∧Hid (MapV key52 wr MB (fstM cl k) nn)∧Hid (∀v,v<k→samB s.tab ch (nth cl) v (fstC cl v)=true)∧Below MB w3 wr) (fun _ _ _ _ iv _=>cl.length - (intOf iv).toNat)
 case atStart=>exact ⟨0,0,Nat.zero_le _,rfl,Nat.le_refl _,HM0,zhd fun v hv=>by omega,hb30⟩
 case round=>
  clear hb30 HM0;obtain ⟨k,nn,hk,rfl,hnn,HM,HZ,hb⟩:=hrel;by_cases hlt:k<cl.length
  case neg=>
   obtain rfl:k=cl.length:=by omega
   have RE:Hid (r=0):=zhd (HV2.out.trans (if_pos (HY.out fun v hv=>HZ.out v (by rw[HL.out];exact hv))));have HE3:=zhd (HEW.out _ hb);clear hb HM;go_wp2;go_ret;exact .mk HE3.out (zr RE.out.symm)
  have qk:=HQ.out k hlt;have ck:=zm (HC.out k hlt) (HEW.out _ hb);have bk:=World.block_lt_of_cell? _ _ ck;have hwf:WF (nth cl k):=HWF.out _ (xN hlt);have HWk:=zhd hwf;have hkt:k<s.tab.length:=by have:=HL.out;omega
  have HZN:Hid (samB s.tab ch (nth cl) k (fstC cl k)=true→∀v,v<k+1→samB s.tab ch (nth cl) v (fstC cl v)=true):=zhd fun h v hv=>by
   by_cases e:v=k
   ·subst e;exact h
   ·exact HZ.out v (by omega)
  have HNk:=zhd (HN.out k hkt);have hst:=QA cl k;obtain ⟨c,hcc⟩:=zn (nth cl k);rw[←hcc]at ck hst HWk;clear hwf hcc;rcases hst with ⟨hm1,hm2,hm3⟩ | ⟨t,ht,hm1,hm2,hm3⟩
  ·have HMI:=zhd hm1;have HUPN:=zhd hm3;have HZ2:=zhd (HZN.out (by rw[hm2];exact HR.out k));have hMs:=HM.out.lt;clear hm1 hm2 hm3;go_wp2_with (first
    | (at_lookup;refine qF rfl _ _ 91 rfl 3 Tryz.underlying91 (.int .i64 0) (ym _) rfl HM.out c rfl HWk.out HMI.out ?_)
    | (at_mapUpdate;refine xe rfl _ _ _ 91 rfl 3 Tryz.underlying91 rfl HM.out (by unfold maxLen;omega) c rfl HWk.out (.int .i64 k) rfl ?_;intro w5 hM5 hg5))
   have HM5:Hid (MapV key52 w5 MB (fstM cl (k+1)) (nn+1)):=zhd (by
    rw[HUPN.out,HMI.out]at hM5;exact hM5)
   have hb5:Below MB w3 w5:=hb.grown hg5 (by omega) (fun q hq=>by injection hq with hq;omega);clear hM5 hg5 HM hb ck bk qk;go_wp2;go_roundw
   case rel=>exact ⟨k+1,nn+1,by omega,by go_num,by omega,HM5,HZ2,hb5⟩
   case measure=>simp[intOf];omega
  ·have HMI:=zhd hm1;rw[←hm3]at HM;have HMO:=zhd (show fstM cl (k+1) c=some (.int .i64 t) by rw[hm3];exact hm1);have htt:t<s.tab.length:=by omega
   have KS1:=zhd (KS.out _ wr g k t (HScB.out _ hb) HL.out hkt htt (HEW.out _ hb));rw[hm2]at HZN HNk;obtain ⟨b,hbb⟩:=zn (samB s.tab ch (nth cl) k t);rw[←hbb]at KS1 HZN HNk;have hMs:=HM.out.lt;clear hm1 hm2 hm3 hbb;go_wp2_with (at_lookup;refine qn rfl _ _ 91 rfl 3 Tryz.underlying91 (.int .i64 0) (ym _) rfl HM.out c rfl HWk.out (.int .i64 t) HMO.out ?_);refine KS1.out.mono ?_;rintro _ w4 ⟨_,rfl,hb4,rfl⟩;have HM4:=zhd (HM.out.ext hb4);have hb5:Below MB w3 w4:=hb.trans (hb4.mono (by omega));clear hb4 KS1 HM hb ck bk qk;cases b with
   | true=>
    have HZ2:=zhd (HZN.out rfl);go_wp2;go_roundw
    case rel=>exact ⟨k+1,nn,by omega,by go_num,by omega,HM4,HZ2,hb5⟩
    case measure=>simp[intOf];omega
   | false=>
    have RE:Hid (r=18):=zhd (HV2.out.trans (by rw[HNk.out rfl];rfl));have HE3:=zhd (HEW.out _ hb5);clear hb5 HM4;go_wp2;go_ret;exact .mk HE3.out (zr RE.out.symm)
end Go.Proofs.YtiabbjolepnjkaaGreat
namespace Go.Proofs.YtiabbjolepnjkaaGreat
def e52P:ProbD:=⟨2,2,2,[([0,0],[[0,0]],[]),([0,1],[[0,0]],[])],2,[[[2,1,3,0,0,0,0,0],[2,3,3,0,0,0,0,0]]],1⟩
def e52S:SysF:=e52P.full
theorem zct:buildE e52P=0:=by decide+kernel
theorem zav:FewP e52P:=⟨by refine ⟨by decide,fun k hk=>?_⟩;match k,hk with | 0,_=>exact ⟨by decide,⟨by decide,by decide⟩,⟨by decide,by decide⟩⟩ | 1,_=>exact ⟨by decide,⟨by decide,by decide⟩,⟨by decide,by decide⟩⟩ | k+2,h=>exact absurd h (by simp[e52P]),by decide+kernel,by decide,fun _=>.inl (by decide+kernel)⟩
theorem za4:e52S.tab.length=8:=by decide+kernel
end Go.Proofs.YtiabbjolepnjkaaGreat
namespace Go.Proofs.YtiabbjolepnjkaaGreat
open Go.RowKit
attribute [local go_sem ↓] Go.wp_at_zero Go.wp_at_succ
theorem flat25 {n:Nat}:∀{xs:List (List Value)} {j i:Nat},(∀c∈xs,c.length=n)→j<xs.length→i<n→xs.flatten[j * n+i]? =(xs.getD j [])[i]?
 | [],j,i,_,hj,_=>by simp at hj
 | c::xs,0,i,h,_,hi=>by
  have:=h c (by simp);rw[List.flatten_cons,List.getElem?_append_left (by omega)];simp
 | c::xs,j+1,i,h,hj,hi=>by
  have hc:=h c (by simp);have:=flat25 (xs:=xs) (j:=j) (i:=i) (fun d hd=>h d (List.mem_cons_of_mem _ hd)) (by simpa using hj) hi;rw[List.flatten_cons,List.getElem?_append_right (by rw[hc,Nat.add_mul];omega),hc,show (j+1) * n+i - n=j * n+i by rw[Nat.add_mul];omega,this];simp
theorem Qh {α:Type} {K:Kd α} {S:Nat→Prop} {w:World} {b:Nat} {e:TypeId} {l:List α} (xs:List (List Value)) (R:Row w b e xs.flatten) (hS:S b) (hl:l.length=xs.length) (hs:∀c∈xs,c.length=K.size) (hm:l.length≤100000) (hr:∀j (h:j<l.length),K.rd S w (xs.getD j []) l[j]):Sl K S w (.slice (some ⟨b,0,none⟩) l.length l.length) l:=by
 refine ⟨_,_,rfl,.inr ⟨b,0,rfl,R.lt,hS⟩,Nat.le_refl _,⟨by unfold maxLen;omega,by omega⟩,fun j hj=>⟨xs.getD j [],fun i hi=>?_,hr j hj⟩⟩;rw[yi,Nat.zero_add];have h1:=flat25 hs (show j<xs.length by omega) hi;cases h2:(xs.getD j [])[i]? with
 | none=>
  rw[List.getElem?_eq_none_iff]at h2;have:=hs (xs.getD j []) (by rw[List.getD_eq_getElem?_getD,List.getElem?_eq_getElem (by omega)];exact List.getElem_mem _);omega
 | some u=>exact R.cell (by rw[h1,h2])
theorem pbuild25 {S:Nat→Prop} {w:World} {vc vs:Value} {p:ProbD} (hc:Sl kCase S w vc p.cs) (hs:Sl (kSl (kFlat 8)) S w vs p.st) (hf:PFew p) (h0:buildE p=0):
  Calls Tryz.prog 61 #[.agg #[p.n,p.ins,p.outs,vc,p.an,vs,p.rounds]] w (Post w fun w' r=>∃v,r=.tuple #[v,.int .i64 0]∧SysV (fun b=>(S b∧b<w.heap.size)∨w.heap.size≤b) w' v p.full):=by
 obtain ⟨h1,h2⟩:=ZX h0;obtain ⟨N,hok⟩:=probOK h1;obtain ⟨h3,h4⟩:=hf.small h1 h2;obtain ⟨n,ins,outs,cs,an,st,rounds⟩:=p;obtain ⟨K,hK⟩:∃K:Nat,rounds=K:=⟨rounds.toNat,by have:=hok.r;dsimp only at this;omega⟩;have e1:=hok.n;have e2:=hok.an;dsimp only at e1 e2;subst e1 e2 hK;exact X6 hc.block hs.block hok hf.cp h1 h3 (by dsimp only at h4;omega)
theorem lists25 {S:Nat→Prop} {w:World} {b:Nat} {e:TypeId} {v:Value} {l:List Int} (R:Row w b e [v]) (hS:S b) (h:Ints S w v l):Lists S w (.slice (some ⟨b,0,none⟩) 1 1) [l]:=by
 refine ⟨_,_,rfl,.inr ⟨b,0,rfl,R.lt,hS⟩,Nat.le_refl _,by unfold maxLen;simp,fun j hj=>?_⟩;obtain rfl:j=0:=by simpa using hj
 exact ⟨v,R.zc 0 rfl,h⟩
def mv25:List (List Int):=[[2,1,3,0,0,0,0,0],[2,3,3,0,0,0,0,0]]
theorem zcB {k:Nat} (hk:k<2):mv25.take (k+1)=mv25.take k++[[2,nth [1,3] k,3,0,0,0,0,0]]:=by
 have:k=0∨k=1:=by omega
 rcases this with rfl | rfl<;>rfl
theorem nth13 (k:Nat):WF (nth [1,3] k):=by
 match k with
 | 0=>exact WF.small (by decide)
 | 1=>exact WF.small (by decide)
 | k+2=>exact WF.small (by simp[nth])
theorem zV {w w':World} {e:Ending} {R R':World→Value→Prop} (h:Post w R e w') (hR:∀a b,R a b→R' a b):Post w R' e w':=by
 obtain ⟨v,h1,h2,h3⟩:=h;exact ⟨v,h1,h2,hR _ _ h3⟩
theorem equalQ {S S':Nat→Prop} {w:World} {v1 v2:Value} {l:List Int} (h1:Ints S w v1 l) (h2:Ints S' w v2 l):
  Calls Tryz.prog 27 #[v1,v2] w (Post w fun _ r=>r=.bool true):=(ZH h1 h2).mono fun _ _ h=>by simpa using h
theorem litQ (w:World) (l:List Int) (e:TypeId) (hl:l.length≤65536) (hf:∀x∈l, -1000000000≤x∧x≤1000000000):
  Ints TT (w.alloc (.cells (l.map (Value.int .i64)).toArray e)) (.slice (some ⟨w.heap.size,0,none⟩) l.length l.length) l:=by
 have:=Row.ints (e:=e) (heap_alloc_new w (.cells (l.map (Value.int .i64)).toArray e)) (by unfold maxLen;omega) fun x hx=>WF.small (hf x hx);exact this.mono fun _ _=>trivial
def FewQ (s:SysF):Prop:=FewS s∧s.tab.length≤120
theorem Xa {S:Nat→Prop} {w:World} {v:Value} {s:SysF} (h:SysV S w v s):
  Calls Tryz.prog 15 #[v] w (Post w fun _ r=>Tells (FewQ s) r):=by
 have KF:Hid (∀W,Below w.heap.size w W→Calls Tryz.prog 44 #[v] W (Post W fun _ r=>Tells (FewS s) r)):=zhd fun W hW=>zeu (h.ext hW);obtain ⟨vc,vs,vt,vx,rfl,hc,hs,ht,hx⟩:=h;obtain ⟨ca,cc,rfl,_⟩:=hc.form;obtain ⟨sa,sc,rfl,_⟩:=hs.form;obtain ⟨ta,tc,rfl,_⟩:=ht.form;obtain ⟨xa,xc,rfl,xad,_⟩:=hx.form2;obtain ⟨ex,R0⟩:=zb1 w [s.p.n,s.p.ins,s.p.outs,.slice ca s.p.cs.length cc,s.p.an,.slice sa s.p.st.length sc,s.p.rounds,s.tn,.slice ta s.tab.length tc,.slice xa s.ex.length xc] 35;clear hc hs ht hx;go_enter Tryz.func15,Tryz.ntmps15;obtain ⟨t0,t1,t2,t3,t4,t5,t6,t7,t8,t9⟩:=R0.ten;have l0:=R0.lt;go_wp2_with fail;refine (KF.out _ ex).mono ?_;rintro _ w1 ⟨_,rfl,hb,b0,rfl,hb0⟩;replace R0:=R0.ext hb;replace ex:=za ex hb;clear hb KF t0 t1 t2 t3 t4 t5 t6 t7 t8 t9 l0;obtain ⟨t0,t1,t2,t3,t4,t5,t6,t7,t8,t9⟩:=R0.ten;have l0:=R0.lt;cases b0 with
 | false=>
  clear hb0;go_wp2;go_ret;exact .mk ex ⟨false,rfl,fun h=>by cases h⟩
 | true=>
  have hfw:=zhd (hb0 rfl);clear hb0;by_cases hl:s.tab.length≤120
  ·have d1:decide ((s.tab.length:Int)≤120)=true:=decide_eq_true (by omega);have d2:decide (s.tab.length≤120)=true:=decide_eq_true hl;have HF:Hid (FewQ s):=zhd ⟨hfw.out,hl⟩;clear hl hfw;go_wp2;go_ret;exact .mk ex ⟨_,rfl,fun _=>HF.out⟩
  ·have d1:decide ((s.tab.length:Int)≤120)=false:=decide_eq_false (by omega);have d2:decide (s.tab.length≤120)=false:=decide_eq_false hl;clear hl hfw;go_wp2;go_ret;exact .mk ex ⟨_,rfl,fun h=>by simp_all⟩
end Go.Proofs.YtiabbjolepnjkaaGreat
namespace Go.Proofs.YtiabbjolepnjkaaGreat
theorem zio {l:List Nat} {x:Nat} (h:x∈l) (hx:0<x):0<l.sum:=by
 induction l with
 | nil=>cases h
 | cons a l ih=>
  rw[List.sum_cons];rcases List.mem_cons.1 h with e | h
  ·omega
  ·have:=ih h;omega
theorem zc7 {n:Int} {st:Moves} (hA:MovesOK n st):∀k q,q<st.length→0<cntW st k q
 | 0,_,_=>Nat.one_pos
 | k+1,q,hq=>by
  obtain ⟨hl,hm⟩:=hA q hq;have h0:=hm 0 hl;unfold cntW;refine zio (List.mem_map.2 ⟨nthL (nthM st q) 0,yh hl,rfl⟩) (zc7 hA k _ (by omega))
theorem YU {s:SysF} {N K:Nat} (hg:GoodS s N K):0<s.tab.length:=by
 have h1:=hg.pok.c1.1;have h2:=zc7 hg.pok.mv s.p.rounds.toNat 0 (by have:=hg.pok.s1.1;omega);have h3:0<s.ex.length:=by
  rw[hg.num];exact Nat.mul_pos (by omega) h2
 obtain ⟨c,hx⟩:=hg.ex 0 h3;obtain ⟨u,hu,_⟩:=hx.at' 0 (Nat.zero_le _) 0 (by have:=hg.pok.n1.1;omega);omega
end Go.Proofs.YtiabbjolepnjkaaGreat
