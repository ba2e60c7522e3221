/- Part of the proof that the laws answer true for every input. -/
import Derived.Test.YtiabbjolepnjkaaGreatPVaA27
import Derived.Test.YtiabbjolepnjkaaGreatPVaA28
import Derived.Test.YtiabbjolepnjkaaGreatPVaA29
set_option linter.unusedSimpArgs false
set_option linter.unnecessarySimpa false
set_option linter.unusedVariables false
set_option maxRecDepth 100000
set_option maxHeartbeats 40000000
namespace Go.Proofs.YtiabbjolepnjkaaGreat
open Go.RowKit
attribute [local go_sem ↓] Go.wp_at_zero Go.wp_at_succ
noncomputable def key52:KeyB Tryz.prog 3 Int:=intKey Tryz.underlying3
def fstM (cl:List Int) (k:Nat) (c:Int):Option Value:=if 0≤minT (fun w=>decide (nth cl w=c)) 0 k then some (.int .i64 (minT (fun w=>decide (nth cl w=c)) 0 k)) else none
theorem xK (cl:List Int) (k:Nat) (c:Int):(fstM cl k c=none∧∀j,j<k→nth cl j≠c)∨∃t:Nat,t<k∧fstM cl k c=some (.int .i64 t)∧nth cl t=c∧∀j,j<t→nth cl j≠c:=by
 unfold fstM;rcases minF (fun w=>decide (nth cl w=c)) k 0 with ⟨h,h1⟩ | ⟨t,h1,h2,h3,h4,h5⟩
 ·left;rw[h,if_neg (by decide)];exact ⟨rfl,fun j hj=>of_decide_eq_false (h1 j (by omega) (by omega))⟩
 ·right;rw[h1,if_pos (by omega)];exact ⟨t,by omega,rfl,of_decide_eq_true h4,fun j hj=>of_decide_eq_false (h5 j (by omega) hj)⟩
theorem zbq {cl:List Int} {k t:Nat} {c:Int} (ht:t<k) (hc:nth cl t=c) (hl:∀j,j<t→nth cl j≠c):fstM cl k c=some (.int .i64 t):=by
 rcases xK cl k c with ⟨_,h⟩ | ⟨t',h1,h2,h3,h4⟩
 ·exact absurd hc (h t ht)
 ·have:t'=t:=by
   rcases Nat.lt_trichotomy t' t with h | h | h
   ·exact absurd h3 (hl _ h)
   ·exact h
   ·exact absurd hc (h4 _ h)
  rw[h2,this]
theorem zdE {cl:List Int} {k:Nat} {c:Int} (h:∀j,j<k→nth cl j≠c):fstM cl k c=none:=by
 rcases xK cl k c with ⟨h1,_⟩ | ⟨t',h1,h2,h3,h4⟩
 ·exact h1
 ·exact absurd h3 (h _ h1)
theorem zd5 (cl:List Int):fstM cl 0=fun _=>none:=by
 funext c;exact zdE fun j hj=>by omega
theorem zeI {cl:List Int} {v t:Nat} (ht:t≤v) (hc:nth cl t=nth cl v) (hl:∀j,j<t→nth cl j≠nth cl v):fstC cl v=t:=by
 obtain ⟨a1,a2,a3⟩:=Zs cl v;rcases Nat.lt_trichotomy (fstC cl v) t with h | h | h
 ·exact absurd a2 (hl _ h)
 ·exact h
 ·exact absurd hc (a3 _ h)
theorem zd6 (cl:List Int) (k:Nat):(fstM cl k (nth cl k)=none∧fstC cl k=k∧(fun z=>if z=nth cl k then some (Value.int .i64 (k:Int)) else fstM cl k z)=fstM cl (k+1))∨∃t:Nat,t<k∧fstM cl k (nth cl k)=some (.int .i64 t)∧fstC cl k=t∧fstM cl (k+1)=fstM cl k:=by
 have keep:∀z,z≠nth cl k→fstM cl (k+1) z=fstM cl k z:=fun z hz=>by
  rcases xK cl k z with ⟨h1,h2⟩ | ⟨t,h1,h2,h3,h4⟩
  ·rw[h1];exact zdE fun j hj=>by
    by_cases e:j=k
    ·subst e;exact fun e=>hz e.symm
    ·exact h2 j (by omega)
  ·rw[h2];exact zbq (by omega) h3 h4
 rcases xK cl k (nth cl k) with ⟨h1,h2⟩ | ⟨t,h1,h2,h3,h4⟩
 ·left;refine ⟨h1,zeI (Nat.le_refl _) rfl h2,?_⟩;funext z
  by_cases e:z=nth cl k
  ·rw[if_pos e,e];exact (zbq (by omega) rfl h2).symm
  ·rw[if_neg e];exact (keep z e).symm
 ·right;refine ⟨t,h1,h2,zeI (by omega) h3 h4,?_⟩;funext z
  by_cases e:z=nth cl k
  ·rw[e,h2];exact zbq (by omega) h3 h4
  ·exact keep z e
def ofS2 (l:List Int):List Int×Int:=if 65536<l.length then ([],5) else (labs l,0)
theorem zdB {S:Nat→Prop} {w:World} {v:Value} {l:List Int} (h:Ints S w v l):
  Calls Tryz.prog 38 #[v] w (Post w (RetL w.heap.size (ofS2 l))):=by
 have h0:=h;obtain ⟨a,cap,rfl,_⟩:=h0;go_enter Tryz.func38,Tryz.ntmps38;by_cases hbig:65536<l.length
 ·go_wp2_with fail;go_ret2;exact .same (.nil _ _ rfl (by simp[ofS2,hbig]))
 ·go_wp2_with fail;refine (Yw h (by omega)).mono ?_;rintro _ w1 ⟨v,rfl,hb1,hv⟩;go_wp2;go_ret2;exact .mk hb1 (.mk hv (by simp[ofS2,hbig]))
theorem zg2 {T:List (List Int)} {ch:List Int} {K:Nat} (h:T.length≤120):ofS2 (keys (quoE T ch K) T.length)=(labs (keys (quoE T ch K) T.length),0):=by
 unfold ofS2;rw[if_neg (by rw[length_keys];omega)]
theorem ZQ {S:Nat→Prop} {w:World} {v vch:Value} {s:SysF} {ch:List Int} (h:SysV S w v s) (hf:PFew s.p) (h2:Ints S w vch ch) (hm:s.tab.length≤120):
  Calls Tryz.prog 26 #[v,.agg #[vch]] w (Post w (ClaR w.heap.size s ch)):=by
 have KO:Hid (∀W,Below w.heap.size w W→Calls Tryz.prog 47 #[v,.agg #[vch]] W (Post W (OfQ W.heap.size (fun b=>S b∧b<W.heap.size) s ch))):=zhd fun W hW=>YG (h.ext hW) hf (h2.ext hW) hm;have HO:Hid (∀w' u,ruleE s ch=0→Ints (fun b=>w.heap.size≤b) w' u (quoL s ch)→ClaR w.heap.size s ch w' (.tuple #[u,.int .i64 0])):=zhd fun w' u h0 hu=>.inl ⟨h0,u,rfl,hu⟩;have HE:Hid (∀w',ruleE s ch≠0→ClaR w.heap.size s ch w' (.tuple #[.slice none 0 0,ruleE s ch])):=zhd fun w' h0=>.inr ⟨h0,rfl⟩;have KQ:Hid (∀(A:Nat→Prop) W g,ScnV A W g s ch→Calls Tryz.prog 53 #[.pointer (some ⟨g,0,none⟩)] W (Post W fun w' r=>Ints (fun b=>W.heap.size≤b) w' r (keys (quoE s.tab ch s.K) s.tab.length))):=zhd fun A W g hs=>xR hs;have KP:Hid (∀S3 W u,Ints S3 W u (keys (quoE s.tab ch s.K) s.tab.length)→Calls Tryz.prog 38 #[u] W (Post W (RetL W.heap.size (quoL s ch,0)))):=zhd fun S3 W u hu=>by
  have:=zdB hu;rw[zg2 hm]at this;exact this
 obtain ⟨CR,hCR⟩:=zn (ClaR w.heap.size s ch);rw[←hCR]at HO HE ⊢;obtain ⟨kl,hkl⟩:∃l,l=keys (quoE s.tab ch s.K) s.tab.length:=⟨_,rfl⟩;rw[←hkl]at KQ KP;obtain ⟨ql,hql⟩:∃l,l=quoL s ch:=⟨_,rfl⟩;rw[←hql]at KP HO;obtain ⟨ca,cc,sa,sc,ta,tc,xa,xc,rfl,hc,hs,ht,hx⟩:=h.zf;obtain ⟨a2,c2,rfl,_⟩:=h2.form;obtain ⟨ex,R0,R1⟩:=zb2 w [s.p.n,s.p.ins,s.p.outs,.slice ca s.p.cs.length cc,s.p.an,.slice sa s.p.st.length sc,s.p.rounds,s.tn,.slice ta s.tab.length tc,.slice xa s.ex.length xc] [.slice a2 ch.length c2] 35 38;clear hc hs ht hx h2 hf hm hCR hkl hql;go_enter Tryz.func26,Tryz.ntmps26;obtain ⟨t0,t1,t2,t3,t4,t5,t6,t7,t8,t9⟩:=R0.ten;have l0:=R0.lt;have r0:=R1.zc 0 rfl;have l1:=R1.lt;go_wp2_with fail;refine (KO.out _ ex).mono ?_;rintro _ w1 ⟨_,rfl,hb,hO⟩;replace R0:=R0.ext hb;replace R1:=R1.ext hb;replace ex:=za ex hb;clear hb KO t0 t1 t2 t3 t4 t5 t6 t7 t8 t9 l0 r0 l1;rcases hO with ⟨h0,g,rfl,hSc,_⟩ | ⟨h0,rfl⟩
 case inr=>
  have RE:=zhd (HE.out w1 h0);obtain ⟨e,hee⟩:=zn (ruleE s ch);rw[←hee]at RE h0 ⊢;have d0:(e !=0)=true:=by simp[h0]
  clear h0 HO HE hee;go_wp2;go_ret2;exact .mk ex RE.out
 have HO1:=zhd (fun w' u=>HO.out w' u h0);have KQ1:=zhd (KQ.out _ _ _ hSc);have d0:((0:Int) !=0)=false:=rfl;have lg:=hSc.lt;clear h0 HO HE KQ hSc;go_wp2_with fail;refine KQ1.out.mono ?_;rintro _ w2 ⟨u,rfl,hb2,hi2⟩;have KP1:=zhd (KP.out _ _ _ hi2);replace ex:=za ex hb2;clear hb2 hi2 KQ1 KP;go_wp2_with fail;refine KP1.out.mono ?_;rintro _ w3 ⟨_,rfl,hb3,u3,rfl,hi3⟩;have hsz:=ex.size;replace ex:=za ex hb3;have RE:=zhd (HO1.out w3 u3 (hi3.mono fun b hb=>by omega));obtain ⟨a3,c3,rfl,_⟩:=hi3.form;clear hb3 hi3 KP1;go_wp2;go_ret2;exact .mk ex RE.out
theorem zc5 {S:Nat→Prop} {w:World} {v vch:Value} {s:SysF} {ch:List Int} (h:SysV S w v s) (hf:PFew s.p) (h2:Ints S w vch ch) (hm:s.tab.length≤120):
  Calls Tryz.prog 37 #[v,.agg #[vch]] w (Post w fun _ r=>r=.tuple #[sizA s ch,ruleE s ch]):=by
 have KC:Hid (∀W,Below w.heap.size w W→Calls Tryz.prog 26 #[v,.agg #[vch]] W (Post W (ClaR W.heap.size s ch))):=zhd fun W hW=>ZQ (h.ext hW) hf (h2.ext hW) hm;have KN:Hid (∀S3 W u,Ints S3 W u (quoL s ch)→Calls Tryz.prog 77 #[u] W (Post W fun _ r=>r=.tuple #[.int .i64 (numS (quoL s ch)),.int .i64 0])):=zhd fun S3 W u hu=>by
  have:=za4 hu;unfold cntR at this;rw[if_pos (Zi.2 (zdz (by omega)))]at this;exact this
 have HS:Hid ((ruleE s ch=0→sizA s ch=numS (quoL s ch))∧(ruleE s ch≠0→sizA s ch=0)):=zhd ⟨fun h=>by unfold sizA;rw[if_pos h],fun h=>by unfold sizA;rw[if_neg h]⟩;obtain ⟨z,hzz⟩:=zn (sizA s ch);rw[←hzz]at HS ⊢;obtain ⟨m,hmm⟩:=zn (numS (quoL s ch));rw[←hmm]at HS KN;obtain ⟨ca,cc,sa,sc,ta,tc,xa,xc,rfl,hc,hs,ht,hx⟩:=h.zf;obtain ⟨a2,c2,rfl,_⟩:=h2.form;obtain ⟨ex,R0,R1⟩:=zb2 w [s.p.n,s.p.ins,s.p.outs,.slice ca s.p.cs.length cc,s.p.an,.slice sa s.p.st.length sc,s.p.rounds,s.tn,.slice ta s.tab.length tc,.slice xa s.ex.length xc] [.slice a2 ch.length c2] 35 38;clear hc hs ht hx h2 hf hm hzz hmm;go_enter Tryz.func37,Tryz.ntmps37;obtain ⟨t0,t1,t2,t3,t4,t5,t6,t7,t8,t9⟩:=R0.ten;have l0:=R0.lt;have r0:=R1.zc 0 rfl;have l1:=R1.lt;go_wp2_with fail;refine (KC.out _ ex).mono ?_;rintro _ w1 ⟨_,rfl,hb,hO⟩;replace R0:=R0.ext hb;replace R1:=R1.ext hb;replace ex:=za ex hb;clear hb KC t0 t1 t2 t3 t4 t5 t6 t7 t8 t9 l0 r0 l1;rcases hO with ⟨h0,u,rfl,hu⟩ | ⟨h0,rfl⟩
 case inr=>
  have RE:=zhd (HS.out.2 h0);obtain ⟨e,hee⟩:=zn (ruleE s ch);rw[←hee]at h0 ⊢;have HEE:=zhd hee;have d0:(e !=0)=true:=by simp[h0]
  clear h0 HS hee;go_wp2;go_ret2;exact .mk ex (tup2 RE.out.symm HEE.out)
 have RE:=zhd (HS.out.1 h0);have HE0:=zhd h0;have KN1:=zhd (KN.out _ _ _ hu);have d0:((0:Int) !=0)=false:=rfl;clear h0 HS KN hu;go_wp2_with fail;refine KN1.out.mono ?_;rintro _ w2 ⟨_,rfl,hb2,rfl⟩;replace ex:=za ex hb2;clear hb2 KN1;go_wp2;go_ret2;exact .mk ex (tup2 RE.out.symm HE0.out.symm)
theorem xY {S S3:Nat→Prop} {w:World} {v vch vcl:Value} {s:SysF} {ch cl:List Int} (h:SysV S w v s) (hf:PFew s.p) (h2:Ints S w vch ch) (h3:Ints S3 w vcl cl) (hm:s.tab.length≤120):
  Calls Tryz.prog 18 #[v,.agg #[vch],vcl] w (Post w fun _ r=>r=.int .i64 (verQ s ch cl)):=by
 have KO:Hid (∀W,Below w.heap.size w W→Calls Tryz.prog 47 #[v,.agg #[vch]] W (Post W (OfQ W.heap.size (fun b=>S b∧b<W.heap.size) s ch))):=zhd fun W hW=>YG (h.ext hW) hf (h2.ext hW) hm;have KC:Hid (∀W,Below w.heap.size w W→Calls Tryz.prog 48 #[vcl] W (Post W fun _ r=>r=.int .i64 (checkS cl))):=zhd fun W hW=>Y3 (h3.ext hW);have KS:Hid (∀(A:Nat→Prop) W g u x,ScnV A W g s ch→cl.length=s.tab.length→u<s.tab.length→x<s.tab.length→Below w.heap.size w W→Calls Tryz.prog 49 #[.pointer (some ⟨g,0,none⟩),vcl,u,x] W (Post W fun _ r=>r=.bool (samB s.tab ch (nth cl) u x))):=zhd fun A W g u x hs hl hu hx hW=>YN hs (h3.ext hW) hl hu hx;have HQ1:Hid (ruleE s ch≠0→verQ s ch cl=ruleE s ch):=zhd fun h0=>by unfold verQ;rw[if_neg h0]
 have HQ2:Hid (ruleE s ch=0→verQ s ch cl=if checkS cl=0 then (if cl.length=s.tab.length then (if fitB s.tab ch cl then 0 else 18) else 15) else checkS cl):=zhd fun h0=>by unfold verQ;rw[if_pos h0];rfl
 have HFY:Hid (ruleE s ch=0→(∀v,v<s.tab.length→samB s.tab ch (nth cl) v (fstC cl v)=true)→fitB s.tab ch cl=true):=zhd fun h0 hh=>zcj.2 ((zbQ (yc h h0).1.tab (yc h h0).1.nodup).2 hh);have HFN:Hid (ruleE s ch=0→∀v,v<s.tab.length→samB s.tab ch (nth cl) v (fstC cl v)=false→fitB s.tab ch cl=false):=zhd fun h0 v hv hh=>by
  cases e:fitB s.tab ch cl with
  | false=>rfl
  | true=>
   have:=(zbQ (yc h h0).1.tab (yc h h0).1.nodup).1 (zcj.1 e) v hv;rw[hh]at this;cases this
 have HRF:Hid (ruleE s ch=0→∀v,samB s.tab ch (nth cl) v v=true):=zhd fun h0 v=>Xg (yc h h0).1.nodup _ _ _;obtain ⟨r,hr⟩:=zn (verQ s ch cl);rw[←hr]at HQ1 HQ2 ⊢;obtain ⟨ca,cc,sa,sc,ta,tc,xa,xc,rfl,hc,hs,ht,hx⟩:=h.zf;obtain ⟨a2,c2,rfl,_⟩:=h2.form;obtain ⟨a3,c3,rfl,_⟩:=h3.form;have HC:Hid (∀k,k<cl.length→w.cell? (adr a3 k)=some (.int .i64 (nth cl k))):=zhd fun k hk=>h3.cellN hk;have HQ:Hid (∀k,k<cl.length→∀W:World,(Instr.indexAt 36 (.slice a3 cl.length c3) (.int .i64 k)).run Tryz.prog W=.ok (.pointer (some (adr a3 k))) W):=zhd fun k hk W=>h3.idx hk W;have HWF:=zhd h3.wf;obtain ⟨ex,R0,R1⟩:=zb2 w [s.p.n,s.p.ins,s.p.outs,.slice ca s.p.cs.length cc,s.p.an,.slice sa s.p.st.length sc,s.p.rounds,s.tn,.slice ta s.tab.length tc,.slice xa s.ex.length xc] [.slice a2 ch.length c2] 35 38;clear hc hs ht hx h2 h3 hf hr;go_enter Tryz.func18,Tryz.ntmps18;obtain ⟨t0,t1,t2,t3,t4,t5,t6,t7,t8,t9⟩:=R0.ten;have l0:=R0.lt;have r0:=R1.zc 0 rfl;have l1:=R1.lt;go_wp2_with fail;refine (KO.out _ ex).mono ?_;rintro _ w1 ⟨_,rfl,hb,hO⟩;replace R0:=R0.ext hb;replace R1:=R1.ext hb;replace ex:=za ex hb;clear hb KO t0 t1 t2 t3 t4 t5 t6 t7 t8 t9 l0 r0 l1;rcases hO with ⟨h0,g,rfl,hSc,_⟩ | ⟨h0,rfl⟩
 case inr=>
  have RE:=zhd (HQ1.out h0);obtain ⟨e,hee⟩:=zn (ruleE s ch);rw[←hee]at RE h0 ⊢;have d0:(e !=0)=true:=by simp[h0]
  clear h0 HQ1 HQ2 hee HFY HFN HRF;go_wp2;go_ret;exact .mk ex (zj RE.out.symm)
 have HV:=zhd (HQ2.out h0);have HY:=zhd (HFY.out h0);have HN:=zhd (HFN.out h0);have HR:=zhd (HRF.out h0);have HSc:=zhd hSc;have d0:((0:Int) !=0)=false:=rfl;clear h0 HQ1 HQ2 HFY HFN HRF hSc;obtain ⟨e,hee⟩:=zn (checkS cl);rw[←hee]at KC HV;clear hee;go_wp2_with fail;refine (KC.out _ ex).mono ?_;rintro _ w2 ⟨_,rfl,hb,rfl⟩;replace R0:=R0.ext hb;replace R1:=R1.ext hb;replace HSc:=zhd (HSc.out.ext hb);replace ex:=za ex hb;clear hb KC d0;by_cases h1:e=0
 case neg=>
  have RE:=zhd (HV.out.trans (if_neg h1));have d1:(e !=0)=true:=by simp[h1]
  clear h1 HV;go_wp2;go_ret;exact .mk ex (zj RE.out.symm)
 have HV1:=zhd (HV.out.trans (if_pos h1));have d1:(e !=0)=false:=by simp[h1]
 clear h1 HV;have t8:=R0.zc 8 rfl;have l0:=R0.lt;by_cases hl:cl.length=s.tab.length
 case neg=>
  have RE:=zhd (HV1.out.trans (if_neg hl));have d2:((cl.length:Int) !=(s.tab.length:Int))=true:=by rw[bne_iff_ne];omega
  clear hl HV1;go_wp2;go_ret;exact .mk ex (zj RE.out.symm)
 have HV2:=zhd (HV1.out.trans (if_pos hl));have d2:((cl.length:Int) !=(s.tab.length:Int))=false:=by rw[hl];simp
 have HL:=zhd hl;have hmm:=@run_makeMap Tryz.prog;have hc120:cl.length≤120:=by omega
 have hxm:=za ex (ze w2 (.map #[] 0));have HM0:Hid (MapV key52 (w2.alloc (.map #[] 0)) w2.heap.size (fstM cl 0) 0):=zhd (by rw[zd5];exact MapV.made key52 w2);have HScm:=zhd (HSc.out.ext (ze w2 (.map #[] 0)));have hsz:=ex.size;clear hl HV1;go_wp2;obtain ⟨MB,hMB⟩:=zn w2.heap.size;obtain ⟨w3,hw3⟩:=zn (w2.alloc (.map #[] 0));rw[←hMB]at HM0 hsz ⊢;rw[←hw3]at HM0 HScm hxm ⊢;have hb30:=Below.refl MB w3;have HEX3:=zhd hxm;have HMBs:Hid (MB<w3.heap.size):=zhd HM0.out.lt;have HScB:Hid (∀W,Below MB w3 W→ScnV (fun b=>b<MB) W g s ch):=zhd fun W hW=>by
  have h1:ScnV (fun b=>b<MB) w3 g s ch:=by
   rw[hw3];exact ((HSc.out.block).mono (A':=fun b=>b<MB) fun b hb=>by omega).ext (ze w2 _)
  exact h1.agree (.of_below hW fun b hb _=>hb)
 have HEW:Hid (∀W,Below MB w3 W→Below w.heap.size w W):=zhd fun W hW=>hxm.trans (hW.mono hsz);clear hmm hMB hw3 R0 R1 t8 l0 ex d1 d2 hxm HSc HScm;go_loopw [11,12,13,14,39] (fun _ _ _ _ iv wr=>∃k nn:Nat,k≤cl.length∧iv=.int .i64 k∧nn≤k∧Hid (MapV key52 wr MB (fstM cl k) nn)∧Hid (∀v,v<k→samB s.tab ch (nth cl) v (fstC cl v)=true)∧Below MB w3 wr) (fun _ _ _ _ iv _=>cl.length - (intOf iv).toNat)
 case atStart=>exact ⟨0,0,Nat.zero_le _,rfl,Nat.le_refl _,HM0,zhd fun v hv=>by omega,hb30⟩
 case round=>
  clear hb30 HM0;obtain ⟨k,nn,hk,rfl,hnn,HM,HZ,hb⟩:=hrel;by_cases hlt:k<cl.length
  case neg=>
   obtain rfl:k=cl.length:=by omega
   have RE:Hid (r=0):=zhd (HV2.out.trans (if_pos (HY.out fun v hv=>HZ.out v (by rw[HL.out];exact hv))));have HE3:=zhd (HEW.out _ hb);clear hb HM;go_wp2;go_ret;exact .mk HE3.out (zj RE.out.symm)
  have qk:=HQ.out k hlt;have ck:=zi (HC.out k hlt) (HEW.out _ hb);have bk:=World.block_lt_of_cell? _ _ ck;have hwf:WF (nth cl k):=HWF.out _ (ZO hlt);have HWk:=zhd hwf;have hkt:k<s.tab.length:=by have:=HL.out;omega
  have HZN:Hid (samB s.tab ch (nth cl) k (fstC cl k)=true→∀v,v<k+1→samB s.tab ch (nth cl) v (fstC cl v)=true):=zhd fun h v hv=>by
   by_cases e:v=k
   ·subst e;exact h
   ·exact HZ.out v (by omega)
  have HNk:=zhd (HN.out k hkt);have hst:=zd6 cl k;obtain ⟨c,hcc⟩:=zn (nth cl k);rw[←hcc]at ck hst HWk;clear hwf hcc;rcases hst with ⟨hm1,hm2,hm3⟩ | ⟨t,ht,hm1,hm2,hm3⟩
  ·have HMI:=zhd hm1;have HUPN:=zhd hm3;have HZ2:=zhd (HZN.out (by rw[hm2];exact HR.out k));have hMs:=HM.out.lt;clear hm1 hm2 hm3;go_wp2_with (first
    | (at_lookup;refine Yz rfl _ _ 91 rfl 3 Tryz.underlying91 (.int .i64 0) (qg _) rfl HM.out c rfl HWk.out HMI.out ?_)
    | (at_mapUpdate;refine Qo rfl _ _ _ 91 rfl 3 Tryz.underlying91 rfl HM.out (by unfold maxLen;omega) c rfl HWk.out (.int .i64 k) rfl ?_;intro w5 hM5 hg5))
   have HM5:Hid (MapV key52 w5 MB (fstM cl (k+1)) (nn+1)):=zhd (by
    rw[HUPN.out,HMI.out]at hM5;exact hM5)
   have hb5:Below MB w3 w5:=hb.grown hg5 (by omega) (fun q hq=>by injection hq with hq;omega);clear hM5 hg5 HM hb ck bk qk;go_wp2;go_roundw
   case rel=>exact ⟨k+1,nn+1,by omega,by go_num,by omega,HM5,HZ2,hb5⟩
   case measure=>simp[intOf];omega
  ·have HMI:=zhd hm1;rw[←hm3]at HM;have HMO:=zhd (show fstM cl (k+1) c=some (.int .i64 t) by rw[hm3];exact hm1);have htt:t<s.tab.length:=by omega
   have KS1:=zhd (KS.out _ wr g k t (HScB.out _ hb) HL.out hkt htt (HEW.out _ hb));rw[hm2]at HZN HNk;obtain ⟨b,hbb⟩:=zn (samB s.tab ch (nth cl) k t);rw[←hbb]at KS1 HZN HNk;have hMs:=HM.out.lt;clear hm1 hm2 hm3 hbb;go_wp2_with (at_lookup;refine Qv rfl _ _ 91 rfl 3 Tryz.underlying91 (.int .i64 0) (qg _) rfl HM.out c rfl HWk.out (.int .i64 t) HMO.out ?_);refine KS1.out.mono ?_;rintro _ w4 ⟨_,rfl,hb4,rfl⟩;have HM4:=zhd (HM.out.ext hb4);have hb5:Below MB w3 w4:=hb.trans (hb4.mono (by omega));clear hb4 KS1 HM hb ck bk qk;cases b with
   | true=>
    have HZ2:=zhd (HZN.out rfl);go_wp2;go_roundw
    case rel=>exact ⟨k+1,nn,by omega,by go_num,by omega,HM4,HZ2,hb5⟩
    case measure=>simp[intOf];omega
   | false=>
    have RE:Hid (r=18):=zhd (HV2.out.trans (by rw[HNk.out rfl];rfl));have HE3:=zhd (HEW.out _ hb5);clear hb5 HM4;go_wp2;go_ret;exact .mk HE3.out (zj RE.out.symm)
def PairR (B:Nat) (S:Nat→Prop) (s:SysF) (ch:List Int) (u x:Int) (w':World) (r:Value):Prop:=(pairE s ch u x=0∧∃g,r=.tuple #[.pointer (some ⟨g,0,none⟩),.int .i64 0]∧ScnV (fun b=>(S b∧b<B)∨B≤b) w' g s ch)∨(pairE s ch u x≠0∧r=.tuple #[.pointer none,pairE s ch u x])
theorem zeu {T:List (List Int)} {u x:Nat}:likB T u x=true↔prcT T u=prcT T x∧rndT T u=rndT T x:=by
 unfold likB;rw[Bool.and_eq_true,decide_eq_true_iff,decide_eq_true_iff]
theorem ZY {s:SysF} {ch:List Int} {u x:Int} (h:pairE s ch u x=0):ruleE s ch=0∧0≤u∧u<s.tab.length∧0≤x∧x<s.tab.length∧prcT s.tab u.toNat=prcT s.tab x.toNat∧rndT s.tab u.toNat=rndT s.tab x.toNat:=by
 unfold pairE at h;by_cases h0:ruleE s ch=0
 ·rw[if_pos h0]at h;by_cases h1:u<0∨(s.tab.length:Int)≤u∨x<0∨(s.tab.length:Int)≤x
  ·rw[if_pos h1]at h;cases h
  ·rw[if_neg h1]at h;by_cases h2:prcT s.tab u.toNat=prcT s.tab x.toNat∧rndT s.tab u.toNat=rndT s.tab x.toNat
   ·exact ⟨h0,by omega,by omega,by omega,by omega,h2.1,h2.2⟩
   ·rw[if_neg h2]at h;cases h
 ·rw[if_neg h0]at h;exact absurd h h0
theorem Yv {S:Nat→Prop} {w:World} {v vch:Value} {s:SysF} {ch:List Int} (u' x':Int) (h:SysV S w v s) (hf:PFew s.p) (h2:Ints S w vch ch) (hm:s.tab.length≤120):
  Calls Tryz.prog 52 #[v,.agg #[vch],u',x'] w (Post w (PairR w.heap.size S s ch u' x')):=by
 have KO:Hid (∀W,Below w.heap.size w W→Calls Tryz.prog 47 #[v,.agg #[vch]] W (Post W (OfQ W.heap.size (fun b=>S b∧b<W.heap.size) s ch))):=zhd fun W hW=>YG (h.ext hW) hf (h2.ext hW) hm;have HQ:Hid (pairE s ch u' x'=if ruleE s ch=0 then (if u'<0∨(s.tab.length:Int)≤u'∨x'<0∨(s.tab.length:Int)≤x' then 6 else if prcT s.tab u'.toNat=prcT s.tab x'.toNat∧rndT s.tab u'.toNat=rndT s.tab x'.toNat then 0 else 22) else ruleE s ch):=zhd rfl;have HO:Hid (∀w' g,pairE s ch u' x'=0→ScnV (fun b=>(S b∧b<w.heap.size)∨w.heap.size≤b) w' g s ch→PairR w.heap.size S s ch u' x' w' (.tuple #[.pointer (some ⟨g,0,none⟩),.int .i64 0])):=zhd fun w' g h0 hs=>.inl ⟨h0,g,rfl,hs⟩;have HE:Hid (∀w' e,pairE s ch u' x'=e→e≠0→PairR w.heap.size S s ch u' x' w' (.tuple #[.pointer none,e])):=zhd fun w' e h1 h0=>by subst h1;exact .inr ⟨h0,rfl⟩
 obtain ⟨PR,hPR⟩:=zn (PairR w.heap.size S s ch u' x');rw[←hPR]at HO HE ⊢;obtain ⟨r,hr⟩:=zn (pairE s ch u' x');rw[←hr]at HQ HO HE;obtain ⟨ca,cc,sa,sc,ta,tc,xa,xc,rfl,hc,hs,ht,hx⟩:=h.zf;obtain ⟨a2,c2,rfl,_⟩:=h2.form;obtain ⟨ex,R0,R1⟩:=zb2 w [s.p.n,s.p.ins,s.p.outs,.slice ca s.p.cs.length cc,s.p.an,.slice sa s.p.st.length sc,s.p.rounds,s.tn,.slice ta s.tab.length tc,.slice xa s.ex.length xc] [.slice a2 ch.length c2] 35 38;clear hc hs ht hx h2 hr hPR hf;go_enter Tryz.func52,Tryz.ntmps52;obtain ⟨t0,t1,t2,t3,t4,t5,t6,t7,t8,t9⟩:=R0.ten;have l0:=R0.lt;have r0:=R1.zc 0 rfl;have l1:=R1.lt;go_wp2_with fail;refine (KO.out _ ex).mono ?_;rintro _ w1 ⟨_,rfl,hb,hO⟩;replace R0:=R0.ext hb;replace R1:=R1.ext hb;replace ex:=za ex hb;clear hb KO t0 t1 t2 t3 t4 t5 t6 t7 t8 t9 l0 r0 l1;rcases hO with ⟨h0,g,rfl,hSc,_⟩ | ⟨h0,rfl⟩
 case inr=>
  have RE:=zhd (HE.out w1 _ (HQ.out.trans (if_neg h0)) h0);obtain ⟨e,hee⟩:=zn (ruleE s ch);rw[←hee]at RE h0 ⊢;have d0:(e !=0)=true:=by simp[h0]
  clear h0 HO HE hee HQ;go_wp2;go_ret2;exact .mk ex RE.out
 have HQ1:=zhd (HQ.out.trans (if_pos h0));have hszw:=ex.size;have HSc:=zhd hSc;have d0:((0:Int) !=0)=false:=rfl;clear h0 HQ hSc;have t8:=R0.zc 8 rfl;have l0:=R0.lt;by_cases h1:u'<0
 ·have dh1:decide (u'<0)=true:=decide_eq_true h1;have RE:=zhd (HE.out w1 6 (HQ1.out.trans (if_pos (.inl h1))) (by decide));clear h1 HQ1 HO HE HSc;go_wp2;go_ret2;exact .mk ex RE.out
 have dh1:decide (u'<0)=false:=decide_eq_false (by omega);by_cases h2:(s.tab.length:Int)≤u'
 ·have dh2:decide ((s.tab.length:Int)≤u')=true:=decide_eq_true h2;have RE:=zhd (HE.out w1 6 (HQ1.out.trans (if_pos (.inr (.inl h2)))) (by decide));clear h2 HQ1 HO HE HSc;go_wp2;go_ret2;exact .mk ex RE.out
 have dh2:decide ((s.tab.length:Int)≤u')=false:=decide_eq_false (by omega);by_cases h3:x'<0
 ·have dh3:decide (x'<0)=true:=decide_eq_true h3;have RE:=zhd (HE.out w1 6 (HQ1.out.trans (if_pos (.inr (.inr (.inl h3))))) (by decide));clear h3 HQ1 HO HE HSc;go_wp2;go_ret2;exact .mk ex RE.out
 have dh3:decide (x'<0)=false:=decide_eq_false (by omega);by_cases h4:(s.tab.length:Int)≤x'
 ·have dh4:decide ((s.tab.length:Int)≤x')=true:=decide_eq_true h4;have RE:=zhd (HE.out w1 6 (HQ1.out.trans (if_pos (.inr (.inr (.inr h4))))) (by decide));clear h4 HQ1 HO HE HSc;go_wp2;go_ret2;exact .mk ex RE.out
 have dh4:decide ((s.tab.length:Int)≤x')=false:=decide_eq_false (by omega);have HQ2:=zhd (HQ1.out.trans (if_neg (fun h=>by omega)));obtain ⟨u,rfl⟩:∃u:Nat,u'=u:=⟨u'.toNat,by omega⟩;obtain ⟨x,rfl⟩:∃x:Nat,x'=x:=⟨x'.toNat,by omega⟩;rw[Int.toNat_natCast,Int.toNat_natCast]at HQ2;have hu:u<s.tab.length:=by omega
 have hx:x<s.tab.length:=by omega
 have n2:decide (s.tab.length≤u)=false:=decide_eq_false (by omega);have n4:decide (s.tab.length≤x)=false:=decide_eq_false (by omega);have KA:=zhd (Z8 HSc.out hu hx);have HB1:Hid (likB s.tab u x=true→r=0):=zhd fun hb=>by rw[HQ2.out,if_pos (zeu.1 hb)]
 have HB0:Hid (likB s.tab u x=false→r=22):=zhd fun hb=>by rw[HQ2.out,if_neg (fun h=>by rw[zeu.2 h]at hb;cases hb)]
 obtain ⟨b,hbb⟩:=zn (likB s.tab u x);rw[←hbb]at KA HB1 HB0;clear hu hx hbb HQ1 HQ2 h1 h2 h3 h4;go_wp2_with fail;refine KA.out.mono ?_;rintro _ w2 ⟨_,rfl,hb2,rfl⟩;have HS2:=zhd (HSc.out.ext hb2);replace ex:=za ex hb2;clear hb2 KA HSc t8 l0 R0 R1;cases b with
 | true=>
  have RE:=zhd (HO.out w2 g (HB1.out rfl) (HS2.out.mono fun b hb=>by
   rcases hb with ⟨h1,h2⟩ | h1
   ·by_cases h:b<w.heap.size
    ·exact .inl ⟨h1,h⟩
    ·exact .inr (by omega)
   ·exact .inr (by simp only[World.size_alloc]at h1;omega)))
  clear HO HE HB1 HB0 HS2;go_wp2;go_ret2;exact .mk ex RE.out
 | false=>
  have RE:=zhd (HE.out w2 22 (HB0.out rfl) (by decide));clear HO HE HB1 HB0 HS2;go_wp2;go_ret2;exact .mk ex RE.out
theorem zcX {S:Nat→Prop} {w:World} {a:Option Addr} {cap:Nat} {l:List Int} (h:Ints S w (.slice a l.length cap) l) (h1:0<l.length):
  ∃a' cap',(∀W:World,(Instr.slice 36 (.slice a l.length cap) (some (.int .i64 1)) none none).run Tryz.prog W=.ok (.slice a' (l.length - 1) cap') W)∧Ints S w (.slice a' (l.length - 1) cap') (l.drop 1):=by
 obtain ⟨i,hi,hz,h2,hz3⟩:=info_parts zG;obtain ⟨a0,cap0,e,had,hl,hm,hc,hf⟩:=h;simp only[Value.slice.injEq,true_and]at e;obtain ⟨rfl,rfl⟩:=e;have hE:Tryz.prog.elem 36=3:=by simp[Program.elem,Tryz.underlying36]
 rcases had with ⟨h0,_⟩ | ⟨b,off,rfl,hb,hs⟩
 ·omega
 refine ⟨if l.length=1∧cap=1 then some ⟨b,off,none⟩ else if cap=1 then some ⟨b,off,none⟩ else some ⟨b,off+1,none⟩,cap - 1,fun W=>?_,?_⟩
 ·rw[run_slice_l (w:=W) 36 _ _ _ (by rw[hE];exact Tryz.underlying36) .i64 1 (by omega) (by omega),hE];by_cases e:cap=1<;>simp[sizeOf,typeInfo,hi,h2,Result.andThen,sliced,Addr.add,e]
 ·have hd:(l.drop 1).length=l.length - 1:=by simp
  refine ⟨_,_,by rw[hd],?_,by omega,by omega,fun j hj=>?_,fun y hy=>hf y (List.mem_of_mem_drop hy)⟩
  ·by_cases e:cap=1
   ·rw[if_pos e,ite_self];exact .inr ⟨b,off,rfl,hb,hs⟩
   ·rw[if_neg e,if_neg (fun h=>e h.2)];exact .inr ⟨b,off+1,rfl,hb,hs⟩
  ·rw[hd]at hj;rw[if_neg (fun h=>by omega),if_neg (by omega)];have:=hc (j+1) (by omega);rw[zW]at this;rw[zW,show off+1+j=off+(j+1) by omega,this];cases l with
   | nil=>simp at h1
   | cons a l=>simp[nth]
theorem zeK {T:List (List Int)} {ch:List Int} {x:Nat} {o:Int} {l:List Int} {k:Nat} (h:l.length≤k):outP T ch x o (l.drop k)=endB ch x o:=by
 rw[List.drop_eq_nil_of_le h];rfl
theorem Z2 {S S3:Nat→Prop} {w:World} {v vch vl:Value} {s:SysF} {ch l:List Int} (u' x':Int) (h:SysV S w v s) (hf:PFew s.p) (h2:Ints S w vch ch) (h3:Ints S3 w vl l) (hm:s.tab.length≤120):
  Calls Tryz.prog 23 #[v,.agg #[vch],u',x',vl] w (Post w fun _ r=>r=.int .i64 (aprE s ch u' x' l)):=by
 have KP:Hid (∀W,Below w.heap.size w W→Calls Tryz.prog 52 #[v,.agg #[vch],u',x'] W (Post W (PairR W.heap.size S s ch u' x'))):=zhd fun W hW=>Yv u' x' (h.ext hW) hf (h2.ext hW) hm;have HQ:=zhd (zeX s ch u' x' l);have HI:Hid (∀k,inE s.tab.length l k=if nth l k<0∨(s.tab.length:Int)≤nth l k then 6 else 0):=zhd fun k=>rfl;have HG:Hid (pairE s ch u' x'=0→∃u x:Nat,u'=u∧x'=x∧u<s.tab.length∧x<s.tab.length∧TabOK s.N s.K s.tab):=zhd fun h0=>by
  obtain ⟨hr0,hu1,hu2,hx1,hx2,_,_⟩:=ZY h0;exact ⟨u'.toNat,x'.toNat,by omega,by omega,by omega,by omega,(yc h hr0).1.tab⟩
 obtain ⟨r,hr⟩:=zn (aprE s ch u' x' l);rw[←hr]at HQ ⊢;obtain ⟨ca,cc,sa,sc,ta,tc,xa,xc,rfl,hc,hs,ht,hx⟩:=h.zf;obtain ⟨_,_,hee2,tad,_⟩:=ht.form2;cases hee2;obtain ⟨i0,hi,hz⟩:=zI zP;have HQV:=zhd (zH Tryz.underlying30 hi hz tad);have HTV:=zhd ht;obtain ⟨a2,c2,rfl,_⟩:=h2.form;obtain ⟨a3,c3,rfl,_⟩:=h3.form;have HQI:Hid (∀k,k<l.length→∀W:World,(Instr.indexAt 36 (.slice a3 l.length c3) (.int .i64 k)).run Tryz.prog W=.ok (.pointer (some (adr a3 k))) W):=zhd fun k hk W=>h3.idx hk W;have HC:Hid (∀k,k<l.length→w.cell? (adr a3 k)=some (.int .i64 (nth l k))):=zhd fun k hk=>h3.cellN hk;have HTL:Hid (0<l.length→∃a' c',(∀W:World,(Instr.slice 36 (.slice a3 l.length c3) (some (.int .i64 1)) none none).run Tryz.prog W=.ok (.slice a' (l.length - 1) c') W)∧Ints S3 w (.slice a' (l.length - 1) c') (l.drop 1)):=zhd fun h0=>zcX h3 h0;obtain ⟨ex,R0,R1⟩:=zb2 w [s.p.n,s.p.ins,s.p.outs,.slice ca s.p.cs.length cc,s.p.an,.slice sa s.p.st.length sc,s.p.rounds,s.tn,.slice ta s.tab.length tc,.slice xa s.ex.length xc] [.slice a2 ch.length c2] 35 38;clear hc hs ht hx h2 h3 hr hf hi hz tad;go_enter Tryz.func23,Tryz.ntmps23;obtain ⟨t0,t1,t2,t3,t4,t5,t6,t7,t8,t9⟩:=R0.ten;have l0:=R0.lt;have r0:=R1.zc 0 rfl;have l1:=R1.lt;go_wp2_with fail;refine (KP.out _ ex).mono ?_;rintro _ w1 ⟨_,rfl,hb,hO⟩;replace R0:=R0.ext hb;replace R1:=R1.ext hb;replace ex:=za ex hb;clear hb KP t0 t1 t2 t3 t4 t5 t6 t7 t8 t9 l0 r0 l1;rcases hO with ⟨h0,g,rfl,hSc⟩ | ⟨h0,rfl⟩
 case inr=>
  have RE:=zhd (HQ.out.trans (if_neg h0));obtain ⟨e,hee⟩:=zn (pairE s ch u' x');rw[←hee]at RE h0 ⊢;have d0:(e !=0)=true:=by simp[h0]
  clear h0 HQ HG hee HTV HQV HTL;go_wp2;go_ret;exact .mk ex (zj RE.out.symm)
 have HQ1:=zhd (HQ.out.trans (if_pos h0));obtain ⟨u,x,rfl,rfl,hu,hx,htb⟩:=HG.out h0;rw[Int.toNat_natCast,Int.toNat_natCast]at HQ1;have HTB:=zhd htb;have HSc:Hid (∃Am,ScnV Am w1 g s ch):=zhd ⟨_,hSc⟩;have d0:((0:Int) !=0)=false:=rfl;obtain ⟨A,hA⟩:=zn (aprB s.tab ch u x l);rw[←hA]at HQ1;clear h0 HQ HG htb hSc R1;by_cases h1:l.length=0
 ·have RE:=zhd (HQ1.out.trans (if_pos h1));have d1:((l.length:Int)==0)=true:=by simp[h1]
  clear h1 HQ1 HTV HQV HTL hA;go_wp2;go_ret;exact .mk ex (zj RE.out.symm)
 have HQ2:=zhd (HQ1.out.trans (if_neg h1));have d1:((l.length:Int)==0)=false:=by rw[beq_eq_false_iff_ne];omega
 clear HQ1;by_cases h7:7<l.length
 ·have RE:=zhd (HQ2.out.trans (if_pos h7));have d2:decide ((7:Int)<(l.length:Int))=true:=decide_eq_true (by omega);have d2':decide (7<l.length)=true:=decide_eq_true h7;clear h1 h7 HQ2 HTV HQV HTL hA;go_wp2;go_ret;exact .mk ex (zj RE.out.symm)
 have HQ3:=zhd (HQ2.out.trans (if_neg h7));have d2:decide ((7:Int)<(l.length:Int))=false:=decide_eq_false (by omega);have d2':decide (7<l.length)=false:=decide_eq_false h7;have hl7:l.length≤7:=by omega
 have hl0:0<l.length:=by omega
 clear HQ2 h1 h7;obtain ⟨a4,c4,qs,ht4⟩:=HTL.out hl0;have hdl:(l.drop 1).length=l.length - 1:=by simp
 have HQT:Hid (∀k,k<l.length - 1→∀W:World,(Instr.indexAt 36 (.slice a4 (l.length - 1) c4) (.int .i64 k)).run Tryz.prog W=.ok (.pointer (some (adr a4 k))) W):=zhd fun k hk W=>by
  have:=ht4.idx (k:=k) (by rw[hdl];exact hk) W;exact this
 have HCT:Hid (∀k,k<l.length - 1→w.cell? (adr a4 k)=some (.int .i64 (nth l (k+1)))):=zhd fun k hk=>by
  have:=ht4.cellN (k:=k) (by rw[hdl];exact hk);rw[this];simp[nth,Nat.add_comm]
 obtain ⟨n1,hn1⟩:∃n,n=l.length - 1:=⟨_,rfl⟩;have HN1:Hid (l.length=n1+1):=zhd (by omega);have hn7:n1≤6:=by omega
 rw[←hn1]at HQT HCT qs;have HA:=zhd hA;clear hn1 HTL ht4 hdl hA;go_wp2;clear d0 d1 d2 d2';go_loopw [14,41] (fun _ i wr=>∃k:Nat,k≤l.length∧i=.int .i64 k∧Hid (Zeros (inE s.tab.length l) k)∧Below w.heap.size w wr∧Row wr w.heap.size 35 [s.p.n,s.p.ins,s.p.outs,.slice ca s.p.cs.length cc,s.p.an,.slice sa s.p.st.length sc,s.p.rounds,s.tn,.slice ta s.tab.length tc,.slice xa s.ex.length xc]∧Hid (∃Am,ScnV Am wr g s ch)) (fun _ i _=>l.length - (intOf i).toNat)
 case atStart=>exact ⟨0,Nat.zero_le _,rfl,zhd (Zeros.zero _),ex,R0,HSc⟩
 case round=>
  clear ex R0 HSc;obtain ⟨k,hk,rfl,HZ,ex,R0,HSc⟩:=hrel;by_cases hlt:k<l.length
  case neg=>
   obtain rfl:k=l.length:=by omega
   have HQ4:=zhd (HQ3.out.trans (if_pos (HZ.out.done (Nat.le_refl _))));have hrg:=zcx HZ.out;have HRG:=zhd hrg;obtain ⟨z0,hz0,hz0n⟩:=hrg 0 hl0;have q0:∀W:World,(Instr.indexAt 36 (.slice a3 l.length c3) (.int .i64 0)).run Tryz.prog W=.ok (.pointer (some (adr a3 0))) W:=HQI.out 0 hl0;have c0:=HC.out 0 hl0;rw[hz0]at c0;replace c0:=zi c0 ex;have b0:=World.block_lt_of_cell? _ _ c0;have hd0:l=(z0:Int)::l.drop 1:=by have:=xM hl0;rw[List.drop_zero,hz0]at this;exact this
   have HA2:Hid (A=if (z0:Int)=(x:Int) then outP s.tab ch x u (l.drop 1) else if (z0:Int)=(u:Int) then outP s.tab ch u x (l.drop 1) else false):=zhd (by
    have e:aprB s.tab ch u x ((z0:Int)::l.drop 1)=(if (z0:Int)=(x:Int) then outP s.tab ch x u (l.drop 1) else if (z0:Int)=(u:Int) then outP s.tab ch u x (l.drop 1) else false):=rfl;rw[←hd0]at e;rw[HA.out];exact e)
   clear HQ3 hlt HZ hd0 hrg HI HA hk;by_cases he:z0=x
   ·have d1:((z0:Int)==(x:Int))=true:=by rw[he];simp
    have HA0:Hid (A=outP s.tab ch z0 u (l.drop (0+1))):=zhd (by rw[he];exact HA2.out.trans (if_pos (by rw[he])));clear HA2 he;go_wp2;clear q0 c0 b0 d1;go_loopw [15,16,17,18,70] (fun ov _ _ _ iv wr=>∃(j z:Nat) (o:Int),j+1≤l.length∧iv=.int .i64 j∧ov=.int .i64 o∧(-1≤o∧o<s.tab.length)∧(nth l j=(z:Int)∧z<s.tab.length)∧Hid (A=outP s.tab ch z o (l.drop (j+1)))∧Below w.heap.size w wr∧Row wr w.heap.size 35 [s.p.n,s.p.ins,s.p.outs,.slice ca s.p.cs.length cc,s.p.an,.slice sa s.p.st.length sc,s.p.rounds,s.tn,.slice ta s.tab.length tc,.slice xa s.ex.length xc]∧Hid (∃Am,ScnV Am wr g s ch)) (fun _ _ _ _ iv _=>l.length - (intOf iv).toNat)
    case atStart=>exact ⟨0,z0,u,by omega,rfl,rfl,⟨by omega,by omega⟩,⟨hz0,hz0n⟩,HA0,ex,R0,HSc⟩
    case round=>
     clear ex R0 HSc HA0;obtain ⟨j,z,o,hj,rfl,rfl,ho,⟨hz,hzn⟩,HO,ex,R0,HSc⟩:=hrel;obtain ⟨Am,hAm⟩:=HSc.out;have qj:=HQI.out j (by omega);have cj:=HC.out j (by omega);rw[hz]at cj;by_cases hlt:j<n1
     case neg=>
      have hml:j+1=l.length:=by have:=HN1.out;omega
      have DW:IntKind.i64.wrap ((l.length:Int) - 1)=(j:Int):=by rw[IntWalk.i64_left,IntWalk.wrap64_in _ (by omega)];omega
      have HO2:Hid (A=endB ch z o):=zhd (by rw[HO.out,zeK (by omega)]);replace cj:=zi cj ex;have bj:=World.block_lt_of_cell? _ _ cj;have KE:=zhd (fun W (hW:Below wr.heap.size wr W)=>Zg (hAm.ext hW) hzn ho.2);have l0:=R0.lt;obtain ⟨b,hb⟩:=zn (endB ch z o);rw[←hb]at KE HO2;clear HO hz hml hb hAm HSc;go_wp2_with fail;refine (KE.out _ (.refl _ _)).mono ?_;rintro _ w9 ⟨_,rfl,hb9,rfl⟩;replace ex:=za ex hb9;clear hb9 KE R0 l0 cj bj;cases b with
      | true=>
       have RE:Hid (r=0):=zhd (HQ4.out.trans (if_pos HO2.out));go_wp2;go_ret;exact .mk ex (zj RE.out.symm)
      | false=>
       have RE:Hid (r=18):=zhd (HQ4.out.trans (if_neg (by rw[HO2.out];decide)));go_wp2;go_ret;exact .mk ex (zj RE.out.symm)
     obtain ⟨y,hy,hyn⟩:=HRG.out (j+1) (by have:=HN1.out;omega);have qt:=HQT.out j hlt;have ct:=HCT.out j hlt;rw[hy]at ct;replace ct:=zi ct ex;replace cj:=zi cj ex;have bt:=World.block_lt_of_cell? _ _ ct;have bj:=World.block_lt_of_cell? _ _ cj;have HO2:Hid (A=(decide (0≤o)&&(hrsB s.tab y z&&outP s.tab ch y (repT s.tab y z o) (l.drop (j+1+1))))):=zhd (by rw[HO.out,zcu (by have:=HN1.out;omega) hy]);have HY:=zhd hy;have t8:=R0.zc 8 rfl;have l0:=R0.lt;have yb:=fun n=>za ex (zb wr.heap.size wr n);have y0:=fun n=>R0.ext (zb wr.heap.size wr n);have ys:=fun n=>zhd (hAm.ext (zb wr.heap.size wr n));by_cases ho0:o<0
     ·have d1:decide (o<0)=true:=decide_eq_true ho0;have HA1:Hid (A=false):=zhd (by rw[HO2.out,decide_eq_false (by omega),Bool.false_and]);have RE:Hid (r=18):=zhd (HQ4.out.trans (if_neg (by rw[HA1.out];decide)));clear ho HO HO2 hz hy hAm HSc ys y0 R0 ex;go_wp2;go_quiet (fail);go_wp2;go_ret;exact .mk (yb _) (zj RE.out.symm)
     have d1:decide (o<0)=false:=decide_eq_false ho0;have HO3:Hid (A=(hrsB s.tab y z&&outP s.tab ch y (repT s.tab y z o) (l.drop (j+1+1)))):=zhd (by rw[HO2.out,decide_eq_true (show 0≤o by omega),Bool.true_and]);have HRL:=zhd (qU (T:=s.tab) (u:=y) (w:=z) (b:=o));have HWO:Hid (WF o):=zhd (WF.small (by omega));have hTV:=HTV.out.ext ex;have zq:=HQV.out z hzn;have yq:=HQV.out y hyn;obtain ⟨e0,p5,_⟩:=yG HTB.out hzn;obtain ⟨cz,_⟩:=hTV.nums (k:=z) hzn (by decide);obtain ⟨cy0,cyr⟩:=hTV.nums (k:=y) hyn (by decide);have cy:=cyr (3+prcT s.tab z) (by omega);rw[e0]at cz;have HH:Hid (hrsB s.tab y z=decide (nth (nthL s.tab y) (3+prcT s.tab z)=(z:Int))):=zhd rfl;obtain ⟨hv,hhv⟩:=zn (nth (nthL s.tab y) (3+prcT s.tab z));rw[←hhv]at cy HH;obtain ⟨pz,hpz⟩:=zn (prcT s.tab z);rw[←hpz]at cz cy p5;have xi:=yX (adr ta (y * 8)).block ((adr ta (y * 8)).off+3) p5;rw[←Nat.add_assoc]at cy;have bz:=World.block_lt_of_cell? _ _ cz;have by0:=World.block_lt_of_cell? _ _ cy0;clear HO HO2 hz hy cyr cy0 hhv hpz e0 hTV R0 ex hAm HSc;by_cases hh:hv=(z:Int)
     case neg=>
      have d2:(hv !=(z:Int))=true:=by simp[hh]
      have HA1:Hid (A=false):=zhd (by rw[HO3.out,HH.out,decide_eq_false hh,Bool.false_and]);have RE:Hid (r=18):=zhd (HQ4.out.trans (if_neg (by rw[HA1.out];decide)));clear ho HO3 HH hh;go_wp2;go_quiet (fail);go_wp2;go_ret;exact .mk (yb _) (zj RE.out.symm)
     have d2:(hv !=(z:Int))=false:=by simp[hh]
     have HO4:Hid (A=outP s.tab ch y (repT s.tab y z o) (l.drop (j+1+1))):=zhd (by rw[HO3.out,HH.out,decide_eq_true hh,Bool.true_and]);have KR:=zhd (fun n W (hW:Below (wr.drewN n).heap.size (wr.drewN n) W)=>ZR (b:=o) ((ys n).out.ext hW) hyn hzn HWO.out);obtain ⟨o2,ho2⟩:=zn (repT s.tab y z o);rw[←ho2]at KR HO4 HRL;have HYN:=zhd hyn;clear ho HO3 HH hh ho2;go_wp2;go_quiet (fail);clear cy cz bz by0 xi zq yq d1 d2 qt ct bt qj cj bj t8 l0;go_wp2_with fail;refine (KR.out _ _ (.refl _ _)).mono ?_;rintro _ w9 ⟨_,rfl,hb9,rfl⟩;have ex:=za (yb _) hb9;have R0:=(y0 _).ext hb9;have HSc:Hid (∃Am,ScnV Am w9 g s ch):=zhd ⟨Am,(ys _).out.ext hb9⟩;clear hb9 KR yb y0 ys;go_wp2;go_roundw
     case rel=>exact ⟨j+1,y,o2,by have:=HN1.out;omega,by go_num,rfl,HRL.out,⟨HY.out,HYN.out⟩,HO4,ex,R0,HSc⟩
     case measure=>simp[intOf];omega
   have d1:((z0:Int)==(x:Int))=false:=by rw[beq_eq_false_iff_ne];omega
   have HA1:=zhd (HA2.out.trans (if_neg (by omega)));by_cases he2:z0=u
   ·have d2:((z0:Int)==(u:Int))=true:=by rw[he2];simp
    have HA0:Hid (A=outP s.tab ch z0 x (l.drop (0+1))):=zhd (by rw[he2];exact HA1.out.trans (if_pos (by rw[he2])));clear HA2 HA1 he he2;go_wp2;clear q0 c0 b0 d1 d2;go_loopw [15,16,17,18,70] (fun ov _ _ _ iv wr=>∃(j z:Nat) (o:Int),j+1≤l.length∧iv=.int .i64 j∧ov=.int .i64 o∧(-1≤o∧o<s.tab.length)∧(nth l j=(z:Int)∧z<s.tab.length)∧Hid (A=outP s.tab ch z o (l.drop (j+1)))∧Below w.heap.size w wr∧Row wr w.heap.size 35 [s.p.n,s.p.ins,s.p.outs,.slice ca s.p.cs.length cc,s.p.an,.slice sa s.p.st.length sc,s.p.rounds,s.tn,.slice ta s.tab.length tc,.slice xa s.ex.length xc]∧Hid (∃Am,ScnV Am wr g s ch)) (fun _ _ _ _ iv _=>l.length - (intOf iv).toNat)
    case atStart=>exact ⟨0,z0,x,by omega,rfl,rfl,⟨by omega,by omega⟩,⟨hz0,hz0n⟩,HA0,ex,R0,HSc⟩
    case round=>
     clear ex R0 HSc HA0;obtain ⟨j,z,o,hj,rfl,rfl,ho,⟨hz,hzn⟩,HO,ex,R0,HSc⟩:=hrel;obtain ⟨Am,hAm⟩:=HSc.out;have qj:=HQI.out j (by omega);have cj:=HC.out j (by omega);rw[hz]at cj;by_cases hlt:j<n1
     case neg=>
      have hml:j+1=l.length:=by have:=HN1.out;omega
      have DW:IntKind.i64.wrap ((l.length:Int) - 1)=(j:Int):=by rw[IntWalk.i64_left,IntWalk.wrap64_in _ (by omega)];omega
      have HO2:Hid (A=endB ch z o):=zhd (by rw[HO.out,zeK (by omega)]);replace cj:=zi cj ex;have bj:=World.block_lt_of_cell? _ _ cj;have KE:=zhd (fun W (hW:Below wr.heap.size wr W)=>Zg (hAm.ext hW) hzn ho.2);have l0:=R0.lt;obtain ⟨b,hb⟩:=zn (endB ch z o);rw[←hb]at KE HO2;clear HO hz hml hb hAm HSc;go_wp2_with fail;refine (KE.out _ (.refl _ _)).mono ?_;rintro _ w9 ⟨_,rfl,hb9,rfl⟩;replace ex:=za ex hb9;clear hb9 KE R0 l0 cj bj;cases b with
      | true=>
       have RE:Hid (r=0):=zhd (HQ4.out.trans (if_pos HO2.out));go_wp2;go_ret;exact .mk ex (zj RE.out.symm)
      | false=>
       have RE:Hid (r=18):=zhd (HQ4.out.trans (if_neg (by rw[HO2.out];decide)));go_wp2;go_ret;exact .mk ex (zj RE.out.symm)
     obtain ⟨y,hy,hyn⟩:=HRG.out (j+1) (by have:=HN1.out;omega);have qt:=HQT.out j hlt;have ct:=HCT.out j hlt;rw[hy]at ct;replace ct:=zi ct ex;replace cj:=zi cj ex;have bt:=World.block_lt_of_cell? _ _ ct;have bj:=World.block_lt_of_cell? _ _ cj;have HO2:Hid (A=(decide (0≤o)&&(hrsB s.tab y z&&outP s.tab ch y (repT s.tab y z o) (l.drop (j+1+1))))):=zhd (by rw[HO.out,zcu (by have:=HN1.out;omega) hy]);have HY:=zhd hy;have t8:=R0.zc 8 rfl;have l0:=R0.lt;have yb:=fun n=>za ex (zb wr.heap.size wr n);have y0:=fun n=>R0.ext (zb wr.heap.size wr n);have ys:=fun n=>zhd (hAm.ext (zb wr.heap.size wr n));by_cases ho0:o<0
     ·have d1:decide (o<0)=true:=decide_eq_true ho0;have HA1:Hid (A=false):=zhd (by rw[HO2.out,decide_eq_false (by omega),Bool.false_and]);have RE:Hid (r=18):=zhd (HQ4.out.trans (if_neg (by rw[HA1.out];decide)));clear ho HO HO2 hz hy hAm HSc ys y0 R0 ex;go_wp2;go_quiet (fail);go_wp2;go_ret;exact .mk (yb _) (zj RE.out.symm)
     have d1:decide (o<0)=false:=decide_eq_false ho0;have HO3:Hid (A=(hrsB s.tab y z&&outP s.tab ch y (repT s.tab y z o) (l.drop (j+1+1)))):=zhd (by rw[HO2.out,decide_eq_true (show 0≤o by omega),Bool.true_and]);have HRL:=zhd (qU (T:=s.tab) (u:=y) (w:=z) (b:=o));have HWO:Hid (WF o):=zhd (WF.small (by omega));have hTV:=HTV.out.ext ex;have zq:=HQV.out z hzn;have yq:=HQV.out y hyn;obtain ⟨e0,p5,_⟩:=yG HTB.out hzn;obtain ⟨cz,_⟩:=hTV.nums (k:=z) hzn (by decide);obtain ⟨cy0,cyr⟩:=hTV.nums (k:=y) hyn (by decide);have cy:=cyr (3+prcT s.tab z) (by omega);rw[e0]at cz;have HH:Hid (hrsB s.tab y z=decide (nth (nthL s.tab y) (3+prcT s.tab z)=(z:Int))):=zhd rfl;obtain ⟨hv,hhv⟩:=zn (nth (nthL s.tab y) (3+prcT s.tab z));rw[←hhv]at cy HH;obtain ⟨pz,hpz⟩:=zn (prcT s.tab z);rw[←hpz]at cz cy p5;have xi:=yX (adr ta (y * 8)).block ((adr ta (y * 8)).off+3) p5;rw[←Nat.add_assoc]at cy;have bz:=World.block_lt_of_cell? _ _ cz;have by0:=World.block_lt_of_cell? _ _ cy0;clear HO HO2 hz hy cyr cy0 hhv hpz e0 hTV R0 ex hAm HSc;by_cases hh:hv=(z:Int)
     case neg=>
      have d2:(hv !=(z:Int))=true:=by simp[hh]
      have HA1:Hid (A=false):=zhd (by rw[HO3.out,HH.out,decide_eq_false hh,Bool.false_and]);have RE:Hid (r=18):=zhd (HQ4.out.trans (if_neg (by rw[HA1.out];decide)));clear ho HO3 HH hh;go_wp2;go_quiet (fail);go_wp2;go_ret;exact .mk (yb _) (zj RE.out.symm)
     have d2:(hv !=(z:Int))=false:=by simp[hh]
     have HO4:Hid (A=outP s.tab ch y (repT s.tab y z o) (l.drop (j+1+1))):=zhd (by rw[HO3.out,HH.out,decide_eq_true hh,Bool.true_and]);have KR:=zhd (fun n W (hW:Below (wr.drewN n).heap.size (wr.drewN n) W)=>ZR (b:=o) ((ys n).out.ext hW) hyn hzn HWO.out);obtain ⟨o2,ho2⟩:=zn (repT s.tab y z o);rw[←ho2]at KR HO4 HRL;have HYN:=zhd hyn;clear ho HO3 HH hh ho2;go_wp2;go_quiet (fail);clear cy cz bz by0 xi zq yq d1 d2 qt ct bt qj cj bj t8 l0;go_wp2_with fail;refine (KR.out _ _ (.refl _ _)).mono ?_;rintro _ w9 ⟨_,rfl,hb9,rfl⟩;have ex:=za (yb _) hb9;have R0:=(y0 _).ext hb9;have HSc:Hid (∃Am,ScnV Am w9 g s ch):=zhd ⟨Am,(ys _).out.ext hb9⟩;clear hb9 KR yb y0 ys;go_wp2;go_roundw
     case rel=>exact ⟨j+1,y,o2,by have:=HN1.out;omega,by go_num,rfl,HRL.out,⟨HY.out,HYN.out⟩,HO4,ex,R0,HSc⟩
     case measure=>simp[intOf];omega
   have d2:((z0:Int)==(u:Int))=false:=by rw[beq_eq_false_iff_ne];omega
   have HA0:Hid (A=false):=zhd (HA1.out.trans (if_neg (by omega)));have RE:Hid (r=18):=zhd (HQ4.out.trans (if_neg (by rw[HA0.out];decide)));clear HA2 HA1 he he2;go_wp2;go_ret;exact .mk ex (zj RE.out.symm)
  have q1:=HQI.out k hlt;have c1:=zi (HC.out k hlt) ex;have b1:=World.block_lt_of_cell? _ _ c1;have HE:=zhd (HI.out k);have HST:Hid (∀u:Int,inE s.tab.length l k=u→u≠0→r=u):=zhd fun u hu hu0=>by
   have:=HZ.out.stop hu hu0 hlt;rw[HQ3.out,if_neg (by rw[this];exact hu0),this]
  have HNX:Hid (inE s.tab.length l k=0→Zeros (inE s.tab.length l) (k+1)):=zhd fun h=>HZ.out.next h;obtain ⟨xk,hxx⟩:∃x,x=nth l k:=⟨_,rfl⟩;rw[←hxx]at c1 HE;have t8:=R0.zc 8 rfl;have l0:=R0.lt;obtain ⟨Am,hAm⟩:=HSc.out;clear hxx;by_cases h1:xk<0
  ·have RE:=zhd (HST.out 6 (HE.out.trans (if_pos (.inl h1))) (by decide));have d1:decide (xk<0)=true:=decide_eq_true h1;clear h1;go_wp2;go_ret;exact .mk ex (zj RE.out.symm)
  have d1:decide (xk<0)=false:=decide_eq_false h1;by_cases h2:(s.tab.length:Int)≤xk
  ·have RE:=zhd (HST.out 6 (HE.out.trans (if_pos (.inr h2))) (by decide));have d2:decide ((s.tab.length:Int)≤xk)=true:=decide_eq_true h2;go_wp2;go_ret;exact .mk ex (zj RE.out.symm)
  have HZ2:=zhd (HNX.out (HE.out.trans (if_neg (fun h=>by omega))));have d2:decide ((s.tab.length:Int)≤xk)=false:=decide_eq_false h2;go_wp2;go_roundw
  case rel=>exact ⟨k+1,by omega,by go_num,HZ2,ex,R0,HSc⟩
  case measure=>simp[intOf];omega
end Go.Proofs.YtiabbjolepnjkaaGreat
namespace Go.Proofs.YtiabbjolepnjkaaGreat
def e52P:ProbD:=⟨2,2,2,[([0,0],[[0,0]],[]),([0,1],[[0,0]],[])],2,[[[2,1,3,0,0,0,0,0],[2,3,3,0,0,0,0,0]]],1⟩
def e52S:SysF:=e52P.full
def no52:List Int:=[-1, -1, -1, -1, -1, -1, -1, -1]
def on52:List Int:=[-1, -1, -1, -1, -1, -1,1, -1]
theorem zd1:buildE e52P=0:=by decide+kernel
theorem zd2:FewP e52P:=⟨by refine ⟨by decide,fun k hk=>?_⟩;match k,hk with | 0,_=>exact ⟨by decide,⟨by decide,by decide⟩,⟨by decide,by decide⟩⟩ | 1,_=>exact ⟨by decide,⟨by decide,by decide⟩,⟨by decide,by decide⟩⟩ | k+2,h=>exact absurd h (by simp[e52P]),by decide+kernel,by decide,fun _=>.inl (by decide+kernel)⟩
theorem zdL:e52S.tab.length=8:=by decide+kernel
theorem zgk:ruleE e52S no52=0:=by decide+kernel
theorem zeq:ruleE e52S on52=0:=by decide+kernel
theorem zgU:quoL e52S no52=[0,1,2,3,2,1,3,2]:=by decide+kernel
theorem zgW:quoL e52S on52=[0,1,2,3,2,4,5,2]:=by decide+kernel
theorem zgC:sizA e52S on52=6:=by decide+kernel
theorem zgr:pairE e52S on52 1 5=0:=by decide+kernel
theorem zgp:pairE e52S on52 2 4=0:=by decide+kernel
theorem zew:disL e52S.tab on52 e52S.K 1 5=[1,3]:=by decide+kernel
theorem zdR:disL e52S.tab on52 e52S.K 2 4=[]:=by decide+kernel
theorem zgS:aprE e52S on52 1 5 [1,3]=0:=by decide+kernel
theorem zg3:aprE e52S no52 1 5 [1,3]=18:=by decide+kernel
theorem zg5:verQ e52S on52 [0,1,2,3,2,4,5,2]=0:=by decide+kernel
theorem zgZ:verQ e52S on52 [0,1,2,3,2,1,3,2]=18:=by decide+kernel
end Go.Proofs.YtiabbjolepnjkaaGreat
