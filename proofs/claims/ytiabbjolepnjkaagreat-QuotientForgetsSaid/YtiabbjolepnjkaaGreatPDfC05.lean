/- Part of the proof that the laws answer true for every input. -/
import Derived.Test.YtiabbjolepnjkaaGreatPDfA25
import Derived.Test.YtiabbjolepnjkaaGreatPDfC04
set_option linter.unusedSimpArgs false
set_option linter.unnecessarySimpa false
set_option linter.unusedVariables false
set_option maxRecDepth 100000
set_option maxHeartbeats 40000000
namespace Go.Proofs.YtiabbjolepnjkaaGreat
open Go.RowKit
attribute [local go_sem ↓] Go.wp_at_zero Go.wp_at_succ
theorem XW {S:Nat→Prop} {w:World} {v vch:Value} {s:SysF} {ch:List Int} (h:SysV S w v s) (hf:PFew s.p) (h2:Ints S w vch ch) (hm:s.tab.length≤120):
  Calls Tryz.prog 37 #[v,.agg #[vch]] w (Post w fun _ r=>r=.tuple #[sizA s ch,ruleE s ch]):=by
 have KC:Hid (∀W,Below w.heap.size w W→Calls Tryz.prog 26 #[v,.agg #[vch]] W (Post W (ClaR W.heap.size s ch))):=zhd fun W hW=>yL (h.ext hW) hf (h2.ext hW) hm;have KN:Hid (∀S3 W u,Ints S3 W u (quoL s ch)→Calls Tryz.prog 77 #[u] W (Post W fun _ r=>r=.tuple #[.int .i64 (numS (quoL s ch)),.int .i64 0])):=zhd fun S3 W u hu=>by
  have:=zdH hu;unfold cntR at this;rw[if_pos (yf.2 (xg (by omega)))]at this;exact this
 have HS:Hid ((ruleE s ch=0→sizA s ch=numS (quoL s ch))∧(ruleE s ch≠0→sizA s ch=0)):=zhd ⟨fun h=>by unfold sizA;rw[if_pos h],fun h=>by unfold sizA;rw[if_neg h]⟩;obtain ⟨z,hzz⟩:=zn (sizA s ch);rw[←hzz]at HS ⊢;obtain ⟨m,hmm⟩:=zn (numS (quoL s ch));rw[←hmm]at HS KN;obtain ⟨ca,cc,sa,sc,ta,tc,xa,xc,rfl,hc,hs,ht,hx⟩:=h.zf;obtain ⟨a2,c2,rfl,_⟩:=h2.form;obtain ⟨ex,R0,R1⟩:=zb2 w [s.p.n,s.p.ins,s.p.outs,.slice ca s.p.cs.length cc,s.p.an,.slice sa s.p.st.length sc,s.p.rounds,s.tn,.slice ta s.tab.length tc,.slice xa s.ex.length xc] [.slice a2 ch.length c2] 35 38;clear hc hs ht hx h2 hf hm hzz hmm;go_enter Tryz.func37,Tryz.ntmps37;obtain ⟨t0,t1,t2,t3,t4,t5,t6,t7,t8,t9⟩:=R0.ten;have l0:=R0.lt;have r0:=R1.zc 0 rfl;have l1:=R1.lt;go_wp2_with fail;refine (KC.out _ ex).mono ?_;rintro _ w1 ⟨_,rfl,hb,hO⟩;replace R0:=R0.ext hb;replace R1:=R1.ext hb;replace ex:=za ex hb;clear hb KC t0 t1 t2 t3 t4 t5 t6 t7 t8 t9 l0 r0 l1;rcases hO with ⟨h0,u,rfl,hu⟩ | ⟨h0,rfl⟩
 case inr=>
  have RE:=zhd (HS.out.2 h0);obtain ⟨e,hee⟩:=zn (ruleE s ch);rw[←hee]at h0 ⊢;have HEE:=zhd hee;have d0:(e !=0)=true:=by simp[h0]
  clear h0 HS hee;go_wp2;go_ret2;exact .mk ex (tup2 RE.out.symm HEE.out)
 have RE:=zhd (HS.out.1 h0);have HE0:=zhd h0;have KN1:=zhd (KN.out _ _ _ hu);have d0:((0:Int) !=0)=false:=rfl;clear h0 HS KN hu;go_wp2_with fail;refine KN1.out.mono ?_;rintro _ w2 ⟨_,rfl,hb2,rfl⟩;replace ex:=za ex hb2;clear hb2 KN1;go_wp2;go_ret2;exact .mk ex (tup2 RE.out.symm HE0.out.symm)
def PairR (B:Nat) (S:Nat→Prop) (s:SysF) (ch:List Int) (u x:Int) (w':World) (r:Value):Prop:=(pairE s ch u x=0∧∃g,r=.tuple #[.pointer (some ⟨g,0,none⟩),.int .i64 0]∧ScnV (fun b=>(S b∧b<B)∨B≤b) w' g s ch)∨(pairE s ch u x≠0∧r=.tuple #[.pointer none,pairE s ch u x])
theorem zfT {T:List (List Int)} {u x:Nat}:likB T u x=true↔prcT T u=prcT T x∧rndT T u=rndT T x:=by
 unfold likB;rw[Bool.and_eq_true,decide_eq_true_iff,decide_eq_true_iff]
theorem YD {s:SysF} {ch:List Int} {u x:Int} (h:pairE s ch u x=0):ruleE s ch=0∧0≤u∧u<s.tab.length∧0≤x∧x<s.tab.length∧prcT s.tab u.toNat=prcT s.tab x.toNat∧rndT s.tab u.toNat=rndT s.tab x.toNat:=by
 unfold pairE at h;by_cases h0:ruleE s ch=0
 ·rw[if_pos h0]at h;by_cases h1:u<0∨(s.tab.length:Int)≤u∨x<0∨(s.tab.length:Int)≤x
  ·rw[if_pos h1]at h;cases h
  ·rw[if_neg h1]at h;by_cases h2:prcT s.tab u.toNat=prcT s.tab x.toNat∧rndT s.tab u.toNat=rndT s.tab x.toNat
   ·exact ⟨h0,by omega,by omega,by omega,by omega,h2.1,h2.2⟩
   ·rw[if_neg h2]at h;cases h
 ·rw[if_neg h0]at h;exact absurd h h0
theorem QQ {S:Nat→Prop} {w:World} {v vch:Value} {s:SysF} {ch:List Int} (u' x':Int) (h:SysV S w v s) (hf:PFew s.p) (h2:Ints S w vch ch) (hm:s.tab.length≤120):
  Calls Tryz.prog 52 #[v,.agg #[vch],u',x'] w (Post w (PairR w.heap.size S s ch u' x')):=by
 have KO:Hid (∀W,Below w.heap.size w W→Calls Tryz.prog 47 #[v,.agg #[vch]] W (Post W (OfQ W.heap.size (fun b=>S b∧b<W.heap.size) s ch))):=zhd fun W hW=>Xt (h.ext hW) hf (h2.ext hW) hm;have HQ:Hid (pairE s ch u' x'=if ruleE s ch=0 then (if u'<0∨(s.tab.length:Int)≤u'∨x'<0∨(s.tab.length:Int)≤x' then 6 else if prcT s.tab u'.toNat=prcT s.tab x'.toNat∧rndT s.tab u'.toNat=rndT s.tab x'.toNat then 0 else 22) else ruleE s ch):=zhd rfl;have HO:Hid (∀w' g,pairE s ch u' x'=0→ScnV (fun b=>(S b∧b<w.heap.size)∨w.heap.size≤b) w' g s ch→PairR w.heap.size S s ch u' x' w' (.tuple #[.pointer (some ⟨g,0,none⟩),.int .i64 0])):=zhd fun w' g h0 hs=>.inl ⟨h0,g,rfl,hs⟩;have HE:Hid (∀w' e,pairE s ch u' x'=e→e≠0→PairR w.heap.size S s ch u' x' w' (.tuple #[.pointer none,e])):=zhd fun w' e h1 h0=>by subst h1;exact .inr ⟨h0,rfl⟩
 obtain ⟨PR,hPR⟩:=zn (PairR w.heap.size S s ch u' x');rw[←hPR]at HO HE ⊢;obtain ⟨r,hr⟩:=zn (pairE s ch u' x');rw[←hr]at HQ HO HE;obtain ⟨ca,cc,sa,sc,ta,tc,xa,xc,rfl,hc,hs,ht,hx⟩:=h.zf;obtain ⟨a2,c2,rfl,_⟩:=h2.form;obtain ⟨ex,R0,R1⟩:=zb2 w [s.p.n,s.p.ins,s.p.outs,.slice ca s.p.cs.length cc,s.p.an,.slice sa s.p.st.length sc,s.p.rounds,s.tn,.slice ta s.tab.length tc,.slice xa s.ex.length xc] [.slice a2 ch.length c2] 35 38;clear hc hs ht hx h2 hr hPR hf;go_enter Tryz.func52,Tryz.ntmps52;obtain ⟨t0,t1,t2,t3,t4,t5,t6,t7,t8,t9⟩:=R0.ten;have l0:=R0.lt;have r0:=R1.zc 0 rfl;have l1:=R1.lt;go_wp2_with fail;refine (KO.out _ ex).mono ?_;rintro _ w1 ⟨_,rfl,hb,hO⟩;replace R0:=R0.ext hb;replace R1:=R1.ext hb;replace ex:=za ex hb;clear hb KO t0 t1 t2 t3 t4 t5 t6 t7 t8 t9 l0 r0 l1;rcases hO with ⟨h0,g,rfl,hSc,_⟩ | ⟨h0,rfl⟩
 case inr=>
  have RE:=zhd (HE.out w1 _ (HQ.out.trans (if_neg h0)) h0);obtain ⟨e,hee⟩:=zn (ruleE s ch);rw[←hee]at RE h0 ⊢;have d0:(e !=0)=true:=by simp[h0]
  clear h0 HO HE hee HQ;go_wp2;go_ret2;exact .mk ex RE.out
 have HQ1:=zhd (HQ.out.trans (if_pos h0));have hszw:=ex.size;have HSc:=zhd hSc;have d0:((0:Int) !=0)=false:=rfl;clear h0 HQ hSc;have t8:=R0.zc 8 rfl;have l0:=R0.lt;by_cases h1:u'<0
 ·have dh1:decide (u'<0)=true:=decide_eq_true h1;have RE:=zhd (HE.out w1 6 (HQ1.out.trans (if_pos (.inl h1))) (by decide));clear h1 HQ1 HO HE HSc;go_wp2;go_ret2;exact .mk ex RE.out
 have dh1:decide (u'<0)=false:=decide_eq_false (by omega);by_cases h2:(s.tab.length:Int)≤u'
 ·have dh2:decide ((s.tab.length:Int)≤u')=true:=decide_eq_true h2;have RE:=zhd (HE.out w1 6 (HQ1.out.trans (if_pos (.inr (.inl h2)))) (by decide));clear h2 HQ1 HO HE HSc;go_wp2;go_ret2;exact .mk ex RE.out
 have dh2:decide ((s.tab.length:Int)≤u')=false:=decide_eq_false (by omega);by_cases h3:x'<0
 ·have dh3:decide (x'<0)=true:=decide_eq_true h3;have RE:=zhd (HE.out w1 6 (HQ1.out.trans (if_pos (.inr (.inr (.inl h3))))) (by decide));clear h3 HQ1 HO HE HSc;go_wp2;go_ret2;exact .mk ex RE.out
 have dh3:decide (x'<0)=false:=decide_eq_false (by omega);by_cases h4:(s.tab.length:Int)≤x'
 ·have dh4:decide ((s.tab.length:Int)≤x')=true:=decide_eq_true h4;have RE:=zhd (HE.out w1 6 (HQ1.out.trans (if_pos (.inr (.inr (.inr h4))))) (by decide));clear h4 HQ1 HO HE HSc;go_wp2;go_ret2;exact .mk ex RE.out
 have dh4:decide ((s.tab.length:Int)≤x')=false:=decide_eq_false (by omega);have HQ2:=zhd (HQ1.out.trans (if_neg (fun h=>by omega)));obtain ⟨u,rfl⟩:∃u:Nat,u'=u:=⟨u'.toNat,by omega⟩;obtain ⟨x,rfl⟩:∃x:Nat,x'=x:=⟨x'.toNat,by omega⟩;rw[Int.toNat_natCast,Int.toNat_natCast]at HQ2;have hu:u<s.tab.length:=by omega
 have hx:x<s.tab.length:=by omega
 have n2:decide (s.tab.length≤u)=false:=decide_eq_false (by omega);have n4:decide (s.tab.length≤x)=false:=decide_eq_false (by omega);have KA:=zhd (Y2 HSc.out hu hx);have HB1:Hid (likB s.tab u x=true→r=0):=zhd fun hb=>by rw[HQ2.out,if_pos (zfT.1 hb)]
 have HB0:Hid (likB s.tab u x=false→r=22):=zhd fun hb=>by rw[HQ2.out,if_neg (fun h=>by rw[zfT.2 h]at hb;cases hb)]
 obtain ⟨b,hbb⟩:=zn (likB s.tab u x);rw[←hbb]at KA HB1 HB0;clear hu hx hbb HQ1 HQ2 h1 h2 h3 h4;go_wp2_with fail;refine KA.out.mono ?_;rintro _ w2 ⟨_,rfl,hb2,rfl⟩;have HS2:=zhd (HSc.out.ext hb2);replace ex:=za ex hb2;clear hb2 KA HSc t8 l0 R0 R1;cases b with
 | true=>
  have RE:=zhd (HO.out w2 g (HB1.out rfl) (HS2.out.mono fun b hb=>by
   rcases hb with ⟨h1,h2⟩ | h1
   ·by_cases h:b<w.heap.size
    ·exact .inl ⟨h1,h⟩
    ·exact .inr (by omega)
   ·exact .inr (by simp only[World.size_alloc]at h1;omega)))
  clear HO HE HB1 HB0 HS2;go_wp2;go_ret2;exact .mk ex RE.out
 | false=>
  have RE:=zhd (HE.out w2 22 (HB0.out rfl) (by decide));clear HO HE HB1 HB0 HS2;go_wp2;go_ret2;exact .mk ex RE.out
end Go.Proofs.YtiabbjolepnjkaaGreat
