/- Part of the proof that the laws answer true for every input. -/
import Derived.Test.YtfjlhjkjjbiliaaGreatPXa44
import Derived.Test.YtfjlhjkjjbiliaaGreatPXa43
import Derived.Test.YtfjlhjkjjbiliaaGreatPXa06
import Derived.Test.YtfjlhjkjjbiliaaGreatPXa18
set_option linter.unusedSimpArgs false
set_option linter.unnecessarySimpa false
set_option linter.unusedVariables false
set_option maxRecDepth 100000
set_option maxHeartbeats 40000000
namespace Go.Proofs.YtfjlhjkjjbiliaaGreat
open Go.RowKit
attribute [local go_sem ↓] Go.wp_at_zero Go.wp_at_succ
theorem Row.ten {w:World} {g:Nat} {e:TypeId} {a0 a1 a2 a3 a4 a5 a6 a7 a8 a9:Value} (h:Row w g e [a0,a1,a2,a3,a4,a5,a6,a7,a8,a9]):w.cell? ⟨g,0,none⟩=some a0 ∧ w.cell? ⟨g,1,none⟩=some a1 ∧ w.cell? ⟨g,2,none⟩=some a2 ∧ w.cell? ⟨g,3,none⟩=some a3 ∧ w.cell? ⟨g,4,none⟩=some a4 ∧ w.cell? ⟨g,5,none⟩=some a5 ∧ w.cell? ⟨g,6,none⟩=some a6 ∧ w.cell? ⟨g,7,none⟩=some a7 ∧ w.cell? ⟨g,8,none⟩=some a8 ∧ w.cell? ⟨g,9,none⟩=some a9:=⟨h.zc 0 rfl,h.zc 1 rfl,h.zc 2 rfl,h.zc 3 rfl,h.zc 4 rfl,h.zc 5 rfl,h.zc 6 rfl,h.zc 7 rfl,h.zc 8 rfl,h.zc 9 rfl⟩
theorem zbs {S:Nat→Prop} {w:World} {vch:Value} {ch:List Int} (h:Ints S w vch ch):Calls Tryz.prog 11 #[.agg #[vch]] w (Post w fun _ r=>r=.bool (decide (ch.length≤1000))):=by
 obtain ⟨a,c,rfl,_⟩:=h.form
 have ex:=ze w (.cells #[.slice a ch.length c] 38)
 have R:=zh w [.slice a ch.length c] 38
 have r0:=R.zc 0 rfl
 have l0:=R.lt
 have HX:=zhd ex
 clear h ex R
 by_cases hl:ch.length≤1000
 ·have d1:decide (ch.length≤1000)=true:=decide_eq_true hl
  rw[d1]
  have HL:=zhd hl
  clear hl
  go_enter Tryz.func11,Tryz.ntmps11
  go_wp2
  go_ret
  exact .mk HX.out (by have:=HL.out;simp;omega)
 ·have d1:decide (ch.length≤1000)=false:=decide_eq_false hl
  rw[d1]
  have HL:=zhd hl
  clear hl
  go_enter Tryz.func11,Tryz.ntmps11
  go_wp2
  go_ret
  exact .mk HX.out (by have:=HL.out;simp;omega)
theorem yB {w w':World} {e:Ending} {R R':World→Value→Prop} (h:Post w R e w') (hR:∀a b,R a b→R' a b):Post w R' e w':=by
 obtain ⟨v,h1,h2,h3⟩:=h
 exact ⟨v,h1,h2,hR _ _ h3⟩
theorem equalQ {S S':Nat→Prop} {w:World} {v1 v2:Value} {l:List Int} (h1:Ints S w v1 l) (h2:Ints S' w v2 l):
  Calls Tryz.prog 25 #[v1,v2] w (Post w fun _ r=>r=.bool true):=(Yq h1 h2).mono fun _ _ h=>by simpa using h
theorem litQ (w:World) (l:List Int) (e:TypeId) (hl:l.length≤65536) (hf:∀x∈l, -1000000000≤x∧x≤1000000000):
  Ints TT (w.alloc (.cells (l.map (Value.int .i64)).toArray e)) (.slice (some ⟨w.heap.size,0,none⟩) l.length l.length) l:=by
 have:=Row.ints (e:=e) (heap_alloc_new w (.cells (l.map (Value.int .i64)).toArray e)) (by unfold maxLen;omega) fun x hx=>WF.small (hf x hx)
 exact this.mono fun _ _=>trivial
theorem zdI {S:Nat→Prop} {w:World} {g c k:Nat} {l:List Int} {y:Int} {xs:List Value} (R:Row w g 3 xs) (hx:xs.take l.length=l.map (Value.int .i64)) (h:Ints S w (.slice (some ⟨g,0,none⟩) l.length c) l) (hk:k<l.length) (hy:WF y):Ints S (w.setCell ⟨g,k,none⟩ (.int .i64 y)) (.slice (some ⟨g,0,none⟩) (l.set k y).length c) (l.set k y):=by
 obtain ⟨a,cap,e,ad,h1,h2,hc,hf⟩:=h
 simp only[Value.slice.injEq,true_and]at e
 obtain ⟨rfl,rfl⟩:=e
 refine ⟨some ⟨g,0,none⟩,c,rfl,?_,by rw[List.length_set];exact h1,h2,fun j hj=>?_,fun x hx=>?_⟩
 ·rcases ad with ⟨h0,_⟩ | ⟨b,off,e,hb,hs⟩
  ·omega
  ·exact .inr ⟨b,off,e,by simpa using hb,hs⟩
 ·rw[List.length_set]at hj
  have hl:xs.length≥l.length:=by have:=congrArg List.length hx;simp at this;omega
  rw[zS,Nat.zero_add]
  by_cases e:k=j
  ·subst e
   rw[(R.set k (.int .i64 y)).cell (j:=k) (by rw[List.getElem?_set_self (by omega)])]
   simp[nth,hk]
  ·have h4:xs[j]? =some (.int .i64 (nth l j)):=by
    have:=congrArg (·[j]?) hx
    simp only[List.getElem?_map,List.getElem?_take_of_lt hj]at this
    rw[this,get?_nth hj];rfl
   rw[(R.set k (.int .i64 y)).cell (j:=j) (by rw[List.getElem?_set_ne e];exact h4)]
   simp[nth,e]
 ·rcases List.mem_or_eq_of_mem_set hx with hx | rfl
  ·exact hf _ hx
  ·exact hy
def FewQ (s:SysF):Prop:=FewS s∧s.tab.length≤120
theorem zaT {S:Nat→Prop} {w:World} {v:Value} {s:SysF} (h:SysV S w v s):
  Calls Tryz.prog 10 #[v] w (Post w fun _ r=>Tells (FewQ s) r):=by
 have KF:Hid (∀W,Below w.heap.size w W→Calls Tryz.prog 29 #[v] W (Post W fun _ r=>Tells (FewS s) r)):=zhd fun W hW=>zcM (h.ext hW)
 obtain ⟨vc,vs,vt,vx,rfl,hc,hs,ht,hx⟩:=h
 obtain ⟨ca,cc,rfl,_⟩:=hc.form
 obtain ⟨sa,sc,rfl,_⟩:=hs.form
 obtain ⟨ta,tc,rfl,_⟩:=ht.form
 obtain ⟨xa,xc,rfl,xad,_⟩:=hx.form2
 have ex:=ze w (.cells #[.int .i64 s.p.n,.int .i64 s.p.ins,.int .i64 s.p.outs,.slice ca s.p.cs.length cc,.int .i64 s.p.an,.slice sa s.p.st.length sc,.int .i64 s.p.rounds,.int .i64 s.tn,.slice ta s.tab.length tc,.slice xa s.ex.length xc] 35)
 have R0:=zh w [.int .i64 s.p.n,.int .i64 s.p.ins,.int .i64 s.p.outs,.slice ca s.p.cs.length cc,.int .i64 s.p.an,.slice sa s.p.st.length sc,.int .i64 s.p.rounds,.int .i64 s.tn,.slice ta s.tab.length tc,.slice xa s.ex.length xc] 35
 clear hc hs ht hx
 go_enter Tryz.func10,Tryz.ntmps10
 obtain⟨t0,t1,t2,t3,t4,t5,t6,t7,t8,t9⟩:=R0.ten
 have l0:=R0.lt
 go_wp2_with fail
 refine (KF.out _ ex).mono ?_
 rintro _ w1 ⟨_,rfl,hb,b0,rfl,hb0⟩
 replace R0:=R0.ext hb
 replace ex:=zb ex hb
 clear hb KF t0 t1 t2 t3 t4 t5 t6 t7 t8 t9 l0
 obtain⟨t0,t1,t2,t3,t4,t5,t6,t7,t8,t9⟩:=R0.ten
 have l0:=R0.lt
 cases b0 with
 | false=>
  clear hb0
  go_wp2
  go_ret
  exact .mk ex ⟨false,rfl,fun h=>by cases h⟩
 | true=>
  have hfw:=zhd (hb0 rfl)
  clear hb0
  by_cases hl:s.tab.length≤120
  ·have d1:decide ((s.tab.length:Int)≤120)=true:=decide_eq_true (by omega)
   have d2:decide (s.tab.length≤120)=true:=decide_eq_true hl
   have HF:Hid (FewQ s):=zhd ⟨hfw.out,hl⟩
   clear hl hfw
   go_wp2
   go_ret
   exact .mk ex ⟨_,rfl,fun _=>HF.out⟩
  ·have d1:decide ((s.tab.length:Int)≤120)=false:=decide_eq_false (by omega)
   have d2:decide (s.tab.length≤120)=false:=decide_eq_false hl
   clear hl hfw
   go_wp2
   go_ret
   exact .mk ex ⟨_,rfl,fun h=>by simp_all⟩
theorem qB (w:World):Calls Tryz.prog 12 #[] w (Post w fun _ r=>r=.bool true):=by
 have KEX:=zhd (Yd w)
 go_enter Tryz.func12,Tryz.ntmps12
 go_wp2_with fail
 refine KEX.out.mono ?_
 rintro _ w1 ⟨_,rfl,hb1,v,rfl,hsy⟩
 clear KEX
 have HF:Hid (PFew e52S.p):=zhd zda.few
 have HM:Hid (e52S.tab.length≤120):=zhd (by rw[zdC];decide)
 have A1:Hid (∀B w' r,ClaR B e52S no52 w' r→∃a c,r=.tuple #[.slice a 8 c,.int .i64 0]∧Ints TT w' (.slice a 8 c) [0,1,2,3,2,1,3,2]):=zhd (by
  rintro B w' r (⟨_,u,rfl,hu⟩ | ⟨h,_⟩)
  ·rw[zgt]at hu
   obtain ⟨a,c,rfl,_⟩:=hu.form
   exact ⟨a,c,rfl,hu.mono fun _ _=>trivial⟩
  ·exact absurd zf7 h)
 have A2:Hid (∀B w' r,ClaR B e52S on52 w' r→∃a c,r=.tuple #[.slice a 8 c,.int .i64 0]∧Ints TT w' (.slice a 8 c) [0,1,2,3,2,4,5,2]):=zhd (by
  rintro B w' r (⟨_,u,rfl,hu⟩ | ⟨h,_⟩)
  ·rw[zgu]at hu
   obtain ⟨a,c,rfl,_⟩:=hu.form
   exact ⟨a,c,rfl,hu.mono fun _ _=>trivial⟩
  ·exact absurd zdd h)
 have A3:Hid (∀w' r,DisR e52S on52 1 5 w' r→∃a c,r=.tuple #[.slice a 2 c,.bool true,.int .i64 0]∧Ints TT w' (.slice a 2 c) [1,3]):=zhd (by
  rintro w' r (⟨_,u,rfl,hu⟩ | ⟨h,_⟩)
  ·rw[if_neg (by decide),show disL e52S.tab on52 e52S.K (min (1:Int).toNat (5:Int).toNat) (max (1:Int).toNat (5:Int).toNat)=[1,3] from zd5]at hu
   rw[show disL e52S.tab on52 e52S.K (min (1:Int).toNat (5:Int).toNat) (max (1:Int).toNat (5:Int).toNat)=[1,3] from zd5]
   obtain ⟨a,c,rfl,_⟩:=hu.form
   exact ⟨a,c,rfl,hu.mono fun _ _=>trivial⟩
  ·exact absurd zgk h)
 have A4:Hid (∀w' r,DisR e52S on52 2 4 w' r→∃a c,r=.tuple #[.slice a 0 c,.bool false,.int .i64 0]):=zhd (by
  rintro w' r (⟨_,u,rfl,hu⟩ | ⟨h,_⟩)
  ·rw[if_neg (by decide),show disL e52S.tab on52 e52S.K (min (2:Int).toNat (4:Int).toNat) (max (2:Int).toNat (4:Int).toNat)=[] from zdn]at hu
   rw[show disL e52S.tab on52 e52S.K (min (2:Int).toNat (4:Int).toNat) (max (2:Int).toNat (4:Int).toNat)=[] from zdn]
   obtain ⟨a,c,rfl,_⟩:=hu.form
   exact ⟨a,c,rfl⟩
  ·exact absurd zf6 h)
 have A5:Hid (sizA e52S on52=6∧ruleE e52S on52=0∧aprE e52S on52 1 5 [1,3]=0∧aprE e52S no52 1 5 [1,3]=18∧verQ e52S on52 [0,1,2,3,2,4,5,2]=0∧verQ e52S on52 [0,1,2,3,2,1,3,2]=18):=zhd ⟨zgg,zdd,zgD,zgI,zgF,zgH⟩
 obtain ⟨s,hs⟩:∃s,s=e52S:=⟨_,rfl⟩
 rw[←hs]at hsy HF HM A1 A2 A3 A4 A5
 have h:=hsy
 obtain ⟨vc,vs,vt,vx,rfl,hc,hs',ht,hx⟩:=h
 obtain ⟨ca,cc,rfl,_⟩:=hc.form
 obtain ⟨sa,sc,rfl,_⟩:=hs'.form
 obtain ⟨ta,tc,rfl,_⟩:=ht.form
 obtain ⟨xa,xc,rfl,_⟩:=hx.form2
 have e1:=ze w1 (.cells #[.int .i64 s.p.n,.int .i64 s.p.ins,.int .i64 s.p.outs,.slice ca s.p.cs.length cc,.int .i64 s.p.an,.slice sa s.p.st.length sc,.int .i64 s.p.rounds,.int .i64 s.tn,.slice ta s.tab.length tc,.slice xa s.ex.length xc] 35)
 have R0:=zh w1 [.int .i64 s.p.n,.int .i64 s.p.ins,.int .i64 s.p.outs,.slice ca s.p.cs.length cc,.int .i64 s.p.an,.slice sa s.p.st.length sc,.int .i64 s.p.rounds,.int .i64 s.tn,.slice ta s.tab.length tc,.slice xa s.ex.length xc] 35
 have HSY:=zhd (hsy.ext e1)
 have HEX:=zhd (zb hb1 e1)
 obtain ⟨w2,hw2⟩:∃w2,w2=w1.alloc (.cells #[.int .i64 s.p.n,.int .i64 s.p.ins,.int .i64 s.p.outs,.slice ca s.p.cs.length cc,.int .i64 s.p.an,.slice sa s.p.st.length sc,.int .i64 s.p.rounds,.int .i64 s.tn,.slice ta s.tab.length tc,.slice xa s.ex.length xc] 35):=⟨_,rfl⟩
 obtain ⟨B1,hB1⟩:∃B1,B1=w1.heap.size:=⟨_,rfl⟩
 rw[←hw2]at R0 HSY HEX
 rw[←hB1]at R0
 have HW2:=zhd hw2
 have HB1:=zhd hB1
 clear hs hsy hc hs' ht hx e1 hb1 hw2 hB1
 have KC0:Hid (∀W vch,Below w2.heap.size w2 W→Ints TT W vch no52→Calls Tryz.prog 13 #[.agg #[.int .i64 s.p.n,.int .i64 s.p.ins,.int .i64 s.p.outs,.slice ca s.p.cs.length cc,.int .i64 s.p.an,.slice sa s.p.st.length sc,.int .i64 s.p.rounds,.int .i64 s.tn,.slice ta s.tab.length tc,.slice xa s.ex.length xc],.agg #[vch]] W (Post W fun w' r=>∃a c,r=.tuple #[.slice a 8 c,.int .i64 0]∧Ints TT w' (.slice a 8 c) [0,1,2,3,2,1,3,2])):=zhd fun W vch hW hv=>(xt (HSY.out.ext hW) HF.out hv HM.out).mono fun _ _ h=>yB h fun _ _ hr=>A1.out _ _ _ hr
 have KC1:Hid (∀W vch,Below w2.heap.size w2 W→Ints TT W vch on52→Calls Tryz.prog 13 #[.agg #[.int .i64 s.p.n,.int .i64 s.p.ins,.int .i64 s.p.outs,.slice ca s.p.cs.length cc,.int .i64 s.p.an,.slice sa s.p.st.length sc,.int .i64 s.p.rounds,.int .i64 s.tn,.slice ta s.tab.length tc,.slice xa s.ex.length xc],.agg #[vch]] W (Post W fun w' r=>∃a c,r=.tuple #[.slice a 8 c,.int .i64 0]∧Ints TT w' (.slice a 8 c) [0,1,2,3,2,4,5,2])):=zhd fun W vch hW hv=>(xt (HSY.out.ext hW) HF.out hv HM.out).mono fun _ _ h=>yB h fun _ _ hr=>A2.out _ _ _ hr
 have KSZ:Hid (∀W vch,Below w2.heap.size w2 W→Ints TT W vch on52→Calls Tryz.prog 15 #[.agg #[.int .i64 s.p.n,.int .i64 s.p.ins,.int .i64 s.p.outs,.slice ca s.p.cs.length cc,.int .i64 s.p.an,.slice sa s.p.st.length sc,.int .i64 s.p.rounds,.int .i64 s.tn,.slice ta s.tab.length tc,.slice xa s.ex.length xc],.agg #[vch]] W (Post W fun w' r=>r=.tuple #[.int .i64 6,.int .i64 0])):=zhd fun W vch hW hv=>by have:=Qw (HSY.out.ext hW) HF.out hv HM.out;rw[A5.out.1,A5.out.2.1]at this;exact this
 have KD1:Hid (∀W vch,Below w2.heap.size w2 W→Ints TT W vch on52→Calls Tryz.prog 20 #[.agg #[.int .i64 s.p.n,.int .i64 s.p.ins,.int .i64 s.p.outs,.slice ca s.p.cs.length cc,.int .i64 s.p.an,.slice sa s.p.st.length sc,.int .i64 s.p.rounds,.int .i64 s.tn,.slice ta s.tab.length tc,.slice xa s.ex.length xc],.agg #[vch],.int .i64 1,.int .i64 5] W (Post W fun w' r=>∃a c,r=.tuple #[.slice a 2 c,.bool true,.int .i64 0]∧Ints TT w' (.slice a 2 c) [1,3])):=zhd fun W vch hW hv=>(Qh 1 5 (HSY.out.ext hW) HF.out hv HM.out).mono fun _ _ h=>yB h fun _ _ hr=>A3.out _ _ hr
 have KD2:Hid (∀W vch,Below w2.heap.size w2 W→Ints TT W vch on52→Calls Tryz.prog 20 #[.agg #[.int .i64 s.p.n,.int .i64 s.p.ins,.int .i64 s.p.outs,.slice ca s.p.cs.length cc,.int .i64 s.p.an,.slice sa s.p.st.length sc,.int .i64 s.p.rounds,.int .i64 s.tn,.slice ta s.tab.length tc,.slice xa s.ex.length xc],.agg #[vch],.int .i64 2,.int .i64 4] W (Post W fun w' r=>∃a c,r=.tuple #[.slice a 0 c,.bool false,.int .i64 0])):=zhd fun W vch hW hv=>(Qh 2 4 (HSY.out.ext hW) HF.out hv HM.out).mono fun _ _ h=>yB h fun _ _ hr=>A4.out _ _ hr
 have KA1:Hid (∀W vch vl,Below w2.heap.size w2 W→Ints TT W vch on52→Ints TT W vl [1,3]→Calls Tryz.prog 22 #[.agg #[.int .i64 s.p.n,.int .i64 s.p.ins,.int .i64 s.p.outs,.slice ca s.p.cs.length cc,.int .i64 s.p.an,.slice sa s.p.st.length sc,.int .i64 s.p.rounds,.int .i64 s.tn,.slice ta s.tab.length tc,.slice xa s.ex.length xc],.agg #[vch],.int .i64 1,.int .i64 5,vl] W (Post W fun w' r=>r=.int .i64 0)):=zhd fun W vch vl hW hv hl=>by have:=Qa 1 5 (HSY.out.ext hW) HF.out hv hl HM.out;rw[A5.out.2.2.1]at this;exact this
 have KA0:Hid (∀W vch vl,Below w2.heap.size w2 W→Ints TT W vch no52→Ints TT W vl [1,3]→Calls Tryz.prog 22 #[.agg #[.int .i64 s.p.n,.int .i64 s.p.ins,.int .i64 s.p.outs,.slice ca s.p.cs.length cc,.int .i64 s.p.an,.slice sa s.p.st.length sc,.int .i64 s.p.rounds,.int .i64 s.tn,.slice ta s.tab.length tc,.slice xa s.ex.length xc],.agg #[vch],.int .i64 1,.int .i64 5,vl] W (Post W fun w' r=>r=.int .i64 18)):=zhd fun W vch vl hW hv hl=>by have:=Qa 1 5 (HSY.out.ext hW) HF.out hv hl HM.out;rw[A5.out.2.2.2.1]at this;exact this
 have KV1:Hid (∀W vch vl,Below w2.heap.size w2 W→Ints TT W vch on52→Ints TT W vl [0,1,2,3,2,4,5,2]→Calls Tryz.prog 18 #[.agg #[.int .i64 s.p.n,.int .i64 s.p.ins,.int .i64 s.p.outs,.slice ca s.p.cs.length cc,.int .i64 s.p.an,.slice sa s.p.st.length sc,.int .i64 s.p.rounds,.int .i64 s.tn,.slice ta s.tab.length tc,.slice xa s.ex.length xc],.agg #[vch],vl] W (Post W fun w' r=>r=.int .i64 0)):=zhd fun W vch vl hW hv hl=>by have:=Yb (HSY.out.ext hW) HF.out hv hl HM.out;rw[A5.out.2.2.2.2.1]at this;exact this
 have KV0:Hid (∀W vch vl,Below w2.heap.size w2 W→Ints TT W vch on52→Ints TT W vl [0,1,2,3,2,1,3,2]→Calls Tryz.prog 18 #[.agg #[.int .i64 s.p.n,.int .i64 s.p.ins,.int .i64 s.p.outs,.slice ca s.p.cs.length cc,.int .i64 s.p.an,.slice sa s.p.st.length sc,.int .i64 s.p.rounds,.int .i64 s.tn,.slice ta s.tab.length tc,.slice xa s.ex.length xc],.agg #[vch],vl] W (Post W fun w' r=>r=.int .i64 18)):=zhd fun W vch vl hW hv hl=>by have:=Yb (HSY.out.ext hW) HF.out hv hl HM.out;rw[A5.out.2.2.2.2.2]at this;exact this
 have ex:=Below.refl w2.heap.size w2
 clear A1 A2 A3 A4 A5 HF HSY HM
 go_upto_region 4 with fail
 rw[←HW2.out,←HB1.out]
 clear HW2 HB1
 have KR:=zhd (ZV (litQ w2 [-1] 3 (by decide) (by decide)) 8 (by decide))
 go_wp2_with fail
 refine KR.out.mono ?_
 rintro _ w3 ⟨_,rfl,hb,hO⟩
 have hO3:w3.ownsRow (w2.alloc (.cells #[.int .i64 (-1)] 3)).heap.size 3 1 _ 8 (no52.map (Value.int .i64)):=hO
 obtain ⟨gn,cn,rfl⟩:=xy hO3 (by decide)
 have hi3:Ints _ w3 (.slice (some ⟨gn,0,none⟩) 8 cn) no52:=Ints.of_own hO3 (by intro x hx;simp[no52]at hx;subst hx;exact WF.small (by decide))
 have HN:Hid (Ints (fun b=>b<w3.heap.size) w3 (.slice (some ⟨gn,0,none⟩) 8 cn) no52):=zhd ((Ints.block hi3 0).mono fun b hb=>hb.2)
 replace hb:=zb (ze w2 (.cells #[.int .i64 (-1)] 3)) hb
 replace R0:=R0.ext hb
 replace ex:=zb ex hb
 have z23:=ex.size
 clear hb hO hO3 hi3 KR
 have e3:=ze w3 (.cells #[.slice (some ⟨gn,0,none⟩) 8 cn] 38)
 have R3:=zh w3 [.slice (some ⟨gn,0,none⟩) 8 cn] 38
 have KCL:=zhd (qY (HN.out.ext e3) (by decide))
 go_wp2_with fail
 refine KCL.out.mono ?_
 rintro _ w4 ⟨_,rfl,hb,hO⟩
 have hO4:w4.ownsRow (w3.alloc (.cells #[.slice (some ⟨gn,0,none⟩) 8 cn] 38)).heap.size 3 1 _ 8 (no52.map (Value.int .i64)):=hO
 obtain ⟨go,co,rfl⟩:=xy hO4 (by decide)
 have hi4:=Ints.of_own hO4 (by intro x hx;simp[no52]at hx;subst hx;exact WF.small (by decide))
 obtain ⟨xs,RX,hxs,hgo⟩:∃xs,Row w4 go 3 xs∧xs.take 8=no52.map (Value.int .i64)∧w3.heap.size<go:=by
  rcases hO4.2 with ⟨e,_⟩ | ⟨g',cap,cur,e,h2,h3,_,_,_,h6⟩
  ·cases e
  ·injection e with e1 _ e3
   injection e1 with e1
   injection e1 with e1
   subst e1
   exact ⟨cur.toList,by simpa[Row] using h3,by simpa using h6,by simp only[World.size_alloc]at h2;omega⟩
 have hx6:xs[6]? =some (.int .i64 (-1)):=by
  have:=congrArg (·[6]?) hxs
  simp only[List.getElem?_take_of_lt (show 6<8 by decide)]at this
  rw[this];rfl
 obtain ⟨B3,hB3⟩:∃B,B=w3.heap.size:=⟨_,rfl⟩
 replace HN:=zhd (HN.out.ext (zb e3 hb))
 rw[←hB3]at R3 hgo HN z23 ⊢
 replace R3:=R3.ext hb
 replace hb:=zb e3 hb
 replace R0:=R0.ext hb
 replace ex:=zb ex hb
 clear hb hO hO4 e3 KCL hB3
 have e4:=ze w4 (.cells #[.slice (some ⟨go,0,none⟩) 8 co] 38)
 have RX4:=RX.ext e4
 have R34:=R3.ext e4
 have R04:=R0.ext e4
 have z0:=R0.lt
 have z3:=R3.lt
 have zx:=RX.lt
 have c6:=RX4.cell hx6
 have f6:=RX4.free 6
 have l6:=RX4.lt
 have q6:∀W:World,(Instr.indexAt 36 (.slice (some ⟨go,0,none⟩) 8 co) (.int .i64 6)).run Tryz.prog W=.ok (.pointer (some ⟨go,6,none⟩)) W:=fun W=>Zw go 8 co (k:=6) (by decide) W
 have hne0:B1≠go:=by
  intro e
  subst e
  have h1:=R0
  unfold Row at h1 RX
  rw[RX]at h1
  injection h1 with h1
  injection h1 with _ h1
  exact absurd h1 (by decide)
 have es:=ze (w4.setCell ⟨go,6,none⟩ (.int .i64 1)) (.cells #[.slice (some ⟨go,0,none⟩) 8 co] 38)
 have HN5:Hid (Ints TT ((w4.setCell ⟨go,6,none⟩ (.int .i64 1)).alloc (.cells #[.slice (some ⟨go,0,none⟩) 8 co] 38)) (.slice (some ⟨gn,0,none⟩) 8 cn) no52):=zhd (((HN.out.agree (.of_grown (zi _ go 6 (.int .i64 1)) fun b hb e=>by injection e with e;omega)).ext es).mono fun _ _=>trivial)
 have HO5:Hid (Ints TT ((w4.setCell ⟨go,6,none⟩ (.int .i64 1)).alloc (.cells #[.slice (some ⟨go,0,none⟩) 8 co] 38)) (.slice (some ⟨go,0,none⟩) 8 co) on52):=zhd (((zdI (k:=6) (y:=1) (l:=no52) RX hxs hi4 (by decide) (WF.small (by decide))).ext es).mono fun _ _=>trivial)
 have R05:=(R0.grown (zi _ go 6 (.int .i64 1)) (fun e=>by injection e with e;exact hne0 e.symm)).alloc (.cells #[.slice (some ⟨go,0,none⟩) 8 co] 38)
 have R35:=(R3.grown (zi _ go 6 (.int .i64 1)) (fun e=>by injection e with e;omega)).alloc (.cells #[.slice (some ⟨go,0,none⟩) 8 co] 38)
 have R45:=zh (w4.setCell ⟨go,6,none⟩ (.int .i64 1)) [.slice (some ⟨go,0,none⟩) 8 co] 38
 have hg2:w2.heap.size≤go:=by omega
 have ex5:=zb (ex.setCell (p:=⟨go,6,none⟩) hg2 (.int .i64 1)) es
 have hz4:(w4.setCell ⟨go,6,none⟩ (.int .i64 1)).heap.size=w4.heap.size:=by simp
 rw[hz4]at R45
 obtain ⟨B4,hB4⟩:∃B,B=w4.heap.size:=⟨_,rfl⟩
 rw[←hB4]at R45
 have HB4:=zhd hB4
 clear R0 R3 RX R04 R34 RX4 ex hxs hx6 hi4 HN hB4 hz4 es
 have t4:=e4.size
 clear e4
 go_upto_region 7 with fail
 rw[←HB4.out]
 obtain ⟨w5,hw5⟩:∃w5,w5=((w4.setCell ⟨go,6,none⟩ (.int .i64 1)).alloc (.cells #[.slice (some ⟨go,0,none⟩) 8 co] 38)):=⟨_,rfl⟩
 rw[←hw5]at HN5 HO5 R05 R35 R45 ex5 ⊢
 have HN:=HN5
 have HO:=HO5
 have R0:=R05
 have R3:=R35
 have R4:=R45
 have ex:=ex5
 clear HN5 HO5 R05 R35 R45 ex5 c6 f6 l6 q6 hw5 HB4 hne0 z0 z3 zx t4 hgo hg2 z23
 obtain⟨tR00,tR01,tR02,tR03,tR04,tR05,tR06,tR07,tR08,tR09⟩:=R0.ten
 have lR0:=R0.lt
 have tR30:=R3.zc 0 rfl
 have lR3:=R3.lt
 have tR40:=R4.zc 0 rfl
 have lR4:=R4.lt
 go_wp2_with fail
 refine (KC0.out _ _ ex HN.out).mono ?_
 rintro _ v1 ⟨_,rfl,hb,a0,c0,rfl,hi⟩
 replace R0:=R0.ext hb
 replace R3:=R3.ext hb
 replace R4:=R4.ext hb
 replace ex:=zb ex hb
 replace HN:=zhd (HN.out.ext hb)
 replace HO:=zhd (HO.out.ext hb)
 have H0:=zhd hi
 clear hi
 clear hb KC0 tR00 tR01 tR02 tR03 tR04 tR05 tR06 tR07 tR08 tR09 lR0 tR30 lR3 tR40 lR4
 obtain⟨tR00,tR01,tR02,tR03,tR04,tR05,tR06,tR07,tR08,tR09⟩:=R0.ten
 have lR0:=R0.lt
 have tR30:=R3.zc 0 rfl
 have lR3:=R3.lt
 have tR40:=R4.zc 0 rfl
 have lR4:=R4.lt
 go_wp2_with fail
 refine (KC1.out _ _ ex HO.out).mono ?_
 rintro _ v2 ⟨_,rfl,hb,a1,c1,rfl,hi⟩
 replace R0:=R0.ext hb
 replace R3:=R3.ext hb
 replace R4:=R4.ext hb
 replace ex:=zb ex hb
 replace HN:=zhd (HN.out.ext hb)
 replace HO:=zhd (HO.out.ext hb)
 replace H0:=zhd (H0.out.ext hb)
 have H1:=zhd hi
 clear hi
 clear hb KC1 tR00 tR01 tR02 tR03 tR04 tR05 tR06 tR07 tR08 tR09 lR0 tR30 lR3 tR40 lR4
 obtain⟨tR00,tR01,tR02,tR03,tR04,tR05,tR06,tR07,tR08,tR09⟩:=R0.ten
 have lR0:=R0.lt
 have tR30:=R3.zc 0 rfl
 have lR3:=R3.lt
 have tR40:=R4.zc 0 rfl
 have lR4:=R4.lt
 go_wp2_with fail
 refine (KSZ.out _ _ ex HO.out).mono ?_
 rintro _ v3 ⟨_,rfl,hb,rfl⟩
 replace R0:=R0.ext hb
 replace R3:=R3.ext hb
 replace R4:=R4.ext hb
 replace ex:=zb ex hb
 replace HN:=zhd (HN.out.ext hb)
 replace HO:=zhd (HO.out.ext hb)
 replace H0:=zhd (H0.out.ext hb)
 replace H1:=zhd (H1.out.ext hb)
 clear hb KSZ tR00 tR01 tR02 tR03 tR04 tR05 tR06 tR07 tR08 tR09 lR0 tR30 lR3 tR40 lR4
 obtain⟨tR00,tR01,tR02,tR03,tR04,tR05,tR06,tR07,tR08,tR09⟩:=R0.ten
 have lR0:=R0.lt
 have tR30:=R3.zc 0 rfl
 have lR3:=R3.lt
 have tR40:=R4.zc 0 rfl
 have lR4:=R4.lt
 go_wp2_with fail
 refine (KD1.out _ _ ex HO.out).mono ?_
 rintro _ v4 ⟨_,rfl,hb,ap,cp,rfl,hi⟩
 replace R0:=R0.ext hb
 replace R3:=R3.ext hb
 replace R4:=R4.ext hb
 replace ex:=zb ex hb
 replace HN:=zhd (HN.out.ext hb)
 replace HO:=zhd (HO.out.ext hb)
 replace H0:=zhd (H0.out.ext hb)
 replace H1:=zhd (H1.out.ext hb)
 have HP:=zhd hi
 clear hi
 clear hb KD1 tR00 tR01 tR02 tR03 tR04 tR05 tR06 tR07 tR08 tR09 lR0 tR30 lR3 tR40 lR4
 obtain⟨tR00,tR01,tR02,tR03,tR04,tR05,tR06,tR07,tR08,tR09⟩:=R0.ten
 have lR0:=R0.lt
 have tR30:=R3.zc 0 rfl
 have lR3:=R3.lt
 have tR40:=R4.zc 0 rfl
 have lR4:=R4.lt
 go_wp2_with fail
 refine (KD2.out _ _ ex HO.out).mono ?_
 rintro _ v5 ⟨_,rfl,hb,aq,cq,rfl⟩
 replace R0:=R0.ext hb
 replace R3:=R3.ext hb
 replace R4:=R4.ext hb
 replace ex:=zb ex hb
 replace HN:=zhd (HN.out.ext hb)
 replace HO:=zhd (HO.out.ext hb)
 replace H0:=zhd (H0.out.ext hb)
 replace H1:=zhd (H1.out.ext hb)
 replace HP:=zhd (HP.out.ext hb)
 clear hb KD2 tR00 tR01 tR02 tR03 tR04 tR05 tR06 tR07 tR08 tR09 lR0 tR30 lR3 tR40 lR4
 go_wp2_with fail
 refine (equalQ (H0.out.ext (ze v5 (.cells #[.int .i64 0,.int .i64 1,.int .i64 2,.int .i64 3,.int .i64 2,.int .i64 1,.int .i64 3,.int .i64 2] 3))) (litQ v5 [0,1,2,3,2,1,3,2] 3 (by decide) (by decide))).mono ?_
 rintro _ v6 ⟨_,rfl,hb,rfl⟩
 replace hb:=zb (ze v5 (.cells #[.int .i64 0,.int .i64 1,.int .i64 2,.int .i64 3,.int .i64 2,.int .i64 1,.int .i64 3,.int .i64 2] 3)) hb
 replace R0:=R0.ext hb
 replace R3:=R3.ext hb
 replace R4:=R4.ext hb
 replace ex:=zb ex hb
 replace HN:=zhd (HN.out.ext hb)
 replace HO:=zhd (HO.out.ext hb)
 replace H0:=zhd (H0.out.ext hb)
 replace H1:=zhd (H1.out.ext hb)
 replace HP:=zhd (HP.out.ext hb)
 clear hb
 go_wp2_with fail
 refine (equalQ (H1.out.ext (ze v6 (.cells #[.int .i64 0,.int .i64 1,.int .i64 2,.int .i64 3,.int .i64 2,.int .i64 4,.int .i64 5,.int .i64 2] 3))) (litQ v6 [0,1,2,3,2,4,5,2] 3 (by decide) (by decide))).mono ?_
 rintro _ v7 ⟨_,rfl,hb,rfl⟩
 replace hb:=zb (ze v6 (.cells #[.int .i64 0,.int .i64 1,.int .i64 2,.int .i64 3,.int .i64 2,.int .i64 4,.int .i64 5,.int .i64 2] 3)) hb
 replace R0:=R0.ext hb
 replace R3:=R3.ext hb
 replace R4:=R4.ext hb
 replace ex:=zb ex hb
 replace HN:=zhd (HN.out.ext hb)
 replace HO:=zhd (HO.out.ext hb)
 replace H0:=zhd (H0.out.ext hb)
 replace H1:=zhd (H1.out.ext hb)
 replace HP:=zhd (HP.out.ext hb)
 clear hb
 go_wp2_with fail
 refine (equalQ (HP.out.ext (ze v7 (.cells #[.int .i64 1,.int .i64 3] 3))) (litQ v7 [1,3] 3 (by decide) (by decide))).mono ?_
 rintro _ v8 ⟨_,rfl,hb,rfl⟩
 replace hb:=zb (ze v7 (.cells #[.int .i64 1,.int .i64 3] 3)) hb
 replace R0:=R0.ext hb
 replace R3:=R3.ext hb
 replace R4:=R4.ext hb
 replace ex:=zb ex hb
 replace HN:=zhd (HN.out.ext hb)
 replace HO:=zhd (HO.out.ext hb)
 replace H0:=zhd (H0.out.ext hb)
 replace H1:=zhd (H1.out.ext hb)
 replace HP:=zhd (HP.out.ext hb)
 clear hb
 obtain⟨tR00,tR01,tR02,tR03,tR04,tR05,tR06,tR07,tR08,tR09⟩:=R0.ten
 have lR0:=R0.lt
 have tR30:=R3.zc 0 rfl
 have lR3:=R3.lt
 have tR40:=R4.zc 0 rfl
 have lR4:=R4.lt
 go_wp2_with fail
 refine (KA1.out _ _ _ ex HO.out HP.out).mono ?_
 rintro _ v9 ⟨_,rfl,hb,rfl⟩
 replace R0:=R0.ext hb
 replace R3:=R3.ext hb
 replace R4:=R4.ext hb
 replace ex:=zb ex hb
 replace HN:=zhd (HN.out.ext hb)
 replace HO:=zhd (HO.out.ext hb)
 replace H0:=zhd (H0.out.ext hb)
 replace H1:=zhd (H1.out.ext hb)
 replace HP:=zhd (HP.out.ext hb)
 clear hb KA1 tR00 tR01 tR02 tR03 tR04 tR05 tR06 tR07 tR08 tR09 lR0 tR30 lR3 tR40 lR4
 obtain⟨tR00,tR01,tR02,tR03,tR04,tR05,tR06,tR07,tR08,tR09⟩:=R0.ten
 have lR0:=R0.lt
 have tR30:=R3.zc 0 rfl
 have lR3:=R3.lt
 have tR40:=R4.zc 0 rfl
 have lR4:=R4.lt
 go_wp2_with fail
 refine (KA0.out _ _ _ ex HN.out HP.out).mono ?_
 rintro _ v10 ⟨_,rfl,hb,rfl⟩
 replace R0:=R0.ext hb
 replace R3:=R3.ext hb
 replace R4:=R4.ext hb
 replace ex:=zb ex hb
 replace HN:=zhd (HN.out.ext hb)
 replace HO:=zhd (HO.out.ext hb)
 replace H0:=zhd (H0.out.ext hb)
 replace H1:=zhd (H1.out.ext hb)
 replace HP:=zhd (HP.out.ext hb)
 clear hb KA0 tR00 tR01 tR02 tR03 tR04 tR05 tR06 tR07 tR08 tR09 lR0 tR30 lR3 tR40 lR4
 obtain⟨tR00,tR01,tR02,tR03,tR04,tR05,tR06,tR07,tR08,tR09⟩:=R0.ten
 have lR0:=R0.lt
 have tR30:=R3.zc 0 rfl
 have lR3:=R3.lt
 have tR40:=R4.zc 0 rfl
 have lR4:=R4.lt
 go_wp2_with fail
 refine (KV1.out _ _ _ ex HO.out H1.out).mono ?_
 rintro _ v11 ⟨_,rfl,hb,rfl⟩
 replace R0:=R0.ext hb
 replace R3:=R3.ext hb
 replace R4:=R4.ext hb
 replace ex:=zb ex hb
 replace HN:=zhd (HN.out.ext hb)
 replace HO:=zhd (HO.out.ext hb)
 replace H0:=zhd (H0.out.ext hb)
 replace H1:=zhd (H1.out.ext hb)
 replace HP:=zhd (HP.out.ext hb)
 clear hb KV1 tR00 tR01 tR02 tR03 tR04 tR05 tR06 tR07 tR08 tR09 lR0 tR30 lR3 tR40 lR4
 obtain⟨tR00,tR01,tR02,tR03,tR04,tR05,tR06,tR07,tR08,tR09⟩:=R0.ten
 have lR0:=R0.lt
 have tR30:=R3.zc 0 rfl
 have lR3:=R3.lt
 have tR40:=R4.zc 0 rfl
 have lR4:=R4.lt
 go_wp2_with fail
 refine (KV0.out _ _ _ ex HO.out H0.out).mono ?_
 rintro _ v12 ⟨_,rfl,hb,rfl⟩
 replace R0:=R0.ext hb
 replace R3:=R3.ext hb
 replace R4:=R4.ext hb
 replace ex:=zb ex hb
 replace HN:=zhd (HN.out.ext hb)
 replace HO:=zhd (HO.out.ext hb)
 replace H0:=zhd (H0.out.ext hb)
 replace H1:=zhd (H1.out.ext hb)
 replace HP:=zhd (HP.out.ext hb)
 clear hb KV0 tR00 tR01 tR02 tR03 tR04 tR05 tR06 tR07 tR08 tR09 lR0 tR30 lR3 tR40 lR4
 clear R0 R3 R4
 have HE:=zhd (zb HEX.out ex)
 clear ex HEX
 go_wp2
 go_ret
 exact .mk HE.out rfl
theorem zax {S S':Nat→Prop} {w:World} {v1 v2:Value} {l1 l2:List Int} (h1:Ints S w v1 l1) (h2:Ints S' w v2 l2):
  Calls Tryz.prog 17 #[v1,v2] w (QuietP w (.bool (decide (l1=l2)))):=by
 obtain ⟨a1,cap1,rfl,ha1,_,hm1,hc1,_⟩:=h1
 obtain ⟨a2,cap2,rfl,ha2,_,_,hc2,_⟩:=h2
 unfold maxLen at hm1
 obtain ⟨i0,hi,hz0,hz1,hz2⟩:=info_parts zD
 have hix1:=zz Tryz.underlying36 hi hz1 ha1
 have hix2:=zz Tryz.underlying36 hi hz1 ha2
 clear hi hz0 hz1 hz2
 by_cases hlen:l1.length=l2.length
 ·have hne:((l1.length:Int) !=l2.length)=false:=by simp[hlen]
  have HL:=zhd hlen
  clear hlen
  go_enter Tryz.func17,Tryz.ntmps17
  go_wp2
  go_loopw [5] (fun i wr=>∃k:Nat,k≤l1.length∧i=.int .i64 k∧(∃m,wr=w.drewN m)∧l1.take k=l2.take k) (fun i _=>l1.length - (intOf i).toNat)
  case atStart=>exact ⟨0,by omega,rfl,⟨0,rfl⟩,rfl⟩
  case round=>
   obtain ⟨k,hk,rfl,⟨m,rfl⟩,hrel⟩:=hrel
   have H:=zhd hrel
   clear hrel
   by_cases hlt:k<l1.length
   ·have hlt2:k<l2.length:=by have:=HL.out;omega
    have q1:=hix1 k hlt
    have q2:=hix2 k hlt2
    have p1:=hc1 k hlt
    have p2:=hc2 k hlt2
    clear hix1 hix2 hc1 hc2
    by_cases he:nth l1 k=nth l2 k
    ·have he':(nth l1 k !=nth l2 k)=false:=by simp[he]
     have HE:=zhd he
     clear he
     go_wp2
     go_quiet (fail)
     go_wp2
     go_roundw
     case rel=>exact ⟨k+1,by omega,by go_num,⟨_,rfl⟩,qU hlt hlt2 H.out HE.out⟩
     case measure=>simp[intOf];omega
    ·have he':(nth l1 k !=nth l2 k)=true:=by simp[he]
     go_wp2
     go_quiet (fail)
     go_wp2
     go_ret
     rw[World.drewN_drewN]
     exact .of (zr (decide_eq_false (fun (e:l1=l2)=>he (by rw[e]))).symm) _
   ·go_wp2
    go_ret
    refine .of (zr ?_) _
    have:=H.out
    have h2:=HL.out
    rw[List.take_of_length_le (by omega),List.take_of_length_le (by omega)]at this
    exact (decide_eq_true this).symm
 ·have hne:((l1.length:Int) !=l2.length)=true:=by simp;omega
  go_enter Tryz.func17,Tryz.ntmps17
  go_wp2
  go_ret
  exact .of (zr (decide_eq_false (fun (e:l1=l2)=>hlen (by rw[e]))).symm) 0
theorem XD {S S':Nat→Prop} {w:World} {v1 v2:Value} {l:List Int} (h1:Ints S w v1 l) (h2:Ints S' w v2 l):
  Calls Tryz.prog 17 #[v1,v2] w (Post w fun _ r=>r=.bool true):=(zax h1 h2).mono fun _ _ h=>by simpa using h.post
def PairL (l:List Int) (x:Int) (w':World) (r:Value):Prop:=∃a c,r=.tuple #[.slice a l.length c,.int .i64 x]∧Ints TT w' (.slice a l.length c) l
def claA (s:SysF) (ch:List Int):List Int:=if ruleE s ch=0 then quoL s ch else []
theorem ClaR.pair {B:Nat} {s:SysF} {ch:List Int} {w':World} {r:Value} (h:ClaR B s ch w' r):PairL (claA s ch) (ruleE s ch) w' r:=by
 unfold claA
 rcases h with ⟨h0,u,rfl,hu⟩ | ⟨h0,rfl⟩
 ·rw[if_pos h0,h0]
  obtain ⟨a,c,rfl,_⟩:=hu.form
  exact ⟨a,c,rfl,hu.mono fun _ _=>trivial⟩
 ·rw[if_neg h0]
  exact ⟨none,0,rfl,Ints.nil _ _⟩
theorem walkQuotientClasses {S0 S2:Nat→Prop} {w:World} {v vch:Value} {s:SysF} {ch:List Int} (h0:SysV S0 w v s) (h02:Ints S2 w vch ch):
  Calls Tryz.prog 3 #[v,.agg #[vch]] w (Post w fun _ r=>r=.bool true):=by
 have h:SysV TT w v s:=h0.mono fun _ _=>trivial
 have h2:Ints TT w vch ch:=h02.mono fun _ _=>trivial
 clear h0 h02
 have KFS:Hid (∀W,Below w.heap.size w W→Calls Tryz.prog 10 #[v] W (Post W fun _ r=>Tells (FewQ s) r)):=zhd fun W hW=>zaT (h.ext hW)
 have KFR:Hid (∀W,Below w.heap.size w W→Calls Tryz.prog 11 #[.agg #[vch]] W (Post W fun _ r=>r=.bool (decide (ch.length≤1000)))):=zhd fun W hW=>zbs (h2.ext hW)
 obtain ⟨b1,hb1⟩:∃b,b=decide (ch.length≤1000):=⟨_,rfl⟩
 rw[←hb1]at KFR
 have KC:Hid (FewQ s→∀W,Below w.heap.size w W→Calls Tryz.prog 13 #[v,.agg #[vch]] W (Post W (PairL (claA s ch) (ruleE s ch)))):=zhd fun hf W hW=>(xt (h.ext hW) hf.1.p.few (h2.ext hW) hf.2).mono fun _ _ h=>yB h fun _ _ hr=>hr.pair
 have KD:Hid (FewQ s→∀W,Below w.heap.size w W→Calls Tryz.prog 14 #[v,.agg #[vch]] W (Post W (PairL (claA s ch) (ruleE s ch)))):=zhd fun hf W hW=>(zcq (h.ext hW) hf.1.p.few.small (h2.ext hW) (Nat.le_trans hf.2 (by decide))).mono fun _ _ h=>yB h fun _ _ hr=>hr.pair
 have KP:Hid (FewQ s→∀W,Below w.heap.size w W→Calls Tryz.prog 15 #[v,.agg #[vch]] W (Post W fun _ r=>r=.tuple #[.int .i64 (sizA s ch),.int .i64 (ruleE s ch)])):=zhd fun hf W hW=>Qw (h.ext hW) hf.1.p.few (h2.ext hW) hf.2
 have KR:Hid (FewQ s→∀W,Below w.heap.size w W→Calls Tryz.prog 16 #[v,.agg #[vch]] W (Post W fun _ r=>r=.tuple #[.int .i64 (sizA s ch),.int .i64 (ruleE s ch)])):=zhd fun hf W hW=>zcJ (h.ext hW) hf.1.p.few.small (h2.ext hW) (Nat.le_trans hf.2 (by decide))
 obtain ⟨l1,hl1⟩:∃l1,l1=claA s ch:=⟨_,rfl⟩
 rw[←hl1]at KC KD
 clear hl1
 obtain ⟨d1,hd1⟩:∃d1,d1=ruleE s ch:=⟨_,rfl⟩
 rw[←hd1]at KC KD KP KR
 clear hd1
 obtain ⟨a1,ha1⟩:∃a1,a1=sizA s ch:=⟨_,rfl⟩
 rw[←ha1]at KP KR
 clear ha1
 have gd1:(d1==d1)=true:=by simp
 have ga1:(a1==a1)=true:=by simp
 obtain ⟨vc,vs,vt,vx,rfl,hc,hs,ht,hx⟩:=h
 obtain ⟨ca,cc,rfl,_⟩:=hc.form
 obtain ⟨sa,sc,rfl,_⟩:=hs.form
 obtain ⟨ta,tc,rfl,_⟩:=ht.form
 obtain ⟨xa,xc,rfl,xad,_⟩:=hx.form2
 obtain ⟨a2,c2,rfl,_⟩:=h2.form
 have ex:=zg (ze w (.cells #[.int .i64 s.p.n,.int .i64 s.p.ins,.int .i64 s.p.outs,.slice ca s.p.cs.length cc,.int .i64 s.p.an,.slice sa s.p.st.length sc,.int .i64 s.p.rounds,.int .i64 s.tn,.slice ta s.tab.length tc,.slice xa s.ex.length xc] 35)) (.cells #[.slice a2 ch.length c2] 38)
 have R0:=(zh w [.int .i64 s.p.n,.int .i64 s.p.ins,.int .i64 s.p.outs,.slice ca s.p.cs.length cc,.int .i64 s.p.an,.slice sa s.p.st.length sc,.int .i64 s.p.rounds,.int .i64 s.tn,.slice ta s.tab.length tc,.slice xa s.ex.length xc] 35).alloc (.cells #[.slice a2 ch.length c2] 38)
 have R1:=zh (w.alloc (.cells #[.int .i64 s.p.n,.int .i64 s.p.ins,.int .i64 s.p.outs,.slice ca s.p.cs.length cc,.int .i64 s.p.an,.slice sa s.p.st.length sc,.int .i64 s.p.rounds,.int .i64 s.tn,.slice ta s.tab.length tc,.slice xa s.ex.length xc] 35)) [.slice a2 ch.length c2] 38
 simp only[World.size_alloc]at R1
 clear hc hs ht hx h2 hb1
 go_enter Tryz.func3,Tryz.ntmps3
 obtain⟨tR00,tR01,tR02,tR03,tR04,tR05,tR06,tR07,tR08,tR09⟩:=R0.ten
 have lR0:=R0.lt
 have tR10:=R1.zc 0 rfl
 have lR1:=R1.lt
 go_wp2_with fail
 refine (KFS.out _ ex).mono ?_
 rintro _ w1 ⟨_,rfl,hb,b0,rfl,hb0⟩
 replace R0:=R0.ext hb
 replace R1:=R1.ext hb
 replace ex:=zb ex hb
 clear hb tR00 tR01 tR02 tR03 tR04 tR05 tR06 tR07 tR08 tR09 lR0 tR10 lR1 KFS
 cases b0 with
 | false=>
  clear hb0
  go_wp2_with fail
  refine (qB _).mono ?_
  rintro _ w99 ⟨_,rfl,hb,rfl⟩
  replace ex:=zb ex hb
  clear hb R0 R1
  go_wp2
  go_ret
  exact .mk ex rfl
 | true=>
 have hfew:=hb0 rfl
 clear hb0
 obtain⟨tR00,tR01,tR02,tR03,tR04,tR05,tR06,tR07,tR08,tR09⟩:=R0.ten
 have lR0:=R0.lt
 have tR10:=R1.zc 0 rfl
 have lR1:=R1.lt
 go_wp2_with fail
 refine (KFR.out _ ex).mono ?_
 rintro _ w2 ⟨_,rfl,hb,rfl⟩
 replace R0:=R0.ext hb
 replace R1:=R1.ext hb
 replace ex:=zb ex hb
 clear hb tR00 tR01 tR02 tR03 tR04 tR05 tR06 tR07 tR08 tR09 lR0 tR10 lR1 KFR
 cases b1 with
 | false=>
  go_wp2_with fail
  refine (qB _).mono ?_
  rintro _ w99 ⟨_,rfl,hb,rfl⟩
  replace ex:=zb ex hb
  clear hb R0 R1
  go_wp2
  go_ret
  exact .mk ex rfl
 | true=>
 obtain⟨tR00,tR01,tR02,tR03,tR04,tR05,tR06,tR07,tR08,tR09⟩:=R0.ten
 have lR0:=R0.lt
 have tR10:=R1.zc 0 rfl
 have lR1:=R1.lt
 go_wp2_with fail
 refine (KC.out hfew _ ex).mono ?_
 rintro _ w3 ⟨_,rfl,hb,a,c,rfl,hi⟩
 replace R0:=R0.ext hb
 replace R1:=R1.ext hb
 replace ex:=zb ex hb
 have H1:=zhd hi
 clear hi
 clear hb tR00 tR01 tR02 tR03 tR04 tR05 tR06 tR07 tR08 tR09 lR0 tR10 lR1 KC
 obtain⟨tR00,tR01,tR02,tR03,tR04,tR05,tR06,tR07,tR08,tR09⟩:=R0.ten
 have lR0:=R0.lt
 have tR10:=R1.zc 0 rfl
 have lR1:=R1.lt
 go_wp2_with fail
 refine (KD.out hfew _ ex).mono ?_
 rintro _ w4 ⟨_,rfl,hb,b,d,rfl,hi⟩
 replace R0:=R0.ext hb
 replace R1:=R1.ext hb
 replace H1:=zhd (H1.out.ext hb)
 replace ex:=zb ex hb
 have H2:=zhd hi
 clear hi
 clear hb tR00 tR01 tR02 tR03 tR04 tR05 tR06 tR07 tR08 tR09 lR0 tR10 lR1 KD
 obtain⟨tR00,tR01,tR02,tR03,tR04,tR05,tR06,tR07,tR08,tR09⟩:=R0.ten
 have lR0:=R0.lt
 have tR10:=R1.zc 0 rfl
 have lR1:=R1.lt
 go_wp2_with fail
 refine (KP.out hfew _ ex).mono ?_
 rintro _ w5 ⟨_,rfl,hb,rfl⟩
 replace R0:=R0.ext hb
 replace R1:=R1.ext hb
 replace H1:=zhd (H1.out.ext hb)
 replace H2:=zhd (H2.out.ext hb)
 replace ex:=zb ex hb
 clear hb tR00 tR01 tR02 tR03 tR04 tR05 tR06 tR07 tR08 tR09 lR0 tR10 lR1 KP
 obtain⟨tR00,tR01,tR02,tR03,tR04,tR05,tR06,tR07,tR08,tR09⟩:=R0.ten
 have lR0:=R0.lt
 have tR10:=R1.zc 0 rfl
 have lR1:=R1.lt
 go_wp2_with fail
 refine (KR.out hfew _ ex).mono ?_
 rintro _ w6 ⟨_,rfl,hb,rfl⟩
 replace R0:=R0.ext hb
 replace R1:=R1.ext hb
 replace H1:=zhd (H1.out.ext hb)
 replace H2:=zhd (H2.out.ext hb)
 replace ex:=zb ex hb
 clear hb tR00 tR01 tR02 tR03 tR04 tR05 tR06 tR07 tR08 tR09 lR0 tR10 lR1 KR
 go_wp2_with fail
 refine (XD H1.out H2.out).mono ?_
 rintro _ w7 ⟨_,rfl,hb,rfl⟩
 replace R0:=R0.ext hb
 replace R1:=R1.ext hb
 replace H1:=zhd (H1.out.ext hb)
 replace H2:=zhd (H2.out.ext hb)
 replace ex:=zb ex hb
 clear hb
 go_wp2_with fail
 refine (qB _).mono ?_
 rintro _ w99 ⟨_,rfl,hb,rfl⟩
 replace ex:=zb ex hb
 clear hb R0 R1
 go_wp2
 go_ret
 exact .mk ex rfl
end Go.Proofs.YtfjlhjkjjbiliaaGreat
