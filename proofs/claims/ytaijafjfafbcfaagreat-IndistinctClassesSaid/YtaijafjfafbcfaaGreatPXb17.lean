/- Part of the proof that the laws answer true for every input. -/
import Derived.Test.YtaijafjfafbcfaaGreatPXb16
import Derived.Test.YtaijafjfafbcfaaGreatPXb03
import Derived.Test.YtaijafjfafbcfaaGreatPXb04
set_option linter.unusedSimpArgs false
set_option linter.unnecessarySimpa false
set_option linter.unusedVariables false
set_option maxRecDepth 100000
set_option maxHeartbeats 40000000
namespace Go.Proofs.YtaijafjfafbcfaaGreat
open Go.RowKit
attribute [local go_sem ↓] Go.wp_at_zero Go.wp_at_succ
theorem cutW_gt {st:Moves} {k L s:Nat}:(L<cutW st k L s)↔L<cntW st k s:=by unfold cutW;omega
theorem cutW_eq {st:Moves} {k L s:Nat} (h:¬L<cntW st k s):cutW st k L s=cntW st k s:=by unfold cutW;omega
theorem checkT_zero {n ins outs:Int} {l:List CaseD} (h:checkT n ins outs l=0):1≤n∧n≤5∧1≤ins∧ins≤8∧1≤outs∧outs≤8∧1≤l.length∧l.length≤1024∧∀k,k<l.length→caseE n ins outs l k=0:=by
 unfold checkT at h
 by_cases h1:n<1∨5<n∨ins<1∨8<ins∨outs<1∨8<outs
 ·rw[if_pos h1]at h;cases h
 ·rw[if_neg h1]at h
  by_cases h2:l.length<1∨1024<l.length
  ·rw[if_pos h2]at h;cases h
  ·rw[if_neg h2]at h
   exact ⟨by omega,by omega,by omega,by omega,by omega,by omega,by omega,by omega,firstE_iff.1 h⟩
def numR (st:Moves) (K L:Nat):Value:=if L<cntW st K 0 then .tuple #[.int .i64 0,.int .i64 17] else .tuple #[.int .i64 (cntW st K 0:Nat),.int .i64 0]
theorem counted_calls {S:Nat→Prop} {w:World} {vs:Value} {st:Moves} (n:Int) (hs:Sl (kSl (kFlat 8)) S w vs st) (hz:checkA n st=0) (K L:Nat) (hK:K≤6) (hL:L≤1048576):
  Calls Tryz.prog 93 #[.agg #[.int .i64 n,vs],.int .i64 K,.int .i64 L] w (Post w fun _ r=>r=numR st K L):=by
 obtain ⟨_,_,hl1,hl2,_,hok,_⟩:=checkA_zero hz
 obtain ⟨sa,sc,rfl,hm⟩:=hs.addr
 have KC:Hid (∀W,Below w.heap.size w W→Calls Tryz.prog 119 #[.agg #[.int .i64 n,.slice sa st.length sc]] W (Post W fun _ r=>r=.int .i64 0)):=Lib.hid fun W hW=>by rw[←hz];exact pcheckA_calls n (hs.ext hW) (by omega)
 have KN:Hid (∀W,Below w.heap.size w W→Calls Tryz.prog 120 #[.agg #[.int .i64 n,.slice sa st.length sc],.int .i64 K,.int .i64 L] W (Post W fun _ r=>r=.int .i64 (cutW st K L 0:Nat))):=Lib.hid fun W hW=>pnum_calls n (hs.ext hW) hok hl1 (by omega) K L hK hL
 have HR:Hid ((L<cutW st K L 0→numR st K L=.tuple #[.int .i64 0,.int .i64 17])∧(¬L<cutW st K L 0→numR st K L=.tuple #[.int .i64 (cutW st K L 0:Nat),.int .i64 0])):=Lib.hid ⟨fun h=>by unfold numR;rw[if_pos (cutW_gt.1 h)],fun h=>by unfold numR;rw[if_neg (fun h'=>h (cutW_gt.2 h')),cutW_eq (fun h'=>h (cutW_gt.2 h'))]⟩
 obtain ⟨x,hx⟩:∃x,x=cutW st K L 0:=⟨_,rfl⟩
 rw[←hx]at KN HR
 obtain ⟨r,hr⟩:∃r,r=numR st K L:=⟨_,rfl⟩
 rw[←hr]at HR ⊢
 have hxl:x≤L+1:=by rw[hx];exact cutW_le _ _ _ _
 clear hx hr hs hz hok hl1 hl2
 have ex:=ext_alloc w (.cells #[.int .i64 n,.slice sa st.length sc] 27)
 have R:Row (w.alloc (.cells #[.int .i64 n,.slice sa st.length sc] 27)) w.heap.size 27 [.int .i64 n,.slice sa st.length sc]:=row_new w [_,_] _
 have g1:decide ((K:Int)<0)=false:=decide_eq_false (by omega)
 have g2:decide (6<(K:Int))=false:=decide_eq_false (by omega)
 go_enter Tryz.func93,Tryz.ntmps93
 go_wp2_with fail
 refine (KC.out _ ex).mono ?_
 rintro _ w1 ⟨_,rfl,hb1,rfl⟩
 replace R:=R.ext hb1
 replace ex:=ext_trans ex hb1
 have t0:=R.cell (j:=0) rfl
 have t1:=R.cell (j:=1) rfl
 clear hb1
 go_wp2_with fail
 refine (KN.out _ ex).mono ?_
 rintro _ w2 ⟨_,rfl,hb2,rfl⟩
 replace ex:=ext_trans ex hb2
 clear hb2 t0 t1 R KN KC
 by_cases hg:L<x
 ·have RR:=Lib.hid (HR.out.1 hg)
  go_wp2
  go_ret2
  exact .mk ex RR.out.symm
 ·have RR:=Lib.hid (HR.out.2 hg)
  go_wp2
  go_ret2
  exact .mk ex RR.out.symm
theorem acount_calls {S:Nat→Prop} {w:World} {vs:Value} {st:Moves} (n:Int) (hs:Sl (kSl (kFlat 8)) S w vs st) (hz:checkA n st=0) (K:Nat) (hK:K≤6):
  Calls Tryz.prog 92 #[.agg #[.int .i64 n,vs],.int .i64 K] w (Post w fun _ r=>r=numR st K 1048576):=by
 obtain ⟨sa,sc,rfl,hm⟩:=hs.addr
 have ex:=ext_alloc w (.cells #[.int .i64 n,.slice sa st.length sc] 27)
 have KC:Hid (Calls Tryz.prog 93 #[.agg #[.int .i64 n,.slice sa st.length sc],.int .i64 K,.int .i64 1048576] (w.alloc (.cells #[.int .i64 n,.slice sa st.length sc] 27)) (Post (w.alloc (.cells #[.int .i64 n,.slice sa st.length sc] 27)) fun _ r=>∃a b:Int,r=.tuple #[.int .i64 a,.int .i64 b]∧numR st K 1048576=.tuple #[.int .i64 a,.int .i64 b])):=Lib.hid ((counted_calls n (hs.ext ex) hz K 1048576 hK (by omega)).mono fun _ _ h=>h.imp fun W r hr=>by
  subst hr
  unfold numR
  split
  ·exact ⟨_,_,rfl,rfl⟩
  ·exact ⟨_,_,rfl,rfl⟩)
 clear hs hz
 go_enter Tryz.func92,Tryz.ntmps92
 go_wp2_with fail
 refine KC.out.mono ?_
 rintro _ w1 ⟨_,rfl,hb1,a,b,rfl,hr⟩
 have HR:=Lib.hid hr
 clear hr KC
 go_wp2
 go_ret2
 exact .mk (ext_trans ex hb1) HR.out.symm
theorem rnumber_calls {S S':Nat→Prop} {w:World} {vc vs:Value} {p:ProbD} (hc:Sl kCase S w vc p.cs) (hs:Sl (kSl (kFlat 8)) S' w vs p.st) (hz:checkPr p=0) (L:Nat) (hL:L≤1048576):
  Calls Tryz.prog 58 #[.agg #[.int .i64 p.n,.int .i64 p.ins,.int .i64 p.outs,vc,.int .i64 p.an,vs,.int .i64 p.rounds],.int .i64 L] w (Post w fun _ r=>r=.int .i64 (p.cs.length * cutW p.st p.rounds.toNat L 0:Nat)):=by
 obtain ⟨h1,h2,h3,h4,h5⟩:=checkPr_zero hz
 obtain ⟨_,_,hl1,hl2,_,hok,_⟩:=checkA_zero h2
 have hcl:=(checkT_zero h1).2.2.2.2.2.2.2.1
 obtain ⟨ca,cc,rfl,_⟩:=hc.form
 obtain ⟨sa,sc,rfl,_⟩:=hs.form
 obtain ⟨k,hk⟩:∃k:Nat,p.rounds=k:=⟨p.rounds.toNat,by omega⟩
 have KN:Hid (∀W,Below w.heap.size w W→Calls Tryz.prog 82 #[.agg #[.int .i64 p.an,.slice sa p.st.length sc],.int .i64 p.rounds,.int .i64 L] W (Post W fun _ r=>r=.int .i64 (cutW p.st p.rounds.toNat L 0:Nat))):=Lib.hid fun W hW=>by rw[hk];exact rnum_calls p.an (hs.ext hW) hok hl1 (by omega) k L (by omega) hL
 have ex:=ext_alloc w (.cells #[.int .i64 p.n,.int .i64 p.ins,.int .i64 p.outs,.slice ca p.cs.length cc,.int .i64 p.an,.slice sa p.st.length sc,.int .i64 p.rounds] 29)
 have R:Row (w.alloc (.cells #[.int .i64 p.n,.int .i64 p.ins,.int .i64 p.outs,.slice ca p.cs.length cc,.int .i64 p.an,.slice sa p.st.length sc,.int .i64 p.rounds] 29)) w.heap.size 29 [.int .i64 p.n,.int .i64 p.ins,.int .i64 p.outs,.slice ca p.cs.length cc,.int .i64 p.an,.slice sa p.st.length sc,.int .i64 p.rounds]:=row_new w [_,_,_,_,_,_,_] _
 obtain ⟨x,hx⟩:∃x,x=cutW p.st p.rounds.toNat L 0:=⟨_,rfl⟩
 rw[←hx]at KN ⊢
 have hxl:x≤L+1:=by rw[hx];exact cutW_le _ _ _ _
 have hmul:p.cs.length * x≤1024 * 1048577:=Nat.mul_le_mul hcl (by omega)
 have hw:IntKind.i64.wrap ((p.cs.length:Int) * (x:Int))=((p.cs.length * x:Nat):Int):=by rw[IntKind.wrap_i64];push_cast;omega
 clear hx hs hc hz h1 h2 h3 h4 h5 hk hok hl1 hl2 hcl
 have KEEP:Hid (∀W,Below (w.alloc (.cells #[.int .i64 p.n,.int .i64 p.ins,.int .i64 p.outs,.slice ca p.cs.length cc,.int .i64 p.an,.slice sa p.st.length sc,.int .i64 p.rounds] 29)).heap.size (w.alloc (.cells #[.int .i64 p.n,.int .i64 p.ins,.int .i64 p.outs,.slice ca p.cs.length cc,.int .i64 p.an,.slice sa p.st.length sc,.int .i64 p.rounds] 29)) W→W.cell? ⟨w.heap.size,3,none⟩=some (.slice ca p.cs.length cc)∧W.cell? ⟨w.heap.size,4,none⟩=some (.int .i64 p.an)∧W.cell? ⟨w.heap.size,5,none⟩=some (.slice sa p.st.length sc)∧W.cell? ⟨w.heap.size,6,none⟩=some (.int .i64 p.rounds)):=Lib.hid fun W hW=>⟨(R.ext hW).cell (j:=3) rfl,(R.ext hW).cell (j:=4) rfl,(R.ext hW).cell (j:=5) rfl,(R.ext hW).cell (j:=6) rfl⟩
 go_enter Tryz.func58,Tryz.ntmps58
 go_wp2
 refine region_E (fun w':World=>w'.cell? ⟨w.heap.size,3,none⟩=some (.slice ca p.cs.length cc)∧w'.cell? ⟨w.heap.size,4,none⟩=some (.int .i64 p.an)∧w'.cell? ⟨w.heap.size,5,none⟩=some (.slice sa p.st.length sc)∧w'.cell? ⟨w.heap.size,6,none⟩=some (.int .i64 p.rounds)) (fun i=>false) (by kernel_rfl) ?_ (fun hHeld=>?_)
 ·exact KEEP.out _ (drewN_below _ _ 1)
 refine anyE_take 0 (v:=?_) rfl (by kernel_rfl) (fun _ _ _ h=>h) (by rfl) ?hy0 hHeld ?rest0
 case hy0=>(intro w hSw;(try dsimp only at hSw);go_simp;try with_reducible rfl)
 try simp only[Act.put,zsa,zsz,zss]
 refine anyE_take 1 (v:=?_) rfl (by kernel_rfl) (fun _ _ _ h=>h) (by rfl) ?hy1 hHeld ?rest1
 case hy1=>(intro w hSw;(try dsimp only at hSw);go_simp;try with_reducible rfl)
 try simp only[Act.put,zsa,zsz,zss]
 refine anyE_take 2 (v:=?_) rfl (by kernel_rfl) (fun _ _ _ h=>h) (by rfl) ?hy2 hHeld ?rest2
 case hy2=>(intro w hSw;(try dsimp only at hSw);go_simp;try with_reducible rfl)
 try simp only[Act.put,zsa,zsz,zss]
 refine anyE_take 3 (v:=?_) rfl (by kernel_rfl) (fun _ _ _ h=>h) (by rfl) ?hy3 hHeld ?rest3
 case hy3=>(intro w hSw;(try dsimp only at hSw);go_simp;try with_reducible rfl)
 try simp only[Act.put,zsa,zsz,zss]
 refine anyE_take 4 (v:=?_) rfl (by kernel_rfl) (fun _ _ _ h=>h) (by rfl) ?hy4 hHeld ?rest4
 case hy4=>(intro w hSw;(try dsimp only at hSw);go_simp;try with_reducible rfl)
 try simp only[Act.put,zsa,zsz,zss]
 refine anyE_take 5 (v:=?_) rfl (by kernel_rfl) (fun _ _ _ h=>h) (by rfl) ?hy5 hHeld ?rest5
 case hy5=>(intro w hSw;(try dsimp only at hSw);go_simp;try with_reducible rfl)
 try simp only[Act.put,zsa,zsz,zss]
 refine anyE_take 6 (v:=?_) rfl (by kernel_rfl) (fun _ _ _ h=>h) (by rfl) ?hy6 hHeld ?rest6
 case hy6=>(intro w hSw;(try dsimp only at hSw);go_simp;try with_reducible rfl)
 try simp only[Act.put,zsa,zsz,zss]
 refine anyE_take 7 (v:=?_) rfl (by kernel_rfl) (fun _ _ _ h=>h) (by rfl) ?hy7 hHeld ?rest7
 case hy7=>(intro w hSw;(try dsimp only at hSw);go_simp;try with_reducible rfl)
 try simp only[Act.put,zsa,zsz,zss]
 refine anyE_take 8 (v:=?_) rfl (by kernel_rfl) (fun _ _ _ h=>h) (by rfl) ?hy8 hHeld ?rest8
 case hy8=>(intro w hSw;(try dsimp only at hSw);go_simp;try with_reducible rfl)
 try simp only[Act.put,zsa,zsz,zss]
 refine anyE_one 9 rfl (by kernel_rfl) (fun K hK=>?_)
 go_simp;go_at_call 82;refine (KN.out _ (ext_drewN ex 1)).mono ?_;rintro _ w5 ⟨_,rfl,hb5,rfl⟩;have hy5:=ext_trans (drewN_below _ _ 1) hb5
 refine hK.out _ _ (fun _=>KEEP.out _ hy5) (fun hHeld=>?_);replace hHeld:=hHeld rfl
 clear hK K
 try simp only[Act.put,zsa,zsz,zss]
 refine anyE_take 10 (v:=?_) rfl (by kernel_rfl) (fun _ _ _ h=>h) (by rfl) ?hy10 hHeld ?rest10
 case hy10=>(intro w hSw;(try dsimp only at hSw);go_simp;try with_reducible rfl)
 try simp only[Act.put,zsa,zsz,zss]
 refine anyE_one 11 rfl (by kernel_rfl) (fun K hK=>?_)
 go_simp
 refine hK.out _ _ (fun _=>KEEP.out _ hy5) (fun hHeld=>?_);replace hHeld:=hHeld rfl
 clear hK K
 try simp only[Act.put,zsa,zsz,zss]
 refine anyE_done (by kernel_rfl) ?_ _
 have hz5:=ext_trans ex hy5
 clear hHeld KEEP hy5 hb5
 go_wp2
 go_ret
 exact .mk hz5 rfl
def countR (p:ProbD):Value:=if 1048576<p.num then .tuple #[.int .i64 0,.int .i64 17] else .tuple #[.int .i64 (p.num:Nat),.int .i64 0]
theorem pcount_calls {S S':Nat→Prop} {w:World} {vc vs:Value} {p:ProbD} (hc:Sl kCase S w vc p.cs) (hs:Sl (kSl (kFlat 8)) S' w vs p.st) (hl:p.st.length≤1000):
  Calls Tryz.prog 68 #[.agg #[.int .i64 p.n,.int .i64 p.ins,.int .i64 p.outs,vc,.int .i64 p.an,vs,.int .i64 p.rounds]] w (Post w fun _ r=>r=if checkPr p=0 then countR p else .tuple #[.int .i64 0,.int .i64 (checkPr p)]):=by
 have HCI:=Lib.hid (checkPr_zero (p:=p))
 obtain ⟨ca,cc,rfl,_⟩:=hc.form
 obtain ⟨sa,sc,rfl,_⟩:=hs.form
 have KC:Hid (∀W,Below w.heap.size w W→Calls Tryz.prog 91 #[.agg #[.int .i64 p.n,.int .i64 p.ins,.int .i64 p.outs,.slice ca p.cs.length cc,.int .i64 p.an,.slice sa p.st.length sc,.int .i64 p.rounds]] W (Post W fun _ r=>r=.int .i64 (checkPr p))):=Lib.hid fun W hW=>pcheckPr_calls (hc.ext hW) (hs.ext hW) hl
 have KN:Hid (∀W,Below w.heap.size w W→checkPr p=0→Calls Tryz.prog 92 #[.agg #[.int .i64 p.an,.slice sa p.st.length sc],.int .i64 p.rounds] W (Post W fun _ r=>∃a b:Int,r=.tuple #[.int .i64 a,.int .i64 b]∧((1048576<cntW p.st p.rounds.toNat 0∧a=0∧b=17)∨(¬1048576<cntW p.st p.rounds.toNat 0∧a=(cntW p.st p.rounds.toNat 0:Nat)∧b=0)))):=Lib.hid fun W hW h0=>by
  obtain ⟨h1,h2,h3,h4,h5⟩:=HCI.out h0
  obtain ⟨k,hk⟩:∃k:Nat,p.rounds=k:=⟨p.rounds.toNat,by omega⟩
  rw[hk,Int.toNat_natCast]
  refine (acount_calls p.an (hs.ext hW) h2 k (by omega)).mono fun _ _ h=>h.imp fun W r hr=>?_
  subst hr
  unfold numR
  split
  ·rename_i h;exact ⟨_,_,rfl,.inl ⟨h,rfl,rfl⟩⟩
  ·rename_i h;exact ⟨_,_,rfl,.inr ⟨h,rfl,rfl⟩⟩
 have HCL:Hid (checkPr p=0→1≤p.cs.length∧p.cs.length≤1024):=Lib.hid fun h0=>⟨(checkT_zero (HCI.out h0).1).2.2.2.2.2.2.1,(checkT_zero (HCI.out h0).1).2.2.2.2.2.2.2.1⟩
 have ex:=ext_alloc w (.cells #[.int .i64 p.n,.int .i64 p.ins,.int .i64 p.outs,.slice ca p.cs.length cc,.int .i64 p.an,.slice sa p.st.length sc,.int .i64 p.rounds] 29)
 have R:Row (w.alloc (.cells #[.int .i64 p.n,.int .i64 p.ins,.int .i64 p.outs,.slice ca p.cs.length cc,.int .i64 p.an,.slice sa p.st.length sc,.int .i64 p.rounds] 29)) w.heap.size 29 [.int .i64 p.n,.int .i64 p.ins,.int .i64 p.outs,.slice ca p.cs.length cc,.int .i64 p.an,.slice sa p.st.length sc,.int .i64 p.rounds]:=row_new w [_,_,_,_,_,_,_] _
 obtain ⟨e,he⟩:∃e,e=checkPr p:=⟨_,rfl⟩
 obtain ⟨x,hx⟩:∃x,x=cntW p.st p.rounds.toNat 0:=⟨_,rfl⟩
 have HN:Hid (countR p=if 1048576<p.cs.length * x then .tuple #[.int .i64 0,.int .i64 17] else .tuple #[.int .i64 (p.cs.length * x:Nat),.int .i64 0]):=Lib.hid (by rw[hx];rfl)
 rw[←he]at KC HCL ⊢
 rw[←hx]at KN
 rw[←he]at KN
 obtain ⟨r,hr⟩:∃r,r=if e=0 then countR p else .tuple #[.int .i64 0,.int .i64 e]:=⟨_,rfl⟩
 rw[←hr]
 have HR:Hid ((e≠0→r=.tuple #[.int .i64 0,.int .i64 e])∧(e=0→r=countR p)):=Lib.hid ⟨fun h=>by rw[hr,if_neg h],fun h=>by rw[hr,if_pos h]⟩
 clear he hx hs hc hl HCI hr
 go_enter Tryz.func68,Tryz.ntmps68
 go_wp2_with fail
 refine (KC.out _ ex).mono ?_
 rintro _ w1 ⟨_,rfl,hb1,rfl⟩
 replace R:=R.ext hb1
 replace ex:=ext_trans ex hb1
 clear hb1 KC
 by_cases h0:e=0
 case neg=>
  have d0:(e !=0)=true:=by simp[h0]
  have RR:=Lib.hid (HR.out.1 h0)
  clear h0
  go_wp2
  go_ret2
  exact .mk ex RR.out.symm
 subst h0
 have HRC:=Lib.hid (HR.out.2 rfl)
 obtain ⟨hl1,hl2⟩:=HCL.out rfl
 have t3:=R.cell (j:=3) rfl
 have t4:=R.cell (j:=4) rfl
 have t5:=R.cell (j:=5) rfl
 have t6:=R.cell (j:=6) rfl
 go_wp2_with fail
 refine (KN.out _ ex trivial).mono ?_
 rintro _ w2 ⟨_,rfl,hb2,a,b,rfl,hab⟩
 replace R:=R.ext hb2
 replace ex:=ext_trans ex hb2
 clear hb2 KN t3 t4 t5 t6
 have t3:=R.cell (j:=3) rfl
 rcases hab with ⟨hg,rfl,rfl⟩ | ⟨hg,rfl,rfl⟩
 ·have RR:Hid (r=.tuple #[.int .i64 0,.int .i64 17]):=Lib.hid (by rw[HRC.out,HN.out,if_pos];have:1 * x≤p.cs.length * x:=Nat.mul_le_mul_right _ hl1;omega)
  clear hg
  go_wp2
  go_ret2
  exact .mk ex RR.out.symm
 have hmul:p.cs.length * x≤1024 * 1048577:=Nat.mul_le_mul hl2 (by omega)
 have hw:IntKind.i64.wrap ((x:Int) * (p.cs.length:Int))=((p.cs.length * x:Nat):Int):=by rw[Int.mul_comm,IntKind.wrap_i64];push_cast;omega
 obtain ⟨m,hm⟩:∃m,m=p.cs.length * x:=⟨_,rfl⟩
 rw[←hm]at HN hw
 by_cases hgt:1048576<m
 ·have RR:Hid (r=.tuple #[.int .i64 0,.int .i64 17]):=Lib.hid (by rw[HRC.out,HN.out,if_pos hgt])
  clear hm hmul hg
  go_wp2
  go_ret2
  exact .mk ex RR.out.symm
 ·have RR:Hid (r=.tuple #[.int .i64 m,.int .i64 0]):=Lib.hid (by rw[HRC.out,HN.out,if_neg hgt])
  clear hm hmul hg
  go_wp2
  go_ret2
  exact .mk ex RR.out.symm
end Go.Proofs.YtaijafjfafbcfaaGreat
namespace Go.Proofs.YtaijafjfafbcfaaGreat
open Go.RowKit
theorem Sl.parts {α:Type} {K:Kd α} {S:Nat→Prop} {w:World} {a:Option Addr} {n cap:Nat} {l:List α} (h:Sl K S w (.slice a n cap) l):
  ∃xs:List Value,xs.length=l.length * K.size∧(∀j,j<l.length * K.size→w.cell? (adr a j)=some (xs.getD j undef))∧(∀j (h:j<l.length),K.rd S w (zzpart xs j K.size) l[j])∧∀u∈xs,u.oneCell'=true:=by
 obtain ⟨xs,hxs⟩:∃xs:List Value,xs=(List.range (l.length * K.size)).map fun j=>(w.cell? (adr a j)).getD undef:=⟨_,rfl⟩
 have hlen:xs.length=l.length * K.size:=by rw[hxs];simp
 have hget:∀j,j<l.length * K.size→xs[j]? =some ((w.cell? (adr a j)).getD undef):=fun j hj=>by rw[hxs];simp[hj]
 have hpart:∀j (hj:j<l.length) (cs:List Value),(∀i,i<K.size→w.cell? (adr a (j * K.size+i))=cs[i]?)→cs.length=K.size→zzpart xs j K.size=cs:=by
  intro j hj cs hc hl
  have hle:(j+1) * K.size≤l.length * K.size:=Nat.mul_le_mul_right _ hj
  rw[Nat.add_mul,Nat.one_mul]at hle
  apply List.ext_getElem?
  intro i
  by_cases hi:i<K.size
  ·have hx:=hget (j * K.size+i) (by omega)
   have hci:=hc i hi
   rw[List.getElem?_eq_getElem (show i<cs.length by omega)]at hci
   rw[part_get hi,hx,hci,List.getElem?_eq_getElem (show i<cs.length by omega)];rfl
  ·have h2:cs[i]? =none:=List.getElem?_eq_none (by omega)
   rw[h2]
   unfold zzpart
   rw[List.getElem?_take,if_neg hi]
 refine ⟨xs,hlen,fun j hj=>?_,fun j hj=>?_,fun u hu=>?_⟩
 ·have hz:0<K.size:=by
   rcases Nat.eq_zero_or_pos K.size with h0 | h0
   ·rw[h0]at hj;simp at hj
   ·exact h0
  have hq:j / K.size<l.length:=Nat.div_lt_of_lt_mul (by rw[Nat.mul_comm];exact hj)
  obtain ⟨cs,h1,h2,h3⟩:=h.at hq
  have hm:j % K.size<K.size:=Nat.mod_lt _ hz
  have e:j / K.size * K.size+j % K.size=j:=by rw[Nat.mul_comm];exact Nat.div_add_mod _ _
  have:=h1 _ hm
  rw[e,List.getElem?_eq_getElem (by omega)]at this
  rw[List.getD_eq_getElem?_getD,hget j hj,this]
  rfl
 ·obtain ⟨cs,h1,h2,h3⟩:=h.at hj
  rw[hpart j hj cs h1 h3]
  exact h2
 ·obtain ⟨j,hj,rfl⟩:=List.getElem_of_mem hu
  have hj2:j<l.length * K.size:=by omega
  have hz:0<K.size:=by
   rcases Nat.eq_zero_or_pos K.size with h0 | h0
   ·rw[h0]at hj2;simp at hj2
   ·exact h0
  have hq:j / K.size<l.length:=Nat.div_lt_of_lt_mul (by rw[Nat.mul_comm];exact hj2)
  obtain ⟨cs,h1,h2,h3⟩:=h.at hq
  have hm:j % K.size<K.size:=Nat.mod_lt _ hz
  have e:j / K.size * K.size+j % K.size=j:=by rw[Nat.mul_comm];exact Nat.div_add_mod _ _
  have hp:=hpart _ hq cs h1 h3
  have h4:=part_get (xs:=xs) (j:=j / K.size) hm
  rw[hp,e,List.getElem?_eq_getElem hj,List.getElem?_eq_getElem (by omega)]at h4
  injection h4 with h4
  rw[←h4]
  exact K.one h2 _ (List.getElem_mem _)
theorem part_zero {c xs:List Value} {z:Nat} (hc:c.length=z):zzpart (c++xs) 0 z=c:=by
 unfold zzpart;rw[Nat.zero_mul,List.drop_zero,←hc,List.take_left]
theorem part_succ {c xs:List Value} {j z:Nat} (hc:c.length=z):zzpart (c++xs) (j+1) z=zzpart xs j z:=by
 unfold zzpart
 rw[Nat.add_mul,Nat.one_mul,Nat.add_comm,←List.drop_drop,←hc,List.drop_left]
theorem part_all {xs:List Value} {z:Nat} (h:xs.length=z):zzpart xs 0 z=xs:=by unfold zzpart;rw[Nat.zero_mul,List.drop_zero,←h,List.take_length]
theorem Row.ownsW {w:World} {g base z n:Nat} {e:TypeId} {xs:List Value} (h:Row w g e xs) (hb:base≤g) (hl:xs.length=n * z) (hn:n≤maxLen):w.ownsRow base e z (.slice (some ⟨g,0,none⟩) n n) n xs:=
 ⟨hl,.inr ⟨g,n,xs.toArray,rfl,hb,h,Nat.le_refl _,hn,by simpa using hl,by simp[←hl]⟩⟩
theorem OwnK.cons {α:Type} {K:Kd α} {e:TypeId} {base:Nat} {S:Nat→Prop} {w:World} {v:Value} {l:List α} {y:α} {cs xs:List Value} (ho:w.ownsRow base e K.size v (l.length+1) (cs++xs))
  (hy:K.rd (fun b=>S b∧v.ownBlock≠some b) w cs y) (hr:∀j (h:j<l.length),K.rd (fun b=>S b∧v.ownBlock≠some b) w (zzpart xs j K.size) l[j]):OwnK K e base S w v (y::l):=by
 refine ⟨cs++xs,by simpa using ho,fun j hj=>?_⟩
 cases j with
 | zero=>rw[part_zero (K.len hy)];exact hy
 | succ j=>
  rw[part_succ (K.len hy)]
  exact hr j (by simpa using hj)
theorem Sl.form2 {α:Type} {K:Kd α} {S:Nat→Prop} {w:World} {v:Value} {l:List α} (h:Sl K S w v l):∃a cap,v=.slice a l.length cap∧Ad S w a l.length cap∧l.length≤cap∧cap≤maxLen∧l.length≤140737488355328:=by
 obtain ⟨a,cap,h1,h2,h3,h4⟩:=h.form
 exact ⟨a,cap,h1,h2,h3,h4,h.few⟩
end Go.Proofs.YtaijafjfafbcfaaGreat
