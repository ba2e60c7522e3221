/- Part of the proof that the laws answer true for every input. -/
import Derived.Test.YtaijafjfafbcfaaGreatPXa12
import Derived.Test.YtaijafjfafbcfaaGreatPXa02
import Derived.Test.YtaijafjfafbcfaaGreatPXa03
set_option linter.unusedSimpArgs false
set_option linter.unnecessarySimpa false
set_option linter.unusedVariables false
set_option maxRecDepth 100000
set_option maxHeartbeats 40000000
namespace Go.Proofs.YtaijafjfafbcfaaGreat
open Go.RowKit
attribute [local go_sem ↓] Go.wp_at_zero Go.wp_at_succ
theorem cutW_gt {st:Moves} {k L s:Nat}:(L<cutW st k L s)↔L<cntW st k s:=by unfold cutW;omega
theorem cutW_eq {st:Moves} {k L s:Nat} (h:¬L<cntW st k s):cutW st k L s=cntW st k s:=by unfold cutW;omega
theorem checkT_zero {n ins outs:Int} {l:List CaseD} (h:checkT n ins outs l=0):1≤n∧n≤5∧1≤ins∧ins≤8∧1≤outs∧outs≤8∧1≤l.length∧l.length≤1024∧∀k,k<l.length→caseE n ins outs l k=0:=by
 unfold checkT at h
 by_cases h1:n<1∨5<n∨ins<1∨8<ins∨outs<1∨8<outs
 ·rw[if_pos h1]at h;cases h
 ·rw[if_neg h1]at h
  by_cases h2:l.length<1∨1024<l.length
  ·rw[if_pos h2]at h;cases h
  ·rw[if_neg h2]at h
   exact ⟨by omega,by omega,by omega,by omega,by omega,by omega,by omega,by omega,firstE_iff.1 h⟩
def numR (st:Moves) (K L:Nat):Value:=if L<cntW st K 0 then .tuple #[.int .i64 0,.int .i64 17] else .tuple #[.int .i64 (cntW st K 0:Nat),.int .i64 0]
theorem counted_calls {S:Nat→Prop} {w:World} {vs:Value} {st:Moves} (n:Int) (hs:Sl (kSl (kFlat 8)) S w vs st) (hz:checkA n st=0) (K L:Nat) (hK:K≤6) (hL:L≤1048576):
  Calls Tryz.prog 93 #[.agg #[.int .i64 n,vs],.int .i64 K,.int .i64 L] w (Post w fun _ r=>r=numR st K L):=by
 obtain ⟨_,_,hl1,hl2,_,hok,_⟩:=checkA_zero hz
 obtain ⟨sa,sc,rfl,hm⟩:=hs.addr
 have KC:Hid (∀W,Below w.heap.size w W→Calls Tryz.prog 119 #[.agg #[.int .i64 n,.slice sa st.length sc]] W (Post W fun _ r=>r=.int .i64 0)):=Lib.hid fun W hW=>by rw[←hz];exact pcheckA_calls n (hs.ext hW) (by omega)
 have KN:Hid (∀W,Below w.heap.size w W→Calls Tryz.prog 120 #[.agg #[.int .i64 n,.slice sa st.length sc],.int .i64 K,.int .i64 L] W (Post W fun _ r=>r=.int .i64 (cutW st K L 0:Nat))):=Lib.hid fun W hW=>pnum_calls n (hs.ext hW) hok hl1 (by omega) K L hK hL
 have HR:Hid ((L<cutW st K L 0→numR st K L=.tuple #[.int .i64 0,.int .i64 17])∧(¬L<cutW st K L 0→numR st K L=.tuple #[.int .i64 (cutW st K L 0:Nat),.int .i64 0])):=Lib.hid ⟨fun h=>by unfold numR;rw[if_pos (cutW_gt.1 h)],fun h=>by unfold numR;rw[if_neg (fun h'=>h (cutW_gt.2 h')),cutW_eq (fun h'=>h (cutW_gt.2 h'))]⟩
 obtain ⟨x,hx⟩:∃x,x=cutW st K L 0:=⟨_,rfl⟩
 rw[←hx]at KN HR
 obtain ⟨r,hr⟩:∃r,r=numR st K L:=⟨_,rfl⟩
 rw[←hr]at HR ⊢
 have hxl:x≤L+1:=by rw[hx];exact cutW_le _ _ _ _
 clear hx hr hs hz hok hl1 hl2
 have ex:=ext_alloc w (.cells #[.int .i64 n,.slice sa st.length sc] 27)
 have R:Row (w.alloc (.cells #[.int .i64 n,.slice sa st.length sc] 27)) w.heap.size 27 [.int .i64 n,.slice sa st.length sc]:=row_new w [_,_] _
 have g1:decide ((K:Int)<0)=false:=decide_eq_false (by omega)
 have g2:decide (6<(K:Int))=false:=decide_eq_false (by omega)
 go_enter Tryz.func93,Tryz.ntmps93
 go_wp2_with fail
 refine (KC.out _ ex).mono ?_
 rintro _ w1 ⟨_,rfl,hb1,rfl⟩
 replace R:=R.ext hb1
 replace ex:=ext_trans ex hb1
 have t0:=R.cell (j:=0) rfl
 have t1:=R.cell (j:=1) rfl
 clear hb1
 go_wp2_with fail
 refine (KN.out _ ex).mono ?_
 rintro _ w2 ⟨_,rfl,hb2,rfl⟩
 replace ex:=ext_trans ex hb2
 clear hb2 t0 t1 R KN KC
 by_cases hg:L<x
 ·have RR:=Lib.hid (HR.out.1 hg)
  go_wp2
  go_ret2
  exact .mk ex RR.out.symm
 ·have RR:=Lib.hid (HR.out.2 hg)
  go_wp2
  go_ret2
  exact .mk ex RR.out.symm
theorem acount_calls {S:Nat→Prop} {w:World} {vs:Value} {st:Moves} (n:Int) (hs:Sl (kSl (kFlat 8)) S w vs st) (hz:checkA n st=0) (K:Nat) (hK:K≤6):
  Calls Tryz.prog 92 #[.agg #[.int .i64 n,vs],.int .i64 K] w (Post w fun _ r=>r=numR st K 1048576):=by
 obtain ⟨sa,sc,rfl,hm⟩:=hs.addr
 have ex:=ext_alloc w (.cells #[.int .i64 n,.slice sa st.length sc] 27)
 have KC:Hid (Calls Tryz.prog 93 #[.agg #[.int .i64 n,.slice sa st.length sc],.int .i64 K,.int .i64 1048576] (w.alloc (.cells #[.int .i64 n,.slice sa st.length sc] 27)) (Post (w.alloc (.cells #[.int .i64 n,.slice sa st.length sc] 27)) fun _ r=>∃a b:Int,r=.tuple #[.int .i64 a,.int .i64 b]∧numR st K 1048576=.tuple #[.int .i64 a,.int .i64 b])):=Lib.hid ((counted_calls n (hs.ext ex) hz K 1048576 hK (by omega)).mono fun _ _ h=>h.imp fun W r hr=>by
  subst hr
  unfold numR
  split
  ·exact ⟨_,_,rfl,rfl⟩
  ·exact ⟨_,_,rfl,rfl⟩)
 clear hs hz
 go_enter Tryz.func92,Tryz.ntmps92
 go_wp2_with fail
 refine KC.out.mono ?_
 rintro _ w1 ⟨_,rfl,hb1,a,b,rfl,hr⟩
 have HR:=Lib.hid hr
 clear hr KC
 go_wp2
 go_ret2
 exact .mk (ext_trans ex hb1) HR.out.symm
theorem rnumber_calls {S S':Nat→Prop} {w:World} {vc vs:Value} {p:ProbD} (hc:Sl kCase S w vc p.cs) (hs:Sl (kSl (kFlat 8)) S' w vs p.st) (hz:checkPr p=0) (L:Nat) (hL:L≤1048576):
  Calls Tryz.prog 58 #[.agg #[.int .i64 p.n,.int .i64 p.ins,.int .i64 p.outs,vc,.int .i64 p.an,vs,.int .i64 p.rounds],.int .i64 L] w (Post w fun _ r=>r=.int .i64 (p.cs.length * cutW p.st p.rounds.toNat L 0:Nat)):=by
 obtain ⟨h1,h2,h3,h4,h5⟩:=checkPr_zero hz
 obtain ⟨_,_,hl1,hl2,_,hok,_⟩:=checkA_zero h2
 have hcl:=(checkT_zero h1).2.2.2.2.2.2.2.1
 obtain ⟨ca,cc,rfl,_⟩:=hc.form
 obtain ⟨sa,sc,rfl,_⟩:=hs.form
 obtain ⟨k,hk⟩:∃k:Nat,p.rounds=k:=⟨p.rounds.toNat,by omega⟩
 have KN:Hid (∀W,Below w.heap.size w W→Calls Tryz.prog 82 #[.agg #[.int .i64 p.an,.slice sa p.st.length sc],.int .i64 p.rounds,.int .i64 L] W (Post W fun _ r=>r=.int .i64 (cutW p.st p.rounds.toNat L 0:Nat))):=Lib.hid fun W hW=>by rw[hk];exact rnum_calls p.an (hs.ext hW) hok hl1 (by omega) k L (by omega) hL
 have ex:=ext_alloc w (.cells #[.int .i64 p.n,.int .i64 p.ins,.int .i64 p.outs,.slice ca p.cs.length cc,.int .i64 p.an,.slice sa p.st.length sc,.int .i64 p.rounds] 29)
 have R:Row (w.alloc (.cells #[.int .i64 p.n,.int .i64 p.ins,.int .i64 p.outs,.slice ca p.cs.length cc,.int .i64 p.an,.slice sa p.st.length sc,.int .i64 p.rounds] 29)) w.heap.size 29 [.int .i64 p.n,.int .i64 p.ins,.int .i64 p.outs,.slice ca p.cs.length cc,.int .i64 p.an,.slice sa p.st.length sc,.int .i64 p.rounds]:=row_new w [_,_,_,_,_,_,_] _
 obtain ⟨x,hx⟩:∃x,x=cutW p.st p.rounds.toNat L 0:=⟨_,rfl⟩
 rw[←hx]at KN ⊢
 have hxl:x≤L+1:=by rw[hx];exact cutW_le _ _ _ _
 have hmul:p.cs.length * x≤1024 * 1048577:=Nat.mul_le_mul hcl (by omega)
 have hw:IntKind.i64.wrap ((p.cs.length:Int) * (x:Int))=((p.cs.length * x:Nat):Int):=by rw[IntKind.wrap_i64];push_cast;omega
 clear hx hs hc hz h1 h2 h3 h4 h5 hk hok hl1 hl2 hcl
 have KEEP:Hid (∀W,Below (w.alloc (.cells #[.int .i64 p.n,.int .i64 p.ins,.int .i64 p.outs,.slice ca p.cs.length cc,.int .i64 p.an,.slice sa p.st.length sc,.int .i64 p.rounds] 29)).heap.size (w.alloc (.cells #[.int .i64 p.n,.int .i64 p.ins,.int .i64 p.outs,.slice ca p.cs.length cc,.int .i64 p.an,.slice sa p.st.length sc,.int .i64 p.rounds] 29)) W→W.cell? ⟨w.heap.size,3,none⟩=some (.slice ca p.cs.length cc)∧W.cell? ⟨w.heap.size,4,none⟩=some (.int .i64 p.an)∧W.cell? ⟨w.heap.size,5,none⟩=some (.slice sa p.st.length sc)∧W.cell? ⟨w.heap.size,6,none⟩=some (.int .i64 p.rounds)):=Lib.hid fun W hW=>⟨(R.ext hW).cell (j:=3) rfl,(R.ext hW).cell (j:=4) rfl,(R.ext hW).cell (j:=5) rfl,(R.ext hW).cell (j:=6) rfl⟩
 go_enter Tryz.func58,Tryz.ntmps58
 go_wp2
 refine region_E (fun w':World=>w'.cell? ⟨w.heap.size,3,none⟩=some (.slice ca p.cs.length cc)∧w'.cell? ⟨w.heap.size,4,none⟩=some (.int .i64 p.an)∧w'.cell? ⟨w.heap.size,5,none⟩=some (.slice sa p.st.length sc)∧w'.cell? ⟨w.heap.size,6,none⟩=some (.int .i64 p.rounds)) (fun i=>false) (by kernel_rfl) ?_ (fun hHeld=>?_)
 ·exact KEEP.out _ (drewN_below _ _ 1)
 refine anyE_take 0 (v:=?_) rfl (by kernel_rfl) (fun _ _ _ h=>h) (by rfl) ?hy0 hHeld ?rest0
 case hy0=>(intro w hSw;(try dsimp only at hSw);go_simp;try with_reducible rfl)
 try simp only[Act.put,zsa,zsz,zss]
 refine anyE_take 1 (v:=?_) rfl (by kernel_rfl) (fun _ _ _ h=>h) (by rfl) ?hy1 hHeld ?rest1
 case hy1=>(intro w hSw;(try dsimp only at hSw);go_simp;try with_reducible rfl)
 try simp only[Act.put,zsa,zsz,zss]
 refine anyE_take 2 (v:=?_) rfl (by kernel_rfl) (fun _ _ _ h=>h) (by rfl) ?hy2 hHeld ?rest2
 case hy2=>(intro w hSw;(try dsimp only at hSw);go_simp;try with_reducible rfl)
 try simp only[Act.put,zsa,zsz,zss]
 refine anyE_take 3 (v:=?_) rfl (by kernel_rfl) (fun _ _ _ h=>h) (by rfl) ?hy3 hHeld ?rest3
 case hy3=>(intro w hSw;(try dsimp only at hSw);go_simp;try with_reducible rfl)
 try simp only[Act.put,zsa,zsz,zss]
 refine anyE_take 4 (v:=?_) rfl (by kernel_rfl) (fun _ _ _ h=>h) (by rfl) ?hy4 hHeld ?rest4
 case hy4=>(intro w hSw;(try dsimp only at hSw);go_simp;try with_reducible rfl)
 try simp only[Act.put,zsa,zsz,zss]
 refine anyE_take 5 (v:=?_) rfl (by kernel_rfl) (fun _ _ _ h=>h) (by rfl) ?hy5 hHeld ?rest5
 case hy5=>(intro w hSw;(try dsimp only at hSw);go_simp;try with_reducible rfl)
 try simp only[Act.put,zsa,zsz,zss]
 refine anyE_take 6 (v:=?_) rfl (by kernel_rfl) (fun _ _ _ h=>h) (by rfl) ?hy6 hHeld ?rest6
 case hy6=>(intro w hSw;(try dsimp only at hSw);go_simp;try with_reducible rfl)
 try simp only[Act.put,zsa,zsz,zss]
 refine anyE_take 7 (v:=?_) rfl (by kernel_rfl) (fun _ _ _ h=>h) (by rfl) ?hy7 hHeld ?rest7
 case hy7=>(intro w hSw;(try dsimp only at hSw);go_simp;try with_reducible rfl)
 try simp only[Act.put,zsa,zsz,zss]
 refine anyE_take 8 (v:=?_) rfl (by kernel_rfl) (fun _ _ _ h=>h) (by rfl) ?hy8 hHeld ?rest8
 case hy8=>(intro w hSw;(try dsimp only at hSw);go_simp;try with_reducible rfl)
 try simp only[Act.put,zsa,zsz,zss]
 refine anyE_one 9 rfl (by kernel_rfl) (fun K hK=>?_)
 go_simp;go_at_call 82;refine (KN.out _ (ext_drewN ex 1)).mono ?_;rintro _ w5 ⟨_,rfl,hb5,rfl⟩;have hy5:=ext_trans (drewN_below _ _ 1) hb5
 refine hK.out _ _ (fun _=>KEEP.out _ hy5) (fun hHeld=>?_);replace hHeld:=hHeld rfl
 clear hK K
 try simp only[Act.put,zsa,zsz,zss]
 refine anyE_take 10 (v:=?_) rfl (by kernel_rfl) (fun _ _ _ h=>h) (by rfl) ?hy10 hHeld ?rest10
 case hy10=>(intro w hSw;(try dsimp only at hSw);go_simp;try with_reducible rfl)
 try simp only[Act.put,zsa,zsz,zss]
 refine anyE_one 11 rfl (by kernel_rfl) (fun K hK=>?_)
 go_simp
 refine hK.out _ _ (fun _=>KEEP.out _ hy5) (fun hHeld=>?_);replace hHeld:=hHeld rfl
 clear hK K
 try simp only[Act.put,zsa,zsz,zss]
 refine anyE_done (by kernel_rfl) ?_ _
 have hz5:=ext_trans ex hy5
 clear hHeld KEEP hy5 hb5
 go_wp2
 go_ret
 exact .mk hz5 rfl
def countR (p:ProbD):Value:=if 1048576<p.num then .tuple #[.int .i64 0,.int .i64 17] else .tuple #[.int .i64 (p.num:Nat),.int .i64 0]
theorem pcount_calls {S S':Nat→Prop} {w:World} {vc vs:Value} {p:ProbD} (hc:Sl kCase S w vc p.cs) (hs:Sl (kSl (kFlat 8)) S' w vs p.st) (hl:p.st.length≤1000):
  Calls Tryz.prog 68 #[.agg #[.int .i64 p.n,.int .i64 p.ins,.int .i64 p.outs,vc,.int .i64 p.an,vs,.int .i64 p.rounds]] w (Post w fun _ r=>r=if checkPr p=0 then countR p else .tuple #[.int .i64 0,.int .i64 (checkPr p)]):=by
 have HCI:=Lib.hid (checkPr_zero (p:=p))
 obtain ⟨ca,cc,rfl,_⟩:=hc.form
 obtain ⟨sa,sc,rfl,_⟩:=hs.form
 have KC:Hid (∀W,Below w.heap.size w W→Calls Tryz.prog 91 #[.agg #[.int .i64 p.n,.int .i64 p.ins,.int .i64 p.outs,.slice ca p.cs.length cc,.int .i64 p.an,.slice sa p.st.length sc,.int .i64 p.rounds]] W (Post W fun _ r=>r=.int .i64 (checkPr p))):=Lib.hid fun W hW=>pcheckPr_calls (hc.ext hW) (hs.ext hW) hl
 have KN:Hid (∀W,Below w.heap.size w W→checkPr p=0→Calls Tryz.prog 92 #[.agg #[.int .i64 p.an,.slice sa p.st.length sc],.int .i64 p.rounds] W (Post W fun _ r=>∃a b:Int,r=.tuple #[.int .i64 a,.int .i64 b]∧((1048576<cntW p.st p.rounds.toNat 0∧a=0∧b=17)∨(¬1048576<cntW p.st p.rounds.toNat 0∧a=(cntW p.st p.rounds.toNat 0:Nat)∧b=0)))):=Lib.hid fun W hW h0=>by
  obtain ⟨h1,h2,h3,h4,h5⟩:=HCI.out h0
  obtain ⟨k,hk⟩:∃k:Nat,p.rounds=k:=⟨p.rounds.toNat,by omega⟩
  rw[hk,Int.toNat_natCast]
  refine (acount_calls p.an (hs.ext hW) h2 k (by omega)).mono fun _ _ h=>h.imp fun W r hr=>?_
  subst hr
  unfold numR
  split
  ·rename_i h;exact ⟨_,_,rfl,.inl ⟨h,rfl,rfl⟩⟩
  ·rename_i h;exact ⟨_,_,rfl,.inr ⟨h,rfl,rfl⟩⟩
 have HCL:Hid (checkPr p=0→1≤p.cs.length∧p.cs.length≤1024):=Lib.hid fun h0=>⟨(checkT_zero (HCI.out h0).1).2.2.2.2.2.2.1,(checkT_zero (HCI.out h0).1).2.2.2.2.2.2.2.1⟩
 have ex:=ext_alloc w (.cells #[.int .i64 p.n,.int .i64 p.ins,.int .i64 p.outs,.slice ca p.cs.length cc,.int .i64 p.an,.slice sa p.st.length sc,.int .i64 p.rounds] 29)
 have R:Row (w.alloc (.cells #[.int .i64 p.n,.int .i64 p.ins,.int .i64 p.outs,.slice ca p.cs.length cc,.int .i64 p.an,.slice sa p.st.length sc,.int .i64 p.rounds] 29)) w.heap.size 29 [.int .i64 p.n,.int .i64 p.ins,.int .i64 p.outs,.slice ca p.cs.length cc,.int .i64 p.an,.slice sa p.st.length sc,.int .i64 p.rounds]:=row_new w [_,_,_,_,_,_,_] _
 obtain ⟨e,he⟩:∃e,e=checkPr p:=⟨_,rfl⟩
 obtain ⟨x,hx⟩:∃x,x=cntW p.st p.rounds.toNat 0:=⟨_,rfl⟩
 have HN:Hid (countR p=if 1048576<p.cs.length * x then .tuple #[.int .i64 0,.int .i64 17] else .tuple #[.int .i64 (p.cs.length * x:Nat),.int .i64 0]):=Lib.hid (by rw[hx];rfl)
 rw[←he]at KC HCL ⊢
 rw[←hx]at KN
 rw[←he]at KN
 obtain ⟨r,hr⟩:∃r,r=if e=0 then countR p else .tuple #[.int .i64 0,.int .i64 e]:=⟨_,rfl⟩
 rw[←hr]
 have HR:Hid ((e≠0→r=.tuple #[.int .i64 0,.int .i64 e])∧(e=0→r=countR p)):=Lib.hid ⟨fun h=>by rw[hr,if_neg h],fun h=>by rw[hr,if_pos h]⟩
 clear he hx hs hc hl HCI hr
 go_enter Tryz.func68,Tryz.ntmps68
 go_wp2_with fail
 refine (KC.out _ ex).mono ?_
 rintro _ w1 ⟨_,rfl,hb1,rfl⟩
 replace R:=R.ext hb1
 replace ex:=ext_trans ex hb1
 clear hb1 KC
 by_cases h0:e=0
 case neg=>
  have d0:(e !=0)=true:=by simp[h0]
  have RR:=Lib.hid (HR.out.1 h0)
  clear h0
  go_wp2
  go_ret2
  exact .mk ex RR.out.symm
 subst h0
 have HRC:=Lib.hid (HR.out.2 rfl)
 obtain ⟨hl1,hl2⟩:=HCL.out rfl
 have t3:=R.cell (j:=3) rfl
 have t4:=R.cell (j:=4) rfl
 have t5:=R.cell (j:=5) rfl
 have t6:=R.cell (j:=6) rfl
 go_wp2_with fail
 refine (KN.out _ ex trivial).mono ?_
 rintro _ w2 ⟨_,rfl,hb2,a,b,rfl,hab⟩
 replace R:=R.ext hb2
 replace ex:=ext_trans ex hb2
 clear hb2 KN t3 t4 t5 t6
 have t3:=R.cell (j:=3) rfl
 rcases hab with ⟨hg,rfl,rfl⟩ | ⟨hg,rfl,rfl⟩
 ·have RR:Hid (r=.tuple #[.int .i64 0,.int .i64 17]):=Lib.hid (by rw[HRC.out,HN.out,if_pos];have:1 * x≤p.cs.length * x:=Nat.mul_le_mul_right _ hl1;omega)
  clear hg
  go_wp2
  go_ret2
  exact .mk ex RR.out.symm
 have hmul:p.cs.length * x≤1024 * 1048577:=Nat.mul_le_mul hl2 (by omega)
 have hw:IntKind.i64.wrap ((x:Int) * (p.cs.length:Int))=((p.cs.length * x:Nat):Int):=by rw[Int.mul_comm,IntKind.wrap_i64];push_cast;omega
 obtain ⟨m,hm⟩:∃m,m=p.cs.length * x:=⟨_,rfl⟩
 rw[←hm]at HN hw
 by_cases hgt:1048576<m
 ·have RR:Hid (r=.tuple #[.int .i64 0,.int .i64 17]):=Lib.hid (by rw[HRC.out,HN.out,if_pos hgt])
  clear hm hmul hg
  go_wp2
  go_ret2
  exact .mk ex RR.out.symm
 ·have RR:Hid (r=.tuple #[.int .i64 m,.int .i64 0]):=Lib.hid (by rw[HRC.out,HN.out,if_neg hgt])
  clear hm hmul hg
  go_wp2
  go_ret2
  exact .mk ex RR.out.symm
end Go.Proofs.YtaijafjfafbcfaaGreat
namespace Go.Proofs.YtaijafjfafbcfaaGreat
open Go.RowKit
theorem Sl.parts {α:Type} {K:Kd α} {S:Nat→Prop} {w:World} {a:Option Addr} {n cap:Nat} {l:List α} (h:Sl K S w (.slice a n cap) l):
  ∃xs:List Value,xs.length=l.length * K.size∧(∀j,j<l.length * K.size→w.cell? (adr a j)=some (xs.getD j undef))∧(∀j (h:j<l.length),K.rd S w (zzpart xs j K.size) l[j])∧∀u∈xs,u.oneCell'=true:=by
 obtain ⟨xs,hxs⟩:∃xs:List Value,xs=(List.range (l.length * K.size)).map fun j=>(w.cell? (adr a j)).getD undef:=⟨_,rfl⟩
 have hlen:xs.length=l.length * K.size:=by rw[hxs];simp
 have hget:∀j,j<l.length * K.size→xs[j]? =some ((w.cell? (adr a j)).getD undef):=fun j hj=>by rw[hxs];simp[hj]
 have hpart:∀j (hj:j<l.length) (cs:List Value),(∀i,i<K.size→w.cell? (adr a (j * K.size+i))=cs[i]?)→cs.length=K.size→zzpart xs j K.size=cs:=by
  intro j hj cs hc hl
  have hle:(j+1) * K.size≤l.length * K.size:=Nat.mul_le_mul_right _ hj
  rw[Nat.add_mul,Nat.one_mul]at hle
  apply List.ext_getElem?
  intro i
  by_cases hi:i<K.size
  ·have hx:=hget (j * K.size+i) (by omega)
   have hci:=hc i hi
   rw[List.getElem?_eq_getElem (show i<cs.length by omega)]at hci
   rw[part_get hi,hx,hci,List.getElem?_eq_getElem (show i<cs.length by omega)];rfl
  ·have h2:cs[i]? =none:=List.getElem?_eq_none (by omega)
   rw[h2]
   unfold zzpart
   rw[List.getElem?_take,if_neg hi]
 refine ⟨xs,hlen,fun j hj=>?_,fun j hj=>?_,fun u hu=>?_⟩
 ·have hz:0<K.size:=by
   rcases Nat.eq_zero_or_pos K.size with h0 | h0
   ·rw[h0]at hj;simp at hj
   ·exact h0
  have hq:j / K.size<l.length:=Nat.div_lt_of_lt_mul (by rw[Nat.mul_comm];exact hj)
  obtain ⟨cs,h1,h2,h3⟩:=h.at hq
  have hm:j % K.size<K.size:=Nat.mod_lt _ hz
  have e:j / K.size * K.size+j % K.size=j:=by rw[Nat.mul_comm];exact Nat.div_add_mod _ _
  have:=h1 _ hm
  rw[e,List.getElem?_eq_getElem (by omega)]at this
  rw[List.getD_eq_getElem?_getD,hget j hj,this]
  rfl
 ·obtain ⟨cs,h1,h2,h3⟩:=h.at hj
  rw[hpart j hj cs h1 h3]
  exact h2
 ·obtain ⟨j,hj,rfl⟩:=List.getElem_of_mem hu
  have hj2:j<l.length * K.size:=by omega
  have hz:0<K.size:=by
   rcases Nat.eq_zero_or_pos K.size with h0 | h0
   ·rw[h0]at hj2;simp at hj2
   ·exact h0
  have hq:j / K.size<l.length:=Nat.div_lt_of_lt_mul (by rw[Nat.mul_comm];exact hj2)
  obtain ⟨cs,h1,h2,h3⟩:=h.at hq
  have hm:j % K.size<K.size:=Nat.mod_lt _ hz
  have e:j / K.size * K.size+j % K.size=j:=by rw[Nat.mul_comm];exact Nat.div_add_mod _ _
  have hp:=hpart _ hq cs h1 h3
  have h4:=part_get (xs:=xs) (j:=j / K.size) hm
  rw[hp,e,List.getElem?_eq_getElem hj,List.getElem?_eq_getElem (by omega)]at h4
  injection h4 with h4
  rw[←h4]
  exact K.one h2 _ (List.getElem_mem _)
theorem part_zero {c xs:List Value} {z:Nat} (hc:c.length=z):zzpart (c++xs) 0 z=c:=by
 unfold zzpart;rw[Nat.zero_mul,List.drop_zero,←hc,List.take_left]
theorem part_succ {c xs:List Value} {j z:Nat} (hc:c.length=z):zzpart (c++xs) (j+1) z=zzpart xs j z:=by
 unfold zzpart
 rw[Nat.add_mul,Nat.one_mul,Nat.add_comm,←List.drop_drop,←hc,List.drop_left]
theorem part_all {xs:List Value} {z:Nat} (h:xs.length=z):zzpart xs 0 z=xs:=by unfold zzpart;rw[Nat.zero_mul,List.drop_zero,←h,List.take_length]
theorem Row.ownsW {w:World} {g base z n:Nat} {e:TypeId} {xs:List Value} (h:Row w g e xs) (hb:base≤g) (hl:xs.length=n * z) (hn:n≤maxLen):w.ownsRow base e z (.slice (some ⟨g,0,none⟩) n n) n xs:=
 ⟨hl,.inr ⟨g,n,xs.toArray,rfl,hb,h,Nat.le_refl _,hn,by simpa using hl,by simp[←hl]⟩⟩
theorem OwnK.cons {α:Type} {K:Kd α} {e:TypeId} {base:Nat} {S:Nat→Prop} {w:World} {v:Value} {l:List α} {y:α} {cs xs:List Value} (ho:w.ownsRow base e K.size v (l.length+1) (cs++xs))
  (hy:K.rd (fun b=>S b∧v.ownBlock≠some b) w cs y) (hr:∀j (h:j<l.length),K.rd (fun b=>S b∧v.ownBlock≠some b) w (zzpart xs j K.size) l[j]):OwnK K e base S w v (y::l):=by
 refine ⟨cs++xs,by simpa using ho,fun j hj=>?_⟩
 cases j with
 | zero=>rw[part_zero (K.len hy)];exact hy
 | succ j=>
  rw[part_succ (K.len hy)]
  exact hr j (by simpa using hj)
theorem Sl.form2 {α:Type} {K:Kd α} {S:Nat→Prop} {w:World} {v:Value} {l:List α} (h:Sl K S w v l):∃a cap,v=.slice a l.length cap∧Ad S w a l.length cap∧l.length≤cap∧cap≤maxLen∧l.length≤140737488355328:=by
 obtain ⟨a,cap,h1,h2,h3,h4⟩:=h.form
 exact ⟨a,cap,h1,h2,h3,h4,h.few⟩
end Go.Proofs.YtaijafjfafbcfaaGreat
namespace Go.Proofs.YtaijafjfafbcfaaGreat
open Go.RowKit
attribute [local go_sem ↓] Go.wp_at_zero Go.wp_at_succ
abbrev kWord:Kd (List (List Int)):=kSl (kFlat 7)
theorem info_round:(Tryz.prog.info? 119).map (fun i=>(i.zero,i.size,i.bytes))=some (some (.agg #[.int .i64 0,.int .i64 0,.int .i64 0,.int .i64 0,.int .i64 0,.int .i64 0,.int .i64 0]),7,56):=by kernel_rfl
theorem info_word:(Tryz.prog.info? 78).map (fun i=>(i.zero,i.size,i.bytes))=some (some (.slice none 0 0),1,24):=by kernel_rfl
def wordsTo (st:Moves) (k s i:Nat):List (List (List Int)):=((nthM st s).take i).flatMap fun m=>(wordsD st k (nth m 7).toNat).map fun w=>m.take 7::w
theorem wordsTo_zero (st:Moves) (k s:Nat):wordsTo st k s 0=[]:=rfl
theorem wordsTo_all (st:Moves) (k s:Nat):wordsTo st k s (nthM st s).length=wordsD st (k+1) s:=by unfold wordsTo;rw[List.take_length];rfl
theorem wordsTo_next {st:Moves} {k s i:Nat} (h:i<(nthM st s).length):wordsTo st k s (i+1)=wordsTo st k s i++(wordsD st k (nth (nthL (nthM st s) i) 7).toNat).map fun w=>(nthL (nthM st s) i).take 7::w:=by
 unfold wordsTo;rw[take_nthL h,List.flatMap_append];simp
theorem wordsTo_len {st:Moves} {k s:Nat} (i:Nat):(wordsTo st k s i).length≤cntW st (k+1) s:=by
 rw[←length_wordsD,←wordsTo_all]
 unfold wordsTo
 rw[List.take_length]
 have h:(nthM st s)=(nthM st s).take i++(nthM st s).drop i:=(List.take_append_drop i _).symm
 conv=>rhs;rw[h,List.flatMap_append,List.length_append]
 omega
theorem take7 {m:List Int} (h:m.length=8):m.take 7=[nth m 0,nth m 1,nth m 2,nth m 3,nth m 4,nth m 5,nth m 6]:=by
 match m,h with
 | [a,b,c,d,e,f,g,i],_=>rfl
theorem cntW_part {st:Moves} {k s i:Nat} (h:i<(nthM st s).length):cntW st k (nth (nthL (nthM st s) i) 7).toNat≤cntW st (k+1) s:=by
 have le_sum:∀(l:List Nat) (x:Nat),x∈l→x≤l.sum:=by
  intro l
  induction l with
  | nil=>intro x hx;cases hx
  | cons y r ih=>
   intro x hx
   rw[List.sum_cons]
   rcases List.mem_cons.1 hx with rfl | hx
   ·omega
   ·have:=ih x hx;omega
 rw[nthL_eq h]
 exact le_sum _ _ (List.mem_map.2 ⟨_,List.getElem_mem h,rfl⟩)
def nthW (l:List (List (List Int))) (j:Nat):List (List Int):=l.getD j []
theorem nthW_eq {l:List (List (List Int))} {j:Nat} (h:j<l.length):nthW l j=l[j]:=by simp[nthW,h]
theorem Sl.word {S:Nat→Prop} {w W:World} {a:Option Addr} {m cap:Nat} {l:List (List (List Int))} (h:Sl kWord S w (.slice a m cap) l) (hb:Agree S w W) {k:Nat} (hk:k<l.length):
  ∃b c,W.cell? (adr a k)=some (.slice b (nthW l k).length c)∧Sl (kFlat 7) S W (.slice b (nthW l k).length c) (nthW l k):=by
 obtain ⟨v,h1,h2⟩:=(h.agree hb).row hk
 rw[←nthW_eq hk]at h2
 obtain ⟨b,c,rfl,_⟩:=h2.form
 exact ⟨b,c,h1,h2⟩
theorem Sl.idxW {S:Nat→Prop} {w:World} {a:Option Addr} {m cap:Nat} {l:List (List (List Int))} (h:Sl kWord S w (.slice a m cap) l):
  Hid (∀k:Nat,k<l.length→∀W:World,(Instr.indexAt 132 (.slice a l.length cap) (.int .i64 k)).run Tryz.prog W=.ok (.pointer (some (adr a k))) W):=by
 obtain ⟨i,hi,_,h1,_⟩:=info_parts info_word
 exact Lib.hid (idx_one Tryz.underlying132 hi h1 h.ad.1)
theorem rd7 {m:List Int} (h:m.length=8) (hw:∀x∈m,WF x) (S:Nat→Prop) (w:World):(kFlat 7).rd S w [.int .i64 (nth m 0),.int .i64 (nth m 1),.int .i64 (nth m 2),.int .i64 (nth m 3),.int .i64 (nth m 4),.int .i64 (nth m 5),.int .i64 (nth m 6)] (m.take 7):=
 ⟨by simp[h],by rw[take7 h];rfl,fun x hx=>hw x (List.mem_of_mem_take hx)⟩
theorem from_calls:∀(k:Nat) {S:Nat→Prop} {w:World} {vs:Value} {st:Moves} (n:Int) (hs:Sl (kSl (kFlat 8)) S w vs st) (hok:MovesOK n st) (hl:st.length≤1000) (s:Nat) (hsl:s<st.length) (hk:k≤6) (hc:cntW st k s≤100000),
  Calls Tryz.prog 110 #[.agg #[.int .i64 n,vs],.int .i64 s,.int .i64 k] w (Post w fun w' r=>Sl kWord (fun b=>w.heap.size≤b) w' r (wordsD st k s))
 | 0,S,w,vs,st,n,hs,hok,hl,s,hsl,hk,hc=>by
  obtain ⟨sa,sc,rfl,hm⟩:=hs.addr
  clear hs hok
  have exb:=ext_alloc' (ext_alloc w (.cells #[.int .i64 n,.slice sa st.length sc] 27)) (.cells #[.slice none 0 0] 78)
  have R:=row_new (w.alloc (.cells #[.int .i64 n,.slice sa st.length sc] 27)) [.slice none 0 0] 78
  go_enter Tryz.func110,Tryz.ntmps110
  go_wp2
  go_ret
  rw[World.size_alloc]at R
  refine .mk exb ⟨_,_,rfl,.inr ⟨_,0,rfl,R.lt,by simp⟩,Nat.le_refl _,⟨by simp[wordsD,maxLen],by simp[wordsD]⟩,fun j hj=>⟨[.slice none 0 0],fun i hi=>?_,.slice none 0 0,rfl,?_⟩⟩
  ·obtain rfl:j=0:=by simp[wordsD]at hj;omega
   obtain rfl:i=0:=by have:kWord.size=1:=rfl;omega
   have:=R.cell (j:=0) rfl
   simpa[adr] using this
  ·obtain rfl:j=0:=by simp[wordsD]at hj;omega
   exact Sl.nil _ _ _
 | k+1,S,w,vs,st,n,hs,hok,hl,s,hsl,hk,hc=>by
  have IH:=Lib.hid fun W (hW:Below w.heap.size w W) to (h1:to<st.length) (h2:cntW st k to≤100000)=>from_calls k n (hs.ext hW) hok hl to h1 (by omega) h2
  obtain ⟨sa,sc,rfl,hm⟩:=hs.addr
  have Q:=hs.idxS.out s hsl
  have HROW:Hid (∀W,Below w.heap.size w W→∃b c,W.cell? (adr sa s)=some (.slice b (nthM st s).length c)∧Sl (kFlat 8) S W (.slice b (nthM st s).length c) (nthM st s)):=Lib.hid fun W hW=>hs.mrow hW hsl
  have HTO:=Lib.hid (hok s hsl).2
  have hrl:(nthM st s).length≤140737488355328:=hs.rows_few s hsl
  have HNX:=Lib.hid fun i (h:i<(nthM st s).length)=>wordsTo_next (k:=k) h
  have HAL:=Lib.hid (wordsTo_all st k s)
  have HCP:=Lib.hid fun i (h:i<(nthM st s).length)=>Nat.le_trans (cntW_part (k:=k) h) hc
  have HLN:=Lib.hid fun i=>Nat.le_trans (wordsTo_len (st:=st) (k:=k) (s:=s) i) hc
  have HBK:=Lib.hid (hs.ad.1)
  obtain ⟨row,hrow⟩:∃row,row=nthM st s:=⟨_,rfl⟩
  rw[←hrow]at HROW HTO hrl HNX HAL HCP
  clear hs hok hrow hc
  have ex:=ext_alloc w (.cells #[.int .i64 n,.slice sa st.length sc] 27)
  have R:Row (w.alloc (.cells #[.int .i64 n,.slice sa st.length sc] 27)) w.heap.size 27 [.int .i64 n,.slice sa st.length sc]:=row_new w [_,_] _
  have HO0:=Lib.hid (OwnK.nil kWord 78 (w.heap.size+1) (fun b=>w.heap.size+1≤b) (w.alloc (.cells #[.int .i64 n,.slice sa st.length sc] 27)))
  have w1':IntKind.i64.wrap (((k+1:Nat):Int) - 1)=(k:Int):=by rw[IntKind.wrap_i64];omega
  have w2':(((k+1:Nat):Int)==0)=false:=by simp;omega
  have w3':decide (((k+1:Nat):Int)=0)=false:=by simp;omega
  obtain ⟨k1,hk1⟩:∃k1:Int,k1=((k+1:Nat):Int):=⟨_,rfl⟩
  rw[←hk1]at w1' w2' w3' ⊢
  have w4':¬k1=0:=by omega
  clear hk1
  go_enter Tryz.func110,Tryz.ntmps110
  go_wp2
  go_loopw [7,8,9,10,11,12] (fun v i _ _ _ _ wr=>∃i':Nat,i'≤row.length∧i=.int .i64 i'∧Below w.heap.size w wr∧Row wr w.heap.size 27 [.int .i64 n,.slice sa st.length sc]∧∃a c,v=.slice a (wordsTo st k s i').length c∧Hid (OwnK kWord 78 (w.heap.size+1) (fun b=>w.heap.size+1≤b) wr (.slice a (wordsTo st k s i').length c) (wordsTo st k s i'))) (fun _ i _ _ _ _ _=>row.length - (intOf i).toNat)
  case atStart=>exact ⟨0,Nat.zero_le _,rfl,ex,R,none,0,rfl,HO0⟩
  case round=>
   clear ex R HO0
   obtain ⟨i,hi,rfl,hb,R,va,vc,rfl,HO⟩:=hrel
   have t1:=R.cell (j:=1) rfl
   obtain ⟨b,c,cu,hrow⟩:=HROW.out wr hb
   by_cases hit:i<row.length
   case neg=>
    obtain rfl:i=row.length:=by omega
    have hfew:=HLN.out row.length
    have HF:=Lib.hid (HO.out.sl (by omega))
    go_wp2
    go_ret
    refine .mk hb ?_
    rw[←HAL.out]
    exact HF.out.mono fun b hb=>by rcases hb with h | h<;>omega
   have QM:=hrow.idxM.out i hit
   have hz:=hrow.nums hit (by decide)
   have hlen8:=(hrow.num hit).1
   have hwf8:=(hrow.num hit).2.1
   have z0:=hz.1
   have z1:=hz.2 1 (by decide)
   have z2:=hz.2 2 (by decide)
   have z3:=hz.2 3 (by decide)
   have z4:=hz.2 4 (by decide)
   have z5:=hz.2 5 (by decide)
   have z6:=hz.2 6 (by decide)
   have z7:=hz.2 7 (by decide)
   have hbk:=adr_blk hrow.ad.1 (by omega) (i * 8)
   obtain ⟨_,_,hto1,hto2⟩:=HTO.out i hit
   have HN:=Lib.hid (HNX.out i hit)
   have HC:=HCP.out i hit
   obtain ⟨m,hm'⟩:∃m,m=nthL row i:=⟨_,rfl⟩
   rw[←hm']at z0 z1 z2 z3 z4 z5 z6 z7 hlen8 hwf8 hto1 hto2 HN HC
   obtain ⟨to,hto⟩:∃t:Nat,nth m 7=t:=⟨(nth m 7).toNat,by omega⟩
   have HRD:=Lib.hid (rd7 hlen8 hwf8)
   have HT7:=Lib.hid (take7 hlen8)
   rw[hto,Int.toNat_natCast]at HN HC
   have htl:to<st.length:=by omega
   have HTO7:=Lib.hid hto
   have RM:=row_new wr [.int .i64 (nth m 0),.int .i64 (nth m 1),.int .i64 (nth m 2),.int .i64 (nth m 3),.int .i64 (nth m 4),.int .i64 (nth m 5),.int .i64 (nth m 6),.int .i64 (nth m 7)] 121
   have ex2:=ext_alloc' hb (.cells #[.int .i64 (nth m 0),.int .i64 (nth m 1),.int .i64 (nth m 2),.int .i64 (nth m 3),.int .i64 (nth m 4),.int .i64 (nth m 5),.int .i64 (nth m 6),.int .i64 (nth m 7)] 121)
   have R2:=R.alloc (.cells #[.int .i64 (nth m 0),.int .i64 (nth m 1),.int .i64 (nth m 2),.int .i64 (nth m 3),.int .i64 (nth m 4),.int .i64 (nth m 5),.int .i64 (nth m 6),.int .i64 (nth m 7)] 121)
   have HO2:=Lib.hid (HO.out.ext (ext_alloc wr (.cells #[.int .i64 (nth m 0),.int .i64 (nth m 1),.int .i64 (nth m 2),.int .i64 (nth m 3),.int .i64 (nth m 4),.int .i64 (nth m 5),.int .i64 (nth m 6),.int .i64 (nth m 7)] 121)))
   have KF:=Lib.hid (IH.out _ ex2 to htl HC)
   rw[←hto]at KF
   have hown:=HO.out.lt
   have hRl:=R.lt
   have m7:(wr.alloc (.cells #[.int .i64 (nth m 0),.int .i64 (nth m 1),.int .i64 (nth m 2),.int .i64 (nth m 3),.int .i64 (nth m 4),.int .i64 (nth m 5),.int .i64 (nth m 6),.int .i64 (nth m 7)] 121)).cell? ⟨wr.heap.size,7,none⟩=some (.int .i64 (nth m 7)):=RM.cell (j:=7) rfl
   have t0':=R2.cell (j:=0) rfl
   have t1':=R2.cell (j:=1) rfl
   clear hz hm' hto hto1 hto2 hrow hb R HO
   go_wp2_with fail
   refine KF.out.mono ?_
   rintro _ w2 ⟨rv,rfl,hb2,hrs⟩
   obtain ⟨ra,rc,rfl,_,_,_,rfew⟩:=hrs.form2
   rw[World.size_alloc]at hrs
   have HRS:=Lib.hid hrs.block
   have QW:=hrs.idxW
   have hw2:=hb2.size
   rw[World.size_alloc]at hw2
   have R3:=R2.ext hb2
   have RM3:=RM.ext hb2
   have ex3:=ext_trans ex2 hb2
   have HO3:=Lib.hid (HO2.out.ext hb2)
   obtain ⟨W,hW⟩:∃W,W=wordsD st k to:=⟨_,rfl⟩
   have HWL:Hid (∀j,j<W.length→(nthW W j).length≤6):=Lib.hid fun j hj=>by
    have:=words_len st k to (nthW W j) (by rw[←hW,nthW_eq hj];exact List.getElem_mem hj)
    omega
   obtain ⟨acc,hacc⟩:∃acc:Nat→List (List (List Int)),acc=fun j=>wordsTo st k s i++(W.take j).map fun x=>m.take 7::x:=⟨_,rfl⟩
   have HA0:Hid (acc 0=wordsTo st k s i):=Lib.hid (by rw[hacc];simp)
   have HAE:Hid (acc W.length=wordsTo st k s (i+1)):=Lib.hid (by rw[hacc,HN.out,←hW];simp)
   have HAN:Hid (∀j,j<W.length→acc (j+1)=acc j++[m.take 7::nthW W j]):=Lib.hid fun j hj=>by
    rw[hacc]
    dsimp only
    rw[←List.take_append_getElem hj,List.map_append,nthW_eq hj,List.append_assoc]
    rfl
   have HAF:Hid (∀j,j≤W.length→(acc j).length≤100000):=Lib.hid fun j hj=>by
    have h1:=HLN.out (i+1)
    rw[←HAE.out,hacc]at h1
    rw[hacc]
    simp only[List.length_append,List.length_map,List.length_take]at h1 ⊢
    omega
   rw[←hW]at HRS QW rfew ⊢
   rw[←HA0.out]at HO3 ⊢
   obtain ⟨MB,hMB⟩:∃MB,MB=wr.heap.size:=⟨_,rfl⟩
   have hne:∀g,(Value.slice va (acc 0).length vc).ownBlock=some g→¬(fun b=>b=MB∨(MB+1≤b∧b<w2.heap.size)) g:=fun g hg hp=>by
    have h1:=hown g (by rw[←hg,HA0.out])
    rcases hp with h | h<;>omega
   rw[←hMB]at hw2 HRS RM3 ⊢
   clear R2 RM ex2 HO2 hb2 KF hown hRl hrs hW hacc m7 t0' t1' t1 cu z0 z1 z2 z3 z4 z5 z6 z7 QM hbk hMB
   go_wp2
   go_loopw [7,11,12] (fun v i _ wr=>∃j:Nat,j≤W.length∧i=.int .i64 j∧Below w.heap.size w wr∧Row wr w.heap.size 27 [.int .i64 n,.slice sa st.length sc]∧Row wr MB 121 [.int .i64 (nth m 0),.int .i64 (nth m 1),.int .i64 (nth m 2),.int .i64 (nth m 3),.int .i64 (nth m 4),.int .i64 (nth m 5),.int .i64 (nth m 6),.int .i64 (nth m 7)]∧Agree (fun b=>b=MB∨(MB+1≤b∧b<w2.heap.size)) w2 wr∧∃a c,v=.slice a (acc j).length c∧Hid (OwnK kWord 78 (w.heap.size+1) (fun b=>w.heap.size+1≤b) wr (.slice a (acc j).length c) (acc j))∧(∀g,(Value.slice a (acc j).length c).ownBlock=some g→¬(fun b=>b=MB∨(MB+1≤b∧b<w2.heap.size)) g)) (fun _ i _ _=>W.length - (intOf i).toNat)
   case atStart=>exact ⟨0,Nat.zero_le _,rfl,ex3,R3,RM3,.refl _ _,va,vc,rfl,HO3,hne⟩
   case round=>
    clear R3 RM3 ex3 HO3 hne
    obtain ⟨j,hj,rfl,hb,R,RM,hag,va,vc,rfl,HO,hne⟩:=hrel
    by_cases hjt:j<W.length
    case neg=>
     obtain rfl:j=W.length:=by omega
     rw[HAE.out]at HO ⊢
     go_wp2
     go_roundw
     case rel=>exact ⟨i+1,by omega,by go_num,hb,R,va,vc,rfl,HO⟩
     case measure=>simp[intOf];omega
    have qw:=QW.out j hjt
    obtain ⟨b2,c2,cu2,hw⟩:=HRS.out.word (hag.mono fun b hb=>.inr ⟨hb.1,hb.2⟩) hjt
    obtain ⟨news,hnl,hnc,hnp,hno⟩:=hw.parts
    have hle6:=HWL.out j hjt
    have hrow1:=row_new wr [.int .i64 (nth m 0),.int .i64 (nth m 1),.int .i64 (nth m 2),.int .i64 (nth m 3),.int .i64 (nth m 4),.int .i64 (nth m 5),.int .i64 (nth m 6)] 119
    have hadd:=hw.ad.1
    have hbk2:=World.block_lt_of_cell? _ _ cu2
    have OW:=Lib.hid (hrow1.ownsW (base:=wr.heap.size) (z:=7) (n:=1) (Nat.le_refl _) rfl (by simp[maxLen]))
    have had:=Lib.hid ((hadd.mono (S':=fun _=>True) fun _ _=>trivial).agree (w':=wr.alloc (.cells #[.int .i64 (nth m 0),.int .i64 (nth m 1),.int .i64 (nth m 2),.int .i64 (nth m 3),.int .i64 (nth m 4),.int .i64 (nth m 5),.int .i64 (nth m 6)] 119)) (.of_ext (ext_alloc _ _)))
    have hnc:Hid (∀q,q<(nthW W j).length * 7→(wr.alloc (.cells #[.int .i64 (nth m 0),.int .i64 (nth m 1),.int .i64 (nth m 2),.int .i64 (nth m 3),.int .i64 (nth m 4),.int .i64 (nth m 5),.int .i64 (nth m 6)] 119)).cell? (adr b2 q)=some (news.getD q undef)):=Lib.hid fun q hq=>cell_ext (hnc q hq) (ext_alloc _ _)
    have hnl:=Lib.hid hnl
    have hno:=Lib.hid hno
    have hwN:w.heap.size+1≤wr.heap.size:=R.lt
    have hol:=HO.out.lt
    have HY:Hid (∀v5 w5,w5.ownsRow wr.heap.size 119 7 v5 (1+(nthW W j).length) ([.int .i64 (nth m 0),.int .i64 (nth m 1),.int .i64 (nth m 2),.int .i64 (nth m 3),.int .i64 (nth m 4),.int .i64 (nth m 5),.int .i64 (nth m 6)]++news)→Below wr.heap.size (wr.alloc (.cells #[.int .i64 (nth m 0),.int .i64 (nth m 1),.int .i64 (nth m 2),.int .i64 (nth m 3),.int .i64 (nth m 4),.int .i64 (nth m 5),.int .i64 (nth m 6)] 119)) w5→kWord.rd (fun b=>w.heap.size+1≤b∧(Value.slice va (acc j).length vc).ownBlock≠some b) w5 [v5] (m.take 7::nthW W j)):=Lib.hid fun v5 w5 ho hb5=>by
     refine ⟨v5,rfl,?_⟩
     have hK:OwnK (kFlat 7) 119 wr.heap.size (fun _=>False) w5 v5 (m.take 7::nthW W j):=OwnK.cons (by rw[Nat.add_comm];exact ho) (HRD.out _ _) fun q hq=>by
      have:=hnp q hq
      exact this
     refine (hK.sl (by simp;omega)).mono fun b hb=>?_
     rcases hb with h | h
     ·exact h.elim
     ·exact ⟨by omega,fun e=>by have:=(hol b e).2;omega⟩
    have HBY:Hid (((acc j).length+1) * 24≤140737488355328):=Lib.hid (by have:=HAF.out j hj;omega)
    have HBN:Hid ((acc j).length<9223372036854775807):=Lib.hid (by have:=HAF.out j hj;omega)
    have m0:=RM.cell (j:=0) rfl
    have m1:=RM.cell (j:=1) rfl
    have m2:=RM.cell (j:=2) rfl
    have m3:=RM.cell (j:=3) rfl
    have m4:=RM.cell (j:=4) rfl
    have m5:=RM.cell (j:=5) rfl
    have m6:=RM.cell (j:=6) rfl
    have hMl:=RM.lt
    clear hrow1 hadd hol hw hnp
    go_wp2_with (first | (at_builtin;refine wpList_appendW rfl (.tmp 50) (.tmp 54) 78 rfl 119 _ 7 56 Tryz.underlying78 info_round rfl (by decide) wr.heap.size _ 1 [.int .i64 (nth m 0),.int .i64 (nth m 1),.int .i64 (nth m 2),.int .i64 (nth m 3),.int .i64 (nth m 4),.int .i64 (nth m 5),.int .i64 (nth m 6)] rfl OW.out (fun _=>True) b2 (nthW W j).length c2 news rfl had.out hnl.out hnc.out hno.out (by omega) (by omega) (by simp) ?_;intro v5 w5 ho5 hb5 hag5 hv5;have hB5:=(ext_alloc wr (.cells #[.int .i64 (nth m 0),.int .i64 (nth m 1),.int .i64 (nth m 2),.int .i64 (nth m 3),.int .i64 (nth m 4),.int .i64 (nth m 5),.int .i64 (nth m 6)] 119)).trans hb5;have HO5:=Lib.hid (HO.out.ext hB5);have hY5:=HY.out v5 w5 ho5 hb5;have hs5:=hB5.size;obtain ⟨g5,c5,rfl⟩:=owns_pos ho5 (by omega);have HY5:=Lib.hid hY5;clear ho5 hag5 hv5 hY5) | (at_builtin;refine wpList_pushK (K:=kWord) (v:=.slice va (acc j).length vc) (l:=acc j) (S:=fun b=>w.heap.size+1≤b) (base:=w.heap.size+1) rfl (.tmp 49) (.tmp 56) 132 rfl 78 _ 24 Tryz.underlying132 info_word rfl (by decide) rfl HO5.out (cs:=[.slice (some ⟨g5,0,none⟩) (1+(nthW W j).length) c5]) rfl HY5.out HBY.out HBN.out (by omega) ?_;intro g6 c6 w6 ho6 hb6 hag6 hg6))
    have hagP:=hag6 (fun b=>b=MB∨(MB+1≤b∧b<w2.heap.size)) hne
    have HLE:Hid ((acc (j+1)).length=(acc j).length+1):=Lib.hid (by rw[HAN.out j hjt,List.length_append];rfl)
    have HO6:Hid (OwnK kWord 78 (w.heap.size+1) (fun b=>w.heap.size+1≤b) w6 (.slice (some ⟨g6,0,none⟩) (acc (j+1)).length c6) (acc (j+1))):=Lib.hid (by rw[HLE.out,HAN.out j hjt];exact ho6)
    have hne6:∀g,(Value.slice (some ⟨g6,0,none⟩) (acc (j+1)).length c6).ownBlock=some g→¬(fun b=>b=MB∨(MB+1≤b∧b<w2.heap.size)) g:=fun g hg hp=>by
     have e3:g6=g:=by simpa[Value.ownBlock] using hg
     subst e3
     rcases hg6 with h | h
     ·exact hne _ h hp
     ·have:=hag.size
      rcases hp with h1 | h1<;>omega
    have hb9:=hb.trans ((hB5.mono (by omega)).trans (hb6.mono (Nat.le_succ _)))
    have R9:=row_keep (R.ext hB5) hb6
    have RM9:=(RM.ext hB5).agree hagP (.inl rfl)
    have hag9:=hag.trans ((Agree.of_ext hB5).trans hagP)
    clear hag6 ho6 hg6 hb6 HO HO5 R RM hag hB5
    go_wp2
    go_roundw
    case rel=>exact ⟨j+1,by omega,by go_num,hb9,R9,RM9,hag9,_,_,(by rw[HLE.out]),HO6,hne6⟩
    case measure=>simp[intOf];omega
end Go.Proofs.YtaijafjfafbcfaaGreat
