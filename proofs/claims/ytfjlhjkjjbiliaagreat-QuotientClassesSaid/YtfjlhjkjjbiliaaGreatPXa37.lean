/- Part of the proof that the laws answer true for every input. -/
import Derived.Test.YtfjlhjkjjbiliaaGreatPXa36
import Derived.Test.YtfjlhjkjjbiliaaGreatPXa18
set_option linter.unusedSimpArgs false
set_option linter.unnecessarySimpa false
set_option linter.unusedVariables false
set_option maxRecDepth 100000
set_option maxHeartbeats 40000000
namespace Go.Proofs.YtfjlhjkjjbiliaaGreat
open Go.RowKit
attribute [local go_sem ↓] Go.wp_at_zero Go.wp_at_succ
def hrdL (T:List (List Int)) (k w:Nat):List Int:=((List.range k).filter fun u=>hrsB T u w).map fun u:Nat=>(u:Int)
def hrdLL (T:List (List Int)):List (List Int):=(List.range T.length).map (hrdL T T.length)
theorem zeY {T:List (List Int)} {w:Nat} (h:w<T.length):nthL (hrdLL T) w=hrdL T T.length w:=by simp[hrdLL,nthL,h]
theorem Z8 (T:List (List Int)):(hrdLL T).length=T.length:=by simp[hrdLL]
structure ScnG (s:SysF) (ch:List Int):Prop where
 good:GoodS s s.N s.K
 len:ch.length=s.tab.length
 few:s.tab.length≤120
structure ScnV (A:Nat→Prop) (w:World) (g:Nat) (s:SysF) (ch:List Int):Prop where
 dat:ScnG s ch
 ag:A g
 mem:∃ca cc sa sc ta tc xa xc a2 c2 la lc mb,Row w g 124 [.int .i64 s.p.n,.int .i64 s.p.ins,.int .i64 s.p.outs,.slice ca s.p.cs.length cc,.int .i64 s.p.an,.slice sa s.p.st.length sc,.int .i64 s.p.rounds,.int .i64 s.tn,.slice ta s.tab.length tc,.slice xa s.ex.length xc,.slice a2 ch.length c2,.map (some mb),.slice la s.tab.length lc]∧A mb∧MapV viewKey w mb (numM s.tab) s.tab.length∧Sl (kFlat 8) A w (.slice ta s.tab.length tc) s.tab∧Ints A w (.slice a2 ch.length c2) ch∧Lists A w (.slice la s.tab.length lc) (hrdLL s.tab)
theorem ScnV.agree {A:Nat→Prop} {w w':World} {g:Nat} {s:SysF} {ch:List Int} (h:ScnV A w g s ch) (hw:Agree A w w'):ScnV A w' g s ch:=by
 obtain ⟨h1,h2,ca,cc,sa,sc,ta,tc,xa,xc,a2,c2,la,lc,mb,r1,r2,r3,r4,r5,r6⟩:=h
 exact ⟨h1,h2,ca,cc,sa,sc,ta,tc,xa,xc,a2,c2,la,lc,mb,r1.agree hw h2,r2,r3.agree hw r2,r4.agree hw,r5.agree hw,r6.agree hw⟩
theorem ScnV.ext {A:Nat→Prop} {w w':World} {g:Nat} {s:SysF} {ch:List Int} (h:ScnV A w g s ch) (hw:Below w.heap.size w w'):ScnV A w' g s ch:=h.agree (.of_ext hw)
theorem ScnV.lt {A:Nat→Prop} {w:World} {g:Nat} {s:SysF} {ch:List Int} (h:ScnV A w g s ch):g<w.heap.size:=by
 obtain ⟨ca,cc,sa,sc,ta,tc,xa,xc,a2,c2,la,lc,mb,r1,_⟩:=h.mem
 exact r1.lt
theorem ScnV.mono {A A':Nat→Prop} {w:World} {g:Nat} {s:SysF} {ch:List Int} (h:ScnV A w g s ch) (hA:∀b,A b→A' b):ScnV A' w g s ch:=by
 obtain ⟨h1,h2,ca,cc,sa,sc,ta,tc,xa,xc,a2,c2,la,lc,mb,r1,r2,r3,r4,r5,r6⟩:=h
 exact ⟨h1,hA _ h2,ca,cc,sa,sc,ta,tc,xa,xc,a2,c2,la,lc,mb,r1,hA _ r2,r3,r4.mono hA,r5.mono hA,r6.mono hA⟩
theorem ScnV.block {A:Nat→Prop} {w:World} {g:Nat} {s:SysF} {ch:List Int} (h:ScnV A w g s ch):ScnV (fun b=>A b∧b<w.heap.size) w g s ch:=by
 obtain ⟨h1,h2,ca,cc,sa,sc,ta,tc,xa,xc,a2,c2,la,lc,mb,r1,r2,r3,r4,r5,r6⟩:=h
 exact ⟨h1,⟨h2,r1.lt⟩,ca,cc,sa,sc,ta,tc,xa,xc,a2,c2,la,lc,mb,r1,⟨r2,r3.lt⟩,r3,r4.block,Ints.block r5 0,r6.block⟩
theorem Zy {A:Nat→Prop} {w:World} {g:Nat} {s:SysF} {ch:List Int} {u x:Nat} {b:Int} (h:ScnV A w g s ch) (hu:u<s.tab.length) (hx:x<s.tab.length) (hb:WF b):
  Calls Tryz.prog 45 #[.pointer (some ⟨g,0,none⟩),.int .i64 u,.int .i64 x,.int .i64 b] w (Post w fun _ r=>r=.int .i64 (repT s.tab u x b)):=by
 obtain ⟨ca,cc,sa,sc,ta,tc,xa,xc,a2,c2,la,lc,mb,R,_,hM,ht,hr,hL⟩:=h.mem
 obtain ⟨hg,hlen,hfew⟩:=h.dat
 obtain ⟨_,_,hee,tad,_⟩:=ht.form2
 cases hee
 obtain ⟨i0,hi,hz⟩:=zE zJ
 have HQ:=zhd (zC Tryz.underlying30 hi hz tad)
 have HTB:=zhd hg.tab
 obtain ⟨e0,p5,_⟩:=yP HTB.out hx
 have l8:=qK HTB.out hu
 have HVO:=zhd (zdU l8 (zgn ht hu) (j:=3+prcT s.tab x) hb)
 have HR:Hid (repT s.tab u x b=(if (nthL s.tab u).set (3+prcT s.tab x) b∈s.tab then ((idxV s.tab ((nthL s.tab u).set (3+prcT s.tab x) b):Nat):Int) else -1)):=zhd rfl
 obtain ⟨r,hrr⟩:∃r,r=repT s.tab u x b:=⟨_,rfl⟩
 rw[←hrr]at HR ⊢
 obtain ⟨y,hy⟩:∃y,y=nthL s.tab u:=⟨_,rfl⟩
 obtain ⟨q,hq⟩:∃q,q=prcT s.tab x:=⟨_,rfl⟩
 rw[←hq]at e0 p5 HR HVO
 rw[←hy]at l8 HR HVO
 have uq:=HQ.out u hu
 have xq:=HQ.out x hx
 obtain ⟨u0,ur⟩:=ht.nums (k:=u) hu (by decide)
 have x0:=(ht.nums (k:=x) hx (by decide)).1
 rw[e0]at x0
 rw[←hy]at u0 ur
 have u1:=ur 1 (by decide)
 have u2:=ur 2 (by decide)
 have u3:=ur 3 (by decide)
 have u4:=ur 4 (by decide)
 have u5:=ur 5 (by decide)
 have u6:=ur 6 (by decide)
 have u7:=ur 7 (by decide)
 have bu:=World.block_lt_of_cell? _ _ u0
 have bx:=World.block_lt_of_cell? _ _ x0
 have g8:=R.zc 8 rfl
 have lg:=R.lt
 have ex:=ze w (.cells #[.int .i64 (nth y 0),.int .i64 (nth y 1),.int .i64 (nth y 2),.int .i64 (nth y 3),.int .i64 (nth y 4),.int .i64 (nth y 5),.int .i64 (nth y 6),.int .i64 (nth y 7)] 72)
 have RX:Row (w.alloc (.cells #[.int .i64 (nth y 0),.int .i64 (nth y 1),.int .i64 (nth y 2),.int .i64 (nth y 3),.int .i64 (nth y 4),.int .i64 (nth y 5),.int .i64 (nth y 6),.int .i64 (nth y 7)] 72)) w.heap.size 72 (y.map (Value.int .i64)):=by rw[cells8 l8];exact zh w [.int .i64 (nth y 0),.int .i64 (nth y 1),.int .i64 (nth y 2),.int .i64 (nth y 3),.int .i64 (nth y 4),.int .i64 (nth y 5),.int .i64 (nth y 6),.int .i64 (nth y 7)] 72
 have xi:=yQ w.heap.size 3 p5
 have HL8:=zhd l8
 have HMPw:=zhd hM
 have HRW:=zhd R
 clear ur ht hr hL tad hi hz hrr hy hq e0 hg HQ HTB l8 hu hx hb hlen hfew h hM R
 go_enter Tryz.func45,Tryz.ntmps45
 go_upto_region 2 with fail
 obtain ⟨wx,hwx⟩:∃wx,wx=w.alloc (.cells #[.int .i64 (nth y 0),.int .i64 (nth y 1),.int .i64 (nth y 2),.int .i64 (nth y 3),.int .i64 (nth y 4),.int .i64 (nth y 5),.int .i64 (nth y 6),.int .i64 (nth y 7)] 72):=⟨_,rfl⟩
 obtain ⟨B1,hB1⟩:∃B1,B1=w.heap.size:=⟨_,rfl⟩
 replace x0:=zj x0 ex
 have R2:=HRW.out.ext ex
 have HMX:=zhd (HMPw.out.ext ex)
 have hgB:g≠B1:=by omega
 have hmB:mb≠B1:=by have:=HMPw.out.lt;omega
 rw[←hwx]at RX R2 ex x0 HMX ⊢
 rw[←hB1]at RX xi ⊢
 have hB1w:w.heap.size≤B1:=by omega
 clear hwx hB1 u0 u1 u2 u3 u4 u5 u6 u7 bu bx g8 lg HRW HMPw
 have R22:=R2.grown (zi wx B1 (3+q) (.int .i64 b)) (fun e=>hgB (by injection e with e;exact e.symm))
 have HM2:=zhd (HMX.out.grown (zi wx B1 (3+q) (.int .i64 b)) (fun e=>hmB (by injection e with e;exact e.symm)))
 have RX2:=RX.set (3+q) (.int .i64 b)
 rw[X7 HL8.out p5,cells8 (show (y.set (3+q) b).length=8 by rw[List.length_set];exact HL8.out)]at RX2
 have ex3:=ex.setCell (p:=⟨B1,3+q,none⟩) hB1w (.int .i64 b)
 have cx:wx.cell? ⟨B1,3+q,none⟩=some (.int .i64 (nth y (3+q))):=RX.cell (by rw[List.getElem?_map,get?_nth (by rw[HL8.out];omega)];rfl)
 have fx:=RX.free (3+q)
 have lx:=RX.lt
 have bx:=World.block_lt_of_cell? _ _ x0
 have g8:=R2.zc 8 rfl
 have lg:=R2.lt
 clear RX ex R2 HMX
 go_upto_region 3 with fail
 clear g8 lg x0 cx fx lx bx xq xi uq
 obtain ⟨W2,hW2⟩:∃W2,W2=wx.setCell ⟨B1,3+q,none⟩ (.int .i64 b):=⟨_,rfl⟩
 rw[←hW2]at R22 RX2 ex3 HM2 ⊢
 obtain ⟨z,hz⟩:∃z,z=y.set (3+q) b:=⟨_,rfl⟩
 rw[←hz]at RX2 HR HVO
 have HKV:=zhd (Zm HVO.out.1)
 have KEEP:Hid (∀w',Below W2.heap.size W2 w'→(fun w':World=>w'.cell? ⟨g,11,none⟩=some (.map (some mb))∧w'.cell? ⟨B1,0,none⟩=some (.int .i64 (nth z 0))∧w'.cell? ⟨B1,1,none⟩=some (.int .i64 (nth z 1))∧w'.cell? ⟨B1,2,none⟩=some (.int .i64 (nth z 2))∧w'.cell? ⟨B1,3,none⟩=some (.int .i64 (nth z 3))∧w'.cell? ⟨B1,4,none⟩=some (.int .i64 (nth z 4))∧w'.cell? ⟨B1,5,none⟩=some (.int .i64 (nth z 5))∧w'.cell? ⟨B1,6,none⟩=some (.int .i64 (nth z 6))∧w'.cell? ⟨B1,7,none⟩=some (.int .i64 (nth z 7))) w'):=zhd fun w' hw=>⟨(R22.ext hw).zc 11 rfl,(RX2.ext hw).zc 0 rfl,(RX2.ext hw).zc 1 rfl,(RX2.ext hw).zc 2 rfl,(RX2.ext hw).zc 3 rfl,(RX2.ext hw).zc 4 rfl,(RX2.ext hw).zc 5 rfl,(RX2.ext hw).zc 6 rfl,(RX2.ext hw).zc 7 rfl⟩
 have HE:=zhd (zb ex3 (zf W2.heap.size W2 1))
 have HMP:=zhd (HM2.out.ext (zf W2.heap.size W2 1))
 have HIN:Hid (numM s.tab z=if z∈s.tab then some (.int .i64 (idxV s.tab z:Nat)) else none):=zhd rfl
 clear hW2 R22 RX2 ex3 hz HM2 HL8 wx
 by_cases hin:z∈s.tab
 ·have HNM:=zhd (HIN.out.trans (if_pos hin))
  have HRR:=zhd (HR.out.trans (if_pos hin))
  clear hin HIN HR
  refine zF (fun w':World=>w'.cell? ⟨g,11,none⟩=some (.map (some mb))∧w'.cell? ⟨B1,0,none⟩=some (.int .i64 (nth z 0))∧w'.cell? ⟨B1,1,none⟩=some (.int .i64 (nth z 1))∧w'.cell? ⟨B1,2,none⟩=some (.int .i64 (nth z 2))∧w'.cell? ⟨B1,3,none⟩=some (.int .i64 (nth z 3))∧w'.cell? ⟨B1,4,none⟩=some (.int .i64 (nth z 4))∧w'.cell? ⟨B1,5,none⟩=some (.int .i64 (nth z 5))∧w'.cell? ⟨B1,6,none⟩=some (.int .i64 (nth z 6))∧w'.cell? ⟨B1,7,none⟩=some (.int .i64 (nth z 7))) (fun i=>false) (by kernel_rfl) ?_ (fun hHeld=>?_)
  ·exact KEEP.out _ (zf W2.heap.size W2 1)
  refine za 0 (v:=?_) rfl (by kernel_rfl) (fun _ _ _ h=>h) (by rfl) ?hy0a hHeld ?r0a
  case hy0a=>(intro w hSw;(try dsimp only at hSw);go_simp;try with_reducible rfl)
  try simp only[Act.put,zsa,zsz,zss]
  refine za 1 (v:=?_) rfl (by kernel_rfl) (fun _ _ _ h=>h) (by rfl) ?hy1a hHeld ?r1a
  case hy1a=>(intro w hSw;(try dsimp only at hSw);go_simp;try with_reducible rfl)
  try simp only[Act.put,zsa,zsz,zss]
  refine za 2 (v:=?_) rfl (by kernel_rfl) (fun _ _ _ h=>h) (by rfl) ?hy2a hHeld ?r2a
  case hy2a=>(intro w hSw;(try dsimp only at hSw);go_simp;try with_reducible rfl)
  try simp only[Act.put,zsa,zsz,zss]
  refine za 3 (v:=?_) rfl (by kernel_rfl) (fun _ _ _ h=>h) (by rfl) ?hy3a hHeld ?r3a
  case hy3a=>(intro w hSw;(try dsimp only at hSw);go_simp;try with_reducible rfl)
  try simp only[Act.put,zsa,zsz,zss]
  refine za 4 (v:=?_) rfl (by kernel_rfl) (fun _ _ _ h=>h) (by rfl) ?hy4a hHeld ?r4a
  case hy4a=>(intro w hSw;(try dsimp only at hSw);go_simp;try with_reducible rfl)
  try simp only[Act.put,zsa,zsz,zss]
  refine zn 5 rfl (by kernel_rfl) (fun K hK=>?_)
  (refine Zl rfl _ _ 122 (by rfl) 3 Tryz.underlying122 (.int .i64 0) (yY _) (by rfl) HMP.out z (by rw[HKV.out];rfl) HVO.out ?_;rw[HNM.out])
  refine hK.out _ _ (fun _=>KEEP.out _ (zf W2.heap.size W2 1)) (fun hHeld=>?_);replace hHeld:=hHeld rfl
  clear hK K
  try simp only[Act.put,zsa,zsz,zss]
  refine za 6 (v:=?_) rfl (by kernel_rfl) (fun _ _ _ h=>h) (by rfl) ?hy6a hHeld ?r6a
  case hy6a=>(intro w hSw;(try dsimp only at hSw);go_simp;try with_reducible rfl)
  try simp only[Act.put,zsa,zsz,zss]
  refine za 7 (v:=?_) rfl (by kernel_rfl) (fun _ _ _ h=>h) (by rfl) ?hy7a hHeld ?r7a
  case hy7a=>(intro w hSw;(try dsimp only at hSw);go_simp;try with_reducible rfl)
  try simp only[Act.put,zsa,zsz,zss]
  refine za 8 (v:=?_) rfl (by kernel_rfl) (fun _ _ _ h=>h) (by rfl) ?hy8a hHeld ?r8a
  case hy8a=>(intro w hSw;(try dsimp only at hSw);go_simp;try with_reducible rfl)
  try simp only[Act.put,zsa,zsz,zss]
  refine za 9 (v:=?_) rfl (by kernel_rfl) (fun _ _ _ h=>h) (by rfl) ?hy9a hHeld ?r9a
  case hy9a=>(intro w hSw;(try dsimp only at hSw);go_simp;try with_reducible rfl)
  try simp only[Act.put,zsa,zsz,zss]
  refine za 10 (v:=?_) rfl (by kernel_rfl) (fun _ _ _ h=>h) (by rfl) ?hy10a hHeld ?r10a
  case hy10a=>(intro w hSw;(try dsimp only at hSw);go_simp;try with_reducible rfl)
  try simp only[Act.put,zsa,zsz,zss]
  refine zy (by kernel_rfl) ?_ _
  go_wp2
  go_ret
  exact .mk HE.out (zk HRR.out.symm)
 ·have HNM:=zhd (HIN.out.trans (if_neg hin))
  have HRR:=zhd (HR.out.trans (if_neg hin))
  clear hin HIN HR
  refine zF (fun w':World=>w'.cell? ⟨g,11,none⟩=some (.map (some mb))∧w'.cell? ⟨B1,0,none⟩=some (.int .i64 (nth z 0))∧w'.cell? ⟨B1,1,none⟩=some (.int .i64 (nth z 1))∧w'.cell? ⟨B1,2,none⟩=some (.int .i64 (nth z 2))∧w'.cell? ⟨B1,3,none⟩=some (.int .i64 (nth z 3))∧w'.cell? ⟨B1,4,none⟩=some (.int .i64 (nth z 4))∧w'.cell? ⟨B1,5,none⟩=some (.int .i64 (nth z 5))∧w'.cell? ⟨B1,6,none⟩=some (.int .i64 (nth z 6))∧w'.cell? ⟨B1,7,none⟩=some (.int .i64 (nth z 7))) (fun i=>false) (by kernel_rfl) ?_ (fun hHeld=>?_)
  ·exact KEEP.out _ (zf W2.heap.size W2 1)
  refine za 0 (v:=?_) rfl (by kernel_rfl) (fun _ _ _ h=>h) (by rfl) ?hy0b hHeld ?r0b
  case hy0b=>(intro w hSw;(try dsimp only at hSw);go_simp;try with_reducible rfl)
  try simp only[Act.put,zsa,zsz,zss]
  refine za 1 (v:=?_) rfl (by kernel_rfl) (fun _ _ _ h=>h) (by rfl) ?hy1b hHeld ?r1b
  case hy1b=>(intro w hSw;(try dsimp only at hSw);go_simp;try with_reducible rfl)
  try simp only[Act.put,zsa,zsz,zss]
  refine za 2 (v:=?_) rfl (by kernel_rfl) (fun _ _ _ h=>h) (by rfl) ?hy2b hHeld ?r2b
  case hy2b=>(intro w hSw;(try dsimp only at hSw);go_simp;try with_reducible rfl)
  try simp only[Act.put,zsa,zsz,zss]
  refine za 3 (v:=?_) rfl (by kernel_rfl) (fun _ _ _ h=>h) (by rfl) ?hy3b hHeld ?r3b
  case hy3b=>(intro w hSw;(try dsimp only at hSw);go_simp;try with_reducible rfl)
  try simp only[Act.put,zsa,zsz,zss]
  refine za 4 (v:=?_) rfl (by kernel_rfl) (fun _ _ _ h=>h) (by rfl) ?hy4b hHeld ?r4b
  case hy4b=>(intro w hSw;(try dsimp only at hSw);go_simp;try with_reducible rfl)
  try simp only[Act.put,zsa,zsz,zss]
  refine zn 5 rfl (by kernel_rfl) (fun K hK=>?_)
  (refine Zl rfl _ _ 122 (by rfl) 3 Tryz.underlying122 (.int .i64 0) (yY _) (by rfl) HMP.out z (by rw[HKV.out];rfl) HVO.out ?_;rw[HNM.out])
  refine hK.out _ _ (fun _=>KEEP.out _ (zf W2.heap.size W2 1)) (fun hHeld=>?_);replace hHeld:=hHeld rfl
  clear hK K
  try simp only[Act.put,zsa,zsz,zss]
  refine za 6 (v:=?_) rfl (by kernel_rfl) (fun _ _ _ h=>h) (by rfl) ?hy6b hHeld ?r6b
  case hy6b=>(intro w hSw;(try dsimp only at hSw);go_simp;try with_reducible rfl)
  try simp only[Act.put,zsa,zsz,zss]
  refine za 7 (v:=?_) rfl (by kernel_rfl) (fun _ _ _ h=>h) (by rfl) ?hy7b hHeld ?r7b
  case hy7b=>(intro w hSw;(try dsimp only at hSw);go_simp;try with_reducible rfl)
  try simp only[Act.put,zsa,zsz,zss]
  refine za 8 (v:=?_) rfl (by kernel_rfl) (fun _ _ _ h=>h) (by rfl) ?hy8b hHeld ?r8b
  case hy8b=>(intro w hSw;(try dsimp only at hSw);go_simp;try with_reducible rfl)
  try simp only[Act.put,zsa,zsz,zss]
  refine za 9 (v:=?_) rfl (by kernel_rfl) (fun _ _ _ h=>h) (by rfl) ?hy9b hHeld ?r9b
  case hy9b=>(intro w hSw;(try dsimp only at hSw);go_simp;try with_reducible rfl)
  try simp only[Act.put,zsa,zsz,zss]
  refine za 10 (v:=?_) rfl (by kernel_rfl) (fun _ _ _ h=>h) (by rfl) ?hy10b hHeld ?r10b
  case hy10b=>(intro w hSw;(try dsimp only at hSw);go_simp;try with_reducible rfl)
  try simp only[Act.put,zsa,zsz,zss]
  refine zy (by kernel_rfl) ?_ _
  go_wp2
  go_ret
  exact .mk HE.out (zk HRR.out.symm)
def likB (T:List (List Int)) (v w:Nat):Bool:=decide (prcT T v=prcT T w)&&decide (rndT T v=rndT T w)
theorem ZO {A:Nat→Prop} {w:World} {g:Nat} {s:SysF} {ch:List Int} {u x:Nat} (h:ScnV A w g s ch) (hu:u<s.tab.length) (hx:x<s.tab.length):
  Calls Tryz.prog 61 #[.pointer (some ⟨g,0,none⟩),.int .i64 u,.int .i64 x] w (Post w fun _ r=>r=.bool (likB s.tab u x)):=by
 obtain ⟨ca,cc,sa,sc,ta,tc,xa,xc,a2,c2,la,lc,mb,R,_,hM,ht,hr,hL⟩:=h.mem
 obtain ⟨hg,hlen,hfew⟩:=h.dat
 obtain ⟨_,_,hee,tad,_⟩:=ht.form2
 cases hee
 obtain ⟨i0,hi,hz⟩:=zE zJ
 have HQ:=zhd (zC Tryz.underlying30 hi hz tad)
 have HTB:=zhd hg.tab
 have HR:Hid (likB s.tab u x=(decide (prcT s.tab u=prcT s.tab x)&&decide (rndT s.tab u=rndT s.tab x))):=zhd rfl
 obtain ⟨r,hrr⟩:∃r,r=likB s.tab u x:=⟨_,rfl⟩
 rw[←hrr]at HR ⊢
 have uq:=HQ.out u hu
 have xq:=HQ.out x hx
 obtain ⟨e0,_⟩:=yP HTB.out hx
 obtain ⟨e1,_⟩:=yi HTB.out hx
 obtain ⟨f0,_⟩:=yP HTB.out hu
 obtain ⟨f1,_⟩:=yi HTB.out hu
 have hcu:=ht.nums (k:=u) hu (by decide)
 have hcx:=ht.nums (k:=x) hx (by decide)
 obtain ⟨yu,hyu⟩:∃y,y=nthL s.tab u:=⟨_,rfl⟩
 obtain ⟨yx,hyx⟩:∃y,y=nthL s.tab x:=⟨_,rfl⟩
 rw[←hyu]at hcu f0 f1
 rw[←hyx]at hcx e0 e1
 obtain ⟨pu,hpu⟩:∃p,p=prcT s.tab u:=⟨_,rfl⟩
 obtain ⟨px,hpx⟩:∃p,p=prcT s.tab x:=⟨_,rfl⟩
 obtain ⟨ru,hru⟩:∃ru,ru=rndT s.tab u:=⟨_,rfl⟩
 obtain ⟨rx,hrx⟩:∃rx,rx=rndT s.tab x:=⟨_,rfl⟩
 rw[←hpu,←hpx,←hru,←hrx]at HR
 rw[←hpu]at f0
 rw[←hpx]at e0
 rw[←hru]at f1
 rw[←hrx]at e1
 have HU0:=zhd f0
 have HU1:=zhd f1
 have HX0:=zhd e0
 have HX1:=zhd e1
 have KEEP:Hid (∀w',Below w.heap.size w w'→(fun w':World=>w'.cell? ⟨g,0,none⟩=some (.int .i64 s.p.n)∧w'.cell? ⟨g,7,none⟩=some (.int .i64 s.tn)∧w'.cell? ⟨g,8,none⟩=some (.slice ta s.tab.length tc)∧w'.cell? (adr ta (u * 8))=some (.int .i64 (nth yu 0))∧w'.cell? ⟨(adr ta (u * 8)).block,(adr ta (u * 8)).off+1,none⟩=some (.int .i64 (nth yu 1))∧w'.cell? ⟨(adr ta (u * 8)).block,(adr ta (u * 8)).off+2,none⟩=some (.int .i64 (nth yu 2))∧w'.cell? ⟨(adr ta (u * 8)).block,(adr ta (u * 8)).off+3,none⟩=some (.int .i64 (nth yu 3))∧w'.cell? ⟨(adr ta (u * 8)).block,(adr ta (u * 8)).off+4,none⟩=some (.int .i64 (nth yu 4))∧w'.cell? ⟨(adr ta (u * 8)).block,(adr ta (u * 8)).off+5,none⟩=some (.int .i64 (nth yu 5))∧w'.cell? ⟨(adr ta (u * 8)).block,(adr ta (u * 8)).off+6,none⟩=some (.int .i64 (nth yu 6))∧w'.cell? ⟨(adr ta (u * 8)).block,(adr ta (u * 8)).off+7,none⟩=some (.int .i64 (nth yu 7))∧w'.cell? (adr ta (x * 8))=some (.int .i64 (nth yx 0))∧w'.cell? ⟨(adr ta (x * 8)).block,(adr ta (x * 8)).off+1,none⟩=some (.int .i64 (nth yx 1))∧w'.cell? ⟨(adr ta (x * 8)).block,(adr ta (x * 8)).off+2,none⟩=some (.int .i64 (nth yx 2))∧w'.cell? ⟨(adr ta (x * 8)).block,(adr ta (x * 8)).off+3,none⟩=some (.int .i64 (nth yx 3))∧w'.cell? ⟨(adr ta (x * 8)).block,(adr ta (x * 8)).off+4,none⟩=some (.int .i64 (nth yx 4))∧w'.cell? ⟨(adr ta (x * 8)).block,(adr ta (x * 8)).off+5,none⟩=some (.int .i64 (nth yx 5))∧w'.cell? ⟨(adr ta (x * 8)).block,(adr ta (x * 8)).off+6,none⟩=some (.int .i64 (nth yx 6))∧w'.cell? ⟨(adr ta (x * 8)).block,(adr ta (x * 8)).off+7,none⟩=some (.int .i64 (nth yx 7))) w'):=zhd fun w' hw=>⟨(R.ext hw).zc 0 rfl,(R.ext hw).zc 7 rfl,(R.ext hw).zc 8 rfl,zj hcu.1 hw,zj (hcu.2 1 (by decide)) hw,zj (hcu.2 2 (by decide)) hw,zj (hcu.2 3 (by decide)) hw,zj (hcu.2 4 (by decide)) hw,zj (hcu.2 5 (by decide)) hw,zj (hcu.2 6 (by decide)) hw,zj (hcu.2 7 (by decide)) hw,zj hcx.1 hw,zj (hcx.2 1 (by decide)) hw,zj (hcx.2 2 (by decide)) hw,zj (hcx.2 3 (by decide)) hw,zj (hcx.2 4 (by decide)) hw,zj (hcx.2 5 (by decide)) hw,zj (hcx.2 6 (by decide)) hw,zj (hcx.2 7 (by decide)) hw⟩
 clear hcu hcx hyu hyx hpu hpx hru hrx f0 f1 e0 e1 hu hx HQ HTB ht hr hL hM R tad hi hz hrr hg hlen hfew h
 go_enter Tryz.func61,Tryz.ntmps61
 go_upto_region 1 with fail
 refine zF (fun w':World=>w'.cell? ⟨g,0,none⟩=some (.int .i64 s.p.n)∧w'.cell? ⟨g,7,none⟩=some (.int .i64 s.tn)∧w'.cell? ⟨g,8,none⟩=some (.slice ta s.tab.length tc)∧w'.cell? (adr ta (u * 8))=some (.int .i64 (nth yu 0))∧w'.cell? ⟨(adr ta (u * 8)).block,(adr ta (u * 8)).off+1,none⟩=some (.int .i64 (nth yu 1))∧w'.cell? ⟨(adr ta (u * 8)).block,(adr ta (u * 8)).off+2,none⟩=some (.int .i64 (nth yu 2))∧w'.cell? ⟨(adr ta (u * 8)).block,(adr ta (u * 8)).off+3,none⟩=some (.int .i64 (nth yu 3))∧w'.cell? ⟨(adr ta (u * 8)).block,(adr ta (u * 8)).off+4,none⟩=some (.int .i64 (nth yu 4))∧w'.cell? ⟨(adr ta (u * 8)).block,(adr ta (u * 8)).off+5,none⟩=some (.int .i64 (nth yu 5))∧w'.cell? ⟨(adr ta (u * 8)).block,(adr ta (u * 8)).off+6,none⟩=some (.int .i64 (nth yu 6))∧w'.cell? ⟨(adr ta (u * 8)).block,(adr ta (u * 8)).off+7,none⟩=some (.int .i64 (nth yu 7))∧w'.cell? (adr ta (x * 8))=some (.int .i64 (nth yx 0))∧w'.cell? ⟨(adr ta (x * 8)).block,(adr ta (x * 8)).off+1,none⟩=some (.int .i64 (nth yx 1))∧w'.cell? ⟨(adr ta (x * 8)).block,(adr ta (x * 8)).off+2,none⟩=some (.int .i64 (nth yx 2))∧w'.cell? ⟨(adr ta (x * 8)).block,(adr ta (x * 8)).off+3,none⟩=some (.int .i64 (nth yx 3))∧w'.cell? ⟨(adr ta (x * 8)).block,(adr ta (x * 8)).off+4,none⟩=some (.int .i64 (nth yx 4))∧w'.cell? ⟨(adr ta (x * 8)).block,(adr ta (x * 8)).off+5,none⟩=some (.int .i64 (nth yx 5))∧w'.cell? ⟨(adr ta (x * 8)).block,(adr ta (x * 8)).off+6,none⟩=some (.int .i64 (nth yx 6))∧w'.cell? ⟨(adr ta (x * 8)).block,(adr ta (x * 8)).off+7,none⟩=some (.int .i64 (nth yx 7))) (fun i=>false) (by kernel_rfl) ?_ (fun hHeld=>?_)
 ·exact KEEP.out _ (zf w.heap.size w 1)
 refine za 0 (v:=?_) rfl (by kernel_rfl) (fun _ _ _ h=>h) (by rfl) ?hy0 hHeld ?r0
 case hy0=>(intro w hSw;(try dsimp only at hSw);go_simp;try with_reducible rfl)
 try simp only[Act.put,zsa,zsz,zss]
 refine za 1 (v:=?_) rfl (by kernel_rfl) (fun _ _ _ h=>h) (by rfl) ?hy1 hHeld ?r1
 case hy1=>(intro w hSw;(try dsimp only at hSw);go_simp;try with_reducible rfl)
 try simp only[Act.put,zsa,zsz,zss]
 refine za 2 (v:=?_) rfl (by kernel_rfl) (fun _ _ _ h=>h) (by rfl) ?hy2 hHeld ?r2
 case hy2=>(intro w hSw;(try dsimp only at hSw);go_simp;try with_reducible rfl)
 try simp only[Act.put,zsa,zsz,zss]
 refine za 3 (v:=?_) rfl (by kernel_rfl) (fun _ _ _ h=>h) (by rfl) ?hy3 hHeld ?r3
 case hy3=>(intro w hSw;(try dsimp only at hSw);go_simp;try with_reducible rfl)
 try simp only[Act.put,zsa,zsz,zss]
 refine za 4 (v:=?_) rfl (by kernel_rfl) (fun _ _ _ h=>h) (by rfl) ?hy4 hHeld ?r4
 case hy4=>(intro w hSw;(try dsimp only at hSw);go_simp;try with_reducible rfl)
 try simp only[Act.put,zsa,zsz,zss]
 refine za 5 (v:=?_) rfl (by kernel_rfl) (fun _ _ _ h=>h) (by rfl) ?hy5 hHeld ?r5
 case hy5=>(intro w hSw;(try dsimp only at hSw);go_simp;try with_reducible rfl)
 try simp only[Act.put,zsa,zsz,zss]
 refine za 6 (v:=?_) rfl (by kernel_rfl) (fun _ _ _ h=>h) (by rfl) ?hy6 hHeld ?r6
 case hy6=>(intro w hSw;(try dsimp only at hSw);go_simp;try with_reducible rfl)
 try simp only[Act.put,zsa,zsz,zss]
 refine za 7 (v:=?_) rfl (by kernel_rfl) (fun _ _ _ h=>h) (by rfl) ?hy7 hHeld ?r7
 case hy7=>(intro w hSw;(try dsimp only at hSw);go_simp;try with_reducible rfl)
 try simp only[Act.put,zsa,zsz,zss]
 refine za 8 (v:=?_) rfl (by kernel_rfl) (fun _ _ _ h=>h) (by rfl) ?hy8 hHeld ?r8
 case hy8=>(intro w hSw;(try dsimp only at hSw);go_simp;try with_reducible rfl)
 try simp only[Act.put,zsa,zsz,zss]
 refine za 9 (v:=?_) rfl (by kernel_rfl) (fun _ _ _ h=>h) (by rfl) ?hy9 hHeld ?r9
 case hy9=>(intro w hSw;(try dsimp only at hSw);go_simp;try with_reducible rfl)
 try simp only[Act.put,zsa,zsz,zss]
 refine za 10 (v:=?_) rfl (by kernel_rfl) (fun _ _ _ h=>h) (by rfl) ?hy10 hHeld ?r10
 case hy10=>(intro w hSw;(try dsimp only at hSw);go_simp;try with_reducible rfl)
 try simp only[Act.put,zsa,zsz,zss]
 refine za 11 (v:=?_) rfl (by kernel_rfl) (fun _ _ _ h=>h) (by rfl) ?hy11 hHeld ?r11
 case hy11=>(intro w hSw;(try dsimp only at hSw);go_simp;try with_reducible rfl)
 try simp only[Act.put,zsa,zsz,zss]
 refine za 12 (v:=?_) rfl (by kernel_rfl) (fun _ _ _ h=>h) (by rfl) ?hy12 hHeld ?r12
 case hy12=>(intro w hSw;(try dsimp only at hSw);go_simp;try with_reducible rfl)
 try simp only[Act.put,zsa,zsz,zss]
 refine za 13 (v:=?_) rfl (by kernel_rfl) (fun _ _ _ h=>h) (by rfl) ?hy13 hHeld ?r13
 case hy13=>(intro w hSw;(try dsimp only at hSw);go_simp;try with_reducible rfl)
 try simp only[Act.put,zsa,zsz,zss]
 refine za 14 (v:=?_) rfl (by kernel_rfl) (fun _ _ _ h=>h) (by rfl) ?hy14 hHeld ?r14
 case hy14=>(intro w hSw;(try dsimp only at hSw);go_simp;try with_reducible rfl)
 try simp only[Act.put,zsa,zsz,zss]
 refine za 15 (v:=?_) rfl (by kernel_rfl) (fun _ _ _ h=>h) (by rfl) ?hy15 hHeld ?r15
 case hy15=>(intro w hSw;(try dsimp only at hSw);go_simp;try with_reducible rfl)
 try simp only[Act.put,zsa,zsz,zss]
 refine za 16 (v:=?_) rfl (by kernel_rfl) (fun _ _ _ h=>h) (by rfl) ?hy16 hHeld ?r16
 case hy16=>(intro w hSw;(try dsimp only at hSw);go_simp;try with_reducible rfl)
 try simp only[Act.put,zsa,zsz,zss]
 refine za 17 (v:=?_) rfl (by kernel_rfl) (fun _ _ _ h=>h) (by rfl) ?hy17 hHeld ?r17
 case hy17=>(intro w hSw;(try dsimp only at hSw);go_simp;try with_reducible rfl)
 try simp only[Act.put,zsa,zsz,zss]
 refine Z5 18 19 rfl rfl (by kernel_rfl) (fun K hK=>?_) (fun K hK=>?_)
 ·go_simp
  refine hK.out _ _ (fun _=>KEEP.out _ (zm (ze w (.cells #[.int .i64 0,.int .i64 0,.int .i64 0,.int .i64 0,.int .i64 0,.int .i64 0,.int .i64 0,.int .i64 0] 72)) 1)) (fun hHeld=>?_);replace hHeld:=hHeld rfl
  clear hK K
  try simp only[Act.put,zsa,zsz,zss]
  refine zn 19 rfl (by kernel_rfl) (fun K hK=>?_)
  go_simp
  refine hK.out _ _ (fun _=>KEEP.out _ (zm (zg (ze w (.cells #[.int .i64 0,.int .i64 0,.int .i64 0,.int .i64 0,.int .i64 0,.int .i64 0,.int .i64 0,.int .i64 0] 72)) (.cells #[.int .i64 0,.int .i64 0,.int .i64 0,.int .i64 0,.int .i64 0,.int .i64 0,.int .i64 0,.int .i64 0] 72)) 1)) (fun hHeld=>?_);replace hHeld:=hHeld rfl
  clear hK K
  try simp only[Act.put,zsa,zsz,zss]
  refine zn 20 rfl (by kernel_rfl) (fun K hK=>?_)
  go_simp
  refine hK.out _ _ (fun _=>KEEP.out _ (zm (zg (ze w (.cells #[.int .i64 (nth yu 0),.int .i64 (nth yu 1),.int .i64 (nth yu 2),.int .i64 (nth yu 3),.int .i64 (nth yu 4),.int .i64 (nth yu 5),.int .i64 (nth yu 6),.int .i64 (nth yu 7)] 72)) (.cells #[.int .i64 0,.int .i64 0,.int .i64 0,.int .i64 0,.int .i64 0,.int .i64 0,.int .i64 0,.int .i64 0] 72)) 1)) (fun hHeld=>?_);replace hHeld:=hHeld rfl
  clear hK K
  try simp only[Act.put,zsa,zsz,zss]
  refine zn 21 rfl (by kernel_rfl) (fun K hK=>?_)
  go_simp
  refine hK.out _ _ (fun _=>KEEP.out _ (zm (zg (ze w (.cells #[.int .i64 (nth yu 0),.int .i64 (nth yu 1),.int .i64 (nth yu 2),.int .i64 (nth yu 3),.int .i64 (nth yu 4),.int .i64 (nth yu 5),.int .i64 (nth yu 6),.int .i64 (nth yu 7)] 72)) (.cells #[.int .i64 (nth yx 0),.int .i64 (nth yx 1),.int .i64 (nth yx 2),.int .i64 (nth yx 3),.int .i64 (nth yx 4),.int .i64 (nth yx 5),.int .i64 (nth yx 6),.int .i64 (nth yx 7)] 72)) 1)) (fun hHeld=>?_);replace hHeld:=hHeld rfl
  clear hK K
  try simp only[Act.put,zsa,zsz,zss]
  refine zy (by kernel_rfl) ?_ _
  have Ru0:=(zh w [.int .i64 (nth yu 0),.int .i64 (nth yu 1),.int .i64 (nth yu 2),.int .i64 (nth yu 3),.int .i64 (nth yu 4),.int .i64 (nth yu 5),.int .i64 (nth yu 6),.int .i64 (nth yu 7)] 72).alloc (.cells #[.int .i64 (nth yx 0),.int .i64 (nth yx 1),.int .i64 (nth yx 2),.int .i64 (nth yx 3),.int .i64 (nth yx 4),.int .i64 (nth yx 5),.int .i64 (nth yx 6),.int .i64 (nth yx 7)] 72)
  have Rx0:=zh (w.alloc (.cells #[.int .i64 (nth yu 0),.int .i64 (nth yu 1),.int .i64 (nth yu 2),.int .i64 (nth yu 3),.int .i64 (nth yu 4),.int .i64 (nth yu 5),.int .i64 (nth yu 6),.int .i64 (nth yu 7)] 72)) [.int .i64 (nth yx 0),.int .i64 (nth yx 1),.int .i64 (nth yx 2),.int .i64 (nth yx 3),.int .i64 (nth yx 4),.int .i64 (nth yx 5),.int .i64 (nth yx 6),.int .i64 (nth yx 7)] 72
  rw[World.size_alloc]at Rx0
  have e2:=zm (zg (ze w (.cells #[.int .i64 (nth yu 0),.int .i64 (nth yu 1),.int .i64 (nth yu 2),.int .i64 (nth yu 3),.int .i64 (nth yu 4),.int .i64 (nth yu 5),.int .i64 (nth yu 6),.int .i64 (nth yu 7)] 72)) (.cells #[.int .i64 (nth yx 0),.int .i64 (nth yx 1),.int .i64 (nth yx 2),.int .i64 (nth yx 3),.int .i64 (nth yx 4),.int .i64 (nth yx 5),.int .i64 (nth yx 6),.int .i64 (nth yx 7)] 72)) 1
  have Rf:=Ru0.ext (zf _ _ 1)
  have Rg:=Rx0.ext (zf _ _ 1)
  obtain ⟨W2,hW2⟩:∃W2,W2=((w.alloc (.cells #[.int .i64 (nth yu 0),.int .i64 (nth yu 1),.int .i64 (nth yu 2),.int .i64 (nth yu 3),.int .i64 (nth yu 4),.int .i64 (nth yu 5),.int .i64 (nth yu 6),.int .i64 (nth yu 7)] 72)).alloc (.cells #[.int .i64 (nth yx 0),.int .i64 (nth yx 1),.int .i64 (nth yx 2),.int .i64 (nth yx 3),.int .i64 (nth yx 4),.int .i64 (nth yx 5),.int .i64 (nth yx 6),.int .i64 (nth yx 7)] 72)).drewN 1:=⟨_,rfl⟩
  have hW3:((w.alloc (.cells #[.int .i64 (nth yu 0),.int .i64 (nth yu 1),.int .i64 (nth yu 2),.int .i64 (nth yu 3),.int .i64 (nth yu 4),.int .i64 (nth yu 5),.int .i64 (nth yu 6),.int .i64 (nth yu 7)] 72)).alloc (.cells #[.int .i64 (nth yx 0),.int .i64 (nth yx 1),.int .i64 (nth yx 2),.int .i64 (nth yx 3),.int .i64 (nth yx 4),.int .i64 (nth yx 5),.int .i64 (nth yx 6),.int .i64 (nth yx 7)] 72)).drew=W2:=hW2.symm
  rw[←hW2]at e2 Rf Rg
  rw[hW3]
  have u0:=Rf.zc 0 rfl
  have u1:=Rf.zc 1 rfl
  have x0:=Rg.zc 0 rfl
  have x1:=Rg.zc 1 rfl
  have lf:=Rf.lt
  have lg:=Rg.lt
  clear hHeld hW2 hW3 Rf Rg Ru0 Rx0
  rw[HU0.out]at u0
  rw[HU1.out]at u1
  rw[HX0.out]at x0
  rw[HX1.out]at x1
  have HE:=zhd e2
  clear KEEP e2
  by_cases hp:pu=px
  case neg=>
   have d1:((pu:Int)==(px:Int))=false:=by rw[beq_eq_false_iff_ne];omega
   have RE:=zhd (HR.out.trans (by rw[decide_eq_false hp,Bool.false_and]))
   clear hp HR
   go_wp2
   go_ret
   exact .mk HE.out (zr RE.out.symm)
  have d1:((pu:Int)==(px:Int))=true:=by rw[hp];simp
  by_cases hrr:ru=rx
  case neg=>
   have d2:((ru:Int)==(rx:Int))=false:=by rw[beq_eq_false_iff_ne];omega
   have RE:=zhd (HR.out.trans (by rw[decide_eq_false hrr,Bool.and_false]))
   clear hp hrr HR
   go_wp2
   go_ret
   exact .mk HE.out (zr RE.out.symm)
  have d2:((ru:Int)==(rx:Int))=true:=by rw[hrr];simp
  have RE:=zhd (HR.out.trans (by rw[decide_eq_true hp,decide_eq_true hrr,Bool.and_self]))
  clear hp hrr HR
  go_wp2
  go_ret
  exact .mk HE.out (zr RE.out.symm)
 ·go_simp
  refine hK.out _ _ (fun _=>KEEP.out _ (zm (ze w (.cells #[.int .i64 0,.int .i64 0,.int .i64 0,.int .i64 0,.int .i64 0,.int .i64 0,.int .i64 0,.int .i64 0] 72)) 1)) (fun hHeld=>?_);replace hHeld:=hHeld rfl
  clear hK K
  try simp only[Act.put,zsa,zsz,zss]
  refine zn 18 rfl (by kernel_rfl) (fun K hK=>?_)
  go_simp
  refine hK.out _ _ (fun _=>KEEP.out _ (zm (zg (ze w (.cells #[.int .i64 0,.int .i64 0,.int .i64 0,.int .i64 0,.int .i64 0,.int .i64 0,.int .i64 0,.int .i64 0] 72)) (.cells #[.int .i64 0,.int .i64 0,.int .i64 0,.int .i64 0,.int .i64 0,.int .i64 0,.int .i64 0,.int .i64 0] 72)) 1)) (fun hHeld=>?_);replace hHeld:=hHeld rfl
  clear hK K
  try simp only[Act.put,zsa,zsz,zss]
  refine zn 20 rfl (by kernel_rfl) (fun K hK=>?_)
  go_simp
  refine hK.out _ _ (fun _=>KEEP.out _ (zm (zg (ze w (.cells #[.int .i64 0,.int .i64 0,.int .i64 0,.int .i64 0,.int .i64 0,.int .i64 0,.int .i64 0,.int .i64 0] 72)) (.cells #[.int .i64 (nth yu 0),.int .i64 (nth yu 1),.int .i64 (nth yu 2),.int .i64 (nth yu 3),.int .i64 (nth yu 4),.int .i64 (nth yu 5),.int .i64 (nth yu 6),.int .i64 (nth yu 7)] 72)) 1)) (fun hHeld=>?_);replace hHeld:=hHeld rfl
  clear hK K
  try simp only[Act.put,zsa,zsz,zss]
  refine zn 21 rfl (by kernel_rfl) (fun K hK=>?_)
  go_simp
  refine hK.out _ _ (fun _=>KEEP.out _ (zm (zg (ze w (.cells #[.int .i64 (nth yx 0),.int .i64 (nth yx 1),.int .i64 (nth yx 2),.int .i64 (nth yx 3),.int .i64 (nth yx 4),.int .i64 (nth yx 5),.int .i64 (nth yx 6),.int .i64 (nth yx 7)] 72)) (.cells #[.int .i64 (nth yu 0),.int .i64 (nth yu 1),.int .i64 (nth yu 2),.int .i64 (nth yu 3),.int .i64 (nth yu 4),.int .i64 (nth yu 5),.int .i64 (nth yu 6),.int .i64 (nth yu 7)] 72)) 1)) (fun hHeld=>?_);replace hHeld:=hHeld rfl
  clear hK K
  try simp only[Act.put,zsa,zsz,zss]
  refine zy (by kernel_rfl) ?_ _
  have Rx0:=(zh w [.int .i64 (nth yx 0),.int .i64 (nth yx 1),.int .i64 (nth yx 2),.int .i64 (nth yx 3),.int .i64 (nth yx 4),.int .i64 (nth yx 5),.int .i64 (nth yx 6),.int .i64 (nth yx 7)] 72).alloc (.cells #[.int .i64 (nth yu 0),.int .i64 (nth yu 1),.int .i64 (nth yu 2),.int .i64 (nth yu 3),.int .i64 (nth yu 4),.int .i64 (nth yu 5),.int .i64 (nth yu 6),.int .i64 (nth yu 7)] 72)
  have Ru0:=zh (w.alloc (.cells #[.int .i64 (nth yx 0),.int .i64 (nth yx 1),.int .i64 (nth yx 2),.int .i64 (nth yx 3),.int .i64 (nth yx 4),.int .i64 (nth yx 5),.int .i64 (nth yx 6),.int .i64 (nth yx 7)] 72)) [.int .i64 (nth yu 0),.int .i64 (nth yu 1),.int .i64 (nth yu 2),.int .i64 (nth yu 3),.int .i64 (nth yu 4),.int .i64 (nth yu 5),.int .i64 (nth yu 6),.int .i64 (nth yu 7)] 72
  rw[World.size_alloc]at Ru0
  have e2:=zm (zg (ze w (.cells #[.int .i64 (nth yx 0),.int .i64 (nth yx 1),.int .i64 (nth yx 2),.int .i64 (nth yx 3),.int .i64 (nth yx 4),.int .i64 (nth yx 5),.int .i64 (nth yx 6),.int .i64 (nth yx 7)] 72)) (.cells #[.int .i64 (nth yu 0),.int .i64 (nth yu 1),.int .i64 (nth yu 2),.int .i64 (nth yu 3),.int .i64 (nth yu 4),.int .i64 (nth yu 5),.int .i64 (nth yu 6),.int .i64 (nth yu 7)] 72)) 1
  have Rf:=Rx0.ext (zf _ _ 1)
  have Rg:=Ru0.ext (zf _ _ 1)
  obtain ⟨W2,hW2⟩:∃W2,W2=((w.alloc (.cells #[.int .i64 (nth yx 0),.int .i64 (nth yx 1),.int .i64 (nth yx 2),.int .i64 (nth yx 3),.int .i64 (nth yx 4),.int .i64 (nth yx 5),.int .i64 (nth yx 6),.int .i64 (nth yx 7)] 72)).alloc (.cells #[.int .i64 (nth yu 0),.int .i64 (nth yu 1),.int .i64 (nth yu 2),.int .i64 (nth yu 3),.int .i64 (nth yu 4),.int .i64 (nth yu 5),.int .i64 (nth yu 6),.int .i64 (nth yu 7)] 72)).drewN 1:=⟨_,rfl⟩
  have hW3:((w.alloc (.cells #[.int .i64 (nth yx 0),.int .i64 (nth yx 1),.int .i64 (nth yx 2),.int .i64 (nth yx 3),.int .i64 (nth yx 4),.int .i64 (nth yx 5),.int .i64 (nth yx 6),.int .i64 (nth yx 7)] 72)).alloc (.cells #[.int .i64 (nth yu 0),.int .i64 (nth yu 1),.int .i64 (nth yu 2),.int .i64 (nth yu 3),.int .i64 (nth yu 4),.int .i64 (nth yu 5),.int .i64 (nth yu 6),.int .i64 (nth yu 7)] 72)).drew=W2:=hW2.symm
  rw[←hW2]at e2 Rf Rg
  rw[hW3]
  have x0:=Rf.zc 0 rfl
  have x1:=Rf.zc 1 rfl
  have u0:=Rg.zc 0 rfl
  have u1:=Rg.zc 1 rfl
  have lf:=Rf.lt
  have lg:=Rg.lt
  clear hHeld hW2 hW3 Rf Rg Rx0 Ru0
  rw[HU0.out]at u0
  rw[HU1.out]at u1
  rw[HX0.out]at x0
  rw[HX1.out]at x1
  have HE:=zhd e2
  clear KEEP e2
  by_cases hp:pu=px
  case neg=>
   have d1:((pu:Int)==(px:Int))=false:=by rw[beq_eq_false_iff_ne];omega
   have RE:=zhd (HR.out.trans (by rw[decide_eq_false hp,Bool.false_and]))
   clear hp HR
   go_wp2
   go_ret
   exact .mk HE.out (zr RE.out.symm)
  have d1:((pu:Int)==(px:Int))=true:=by rw[hp];simp
  by_cases hrr:ru=rx
  case neg=>
   have d2:((ru:Int)==(rx:Int))=false:=by rw[beq_eq_false_iff_ne];omega
   have RE:=zhd (HR.out.trans (by rw[decide_eq_false hrr,Bool.and_false]))
   clear hp hrr HR
   go_wp2
   go_ret
   exact .mk HE.out (zr RE.out.symm)
  have d2:((ru:Int)==(rx:Int))=true:=by rw[hrr];simp
  have RE:=zhd (HR.out.trans (by rw[decide_eq_true hp,decide_eq_true hrr,Bool.and_self]))
  clear hp hrr HR
  go_wp2
  go_ret
  exact .mk HE.out (zr RE.out.symm)
def endB (ch:List Int) (u:Nat) (o:Int):Bool:=decide (o<0)|| !decide (nth ch u=nth ch o.toNat)
theorem xM {A:Nat→Prop} {w:World} {g:Nat} {s:SysF} {ch:List Int} {u:Nat} {o:Int} (h:ScnV A w g s ch) (hu:u<s.tab.length) (ho:o<s.tab.length):
  Calls Tryz.prog 46 #[.pointer (some ⟨g,0,none⟩),.int .i64 u,.int .i64 o] w (Post w fun _ r=>r=.bool (endB ch u o)):=by
 obtain ⟨ca,cc,sa,sc,ta,tc,xa,xc,a2,c2,la,lc,mb,R,_,hM,ht,hr,hL⟩:=h.mem
 obtain ⟨hg,hlen,hfew⟩:=h.dat
 have HR:Hid (endB ch u o=(decide (o<0)|| !decide (nth ch u=nth ch o.toNat))):=zhd rfl
 obtain ⟨r,hrr⟩:∃r,r=endB ch u o:=⟨_,rfl⟩
 rw[←hrr]at HR ⊢
 have g10:=R.zc 10 rfl
 have lg:=R.lt
 by_cases h0:o<0
 ·have d0:decide (o<0)=true:=decide_eq_true h0
  have RE:=zhd (HR.out.trans (by rw[decide_eq_true h0,Bool.true_or]))
  clear h0 HR hM ht hr hL hg hlen hfew h hrr R
  go_enter Tryz.func46,Tryz.ntmps46
  go_wp2
  go_quiet (fail)
  go_wp2
  go_ret
  exact .mk (zf _ _ _) (zr RE.out.symm)
 have d0:decide (o<0)=false:=decide_eq_false h0
 obtain ⟨z,rfl⟩:∃z:Nat,o=z:=⟨o.toNat,by omega⟩
 have uq:=hr.idx (k:=u) (by omega)
 have zq:=hr.idx (k:=z) (by omega)
 have uc:=hr.cellN (k:=u) (by omega)
 have zc:=hr.cellN (k:=z) (by omega)
 have bu:=World.block_lt_of_cell? _ _ uc
 have bz:=World.block_lt_of_cell? _ _ zc
 rw[Int.toNat_natCast]at HR
 obtain ⟨cu,hcu⟩:∃c,c=nth ch u:=⟨_,rfl⟩
 obtain ⟨cz,hcz⟩:∃c,c=nth ch z:=⟨_,rfl⟩
 rw[←hcu]at uc HR
 rw[←hcz]at zc HR
 by_cases he:cu=cz
 ·have d1:(cu !=cz)=false:=by simp[he]
  have RE:=zhd (HR.out.trans (by rw[d0,decide_eq_true he,Bool.not_true,Bool.or_self]))
  clear h0 HR hM ht hr hL hg hlen hfew h hrr R hcu hcz he
  go_enter Tryz.func46,Tryz.ntmps46
  go_wp2
  go_quiet (fail)
  go_wp2
  go_ret
  exact .mk (zf _ _ _) (zr RE.out.symm)
 ·have d1:(cu !=cz)=true:=by simp[he]
  have RE:=zhd (HR.out.trans (by rw[d0,decide_eq_false he,Bool.not_false,Bool.or_true]))
  clear h0 HR hM ht hr hL hg hlen hfew h hrr R hcu hcz he
  go_enter Tryz.func46,Tryz.ntmps46
  go_wp2
  go_quiet (fail)
  go_wp2
  go_ret
  exact .mk (zf _ _ _) (zr RE.out.symm)
end Go.Proofs.YtfjlhjkjjbiliaaGreat
