/- Part of the proof that the laws answer true for every input. -/
import Derived.Test.YtfjlhjkjjbiliaaGreatPXa38
set_option linter.unusedSimpArgs false
set_option linter.unnecessarySimpa false
set_option linter.unusedVariables false
set_option maxRecDepth 100000
set_option maxHeartbeats 40000000
namespace Go.Proofs.YtfjlhjkjjbiliaaGreat
open Go.RowKit
attribute [local go_sem ↓] Go.wp_at_zero Go.wp_at_succ
theorem Yt {A S2:Nat→Prop} {w:World} {g v x:Nat} {vl:Value} {s:SysF} {ch L:List Int} (h:ScnV A w g s ch) (h2:Ints S2 w vl L) (hl:L.length=s.tab.length) (hv:v<s.tab.length) (hx:x<s.tab.length):
  Calls Tryz.prog 39 #[.pointer (some ⟨g,0,none⟩),vl,.int .i64 v,.int .i64 x] w (Post w fun _ r=>r=.bool (samB s.tab ch (nth L) v x)):=by
 have KA:Hid (∀W,Below w.heap.size w W→Calls Tryz.prog 61 #[.pointer (some ⟨g,0,none⟩),.int .i64 v,.int .i64 x] W (Post W fun _ r=>r=.bool (likB s.tab v x))):=zhd fun W hW=>ZO (h.ext hW) hv hx
 have KF1:Hid (∀W,Below w.heap.size w W→Calls Tryz.prog 62 #[.pointer (some ⟨g,0,none⟩),vl,.int .i64 v,.int .i64 x] W (Post W fun _ r=>r=.bool (folB s.tab (nth L) v x))):=zhd fun W hW=>Ql (h.ext hW) (h2.ext hW) hl hv hx
 have KF2:Hid (∀W,Below w.heap.size w W→Calls Tryz.prog 62 #[.pointer (some ⟨g,0,none⟩),vl,.int .i64 x,.int .i64 v] W (Post W fun _ r=>r=.bool (folB s.tab (nth L) x v))):=zhd fun W hW=>Ql (h.ext hW) (h2.ext hW) hl hx hv
 have HR:Hid (samB s.tab ch (nth L) v x=(likB s.tab v x&&(decide (nth ch v=nth ch x)&&(folB s.tab (nth L) v x&&folB s.tab (nth L) x v)))):=zhd rfl
 obtain ⟨r,hr⟩:∃r,r=samB s.tab ch (nth L) v x:=⟨_,rfl⟩
 rw[←hr]at HR ⊢
 obtain ⟨al,ha⟩:∃b,b=likB s.tab v x:=⟨_,rfl⟩
 obtain ⟨f1,hf1⟩:∃b,b=folB s.tab (nth L) v x:=⟨_,rfl⟩
 obtain ⟨f2,hf2⟩:∃b,b=folB s.tab (nth L) x v:=⟨_,rfl⟩
 rw[←ha]at KA HR
 rw[←hf1]at KF1 HR
 rw[←hf2]at KF2 HR
 obtain ⟨al',cl',rfl,_⟩:=h2.form
 obtain ⟨ca,cc,sa,sc,ta,tc,xa,xc,a2,c2,la,lc,mb,R,_,_,_,hrr,_⟩:=h.mem
 have hlen:=h.dat.len
 have vq:=hrr.idx (k:=v) (by omega)
 have xq:=hrr.idx (k:=x) (by omega)
 have vc:=hrr.cellN (k:=v) (by omega)
 have xc':=hrr.cellN (k:=x) (by omega)
 obtain ⟨cv,hcv⟩:∃c,c=nth ch v:=⟨_,rfl⟩
 obtain ⟨cx,hcx⟩:∃c,c=nth ch x:=⟨_,rfl⟩
 rw[←hcv,←hcx]at HR
 rw[←hcv]at vc
 rw[←hcx]at xc'
 have KEEP:Hid (∀w',Below w.heap.size w w'→(fun w':World=>w'.cell? ⟨g,10,none⟩=some (.slice a2 ch.length c2)∧w'.cell? (adr a2 v)=some (.int .i64 cv)∧w'.cell? (adr a2 x)=some (.int .i64 cx)) w'):=zhd fun w' hw=>⟨(R.ext hw).zc 10 rfl,zj vc hw,zj xc' hw⟩
 clear h h2 hl hv hx hr ha hf1 hf2 hcv hcx hrr R hlen vc xc'
 go_enter Tryz.func39,Tryz.ntmps39
 go_upto_region 1 with fail
 cases al with
 | false=>
  have RE:Hid (r=false):=zhd (HR.out.trans rfl)
  clear HR
  refine zF (fun w':World=>w'.cell? ⟨g,10,none⟩=some (.slice a2 ch.length c2)∧w'.cell? (adr a2 v)=some (.int .i64 cv)∧w'.cell? (adr a2 x)=some (.int .i64 cx)) (fun i=>false) (by kernel_rfl) ?_ (fun hHeld=>?_)
  ·exact KEEP.out _ (zf w.heap.size w 1)
  refine za 0 (v:=?_) rfl (by kernel_rfl) (fun _ _ _ h=>h) (by rfl) ?hy0a hHeld ?r0a
  case hy0a=>(intro w hSw;(try dsimp only at hSw);go_simp;try with_reducible rfl)
  try simp only[Act.put,zsa,zsz,zss]
  refine za 1 (v:=?_) rfl (by kernel_rfl) (fun _ _ _ h=>h) (by rfl) ?hy1a hHeld ?r1a
  case hy1a=>(intro w hSw;(try dsimp only at hSw);go_simp;try with_reducible rfl)
  try simp only[Act.put,zsa,zsz,zss]
  refine za 2 (v:=?_) rfl (by kernel_rfl) (fun _ _ _ h=>h) (by rfl) ?hy2a hHeld ?r2a
  case hy2a=>(intro w hSw;(try dsimp only at hSw);go_simp;try with_reducible rfl)
  try simp only[Act.put,zsa,zsz,zss]
  refine zn 3 rfl (by kernel_rfl) (fun K hK=>?_)
  (go_simp;go_at_call 61;refine (KA.out _ (zf w.heap.size w 1)).mono ?_;rintro _ v1 ⟨_,rfl,hb,rfl⟩;have y1:=zb (zf w.heap.size w 1) hb;clear hb)
  refine hK.out _ _ (fun _=>KEEP.out _ y1) (fun hHeld=>?_);replace hHeld:=hHeld rfl
  clear hK K
  try simp only[Act.put,zsa,zsz,zss]
  refine za 4 (v:=?_) rfl (by kernel_rfl) (fun _ _ _ h=>h) (by rfl) ?hy4a hHeld ?r4a
  case hy4a=>(intro w hSw;(try dsimp only at hSw);go_simp;try with_reducible rfl)
  try simp only[Act.put,zsa,zsz,zss]
  refine zo 5 rfl (by kernel_rfl) (fun _ _ _ h=>h) (by rfl) hHeld ?_
  try simp only[Act.put,zsa,zsz,zss]
  refine zo 6 rfl (by kernel_rfl) (fun _ _ _ h=>h) (by rfl) hHeld ?_
  try simp only[Act.put,zsa,zsz,zss]
  refine zo 7 rfl (by kernel_rfl) (fun _ _ _ h=>h) (by rfl) hHeld ?_
  try simp only[Act.put,zsa,zsz,zss]
  refine zo 8 rfl (by kernel_rfl) (fun _ _ _ h=>h) (by rfl) hHeld ?_
  try simp only[Act.put,zsa,zsz,zss]
  refine zo 9 rfl (by kernel_rfl) (fun _ _ _ h=>h) (by rfl) hHeld ?_
  try simp only[Act.put,zsa,zsz,zss]
  refine zo 10 rfl (by kernel_rfl) (fun _ _ _ h=>h) (by rfl) hHeld ?_
  try simp only[Act.put,zsa,zsz,zss]
  refine zo 11 rfl (by kernel_rfl) (fun _ _ _ h=>h) (by rfl) hHeld ?_
  try simp only[Act.put,zsa,zsz,zss]
  refine zo 12 rfl (by kernel_rfl) (fun _ _ _ h=>h) (by rfl) hHeld ?_
  try simp only[Act.put,zsa,zsz,zss]
  refine zo 13 rfl (by kernel_rfl) (fun _ _ _ h=>h) (by rfl) hHeld ?_
  try simp only[Act.put,zsa,zsz,zss]
  refine zo 14 rfl (by kernel_rfl) (fun _ _ _ h=>h) (by rfl) hHeld ?_
  try simp only[Act.put,zsa,zsz,zss]
  refine zo 15 rfl (by kernel_rfl) (fun _ _ _ h=>h) (by rfl) hHeld ?_
  try simp only[Act.put,zsa,zsz,zss]
  refine zo 16 rfl (by kernel_rfl) (fun _ _ _ h=>h) (by rfl) hHeld ?_
  try simp only[Act.put,zsa,zsz,zss]
  refine zo 17 rfl (by kernel_rfl) (fun _ _ _ h=>h) (by rfl) hHeld ?_
  try simp only[Act.put,zsa,zsz,zss]
  refine zo 18 rfl (by kernel_rfl) (fun _ _ _ h=>h) (by rfl) hHeld ?_
  try simp only[Act.put,zsa,zsz,zss]
  refine zo 19 rfl (by kernel_rfl) (fun _ _ _ h=>h) (by rfl) hHeld ?_
  try simp only[Act.put,zsa,zsz,zss]
  refine zo 20 rfl (by kernel_rfl) (fun _ _ _ h=>h) (by rfl) hHeld ?_
  try simp only[Act.put,zsa,zsz,zss]
  refine zo 21 rfl (by kernel_rfl) (fun _ _ _ h=>h) (by rfl) hHeld ?_
  try simp only[Act.put,zsa,zsz,zss]
  refine za 22 (v:=?_) rfl (by kernel_rfl) (fun _ _ _ h=>h) (by rfl) ?hy22a hHeld ?r22a
  case hy22a=>(intro w hSw;(try dsimp only at hSw);go_simp;try with_reducible rfl)
  try simp only[Act.put,zsa,zsz,zss]
  refine za 23 (v:=?_) rfl (by kernel_rfl) (fun _ _ _ h=>h) (by rfl) ?hy23a hHeld ?r23a
  case hy23a=>(intro w hSw;(try dsimp only at hSw);go_simp;try with_reducible rfl)
  try simp only[Act.put,zsa,zsz,zss]
  refine zo 24 rfl (by kernel_rfl) (fun _ _ _ h=>h) (by rfl) hHeld ?_
  try simp only[Act.put,zsa,zsz,zss]
  refine zo 25 rfl (by kernel_rfl) (fun _ _ _ h=>h) (by rfl) hHeld ?_
  try simp only[Act.put,zsa,zsz,zss]
  refine zo 26 rfl (by kernel_rfl) (fun _ _ _ h=>h) (by rfl) hHeld ?_
  try simp only[Act.put,zsa,zsz,zss]
  refine zo 27 rfl (by kernel_rfl) (fun _ _ _ h=>h) (by rfl) hHeld ?_
  try simp only[Act.put,zsa,zsz,zss]
  refine zo 28 rfl (by kernel_rfl) (fun _ _ _ h=>h) (by rfl) hHeld ?_
  try simp only[Act.put,zsa,zsz,zss]
  refine za 29 (v:=?_) rfl (by kernel_rfl) (fun _ _ _ h=>h) (by rfl) ?hy29a hHeld ?r29a
  case hy29a=>(intro w hSw;(try dsimp only at hSw);go_simp;try with_reducible rfl)
  try simp only[Act.put,zsa,zsz,zss]
  refine za 30 (v:=?_) rfl (by kernel_rfl) (fun _ _ _ h=>h) (by rfl) ?hy30a hHeld ?r30a
  case hy30a=>(intro w hSw;(try dsimp only at hSw);go_simp;try with_reducible rfl)
  try simp only[Act.put,zsa,zsz,zss]
  refine zo 31 rfl (by kernel_rfl) (fun _ _ _ h=>h) (by rfl) hHeld ?_
  try simp only[Act.put,zsa,zsz,zss]
  refine zo 32 rfl (by kernel_rfl) (fun _ _ _ h=>h) (by rfl) hHeld ?_
  try simp only[Act.put,zsa,zsz,zss]
  refine zo 33 rfl (by kernel_rfl) (fun _ _ _ h=>h) (by rfl) hHeld ?_
  try simp only[Act.put,zsa,zsz,zss]
  refine zo 34 rfl (by kernel_rfl) (fun _ _ _ h=>h) (by rfl) hHeld ?_
  try simp only[Act.put,zsa,zsz,zss]
  refine zo 35 rfl (by kernel_rfl) (fun _ _ _ h=>h) (by rfl) hHeld ?_
  try simp only[Act.put,zsa,zsz,zss]
  refine za 36 (v:=?_) rfl (by kernel_rfl) (fun _ _ _ h=>h) (by rfl) ?hy36a hHeld ?r36a
  case hy36a=>(intro w hSw;(try dsimp only at hSw);go_simp;try with_reducible rfl)
  try simp only[Act.put,zsa,zsz,zss]
  refine za 37 (v:=?_) rfl (by kernel_rfl) (fun _ _ _ h=>h) (by rfl) ?hy37a hHeld ?r37a
  case hy37a=>(intro w hSw;(try dsimp only at hSw);go_simp;try with_reducible rfl)
  try simp only[Act.put,zsa,zsz,zss]
  refine zy (by kernel_rfl) ?_ _
  clear hHeld KEEP
  go_wp2
  go_ret
  exact .mk y1 (zr RE.out.symm)
 | true=>
 by_cases hc:cv=cx
 case neg=>
  have d1:(cv==cx)=false:=by simp[hc]
  have RE:Hid (r=false):=zhd (HR.out.trans (by rw[decide_eq_false hc,Bool.false_and,Bool.and_false]))
  clear HR hc
  refine zF (fun w':World=>w'.cell? ⟨g,10,none⟩=some (.slice a2 ch.length c2)∧w'.cell? (adr a2 v)=some (.int .i64 cv)∧w'.cell? (adr a2 x)=some (.int .i64 cx)) (fun i=>false) (by kernel_rfl) ?_ (fun hHeld=>?_)
  ·exact KEEP.out _ (zf w.heap.size w 1)
  refine za 0 (v:=?_) rfl (by kernel_rfl) (fun _ _ _ h=>h) (by rfl) ?hy0b hHeld ?r0b
  case hy0b=>(intro w hSw;(try dsimp only at hSw);go_simp;try with_reducible rfl)
  try simp only[Act.put,zsa,zsz,zss]
  refine za 1 (v:=?_) rfl (by kernel_rfl) (fun _ _ _ h=>h) (by rfl) ?hy1b hHeld ?r1b
  case hy1b=>(intro w hSw;(try dsimp only at hSw);go_simp;try with_reducible rfl)
  try simp only[Act.put,zsa,zsz,zss]
  refine za 2 (v:=?_) rfl (by kernel_rfl) (fun _ _ _ h=>h) (by rfl) ?hy2b hHeld ?r2b
  case hy2b=>(intro w hSw;(try dsimp only at hSw);go_simp;try with_reducible rfl)
  try simp only[Act.put,zsa,zsz,zss]
  refine zn 3 rfl (by kernel_rfl) (fun K hK=>?_)
  (go_simp;go_at_call 61;refine (KA.out _ (zf w.heap.size w 1)).mono ?_;rintro _ v1 ⟨_,rfl,hb,rfl⟩;have y1:=zb (zf w.heap.size w 1) hb;clear hb)
  refine hK.out _ _ (fun _=>KEEP.out _ y1) (fun hHeld=>?_);replace hHeld:=hHeld rfl
  clear hK K
  try simp only[Act.put,zsa,zsz,zss]
  refine za 4 (v:=?_) rfl (by kernel_rfl) (fun _ _ _ h=>h) (by rfl) ?hy4b hHeld ?r4b
  case hy4b=>(intro w hSw;(try dsimp only at hSw);go_simp;try with_reducible rfl)
  try simp only[Act.put,zsa,zsz,zss]
  refine za 5 (v:=?_) rfl (by kernel_rfl) (fun _ _ _ h=>h) (by rfl) ?hy5b hHeld ?r5b
  case hy5b=>(intro w hSw;(try dsimp only at hSw);go_simp;try with_reducible rfl)
  try simp only[Act.put,zsa,zsz,zss]
  refine za 6 (v:=?_) rfl (by kernel_rfl) (fun _ _ _ h=>h) (by rfl) ?hy6b hHeld ?r6b
  case hy6b=>(intro w hSw;(try dsimp only at hSw);go_simp;try with_reducible rfl)
  try simp only[Act.put,zsa,zsz,zss]
  refine za 7 (v:=?_) rfl (by kernel_rfl) (fun _ _ _ h=>h) (by rfl) ?hy7b hHeld ?r7b
  case hy7b=>(intro w hSw;(try dsimp only at hSw);go_simp;try with_reducible rfl)
  try simp only[Act.put,zsa,zsz,zss]
  refine za 8 (v:=?_) rfl (by kernel_rfl) (fun _ _ _ h=>h) (by rfl) ?hy8b hHeld ?r8b
  case hy8b=>(intro w hSw;(try dsimp only at hSw);go_simp;try with_reducible rfl)
  try simp only[Act.put,zsa,zsz,zss]
  refine za 9 (v:=?_) rfl (by kernel_rfl) (fun _ _ _ h=>h) (by rfl) ?hy9b hHeld ?r9b
  case hy9b=>(intro w hSw;(try dsimp only at hSw);go_simp;try with_reducible rfl)
  try simp only[Act.put,zsa,zsz,zss]
  refine za 10 (v:=?_) rfl (by kernel_rfl) (fun _ _ _ h=>h) (by rfl) ?hy10b hHeld ?r10b
  case hy10b=>(intro w hSw;(try dsimp only at hSw);go_simp;try with_reducible rfl)
  try simp only[Act.put,zsa,zsz,zss]
  refine za 11 (v:=?_) rfl (by kernel_rfl) (fun _ _ _ h=>h) (by rfl) ?hy11b hHeld ?r11b
  case hy11b=>(intro w hSw;(try dsimp only at hSw);go_simp;try with_reducible rfl)
  try simp only[Act.put,zsa,zsz,zss]
  refine za 12 (v:=?_) rfl (by kernel_rfl) (fun _ _ _ h=>h) (by rfl) ?hy12b hHeld ?r12b
  case hy12b=>(intro w hSw;(try dsimp only at hSw);go_simp;try with_reducible rfl)
  try simp only[Act.put,zsa,zsz,zss]
  refine za 13 (v:=?_) rfl (by kernel_rfl) (fun _ _ _ h=>h) (by rfl) ?hy13b hHeld ?r13b
  case hy13b=>(intro w hSw;(try dsimp only at hSw);go_simp;try with_reducible rfl)
  try simp only[Act.put,zsa,zsz,zss]
  refine za 14 (v:=?_) rfl (by kernel_rfl) (fun _ _ _ h=>h) (by rfl) ?hy14b hHeld ?r14b
  case hy14b=>(intro w hSw;(try dsimp only at hSw);go_simp;try with_reducible rfl)
  try simp only[Act.put,zsa,zsz,zss]
  refine za 15 (v:=?_) rfl (by kernel_rfl) (fun _ _ _ h=>h) (by rfl) ?hy15b hHeld ?r15b
  case hy15b=>(intro w hSw;(try dsimp only at hSw);go_simp;try with_reducible rfl)
  try simp only[Act.put,zsa,zsz,zss]
  refine za 16 (v:=?_) rfl (by kernel_rfl) (fun _ _ _ h=>h) (by rfl) ?hy16b hHeld ?r16b
  case hy16b=>(intro w hSw;(try dsimp only at hSw);go_simp;try with_reducible rfl)
  try simp only[Act.put,zsa,zsz,zss]
  refine za 17 (v:=?_) rfl (by kernel_rfl) (fun _ _ _ h=>h) (by rfl) ?hy17b hHeld ?r17b
  case hy17b=>(intro w hSw;(try dsimp only at hSw);go_simp;try with_reducible rfl)
  try simp only[Act.put,zsa,zsz,zss]
  refine za 18 (v:=?_) rfl (by kernel_rfl) (fun _ _ _ h=>h) (by rfl) ?hy18b hHeld ?r18b
  case hy18b=>(intro w hSw;(try dsimp only at hSw);go_simp;try with_reducible rfl)
  try simp only[Act.put,zsa,zsz,zss]
  refine za 19 (v:=?_) rfl (by kernel_rfl) (fun _ _ _ h=>h) (by rfl) ?hy19b hHeld ?r19b
  case hy19b=>(intro w hSw;(try dsimp only at hSw);go_simp;try with_reducible rfl)
  try simp only[Act.put,zsa,zsz,zss]
  refine za 20 (v:=?_) rfl (by kernel_rfl) (fun _ _ _ h=>h) (by rfl) ?hy20b hHeld ?r20b
  case hy20b=>(intro w hSw;(try dsimp only at hSw);go_simp;try with_reducible rfl)
  try simp only[Act.put,zsa,zsz,zss]
  refine za 21 (v:=?_) rfl (by kernel_rfl) (fun _ _ _ h=>h) (by rfl) ?hy21b hHeld ?r21b
  case hy21b=>(intro w hSw;(try dsimp only at hSw);go_simp;try with_reducible rfl)
  try simp only[Act.put,zsa,zsz,zss]
  refine za 22 (v:=?_) rfl (by kernel_rfl) (fun _ _ _ h=>h) (by rfl) ?hy22b hHeld ?r22b
  case hy22b=>(intro w hSw;(try dsimp only at hSw);go_simp;try with_reducible rfl)
  try simp only[Act.put,zsa,zsz,zss]
  refine za 23 (v:=?_) rfl (by kernel_rfl) (fun _ _ _ h=>h) (by rfl) ?hy23b hHeld ?r23b
  case hy23b=>(intro w hSw;(try dsimp only at hSw);go_simp;try with_reducible rfl)
  try simp only[Act.put,zsa,zsz,zss]
  refine zo 24 rfl (by kernel_rfl) (fun _ _ _ h=>h) (by rfl) hHeld ?_
  try simp only[Act.put,zsa,zsz,zss]
  refine zo 25 rfl (by kernel_rfl) (fun _ _ _ h=>h) (by rfl) hHeld ?_
  try simp only[Act.put,zsa,zsz,zss]
  refine zo 26 rfl (by kernel_rfl) (fun _ _ _ h=>h) (by rfl) hHeld ?_
  try simp only[Act.put,zsa,zsz,zss]
  refine zo 27 rfl (by kernel_rfl) (fun _ _ _ h=>h) (by rfl) hHeld ?_
  try simp only[Act.put,zsa,zsz,zss]
  refine zo 28 rfl (by kernel_rfl) (fun _ _ _ h=>h) (by rfl) hHeld ?_
  try simp only[Act.put,zsa,zsz,zss]
  refine za 29 (v:=?_) rfl (by kernel_rfl) (fun _ _ _ h=>h) (by rfl) ?hy29b hHeld ?r29b
  case hy29b=>(intro w hSw;(try dsimp only at hSw);go_simp;try with_reducible rfl)
  try simp only[Act.put,zsa,zsz,zss]
  refine za 30 (v:=?_) rfl (by kernel_rfl) (fun _ _ _ h=>h) (by rfl) ?hy30b hHeld ?r30b
  case hy30b=>(intro w hSw;(try dsimp only at hSw);go_simp;try with_reducible rfl)
  try simp only[Act.put,zsa,zsz,zss]
  refine zo 31 rfl (by kernel_rfl) (fun _ _ _ h=>h) (by rfl) hHeld ?_
  try simp only[Act.put,zsa,zsz,zss]
  refine zo 32 rfl (by kernel_rfl) (fun _ _ _ h=>h) (by rfl) hHeld ?_
  try simp only[Act.put,zsa,zsz,zss]
  refine zo 33 rfl (by kernel_rfl) (fun _ _ _ h=>h) (by rfl) hHeld ?_
  try simp only[Act.put,zsa,zsz,zss]
  refine zo 34 rfl (by kernel_rfl) (fun _ _ _ h=>h) (by rfl) hHeld ?_
  try simp only[Act.put,zsa,zsz,zss]
  refine zo 35 rfl (by kernel_rfl) (fun _ _ _ h=>h) (by rfl) hHeld ?_
  try simp only[Act.put,zsa,zsz,zss]
  refine za 36 (v:=?_) rfl (by kernel_rfl) (fun _ _ _ h=>h) (by rfl) ?hy36b hHeld ?r36b
  case hy36b=>(intro w hSw;(try dsimp only at hSw);go_simp;try with_reducible rfl)
  try simp only[Act.put,zsa,zsz,zss]
  refine za 37 (v:=?_) rfl (by kernel_rfl) (fun _ _ _ h=>h) (by rfl) ?hy37b hHeld ?r37b
  case hy37b=>(intro w hSw;(try dsimp only at hSw);go_simp;try with_reducible rfl)
  try simp only[Act.put,zsa,zsz,zss]
  refine zy (by kernel_rfl) ?_ _
  clear hHeld KEEP
  go_wp2
  go_ret
  exact .mk y1 (zr RE.out.symm)
 have d1:(cv==cx)=true:=by simp[hc]
 have HR2:Hid (r=(f1&&f2)):=zhd (HR.out.trans (by rw[decide_eq_true hc,Bool.true_and,Bool.true_and]))
 clear HR hc
 cases f1 with
 | false=>
  have RE:Hid (r=false):=zhd (HR2.out.trans rfl)
  clear HR2
  refine zF (fun w':World=>w'.cell? ⟨g,10,none⟩=some (.slice a2 ch.length c2)∧w'.cell? (adr a2 v)=some (.int .i64 cv)∧w'.cell? (adr a2 x)=some (.int .i64 cx)) (fun i=>false) (by kernel_rfl) ?_ (fun hHeld=>?_)
  ·exact KEEP.out _ (zf w.heap.size w 1)
  refine za 0 (v:=?_) rfl (by kernel_rfl) (fun _ _ _ h=>h) (by rfl) ?hy0c hHeld ?r0c
  case hy0c=>(intro w hSw;(try dsimp only at hSw);go_simp;try with_reducible rfl)
  try simp only[Act.put,zsa,zsz,zss]
  refine za 1 (v:=?_) rfl (by kernel_rfl) (fun _ _ _ h=>h) (by rfl) ?hy1c hHeld ?r1c
  case hy1c=>(intro w hSw;(try dsimp only at hSw);go_simp;try with_reducible rfl)
  try simp only[Act.put,zsa,zsz,zss]
  refine za 2 (v:=?_) rfl (by kernel_rfl) (fun _ _ _ h=>h) (by rfl) ?hy2c hHeld ?r2c
  case hy2c=>(intro w hSw;(try dsimp only at hSw);go_simp;try with_reducible rfl)
  try simp only[Act.put,zsa,zsz,zss]
  refine zn 3 rfl (by kernel_rfl) (fun K hK=>?_)
  (go_simp;go_at_call 61;refine (KA.out _ (zf w.heap.size w 1)).mono ?_;rintro _ v1 ⟨_,rfl,hb,rfl⟩;have y1:=zb (zf w.heap.size w 1) hb;clear hb)
  refine hK.out _ _ (fun _=>KEEP.out _ y1) (fun hHeld=>?_);replace hHeld:=hHeld rfl
  clear hK K
  try simp only[Act.put,zsa,zsz,zss]
  refine za 4 (v:=?_) rfl (by kernel_rfl) (fun _ _ _ h=>h) (by rfl) ?hy4c hHeld ?r4c
  case hy4c=>(intro w hSw;(try dsimp only at hSw);go_simp;try with_reducible rfl)
  try simp only[Act.put,zsa,zsz,zss]
  refine za 5 (v:=?_) rfl (by kernel_rfl) (fun _ _ _ h=>h) (by rfl) ?hy5c hHeld ?r5c
  case hy5c=>(intro w hSw;(try dsimp only at hSw);go_simp;try with_reducible rfl)
  try simp only[Act.put,zsa,zsz,zss]
  refine za 6 (v:=?_) rfl (by kernel_rfl) (fun _ _ _ h=>h) (by rfl) ?hy6c hHeld ?r6c
  case hy6c=>(intro w hSw;(try dsimp only at hSw);go_simp;try with_reducible rfl)
  try simp only[Act.put,zsa,zsz,zss]
  refine za 7 (v:=?_) rfl (by kernel_rfl) (fun _ _ _ h=>h) (by rfl) ?hy7c hHeld ?r7c
  case hy7c=>(intro w hSw;(try dsimp only at hSw);go_simp;try with_reducible rfl)
  try simp only[Act.put,zsa,zsz,zss]
  refine za 8 (v:=?_) rfl (by kernel_rfl) (fun _ _ _ h=>h) (by rfl) ?hy8c hHeld ?r8c
  case hy8c=>(intro w hSw;(try dsimp only at hSw);go_simp;try with_reducible rfl)
  try simp only[Act.put,zsa,zsz,zss]
  refine za 9 (v:=?_) rfl (by kernel_rfl) (fun _ _ _ h=>h) (by rfl) ?hy9c hHeld ?r9c
  case hy9c=>(intro w hSw;(try dsimp only at hSw);go_simp;try with_reducible rfl)
  try simp only[Act.put,zsa,zsz,zss]
  refine za 10 (v:=?_) rfl (by kernel_rfl) (fun _ _ _ h=>h) (by rfl) ?hy10c hHeld ?r10c
  case hy10c=>(intro w hSw;(try dsimp only at hSw);go_simp;try with_reducible rfl)
  try simp only[Act.put,zsa,zsz,zss]
  refine za 11 (v:=?_) rfl (by kernel_rfl) (fun _ _ _ h=>h) (by rfl) ?hy11c hHeld ?r11c
  case hy11c=>(intro w hSw;(try dsimp only at hSw);go_simp;try with_reducible rfl)
  try simp only[Act.put,zsa,zsz,zss]
  refine za 12 (v:=?_) rfl (by kernel_rfl) (fun _ _ _ h=>h) (by rfl) ?hy12c hHeld ?r12c
  case hy12c=>(intro w hSw;(try dsimp only at hSw);go_simp;try with_reducible rfl)
  try simp only[Act.put,zsa,zsz,zss]
  refine za 13 (v:=?_) rfl (by kernel_rfl) (fun _ _ _ h=>h) (by rfl) ?hy13c hHeld ?r13c
  case hy13c=>(intro w hSw;(try dsimp only at hSw);go_simp;try with_reducible rfl)
  try simp only[Act.put,zsa,zsz,zss]
  refine za 14 (v:=?_) rfl (by kernel_rfl) (fun _ _ _ h=>h) (by rfl) ?hy14c hHeld ?r14c
  case hy14c=>(intro w hSw;(try dsimp only at hSw);go_simp;try with_reducible rfl)
  try simp only[Act.put,zsa,zsz,zss]
  refine za 15 (v:=?_) rfl (by kernel_rfl) (fun _ _ _ h=>h) (by rfl) ?hy15c hHeld ?r15c
  case hy15c=>(intro w hSw;(try dsimp only at hSw);go_simp;try with_reducible rfl)
  try simp only[Act.put,zsa,zsz,zss]
  refine za 16 (v:=?_) rfl (by kernel_rfl) (fun _ _ _ h=>h) (by rfl) ?hy16c hHeld ?r16c
  case hy16c=>(intro w hSw;(try dsimp only at hSw);go_simp;try with_reducible rfl)
  try simp only[Act.put,zsa,zsz,zss]
  refine za 17 (v:=?_) rfl (by kernel_rfl) (fun _ _ _ h=>h) (by rfl) ?hy17c hHeld ?r17c
  case hy17c=>(intro w hSw;(try dsimp only at hSw);go_simp;try with_reducible rfl)
  try simp only[Act.put,zsa,zsz,zss]
  refine za 18 (v:=?_) rfl (by kernel_rfl) (fun _ _ _ h=>h) (by rfl) ?hy18c hHeld ?r18c
  case hy18c=>(intro w hSw;(try dsimp only at hSw);go_simp;try with_reducible rfl)
  try simp only[Act.put,zsa,zsz,zss]
  refine za 19 (v:=?_) rfl (by kernel_rfl) (fun _ _ _ h=>h) (by rfl) ?hy19c hHeld ?r19c
  case hy19c=>(intro w hSw;(try dsimp only at hSw);go_simp;try with_reducible rfl)
  try simp only[Act.put,zsa,zsz,zss]
  refine za 20 (v:=?_) rfl (by kernel_rfl) (fun _ _ _ h=>h) (by rfl) ?hy20c hHeld ?r20c
  case hy20c=>(intro w hSw;(try dsimp only at hSw);go_simp;try with_reducible rfl)
  try simp only[Act.put,zsa,zsz,zss]
  refine za 21 (v:=?_) rfl (by kernel_rfl) (fun _ _ _ h=>h) (by rfl) ?hy21c hHeld ?r21c
  case hy21c=>(intro w hSw;(try dsimp only at hSw);go_simp;try with_reducible rfl)
  try simp only[Act.put,zsa,zsz,zss]
  refine za 22 (v:=?_) rfl (by kernel_rfl) (fun _ _ _ h=>h) (by rfl) ?hy22c hHeld ?r22c
  case hy22c=>(intro w hSw;(try dsimp only at hSw);go_simp;try with_reducible rfl)
  try simp only[Act.put,zsa,zsz,zss]
  refine za 23 (v:=?_) rfl (by kernel_rfl) (fun _ _ _ h=>h) (by rfl) ?hy23c hHeld ?r23c
  case hy23c=>(intro w hSw;(try dsimp only at hSw);go_simp;try with_reducible rfl)
  try simp only[Act.put,zsa,zsz,zss]
  refine za 24 (v:=?_) rfl (by kernel_rfl) (fun _ _ _ h=>h) (by rfl) ?hy24c hHeld ?r24c
  case hy24c=>(intro w hSw;(try dsimp only at hSw);go_simp;try with_reducible rfl)
  try simp only[Act.put,zsa,zsz,zss]
  refine za 25 (v:=?_) rfl (by kernel_rfl) (fun _ _ _ h=>h) (by rfl) ?hy25c hHeld ?r25c
  case hy25c=>(intro w hSw;(try dsimp only at hSw);go_simp;try with_reducible rfl)
  try simp only[Act.put,zsa,zsz,zss]
  refine za 26 (v:=?_) rfl (by kernel_rfl) (fun _ _ _ h=>h) (by rfl) ?hy26c hHeld ?r26c
  case hy26c=>(intro w hSw;(try dsimp only at hSw);go_simp;try with_reducible rfl)
  try simp only[Act.put,zsa,zsz,zss]
  refine za 27 (v:=?_) rfl (by kernel_rfl) (fun _ _ _ h=>h) (by rfl) ?hy27c hHeld ?r27c
  case hy27c=>(intro w hSw;(try dsimp only at hSw);go_simp;try with_reducible rfl)
  try simp only[Act.put,zsa,zsz,zss]
  refine zn 28 rfl (by kernel_rfl) (fun K hK=>?_)
  (go_simp;go_at_call 62;refine (KF1.out _ y1).mono ?_;rintro _ v2 ⟨_,rfl,hb,rfl⟩;have y2:=zb y1 hb;clear hb)
  refine hK.out _ _ (fun _=>KEEP.out _ y2) (fun hHeld=>?_);replace hHeld:=hHeld rfl
  clear hK K
  try simp only[Act.put,zsa,zsz,zss]
  refine za 29 (v:=?_) rfl (by kernel_rfl) (fun _ _ _ h=>h) (by rfl) ?hy29c hHeld ?r29c
  case hy29c=>(intro w hSw;(try dsimp only at hSw);go_simp;try with_reducible rfl)
  try simp only[Act.put,zsa,zsz,zss]
  refine za 30 (v:=?_) rfl (by kernel_rfl) (fun _ _ _ h=>h) (by rfl) ?hy30c hHeld ?r30c
  case hy30c=>(intro w hSw;(try dsimp only at hSw);go_simp;try with_reducible rfl)
  try simp only[Act.put,zsa,zsz,zss]
  refine zo 31 rfl (by kernel_rfl) (fun _ _ _ h=>h) (by rfl) hHeld ?_
  try simp only[Act.put,zsa,zsz,zss]
  refine zo 32 rfl (by kernel_rfl) (fun _ _ _ h=>h) (by rfl) hHeld ?_
  try simp only[Act.put,zsa,zsz,zss]
  refine zo 33 rfl (by kernel_rfl) (fun _ _ _ h=>h) (by rfl) hHeld ?_
  try simp only[Act.put,zsa,zsz,zss]
  refine zo 34 rfl (by kernel_rfl) (fun _ _ _ h=>h) (by rfl) hHeld ?_
  try simp only[Act.put,zsa,zsz,zss]
  refine zo 35 rfl (by kernel_rfl) (fun _ _ _ h=>h) (by rfl) hHeld ?_
  try simp only[Act.put,zsa,zsz,zss]
  refine za 36 (v:=?_) rfl (by kernel_rfl) (fun _ _ _ h=>h) (by rfl) ?hy36c hHeld ?r36c
  case hy36c=>(intro w hSw;(try dsimp only at hSw);go_simp;try with_reducible rfl)
  try simp only[Act.put,zsa,zsz,zss]
  refine za 37 (v:=?_) rfl (by kernel_rfl) (fun _ _ _ h=>h) (by rfl) ?hy37c hHeld ?r37c
  case hy37c=>(intro w hSw;(try dsimp only at hSw);go_simp;try with_reducible rfl)
  try simp only[Act.put,zsa,zsz,zss]
  refine zy (by kernel_rfl) ?_ _
  clear hHeld KEEP
  go_wp2
  go_ret
  exact .mk y2 (zr RE.out.symm)
 | true=>
 have RE:Hid (r=f2):=zhd (HR2.out.trans (Bool.true_and _))
 clear HR2
 cases f2 with
 | false=>
  refine zF (fun w':World=>w'.cell? ⟨g,10,none⟩=some (.slice a2 ch.length c2)∧w'.cell? (adr a2 v)=some (.int .i64 cv)∧w'.cell? (adr a2 x)=some (.int .i64 cx)) (fun i=>false) (by kernel_rfl) ?_ (fun hHeld=>?_)
  ·exact KEEP.out _ (zf w.heap.size w 1)
  refine za 0 (v:=?_) rfl (by kernel_rfl) (fun _ _ _ h=>h) (by rfl) ?hy0d hHeld ?r0d
  case hy0d=>(intro w hSw;(try dsimp only at hSw);go_simp;try with_reducible rfl)
  try simp only[Act.put,zsa,zsz,zss]
  refine za 1 (v:=?_) rfl (by kernel_rfl) (fun _ _ _ h=>h) (by rfl) ?hy1d hHeld ?r1d
  case hy1d=>(intro w hSw;(try dsimp only at hSw);go_simp;try with_reducible rfl)
  try simp only[Act.put,zsa,zsz,zss]
  refine za 2 (v:=?_) rfl (by kernel_rfl) (fun _ _ _ h=>h) (by rfl) ?hy2d hHeld ?r2d
  case hy2d=>(intro w hSw;(try dsimp only at hSw);go_simp;try with_reducible rfl)
  try simp only[Act.put,zsa,zsz,zss]
  refine zn 3 rfl (by kernel_rfl) (fun K hK=>?_)
  (go_simp;go_at_call 61;refine (KA.out _ (zf w.heap.size w 1)).mono ?_;rintro _ v1 ⟨_,rfl,hb,rfl⟩;have y1:=zb (zf w.heap.size w 1) hb;clear hb)
  refine hK.out _ _ (fun _=>KEEP.out _ y1) (fun hHeld=>?_);replace hHeld:=hHeld rfl
  clear hK K
  try simp only[Act.put,zsa,zsz,zss]
  refine za 4 (v:=?_) rfl (by kernel_rfl) (fun _ _ _ h=>h) (by rfl) ?hy4d hHeld ?r4d
  case hy4d=>(intro w hSw;(try dsimp only at hSw);go_simp;try with_reducible rfl)
  try simp only[Act.put,zsa,zsz,zss]
  refine za 5 (v:=?_) rfl (by kernel_rfl) (fun _ _ _ h=>h) (by rfl) ?hy5d hHeld ?r5d
  case hy5d=>(intro w hSw;(try dsimp only at hSw);go_simp;try with_reducible rfl)
  try simp only[Act.put,zsa,zsz,zss]
  refine za 6 (v:=?_) rfl (by kernel_rfl) (fun _ _ _ h=>h) (by rfl) ?hy6d hHeld ?r6d
  case hy6d=>(intro w hSw;(try dsimp only at hSw);go_simp;try with_reducible rfl)
  try simp only[Act.put,zsa,zsz,zss]
  refine za 7 (v:=?_) rfl (by kernel_rfl) (fun _ _ _ h=>h) (by rfl) ?hy7d hHeld ?r7d
  case hy7d=>(intro w hSw;(try dsimp only at hSw);go_simp;try with_reducible rfl)
  try simp only[Act.put,zsa,zsz,zss]
  refine za 8 (v:=?_) rfl (by kernel_rfl) (fun _ _ _ h=>h) (by rfl) ?hy8d hHeld ?r8d
  case hy8d=>(intro w hSw;(try dsimp only at hSw);go_simp;try with_reducible rfl)
  try simp only[Act.put,zsa,zsz,zss]
  refine za 9 (v:=?_) rfl (by kernel_rfl) (fun _ _ _ h=>h) (by rfl) ?hy9d hHeld ?r9d
  case hy9d=>(intro w hSw;(try dsimp only at hSw);go_simp;try with_reducible rfl)
  try simp only[Act.put,zsa,zsz,zss]
  refine za 10 (v:=?_) rfl (by kernel_rfl) (fun _ _ _ h=>h) (by rfl) ?hy10d hHeld ?r10d
  case hy10d=>(intro w hSw;(try dsimp only at hSw);go_simp;try with_reducible rfl)
  try simp only[Act.put,zsa,zsz,zss]
  refine za 11 (v:=?_) rfl (by kernel_rfl) (fun _ _ _ h=>h) (by rfl) ?hy11d hHeld ?r11d
  case hy11d=>(intro w hSw;(try dsimp only at hSw);go_simp;try with_reducible rfl)
  try simp only[Act.put,zsa,zsz,zss]
  refine za 12 (v:=?_) rfl (by kernel_rfl) (fun _ _ _ h=>h) (by rfl) ?hy12d hHeld ?r12d
  case hy12d=>(intro w hSw;(try dsimp only at hSw);go_simp;try with_reducible rfl)
  try simp only[Act.put,zsa,zsz,zss]
  refine za 13 (v:=?_) rfl (by kernel_rfl) (fun _ _ _ h=>h) (by rfl) ?hy13d hHeld ?r13d
  case hy13d=>(intro w hSw;(try dsimp only at hSw);go_simp;try with_reducible rfl)
  try simp only[Act.put,zsa,zsz,zss]
  refine za 14 (v:=?_) rfl (by kernel_rfl) (fun _ _ _ h=>h) (by rfl) ?hy14d hHeld ?r14d
  case hy14d=>(intro w hSw;(try dsimp only at hSw);go_simp;try with_reducible rfl)
  try simp only[Act.put,zsa,zsz,zss]
  refine za 15 (v:=?_) rfl (by kernel_rfl) (fun _ _ _ h=>h) (by rfl) ?hy15d hHeld ?r15d
  case hy15d=>(intro w hSw;(try dsimp only at hSw);go_simp;try with_reducible rfl)
  try simp only[Act.put,zsa,zsz,zss]
  refine za 16 (v:=?_) rfl (by kernel_rfl) (fun _ _ _ h=>h) (by rfl) ?hy16d hHeld ?r16d
  case hy16d=>(intro w hSw;(try dsimp only at hSw);go_simp;try with_reducible rfl)
  try simp only[Act.put,zsa,zsz,zss]
  refine za 17 (v:=?_) rfl (by kernel_rfl) (fun _ _ _ h=>h) (by rfl) ?hy17d hHeld ?r17d
  case hy17d=>(intro w hSw;(try dsimp only at hSw);go_simp;try with_reducible rfl)
  try simp only[Act.put,zsa,zsz,zss]
  refine za 18 (v:=?_) rfl (by kernel_rfl) (fun _ _ _ h=>h) (by rfl) ?hy18d hHeld ?r18d
  case hy18d=>(intro w hSw;(try dsimp only at hSw);go_simp;try with_reducible rfl)
  try simp only[Act.put,zsa,zsz,zss]
  refine za 19 (v:=?_) rfl (by kernel_rfl) (fun _ _ _ h=>h) (by rfl) ?hy19d hHeld ?r19d
  case hy19d=>(intro w hSw;(try dsimp only at hSw);go_simp;try with_reducible rfl)
  try simp only[Act.put,zsa,zsz,zss]
  refine za 20 (v:=?_) rfl (by kernel_rfl) (fun _ _ _ h=>h) (by rfl) ?hy20d hHeld ?r20d
  case hy20d=>(intro w hSw;(try dsimp only at hSw);go_simp;try with_reducible rfl)
  try simp only[Act.put,zsa,zsz,zss]
  refine za 21 (v:=?_) rfl (by kernel_rfl) (fun _ _ _ h=>h) (by rfl) ?hy21d hHeld ?r21d
  case hy21d=>(intro w hSw;(try dsimp only at hSw);go_simp;try with_reducible rfl)
  try simp only[Act.put,zsa,zsz,zss]
  refine za 22 (v:=?_) rfl (by kernel_rfl) (fun _ _ _ h=>h) (by rfl) ?hy22d hHeld ?r22d
  case hy22d=>(intro w hSw;(try dsimp only at hSw);go_simp;try with_reducible rfl)
  try simp only[Act.put,zsa,zsz,zss]
  refine za 23 (v:=?_) rfl (by kernel_rfl) (fun _ _ _ h=>h) (by rfl) ?hy23d hHeld ?r23d
  case hy23d=>(intro w hSw;(try dsimp only at hSw);go_simp;try with_reducible rfl)
  try simp only[Act.put,zsa,zsz,zss]
  refine za 24 (v:=?_) rfl (by kernel_rfl) (fun _ _ _ h=>h) (by rfl) ?hy24d hHeld ?r24d
  case hy24d=>(intro w hSw;(try dsimp only at hSw);go_simp;try with_reducible rfl)
  try simp only[Act.put,zsa,zsz,zss]
  refine za 25 (v:=?_) rfl (by kernel_rfl) (fun _ _ _ h=>h) (by rfl) ?hy25d hHeld ?r25d
  case hy25d=>(intro w hSw;(try dsimp only at hSw);go_simp;try with_reducible rfl)
  try simp only[Act.put,zsa,zsz,zss]
  refine za 26 (v:=?_) rfl (by kernel_rfl) (fun _ _ _ h=>h) (by rfl) ?hy26d hHeld ?r26d
  case hy26d=>(intro w hSw;(try dsimp only at hSw);go_simp;try with_reducible rfl)
  try simp only[Act.put,zsa,zsz,zss]
  refine za 27 (v:=?_) rfl (by kernel_rfl) (fun _ _ _ h=>h) (by rfl) ?hy27d hHeld ?r27d
  case hy27d=>(intro w hSw;(try dsimp only at hSw);go_simp;try with_reducible rfl)
  try simp only[Act.put,zsa,zsz,zss]
  refine zn 28 rfl (by kernel_rfl) (fun K hK=>?_)
  (go_simp;go_at_call 62;refine (KF1.out _ y1).mono ?_;rintro _ v2 ⟨_,rfl,hb,rfl⟩;have y2:=zb y1 hb;clear hb)
  refine hK.out _ _ (fun _=>KEEP.out _ y2) (fun hHeld=>?_);replace hHeld:=hHeld rfl
  clear hK K
  try simp only[Act.put,zsa,zsz,zss]
  refine za 29 (v:=?_) rfl (by kernel_rfl) (fun _ _ _ h=>h) (by rfl) ?hy29d hHeld ?r29d
  case hy29d=>(intro w hSw;(try dsimp only at hSw);go_simp;try with_reducible rfl)
  try simp only[Act.put,zsa,zsz,zss]
  refine za 30 (v:=?_) rfl (by kernel_rfl) (fun _ _ _ h=>h) (by rfl) ?hy30d hHeld ?r30d
  case hy30d=>(intro w hSw;(try dsimp only at hSw);go_simp;try with_reducible rfl)
  try simp only[Act.put,zsa,zsz,zss]
  refine za 31 (v:=?_) rfl (by kernel_rfl) (fun _ _ _ h=>h) (by rfl) ?hy31d hHeld ?r31d
  case hy31d=>(intro w hSw;(try dsimp only at hSw);go_simp;try with_reducible rfl)
  try simp only[Act.put,zsa,zsz,zss]
  refine za 32 (v:=?_) rfl (by kernel_rfl) (fun _ _ _ h=>h) (by rfl) ?hy32d hHeld ?r32d
  case hy32d=>(intro w hSw;(try dsimp only at hSw);go_simp;try with_reducible rfl)
  try simp only[Act.put,zsa,zsz,zss]
  refine za 33 (v:=?_) rfl (by kernel_rfl) (fun _ _ _ h=>h) (by rfl) ?hy33d hHeld ?r33d
  case hy33d=>(intro w hSw;(try dsimp only at hSw);go_simp;try with_reducible rfl)
  try simp only[Act.put,zsa,zsz,zss]
  refine za 34 (v:=?_) rfl (by kernel_rfl) (fun _ _ _ h=>h) (by rfl) ?hy34d hHeld ?r34d
  case hy34d=>(intro w hSw;(try dsimp only at hSw);go_simp;try with_reducible rfl)
  try simp only[Act.put,zsa,zsz,zss]
  refine zn 35 rfl (by kernel_rfl) (fun K hK=>?_)
  (go_simp;go_at_call 62;refine (KF2.out _ y2).mono ?_;rintro _ v3 ⟨_,rfl,hb,rfl⟩;have y3:=zb y2 hb;clear hb)
  refine hK.out _ _ (fun _=>KEEP.out _ y3) (fun hHeld=>?_);replace hHeld:=hHeld rfl
  clear hK K
  try simp only[Act.put,zsa,zsz,zss]
  refine za 36 (v:=?_) rfl (by kernel_rfl) (fun _ _ _ h=>h) (by rfl) ?hy36d hHeld ?r36d
  case hy36d=>(intro w hSw;(try dsimp only at hSw);go_simp;try with_reducible rfl)
  try simp only[Act.put,zsa,zsz,zss]
  refine za 37 (v:=?_) rfl (by kernel_rfl) (fun _ _ _ h=>h) (by rfl) ?hy37d hHeld ?r37d
  case hy37d=>(intro w hSw;(try dsimp only at hSw);go_simp;try with_reducible rfl)
  try simp only[Act.put,zsa,zsz,zss]
  refine zy (by kernel_rfl) ?_ _
  clear hHeld KEEP
  go_wp2
  go_ret
  exact .mk y3 (zr RE.out.symm)
 | true=>
  refine zF (fun w':World=>w'.cell? ⟨g,10,none⟩=some (.slice a2 ch.length c2)∧w'.cell? (adr a2 v)=some (.int .i64 cv)∧w'.cell? (adr a2 x)=some (.int .i64 cx)) (fun i=>false) (by kernel_rfl) ?_ (fun hHeld=>?_)
  ·exact KEEP.out _ (zf w.heap.size w 1)
  refine za 0 (v:=?_) rfl (by kernel_rfl) (fun _ _ _ h=>h) (by rfl) ?hy0e hHeld ?r0e
  case hy0e=>(intro w hSw;(try dsimp only at hSw);go_simp;try with_reducible rfl)
  try simp only[Act.put,zsa,zsz,zss]
  refine za 1 (v:=?_) rfl (by kernel_rfl) (fun _ _ _ h=>h) (by rfl) ?hy1e hHeld ?r1e
  case hy1e=>(intro w hSw;(try dsimp only at hSw);go_simp;try with_reducible rfl)
  try simp only[Act.put,zsa,zsz,zss]
  refine za 2 (v:=?_) rfl (by kernel_rfl) (fun _ _ _ h=>h) (by rfl) ?hy2e hHeld ?r2e
  case hy2e=>(intro w hSw;(try dsimp only at hSw);go_simp;try with_reducible rfl)
  try simp only[Act.put,zsa,zsz,zss]
  refine zn 3 rfl (by kernel_rfl) (fun K hK=>?_)
  (go_simp;go_at_call 61;refine (KA.out _ (zf w.heap.size w 1)).mono ?_;rintro _ v1 ⟨_,rfl,hb,rfl⟩;have y1:=zb (zf w.heap.size w 1) hb;clear hb)
  refine hK.out _ _ (fun _=>KEEP.out _ y1) (fun hHeld=>?_);replace hHeld:=hHeld rfl
  clear hK K
  try simp only[Act.put,zsa,zsz,zss]
  refine za 4 (v:=?_) rfl (by kernel_rfl) (fun _ _ _ h=>h) (by rfl) ?hy4e hHeld ?r4e
  case hy4e=>(intro w hSw;(try dsimp only at hSw);go_simp;try with_reducible rfl)
  try simp only[Act.put,zsa,zsz,zss]
  refine za 5 (v:=?_) rfl (by kernel_rfl) (fun _ _ _ h=>h) (by rfl) ?hy5e hHeld ?r5e
  case hy5e=>(intro w hSw;(try dsimp only at hSw);go_simp;try with_reducible rfl)
  try simp only[Act.put,zsa,zsz,zss]
  refine za 6 (v:=?_) rfl (by kernel_rfl) (fun _ _ _ h=>h) (by rfl) ?hy6e hHeld ?r6e
  case hy6e=>(intro w hSw;(try dsimp only at hSw);go_simp;try with_reducible rfl)
  try simp only[Act.put,zsa,zsz,zss]
  refine za 7 (v:=?_) rfl (by kernel_rfl) (fun _ _ _ h=>h) (by rfl) ?hy7e hHeld ?r7e
  case hy7e=>(intro w hSw;(try dsimp only at hSw);go_simp;try with_reducible rfl)
  try simp only[Act.put,zsa,zsz,zss]
  refine za 8 (v:=?_) rfl (by kernel_rfl) (fun _ _ _ h=>h) (by rfl) ?hy8e hHeld ?r8e
  case hy8e=>(intro w hSw;(try dsimp only at hSw);go_simp;try with_reducible rfl)
  try simp only[Act.put,zsa,zsz,zss]
  refine za 9 (v:=?_) rfl (by kernel_rfl) (fun _ _ _ h=>h) (by rfl) ?hy9e hHeld ?r9e
  case hy9e=>(intro w hSw;(try dsimp only at hSw);go_simp;try with_reducible rfl)
  try simp only[Act.put,zsa,zsz,zss]
  refine za 10 (v:=?_) rfl (by kernel_rfl) (fun _ _ _ h=>h) (by rfl) ?hy10e hHeld ?r10e
  case hy10e=>(intro w hSw;(try dsimp only at hSw);go_simp;try with_reducible rfl)
  try simp only[Act.put,zsa,zsz,zss]
  refine za 11 (v:=?_) rfl (by kernel_rfl) (fun _ _ _ h=>h) (by rfl) ?hy11e hHeld ?r11e
  case hy11e=>(intro w hSw;(try dsimp only at hSw);go_simp;try with_reducible rfl)
  try simp only[Act.put,zsa,zsz,zss]
  refine za 12 (v:=?_) rfl (by kernel_rfl) (fun _ _ _ h=>h) (by rfl) ?hy12e hHeld ?r12e
  case hy12e=>(intro w hSw;(try dsimp only at hSw);go_simp;try with_reducible rfl)
  try simp only[Act.put,zsa,zsz,zss]
  refine za 13 (v:=?_) rfl (by kernel_rfl) (fun _ _ _ h=>h) (by rfl) ?hy13e hHeld ?r13e
  case hy13e=>(intro w hSw;(try dsimp only at hSw);go_simp;try with_reducible rfl)
  try simp only[Act.put,zsa,zsz,zss]
  refine za 14 (v:=?_) rfl (by kernel_rfl) (fun _ _ _ h=>h) (by rfl) ?hy14e hHeld ?r14e
  case hy14e=>(intro w hSw;(try dsimp only at hSw);go_simp;try with_reducible rfl)
  try simp only[Act.put,zsa,zsz,zss]
  refine za 15 (v:=?_) rfl (by kernel_rfl) (fun _ _ _ h=>h) (by rfl) ?hy15e hHeld ?r15e
  case hy15e=>(intro w hSw;(try dsimp only at hSw);go_simp;try with_reducible rfl)
  try simp only[Act.put,zsa,zsz,zss]
  refine za 16 (v:=?_) rfl (by kernel_rfl) (fun _ _ _ h=>h) (by rfl) ?hy16e hHeld ?r16e
  case hy16e=>(intro w hSw;(try dsimp only at hSw);go_simp;try with_reducible rfl)
  try simp only[Act.put,zsa,zsz,zss]
  refine za 17 (v:=?_) rfl (by kernel_rfl) (fun _ _ _ h=>h) (by rfl) ?hy17e hHeld ?r17e
  case hy17e=>(intro w hSw;(try dsimp only at hSw);go_simp;try with_reducible rfl)
  try simp only[Act.put,zsa,zsz,zss]
  refine za 18 (v:=?_) rfl (by kernel_rfl) (fun _ _ _ h=>h) (by rfl) ?hy18e hHeld ?r18e
  case hy18e=>(intro w hSw;(try dsimp only at hSw);go_simp;try with_reducible rfl)
  try simp only[Act.put,zsa,zsz,zss]
  refine za 19 (v:=?_) rfl (by kernel_rfl) (fun _ _ _ h=>h) (by rfl) ?hy19e hHeld ?r19e
  case hy19e=>(intro w hSw;(try dsimp only at hSw);go_simp;try with_reducible rfl)
  try simp only[Act.put,zsa,zsz,zss]
  refine za 20 (v:=?_) rfl (by kernel_rfl) (fun _ _ _ h=>h) (by rfl) ?hy20e hHeld ?r20e
  case hy20e=>(intro w hSw;(try dsimp only at hSw);go_simp;try with_reducible rfl)
  try simp only[Act.put,zsa,zsz,zss]
  refine za 21 (v:=?_) rfl (by kernel_rfl) (fun _ _ _ h=>h) (by rfl) ?hy21e hHeld ?r21e
  case hy21e=>(intro w hSw;(try dsimp only at hSw);go_simp;try with_reducible rfl)
  try simp only[Act.put,zsa,zsz,zss]
  refine za 22 (v:=?_) rfl (by kernel_rfl) (fun _ _ _ h=>h) (by rfl) ?hy22e hHeld ?r22e
  case hy22e=>(intro w hSw;(try dsimp only at hSw);go_simp;try with_reducible rfl)
  try simp only[Act.put,zsa,zsz,zss]
  refine za 23 (v:=?_) rfl (by kernel_rfl) (fun _ _ _ h=>h) (by rfl) ?hy23e hHeld ?r23e
  case hy23e=>(intro w hSw;(try dsimp only at hSw);go_simp;try with_reducible rfl)
  try simp only[Act.put,zsa,zsz,zss]
  refine za 24 (v:=?_) rfl (by kernel_rfl) (fun _ _ _ h=>h) (by rfl) ?hy24e hHeld ?r24e
  case hy24e=>(intro w hSw;(try dsimp only at hSw);go_simp;try with_reducible rfl)
  try simp only[Act.put,zsa,zsz,zss]
  refine za 25 (v:=?_) rfl (by kernel_rfl) (fun _ _ _ h=>h) (by rfl) ?hy25e hHeld ?r25e
  case hy25e=>(intro w hSw;(try dsimp only at hSw);go_simp;try with_reducible rfl)
  try simp only[Act.put,zsa,zsz,zss]
  refine za 26 (v:=?_) rfl (by kernel_rfl) (fun _ _ _ h=>h) (by rfl) ?hy26e hHeld ?r26e
  case hy26e=>(intro w hSw;(try dsimp only at hSw);go_simp;try with_reducible rfl)
  try simp only[Act.put,zsa,zsz,zss]
  refine za 27 (v:=?_) rfl (by kernel_rfl) (fun _ _ _ h=>h) (by rfl) ?hy27e hHeld ?r27e
  case hy27e=>(intro w hSw;(try dsimp only at hSw);go_simp;try with_reducible rfl)
  try simp only[Act.put,zsa,zsz,zss]
  refine zn 28 rfl (by kernel_rfl) (fun K hK=>?_)
  (go_simp;go_at_call 62;refine (KF1.out _ y1).mono ?_;rintro _ v2 ⟨_,rfl,hb,rfl⟩;have y2:=zb y1 hb;clear hb)
  refine hK.out _ _ (fun _=>KEEP.out _ y2) (fun hHeld=>?_);replace hHeld:=hHeld rfl
  clear hK K
  try simp only[Act.put,zsa,zsz,zss]
  refine za 29 (v:=?_) rfl (by kernel_rfl) (fun _ _ _ h=>h) (by rfl) ?hy29e hHeld ?r29e
  case hy29e=>(intro w hSw;(try dsimp only at hSw);go_simp;try with_reducible rfl)
  try simp only[Act.put,zsa,zsz,zss]
  refine za 30 (v:=?_) rfl (by kernel_rfl) (fun _ _ _ h=>h) (by rfl) ?hy30e hHeld ?r30e
  case hy30e=>(intro w hSw;(try dsimp only at hSw);go_simp;try with_reducible rfl)
  try simp only[Act.put,zsa,zsz,zss]
  refine za 31 (v:=?_) rfl (by kernel_rfl) (fun _ _ _ h=>h) (by rfl) ?hy31e hHeld ?r31e
  case hy31e=>(intro w hSw;(try dsimp only at hSw);go_simp;try with_reducible rfl)
  try simp only[Act.put,zsa,zsz,zss]
  refine za 32 (v:=?_) rfl (by kernel_rfl) (fun _ _ _ h=>h) (by rfl) ?hy32e hHeld ?r32e
  case hy32e=>(intro w hSw;(try dsimp only at hSw);go_simp;try with_reducible rfl)
  try simp only[Act.put,zsa,zsz,zss]
  refine za 33 (v:=?_) rfl (by kernel_rfl) (fun _ _ _ h=>h) (by rfl) ?hy33e hHeld ?r33e
  case hy33e=>(intro w hSw;(try dsimp only at hSw);go_simp;try with_reducible rfl)
  try simp only[Act.put,zsa,zsz,zss]
  refine za 34 (v:=?_) rfl (by kernel_rfl) (fun _ _ _ h=>h) (by rfl) ?hy34e hHeld ?r34e
  case hy34e=>(intro w hSw;(try dsimp only at hSw);go_simp;try with_reducible rfl)
  try simp only[Act.put,zsa,zsz,zss]
  refine zn 35 rfl (by kernel_rfl) (fun K hK=>?_)
  (go_simp;go_at_call 62;refine (KF2.out _ y2).mono ?_;rintro _ v3 ⟨_,rfl,hb,rfl⟩;have y3:=zb y2 hb;clear hb)
  refine hK.out _ _ (fun _=>KEEP.out _ y3) (fun hHeld=>?_);replace hHeld:=hHeld rfl
  clear hK K
  try simp only[Act.put,zsa,zsz,zss]
  refine za 36 (v:=?_) rfl (by kernel_rfl) (fun _ _ _ h=>h) (by rfl) ?hy36e hHeld ?r36e
  case hy36e=>(intro w hSw;(try dsimp only at hSw);go_simp;try with_reducible rfl)
  try simp only[Act.put,zsa,zsz,zss]
  refine za 37 (v:=?_) rfl (by kernel_rfl) (fun _ _ _ h=>h) (by rfl) ?hy37e hHeld ?r37e
  case hy37e=>(intro w hSw;(try dsimp only at hSw);go_simp;try with_reducible rfl)
  try simp only[Act.put,zsa,zsz,zss]
  refine zy (by kernel_rfl) ?_ _
  clear hHeld KEEP
  go_wp2
  go_ret
  exact .mk y3 (zr RE.out.symm)
end Go.Proofs.YtfjlhjkjjbiliaaGreat
