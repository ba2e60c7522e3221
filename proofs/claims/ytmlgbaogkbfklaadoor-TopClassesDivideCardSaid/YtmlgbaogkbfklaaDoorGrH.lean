/- The elements of a set, as an iterator. -/
import Derived.Test.YtmlgbaogkbfklaaDoorGrG
import Derived.Test.YtmlgbaogkbfklaaDoorRf
namespace Go.Proofs.YtmlgbaogkbfklaaDoor
set_option linter.unusedVariables false
open Go.RowKit Go.Shelf
attribute [local go_sem ↓] Go.wp_at_zero Go.wp_at_succ
attribute [local go_sem] Oper.semAt_some

theorem Tab.agree {S : Nat → Prop} {w w' : World} (h : Tab w) (hw : Agree S w w') (hS : S 1) : Tab w' where
  pos := Nat.le_trans h.pos hw.size
  tab := fun j hj => (World.cell?_of_block (hw.block 1 hS (by have := h.pos; omega))).trans (h.tab j hj)
theorem low_u64 {y : Nat} (hy : y < 32) (h0 : y ≠ 0) : bits .and .u64 (y : Int) ((y : Int) - 1) = ((y &&& (y - 1) : Nat) : Int) := by
  have e1 : (y : Int) - 1 = ((y - 1 : Nat) : Int) := by omega
  rw [e1, bits_and_u64_nat y _ (by omega) (by omega)]
theorem elements_calls (w : World) (s : Int) : Calls Tryd.prog 79 #[.int .i64 s] w fun e w' => e = .returned (.func (.func 81) #[] #[.pointer (some ⟨w.heap.size, 0, none⟩)]) ∧ w' = w.alloc (.cells #[.int .i64 s] 3) := by
  go_enter Tryd.func79, Tryd.ntmps79
  go_wp2
  go_ret
  exact ⟨rfl, rfl⟩
theorem every_quiet (w : World) (p : Int) : Calls Tryd.prog 80 #[.int .i64 p] w (QuietP w (.bool true)) := by
  go_enter Tryd.func80, Tryd.ntmps80
  go_wp2
  go_ret
  exact .of rfl 0
set_option maxRecDepth 100000 in
set_option maxHeartbeats 4000000 in
/-- It yields the elements. -/
theorem elements_gives {T : Nat → Prop} {w : World} {n B s : Nat} (hn : 1 ≤ n) (hs : s < 32) (TB : Tab w) (hT : T 1) (R : w.cell? ⟨B, 0, none⟩ = some (.int .i64 s)) :
    Gives Fence.wide n Tryd.prog 81 #[.pointer (some ⟨B, 0, none⟩)] (fun x : Nat => #[.int .i64 x]) (fun _ _ _ => True) (Agree T) (fun xs => xs = elemsN s) 5 w := by
  intro l J W hW hJ hY h0
  replace R := cell_ext R hW
  replace TB := TB.ext hW
  have HJ := Lib.hid hJ
  have HY := Lib.hid hY
  have H0 := Lib.hid h0
  have HT := Lib.hid hT
  have HTB := Lib.hid TB
  have HL : Hid (∀ y, y < 32 → y ≠ 0 → elemsN y = Lib.ctz 64 y :: elemsN (y &&& (y - 1)) ∧ Lib.ctz 64 y < 5 ∧ y &&& (y - 1) < y) := Lib.hid fun y hy h => elems_step ⟨y, hy⟩ h
  have HZ : Hid (elemsN 0 = []) := Lib.hid (by decide +kernel)
  have HN : Hid (elemsN s = [] ++ elemsN s) := Lib.hid rfl
  have HLEN : Hid ((elemsN s).length ≤ 5) := Lib.hid (Nat.le_trans (List.length_filter_le _ _) (by simp))
  clear hJ hY h0 hT TB
  have hrz : Agree T W W := .refl _ _
  have hbz : W.heap.size ≤ W.heap.size := Nat.le_refl _
  refine callsIn_of_wp Tryd.func81 rfl trivial ?_ rfl
  simp only [Tryd.ntmps81, List.size_toArray, List.length_cons, List.length_nil, Nat.reduceAdd, Nat.reduceSub, Array.replicate_succ, Array.replicate_zero, List.push_toArray, List.append_toArray, List.nil_append, List.cons_append]
  gi_wp2
  gi_loopw [3] (fun i wr => ∃ (y : Nat) (pre : List Nat) (b : Nat), y < 32 ∧ i = .int .u64 y ∧ Hid (J pre b wr) ∧ b ≤ wr.heap.size ∧ Hid (elemsN s = pre ++ elemsN y) ∧ Agree T W wr) (fun i _ => (intOf i).toNat)
  case atStart => exact ⟨s, [], _, hs, by go_num, H0, hbz, HN, hrz⟩
  case round =>
    obtain ⟨y, pre, b, hy, rfl, HJs, hbw, HP, hA⟩ := hrel
    obtain ⟨wo, hwo⟩ : ∃ wo : World, wo = wr := ⟨_, rfl⟩
    rw [← hwo] at HJs hbw hA ⊢
    clear hwo
    by_cases h0 : y = 0
    · subst h0
      have HPE : Hid (pre = elemsN s) := Lib.hid (by rw [HP.out, HZ.out, List.append_nil])
      gi_wp2
      go_end0
      exact ⟨⟨_, rfl⟩, pre, b, HPE.out, HJs.out⟩
    · have d0 : ((y : Int) != 0) = true := by simp [h0]
      obtain ⟨hs1, hs2, hs3⟩ := HL.out y hy h0
      have KT := Lib.hid ((tz_calls (HTB.out.agree hA HT.out) h0 (by omega)).mono fun _ _ h => h.take)
      have HLOW := Lib.hid (low_u64 hy h0)
      obtain ⟨z, hz⟩ : ∃ z, z = y &&& (y - 1) := ⟨_, rfl⟩
      obtain ⟨c, hc⟩ : ∃ c, c = Lib.ctz 64 y := ⟨_, rfl⟩
      rw [← hz] at hs1 hs3 HLOW
      rw [← hc] at hs1 hs2 KT
      have HPN : Hid (elemsN s = (pre ++ [c]) ++ elemsN z) := Lib.hid (by rw [HP.out, hs1]; simp)
      clear hz hc hs1 h0
      gi_wp2_with fail
      refine ⟨trivial, (callsIn_wide.2 KT.out).mono ?_⟩
      rintro _ w1 ⟨_, rfl, hq1, rfl⟩
      have HJ1 := Lib.hid (HJ.out _ _ _ _ HJs.out hq1.ext)
      have hbw1 : b ≤ w1.heap.size := Nat.le_trans hbw hq1.ext.size
      have hA1 : Agree T W w1 := hA.trans (.of_ext hq1.ext)
      have hpl : pre.length < 5 := by
        have h1 := congrArg List.length HPN.out
        have h2 := HLEN.out
        simp at h1
        omega
      obtain ⟨fn, tmps, assign, body, hyy, hRnd⟩ := HY.out pre c b w1 HJ1.out hpl hbw1 trivial
      try dsimp only at hyy
      clear KT HJs hbw hA hq1 hpl HP
      gi_wp2
      refine hRnd.mono ?_
      rintro e W3 ⟨rfl, hJ3, hk3⟩
      have HJ3 := Lib.hid hJ3
      have hA3 := hA1.trans hk3
      have hsz : W3.heap.size ≤ W3.heap.size := Nat.le_refl _
      clear hJ3 hyy hRnd HJ1 hA1
      gi_wp2
      go_roundw
      case rel => exact ⟨z, pre ++ [c], _, by omega, by rw [HLOW.out], HJ3, hsz, HPN, hA3⟩
      case measure => simp [intOf]; rw [HLOW.out]; omega
end Go.Proofs.YtmlgbaogkbfklaaDoor
