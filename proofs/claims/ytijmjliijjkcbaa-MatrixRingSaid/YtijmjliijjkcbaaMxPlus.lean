/- The reference's sum of two vectors. -/
import Derived.Test.YtijmjliijjkcbaaMxSum
namespace Go.Proofs.Ytijmjliijjkcbaa
set_option linter.unusedVariables false
open Go.RowKit
attribute [local go_sem ↓] Go.wp_at_zero Go.wp_at_succ

/-- What the loop keeps. -/
structure PlusRel (w : World) (a b : List Int) (i k : Nat) (acc : List Int) (vo : Value) (wr : World) : Prop where
  bel : Below w.heap.size w wr
  own : wr.ownsRow w.heap.size 3 1 vo acc.length (acc.map (Value.int .i64))
  eq : acc ++ xorL (a.drop i) (b.drop k) = xorL a b
  ia : i ≤ a.length
  kb : k ≤ b.length
  len : acc.length ≤ i + k
  wf : ∀ x ∈ acc, WF x
theorem PlusRel.skip {w wr w6 : World} {a b acc : List Int} {i k : Nat} {vo : Value} (h : PlusRel w a b i k acc vo wr) (hb : Below wr.heap.size wr w6) : PlusRel w a b i k acc vo w6 :=
  ⟨ext_trans h.bel hb, owns_ext h.own hb, h.eq, h.ia, h.kb, h.len, h.wf⟩
theorem wf_snoc {acc : List Int} {x : Int} (h : ∀ y ∈ acc, WF y) (hx : WF x) : ∀ y ∈ acc ++ [x], WF y := by
  intro y hy
  rcases List.mem_append.1 hy with h1 | h1
  · exact h y h1
  · rw [List.mem_singleton.1 h1]; exact hx
theorem PlusRel.left {w wr w6 : World} {a b acc : List Int} {i k : Nat} {vo vo' : Value} (h : PlusRel w a b i k acc vo wr) (hi : i < a.length) (hc : k = b.length ∨ k < b.length ∧ nth a i < nth b k) (hwf : ∀ x ∈ a, WF x)
    (hown : w6.ownsRow w.heap.size 3 1 vo' (acc.length + 1) (acc.map (Value.int .i64) ++ [.int .i64 (nth a i)])) (hb : Below w.heap.size wr w6) : PlusRel w a b (i + 1) k (acc ++ [nth a i]) vo' w6 := by
  refine ⟨h.bel.trans hb, by simpa using hown, ?_, by omega, h.kb, by have := h.len; simp; omega, wf_snoc h.wf (hwf _ (nth_mem hi))⟩
  rw [← h.eq, drop_nth hi]
  rcases hc with rfl | ⟨hk, hlt⟩
  · rw [List.drop_length, xorL_nil_right, xorL_nil_right]; simp
  · rw [drop_nth hk, xorL_cons, if_pos hlt]; simp
theorem PlusRel.right {w wr w6 : World} {a b acc : List Int} {i k : Nat} {vo vo' : Value} (h : PlusRel w a b i k acc vo wr) (hk : k < b.length) (hc : i = a.length ∨ i < a.length ∧ nth b k < nth a i) (hwf : ∀ x ∈ b, WF x)
    (hown : w6.ownsRow w.heap.size 3 1 vo' (acc.length + 1) (acc.map (Value.int .i64) ++ [.int .i64 (nth b k)])) (hb : Below w.heap.size wr w6) : PlusRel w a b i (k + 1) (acc ++ [nth b k]) vo' w6 := by
  refine ⟨h.bel.trans hb, by simpa using hown, ?_, h.ia, by omega, by have := h.len; simp; omega, wf_snoc h.wf (hwf _ (nth_mem hk))⟩
  rw [← h.eq, drop_nth hk]
  rcases hc with rfl | ⟨hi, hlt⟩
  · rw [List.drop_length, xorL_nil_left, xorL_nil_left]; simp
  · rw [drop_nth hi, xorL_cons, if_neg (by omega), if_pos hlt]; simp
theorem PlusRel.both {w wr w6 : World} {a b acc : List Int} {i k : Nat} {vo : Value} (h : PlusRel w a b i k acc vo wr) (hi : i < a.length) (hk : k < b.length) (hc : nth a i = nth b k) (hb : Below wr.heap.size wr w6) : PlusRel w a b (i + 1) (k + 1) acc vo w6 := by
  refine ⟨ext_trans h.bel hb, owns_ext h.own hb, ?_, by omega, by omega, by have := h.len; omega, h.wf⟩
  rw [← h.eq, drop_nth hi, drop_nth hk, xorL_cons, if_neg (by omega), if_neg (by omega)]
theorem PlusRel.fin {w wr : World} {a b acc : List Int} {i k : Nat} {vo : Value} (h : PlusRel w a b i k acc vo wr) (hi : i = a.length) (hk : k = b.length) : Ints (fun b => w.heap.size ≤ b) wr vo (xorL a b) := by
  subst hi hk
  have := h.eq
  rw [List.drop_length, List.drop_length, xorL_nil_left, List.append_nil] at this
  rw [← this]
  exact Ints.of_own h.own h.wf

set_option maxRecDepth 100000 in
set_option maxHeartbeats 4000000 in
theorem plus_calls {S S' : Nat → Prop} {w : World} {va vb : Value} {a b : List Int} (ha : Ints S w va a) (hb : Ints S' w vb b) (hn : a.length + b.length ≤ 1000000) :
    Calls Try.prog 32 #[va, vb] w (Post w fun w' r => Ints (fun b => w.heap.size ≤ b) w' r (xorL a b)) := by
  have hwa := Lib.hid ha.wf
  have hwb := Lib.hid hb.wf
  obtain ⟨aa, ca, rfl, ada, _, lma, hca, _⟩ := ha
  obtain ⟨ab, cb, rfl, adb, _, lmb, hcb, _⟩ := hb
  obtain ⟨i0, hi, hz0, hz1, hz2⟩ := info_parts info_int
  have HQA := Lib.hid (idx_one Try.underlying38 hi hz1 ada)
  have HQB := Lib.hid (idx_one Try.underlying38 hi hz1 adb)
  have HCA := Lib.hid hca
  have HCB := Lib.hid hcb
  have HAA := Lib.hid ada
  have HAB := Lib.hid adb
  clear hca hcb ada adb hi hz0 hz1 hz2
  go_enter Try.func32, Try.ntmps32
  go_wp2
  go_loopw [5, 6, 7] (fun vo vi vk wr => ∃ (i k : Nat) (acc : List Int), vi = .int .i64 i ∧ vk = .int .i64 k ∧ PlusRel w a b i k acc vo wr) (fun _ vi vk _ => (a.length + b.length) - ((intOf vi).toNat + (intOf vk).toNat))
  case atStart => exact ⟨0, 0, [], rfl, rfl, .refl _ _, World.ownsRow_nil _ _ _ _, rfl, Nat.zero_le _, Nat.zero_le _, Nat.zero_le _, by simp⟩
  case round =>
    obtain ⟨i, k, acc, rfl, rfl, hR⟩ := hrel
    have hia := hR.ia
    have hkb := hR.kb
    have hlen := hR.len
    have hR := Lib.hid hR
    have FA := Lib.hid (fun (W : World) (h : Below w.heap.size w W) (hi : i < a.length) => cells_at HAA.out h HCA.out i hi)
    have FB := Lib.hid (fun (W : World) (h : Below w.heap.size w W) (hi : k < b.length) => cells_at HAB.out h HCB.out k hi)
    by_cases hkl : k < b.length
    · by_cases hil : i < a.length
      · have qa := HQA.out i hil
        have qb := HQB.out k hkl
        have pa := FA.out _ hR.out.bel hil
        have pb := FB.out _ hR.out.bel hkl
        have k1 : ((k : Int) == (b.length : Int)) = false := by simp; omega
        have i1 : ((i : Int) == (a.length : Int)) = false := by simp; omega
        obtain ⟨x, hx⟩ : ∃ x, x = nth a i := ⟨_, rfl⟩
        obtain ⟨y, hy⟩ : ∃ x, x = nth b k := ⟨_, rfl⟩
        rw [← hx] at pa
        rw [← hy] at pb
        have HX := Lib.hid hx
        have HY := Lib.hid hy
        clear hx hy
        by_cases h1 : x < y
        · have HF : Hid (k = b.length ∨ k < b.length ∧ nth a i < nth b k) := Lib.hid (.inr ⟨hkl, by rw [← HX.out, ← HY.out]; exact h1⟩)
          go_wp2
          go_quiet (fail)
          obtain ⟨w2, hw2⟩ : ∃ wz, wz = wr.drewN nq := ⟨_, rfl⟩
          rw [← hw2]
          have hb2 : Below wr.heap.size wr w2 := by rw [hw2]; exact drewN_below _ _ _
          have hR := Lib.hid (hR.out.skip hb2)
          have pa := cell_ext pa hb2
          have pb := cell_ext pb hb2
          clear hw2 hb2
          have OWN := Lib.hid hR.out.own
          have hbs := hR.out.bel.size
          go_wp2_with (at_builtin; refine wpList_push rfl _ _ 38 rfl 3 _ 8 Try.underlying38 info_int rfl w.heap.size _ _ _ rfl OWN.out (.int .i64 (x)) rfl rfl (by omega) (by omega) (by omega) ?_; intro g' c' w5 hown5 hbel5 _ _)
          have hR3 := Lib.hid (hR.out.left hil HF.out hwa.out (HX.out ▸ hown5) hbel5)
          go_wp2
          go_roundw
          case rel => exact ⟨i + 1, k, _, by go_num, by go_num, hR3.out⟩
          case measure => simp [intOf]; omega
        have h1' : decide (x < y) = false := by simpa using h1
        by_cases h2 : y < x
        · have HF : Hid (i = a.length ∨ i < a.length ∧ nth b k < nth a i) := Lib.hid (.inr ⟨hil, by rw [← HX.out, ← HY.out]; exact h2⟩)
          go_wp2
          go_quiet (fail)
          obtain ⟨w1, hw1⟩ : ∃ wz, wz = wr.drewN nq := ⟨_, rfl⟩
          rw [← hw1]
          have hb1 : Below wr.heap.size wr w1 := by rw [hw1]; exact drewN_below _ _ _
          have hR := Lib.hid (hR.out.skip hb1)
          have pa := cell_ext pa hb1
          have pb := cell_ext pb hb1
          clear hw1 hb1
          go_wp2
          go_quiet (fail)
          obtain ⟨w2, hw2⟩ : ∃ wz, wz = w1.drewN nq := ⟨_, rfl⟩
          rw [← hw2]
          have hb2 : Below w1.heap.size w1 w2 := by rw [hw2]; exact drewN_below _ _ _
          have hR := Lib.hid (hR.out.skip hb2)
          have pa := cell_ext pa hb2
          have pb := cell_ext pb hb2
          clear hw2 hb2
          have OWN := Lib.hid hR.out.own
          have hbs := hR.out.bel.size
          go_wp2_with (at_builtin; refine wpList_push rfl _ _ 38 rfl 3 _ 8 Try.underlying38 info_int rfl w.heap.size _ _ _ rfl OWN.out (.int .i64 (y)) rfl rfl (by omega) (by omega) (by omega) ?_; intro g' c' w5 hown5 hbel5 _ _)
          have hR3 := Lib.hid (hR.out.right hkl HF.out hwb.out (HY.out ▸ hown5) hbel5)
          go_wp2
          go_roundw
          case rel => exact ⟨i, k + 1, _, by go_num, by go_num, hR3.out⟩
          case measure => simp [intOf]; omega
        have h2' : decide (y < x) = false := by simpa using h2
        have HF : Hid (nth a i = nth b k) := Lib.hid (by rw [← HX.out, ← HY.out]; omega)
        go_wp2
        go_quiet (fail)
        obtain ⟨w1, hw1⟩ : ∃ wz, wz = wr.drewN nq := ⟨_, rfl⟩
        rw [← hw1]
        have hb1 : Below wr.heap.size wr w1 := by rw [hw1]; exact drewN_below _ _ _
        have hR := Lib.hid (hR.out.skip hb1)
        have pa := cell_ext pa hb1
        have pb := cell_ext pb hb1
        clear hw1 hb1
        go_wp2
        go_quiet (fail)
        obtain ⟨w2, hw2⟩ : ∃ wz, wz = w1.drewN nq := ⟨_, rfl⟩
        rw [← hw2]
        have hb2 : Below w1.heap.size w1 w2 := by rw [hw2]; exact drewN_below _ _ _
        have hR := Lib.hid (hR.out.skip hb2)
        have pa := cell_ext pa hb2
        have pb := cell_ext pb hb2
        clear hw2 hb2
        go_wp2
        go_roundw
        case rel => exact ⟨i + 1, k + 1, _, by go_num, by go_num, hR.out.both hil hkl HF.out (.refl _ _)⟩
        case measure => simp [intOf]; omega
      · obtain rfl : i = a.length := by omega
        have qb := HQB.out k hkl
        have pb := FB.out _ hR.out.bel hkl
        have k1 : ((k : Int) == (b.length : Int)) = false := by simp; omega
        obtain ⟨y, hy⟩ : ∃ x, x = nth b k := ⟨_, rfl⟩
        rw [← hy] at pb
        have HY := Lib.hid hy
        clear hy
        go_wp2
        go_quiet (fail)
        obtain ⟨w1, hw1⟩ : ∃ wz, wz = wr.drewN nq := ⟨_, rfl⟩
        rw [← hw1]
        have hb1 : Below wr.heap.size wr w1 := by rw [hw1]; exact drewN_below _ _ _
        have hR := Lib.hid (hR.out.skip hb1)
        have pb := cell_ext pb hb1
        clear hw1 hb1
        go_wp2
        go_quiet (fail)
        obtain ⟨w2, hw2⟩ : ∃ wz, wz = w1.drewN nq := ⟨_, rfl⟩
        rw [← hw2]
        have hb2 : Below w1.heap.size w1 w2 := by rw [hw2]; exact drewN_below _ _ _
        have hR := Lib.hid (hR.out.skip hb2)
        have pb := cell_ext pb hb2
        clear hw2 hb2
        have OWN := Lib.hid hR.out.own
        have hbs := hR.out.bel.size
        go_wp2_with (at_builtin; refine wpList_push rfl _ _ 38 rfl 3 _ 8 Try.underlying38 info_int rfl w.heap.size _ _ _ rfl OWN.out (.int .i64 (y)) rfl rfl (by omega) (by omega) (by omega) ?_; intro g' c' w5 hown5 hbel5 _ _)
        have hR3 := Lib.hid (hR.out.right hkl (.inl rfl) hwb.out (HY.out ▸ hown5) hbel5)
        go_wp2
        go_roundw
        case rel => exact ⟨a.length, k + 1, _, by go_num, by go_num, hR3.out⟩
        case measure => simp [intOf]; omega
    · by_cases hil : i < a.length
      · obtain rfl : k = b.length := by omega
        have qa := HQA.out i hil
        have pa := FA.out _ hR.out.bel hil
        obtain ⟨x, hx⟩ : ∃ x, x = nth a i := ⟨_, rfl⟩
        rw [← hx] at pa
        have HX := Lib.hid hx
        clear hx
        go_wp2
        go_quiet (fail)
        obtain ⟨w2, hw2⟩ : ∃ wz, wz = wr.drewN nq := ⟨_, rfl⟩
        rw [← hw2]
        have hb2 : Below wr.heap.size wr w2 := by rw [hw2]; exact drewN_below _ _ _
        have hR := Lib.hid (hR.out.skip hb2)
        have pa := cell_ext pa hb2
        clear hw2 hb2
        have OWN := Lib.hid hR.out.own
        have hbs := hR.out.bel.size
        go_wp2_with (at_builtin; refine wpList_push rfl _ _ 38 rfl 3 _ 8 Try.underlying38 info_int rfl w.heap.size _ _ _ rfl OWN.out (.int .i64 (x)) rfl rfl (by omega) (by omega) (by omega) ?_; intro g' c' w5 hown5 hbel5 _ _)
        have hR3 := Lib.hid (hR.out.left hil (.inl rfl) hwa.out (HX.out ▸ hown5) hbel5)
        go_wp2
        go_roundw
        case rel => exact ⟨i + 1, b.length, _, by go_num, by go_num, hR3.out⟩
        case measure => simp [intOf]; omega
      · have HE := Lib.hid (hR.out.fin (by omega) (by omega))
        have hbel := hR.out.bel
        go_wp2
        go_ret
        exact .mk hbel HE.out
end Go.Proofs.Ytijmjliijjkcbaa
