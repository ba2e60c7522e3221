/- Products of graphs; the set of the elements of a list. -/
import Derived.Test.YtmlgbaogkbfklaaDoorGrJ
namespace Go.Proofs.YtmlgbaogkbfklaaDoor
set_option linter.unusedVariables false
open Go.RowKit
attribute [local go_sem ↓] Go.wp_at_zero Go.wp_at_succ

def prodG (h h' : Nat → Nat) (p : Nat) : Nat := gath h (h' p)
set_option maxRecDepth 100000 in
theorem product_calls {w : World} (T : Tab w) {n : Nat} {h h' : Nat → Nat} (H : GOK n h) (H' : GOK n h') : Calls Tryd.prog 31 #[hV n h, hV n h'] w (Post w fun _ r => r = hV n (cut n (prodG h h'))) := by
  have hn := H.le
  have hS := fun p hp => H.small (p := p) hp
  have hS' := fun p hp => H'.small (p := p) hp
  obtain ⟨c, hc⟩ : ∃ c, c = cut n (prodG h h') := ⟨_, rfl⟩
  rw [← hc]
  unfold hV gV
  obtain ⟨g1, hg1⟩ : ∃ o, o = Obj.cells #[.int .i64 n, .int .i64 (h 0), .int .i64 (h 1), .int .i64 (h 2), .int .i64 (h 3), .int .i64 (h 4)] 24 := ⟨_, rfl⟩
  obtain ⟨g2, hg2⟩ : ∃ o, o = Obj.cells #[.int .i64 n, .int .i64 (h' 0), .int .i64 (h' 1), .int .i64 (h' 2), .int .i64 (h' 3), .int .i64 (h' 4)] 24 := ⟨_, rfl⟩
  obtain ⟨g3, hg3⟩ : ∃ o, o = Obj.cells #[.int .i64 0, .int .i64 0, .int .i64 0, .int .i64 0, .int .i64 0, .int .i64 0] 24 := ⟨_, rfl⟩
  have ex := ext_alloc' (ext_alloc' (ext_alloc w g1) g2) g3
  have R1 := ((hg1 ▸ Row.graph w n fun p => (h p : Int) : Row (w.alloc g1) w.heap.size 24 (gC n fun p => (h p : Int))).alloc g2).alloc g3
  have R2 := (hg2 ▸ Row.graph (w.alloc g1) n fun p => (h' p : Int) : Row ((w.alloc g1).alloc g2) (w.alloc g1).heap.size 24 (gC n fun p => (h' p : Int))).alloc g3
  have R3 : Row (((w.alloc g1).alloc g2).alloc g3) ((w.alloc g1).alloc g2).heap.size 24 (gC 0 fun _ => 0) := hg3 ▸ Row.graph ((w.alloc g1).alloc g2) 0 fun _ => 0
  simp only [World.size_alloc] at R2 R3
  have eg : ∀ args w, (callFunc 51 args).run Tryd.prog w = .ok (.enter 51 args) w := fun args w => by rfl
  have KM := Lib.hid (made_calls (w := ((w.alloc g1).alloc g2).alloc g3) (E := #[.pointer (some ⟨w.heap.size, 0, none⟩), .pointer (some ⟨w.heap.size + 1, 0, none⟩)]) (h := prodG h h') hn eg fun W hW p hp => product1_calls ((T.ext ex).ext hW) (R1.ext hW) (R2.ext hW) (by omega) hS (hS' p (by omega)))
  rw [← hc] at KM
  subst hg1 hg2 hg3
  clear hc eg hS hS' T H H'
  unfold hV gV at KM
  obtain ⟨a0, _⟩ := R1.six
  go_enter Tryd.func31, Tryd.ntmps31
  go_wp2_with fail
  refine KM.out.mono ?_
  rintro _ w2 ⟨_, rfl, hb2, rfl⟩
  have R3 := R3.ext hb2
  have ex2 := ext_trans ex hb2
  clear a0
  obtain ⟨a0, a1, a2, a3, a4, a5⟩ := R3.six
  have R4 := row_set6 R3 n (fun p => (c p : Int))
  have hb3 := set6_below (g := w.heap.size + 1 + 1) (.int .i64 n) (.int .i64 (c 0 : Int)) (.int .i64 (c 1 : Int)) (.int .i64 (c 2 : Int)) (.int .i64 (c 3 : Int)) (.int .i64 (c 4 : Int)) ex2 (by omega)
  have f0 := R3.free 0
  have f1 := R3.free 1
  have f2 := R3.free 2
  have f3 := R3.free 3
  have f4 := R3.free 4
  have f5 := R3.free 5
  obtain ⟨d0, d1, d2, d3, d4, d5⟩ := R4.six
  go_wp2
  refine bodyPost_ret (v := .agg #[.int .i64 n, .int .i64 (c 0 : Int), .int .i64 (c 1 : Int), .int .i64 (c 2 : Int), .int .i64 (c 3 : Int), .int .i64 (c 4 : Int)]) (by simp [results, Tryd.results31, go_sem, d0, d1, d2, d3, d4, d5]) rfl ?_
  exact .mk hb3 rfl
set_option maxRecDepth 100000 in
theorem compose_calls {w : World} (T : Tab w) {n : Nat} {h h' : Nat → Nat} (H : GOK n h) (H' : GOK n h') : Calls Tryd.prog 11 #[hV n h, hV n h'] w (Post w fun _ r => r = .tuple #[hV n (cut n (prodG h h')), .int .i64 0]) := by
  have K1 := Lib.hid fun W => gboth_calls W H H'
  have K2 := Lib.hid fun W (hW : Below w.heap.size w W) => product_calls (T.ext hW) H H'
  obtain ⟨c, hc⟩ : ∃ c, c = cut n (prodG h h') := ⟨_, rfl⟩
  rw [← hc] at K2 ⊢
  unfold hV gV at K1 K2 ⊢
  obtain ⟨g1, hg1⟩ : ∃ o, o = Obj.cells #[.int .i64 n, .int .i64 (h 0), .int .i64 (h 1), .int .i64 (h 2), .int .i64 (h 3), .int .i64 (h 4)] 24 := ⟨_, rfl⟩
  obtain ⟨g2, hg2⟩ : ∃ o, o = Obj.cells #[.int .i64 n, .int .i64 (h' 0), .int .i64 (h' 1), .int .i64 (h' 2), .int .i64 (h' 3), .int .i64 (h' 4)] 24 := ⟨_, rfl⟩
  obtain ⟨g3, hg3⟩ : ∃ o, o = Obj.cells #[.int .i64 0, .int .i64 0, .int .i64 0, .int .i64 0, .int .i64 0, .int .i64 0] 24 := ⟨_, rfl⟩
  have ex := ext_alloc' (ext_alloc' (ext_alloc w g1) g2) g3
  have R1 := ((hg1 ▸ Row.graph w n fun p => (h p : Int) : Row (w.alloc g1) w.heap.size 24 (gC n fun p => (h p : Int))).alloc g2).alloc g3
  have R2 := (hg2 ▸ Row.graph (w.alloc g1) n fun p => (h' p : Int) : Row ((w.alloc g1).alloc g2) (w.alloc g1).heap.size 24 (gC n fun p => (h' p : Int))).alloc g3
  have R3 : Row (((w.alloc g1).alloc g2).alloc g3) ((w.alloc g1).alloc g2).heap.size 24 (gC 0 fun _ => 0) := hg3 ▸ Row.graph ((w.alloc g1).alloc g2) 0 fun _ => 0
  simp only [World.size_alloc] at R2 R3
  subst hg1 hg2 hg3
  clear hc T H H'
  obtain ⟨a0, a1, a2, a3, a4, a5⟩ := R1.six
  obtain ⟨b0, b1, b2, b3, b4, b5⟩ := R2.six
  go_enter Tryd.func11, Tryd.ntmps11
  go_wp2_with fail
  refine (K1.out _).mono ?_
  rintro _ w1 ⟨_, rfl, hb1, rfl⟩
  clear a0 a1 a2 a3 a4 a5 b0 b1 b2 b3 b4 b5
  have R1 := R1.ext hb1
  have R2 := R2.ext hb1
  have R3 := R3.ext hb1
  have ex1 := ext_trans ex hb1
  obtain ⟨a0, a1, a2, a3, a4, a5⟩ := R1.six
  obtain ⟨b0, b1, b2, b3, b4, b5⟩ := R2.six
  go_wp2_with fail
  refine (K2.out _ ex1).mono ?_
  rintro _ w2 ⟨_, rfl, hb2, rfl⟩
  have R3 := R3.ext hb2
  have ex2 := ext_trans ex1 hb2
  clear a0 a1 a2 a3 a4 a5 b0 b1 b2 b3 b4 b5
  obtain ⟨a0, a1, a2, a3, a4, a5⟩ := R3.six
  have R4 := row_set6 R3 n (fun p => (c p : Int))
  have hb3 := set6_below (g := w.heap.size + 1 + 1) (.int .i64 n) (.int .i64 (c 0 : Int)) (.int .i64 (c 1 : Int)) (.int .i64 (c 2 : Int)) (.int .i64 (c 3 : Int)) (.int .i64 (c 4 : Int)) ex2 (by omega)
  have f0 := R3.free 0
  have f1 := R3.free 1
  have f2 := R3.free 2
  have f3 := R3.free 3
  have f4 := R3.free 4
  have f5 := R3.free 5
  obtain ⟨d0, d1, d2, d3, d4, d5⟩ := R4.six
  go_wp2
  refine bodyPost_ret (v := .tuple #[.agg #[.int .i64 n, .int .i64 (c 0 : Int), .int .i64 (c 1 : Int), .int .i64 (c 2 : Int), .int .i64 (c 3 : Int), .int .i64 (c 4 : Int)], .int .i64 0]) (by simp [results, Tryd.results11, go_sem, d0, d1, d2, d3, d4, d5]) rfl ?_
  exact .mk hb3 rfl

/-! the set of a list -/
def setN (l : List Nat) : Nat := orAll (fun p => 2 ^ p) l
theorem setN_lt {l : List Nat} (h : ∀ p ∈ l, p < 5) : setN l < 32 := orAll_lt _ fun m hm => by
  rcases five (h m hm) with rfl | rfl | rfl | rfl | rfl <;> decide
theorem testBit_fold (h : Nat → Nat) (i : Nat) : ∀ (l : List Nat) (a : Nat), (l.foldl (fun a m => a ||| h m) a).testBit i = (a.testBit i || l.any fun m => (h m).testBit i) := by
  intro l
  induction l with
  | nil => intro a; simp
  | cons m l ih => intro a; rw [List.foldl_cons, ih, Nat.testBit_or, List.any_cons, Bool.or_assoc]
theorem testBit_orAll (h : Nat → Nat) (l : List Nat) (i : Nat) : (orAll h l).testBit i = l.any fun m => (h m).testBit i := by
  unfold orAll
  rw [testBit_fold]
  simp
theorem testBit_setN (l : List Nat) (i : Nat) : (setN l).testBit i = decide (i ∈ l) := by
  unfold setN
  rw [testBit_orAll, Bool.eq_iff_iff, List.any_eq_true]
  simp only [decide_eq_true_eq]
  constructor
  · rintro ⟨m, hm, h⟩
    rw [Nat.testBit_two_pow] at h
    simp at h
    subst h; exact hm
  · intro h
    exact ⟨i, h, by rw [Nat.testBit_two_pow]; simp⟩
theorem pprocsN_quiet (w : World) {n : Nat} (h1 : 1 ≤ n) (hn : n ≤ 5) : Calls Tryd.prog 39 #[.int .i64 n] w (QuietP w (.int .i64 0)) := by
  go_enter Tryd.func39, Tryd.ntmps39
  go_wp2
  go_ret
  exact .of rfl 0
theorem bit_one_false {a p : Nat} (h : a.testBit p = false) : (bits .and .i64 ((a : Int) / 2 ^ p) 1 == 1) = false := by rw [bit_nat, h]
theorem wrap_pow {p : Nat} (hp : p < 5) : wrap64 ((2 : Int) ^ p) = ((2 ^ p : Nat) : Int) := by
  rcases five hp with rfl | rfl | rfl | rfl | rfl <;> decide +kernel
set_option maxRecDepth 100000 in
set_option maxHeartbeats 2000000 in
theorem of_calls {S : Nat → Prop} {w : World} {v : Value} {l : List Nat} {n : Nat} (h1 : 1 ≤ n) (hn : n ≤ 5) (hv : Ints S w v (l.map (Nat.cast : Nat → Int))) (hl : ∀ p ∈ l, p < n) (hd : l.Nodup) :
    Calls Tryd.prog 25 #[.int .i64 n, v] w (Post w fun _ r => r = .tuple #[.int .i64 (setN l), .int .i64 0]) := by
  have K := Lib.hid fun W => ((pprocsN_quiet W h1 hn).mono fun _ _ h => h.take)
  obtain ⟨L, hL⟩ : ∃ L, L = l.map (Nat.cast : Nat → Int) := ⟨_, rfl⟩
  have hLL : L.length = l.length := by rw [hL]; simp
  have HST : Hid (∀ k, k < L.length → ∃ m : Nat, m < n ∧ nth L k = (m : Int) ∧ (setN (l.take k)).testBit m = false ∧ setN (l.take (k + 1)) = setN (l.take k) ||| 2 ^ m) := Lib.hid fun k hk => by
    have hk2 : k < l.length := by omega
    refine ⟨l[k], hl _ (List.getElem_mem hk2), ?_, ?_, ?_⟩
    · rw [nth_eq hk]; simp [hL]
    · rw [testBit_setN]
      simp only [decide_eq_false_iff_not]
      intro hm
      obtain ⟨j, hj, e⟩ := List.getElem_of_mem hm
      simp only [List.getElem_take] at e
      have hj2 : j < k := by simp at hj; omega
      have := (List.nodup_iff_pairwise_ne.1 hd)
      rw [List.pairwise_iff_getElem] at this
      exact this j k (by omega) hk2 hj2 e
    · rw [← List.take_append_getElem hk2]
      exact orAll_snoc _ _ _
  have HLT : Hid (∀ k, setN (l.take k) < 32) := Lib.hid fun k => setN_lt fun p hp => by have := hl p (List.mem_of_mem_take hp); omega
  have HFIN : Hid (setN (l.take L.length) = setN l) := Lib.hid (by rw [hLL, List.take_length])
  have HZ : Hid (setN (l.take 0) = 0) := Lib.hid rfl
  obtain ⟨gs, hgs⟩ : ∃ gs, gs = setN l := ⟨_, rfl⟩
  rw [← hgs] at HFIN ⊢
  rw [← hL] at hv
  obtain ⟨a, cap, rfl, ad, l1, lm⟩ := hv.form
  unfold maxLen at lm
  obtain ⟨i0, hi, hz0, hz1, hz2⟩ := info_parts info_int
  have HQ := Lib.hid (idx_one Tryd.underlying33 hi hz1 ad)
  have HC := Lib.hid hv
  clear hgs hv hi hz0 hz1 hz2 ad hl hd hL hLL
  go_enter Tryd.func25, Tryd.ntmps25
  go_wp2_with fail
  refine (K.out _).mono ?_
  rintro _ w1 ⟨_, rfl, hq1, rfl⟩
  go_wp2
  go_loopw [7, 9, 17] (fun o _ i wr => ∃ k z : Nat, k ≤ L.length ∧ i = .int .i64 k ∧ o = .int .i64 z ∧ Hid (z = setN (l.take k)) ∧ QW w wr) (fun _ _ i _ => L.length - (intOf i).toNat)
  case atStart => exact ⟨0, 0, Nat.zero_le _, rfl, rfl, Lib.hid HZ.out.symm, hq1⟩
  case round =>
    obtain ⟨k, z, hk, rfl, rfl, HZK, hQ⟩ := hrel
    by_cases hlt : k < L.length
    · have q := HQ.out k hlt
      have ck := (HC.out.ext hQ.ext)
      have ck2 : wr.cell? (adr a k) = some (.int .i64 (nth L k)) := by
        obtain ⟨a0, cap0, e, _, _, _, hc, _⟩ := ck
        simp only [Value.slice.injEq] at e
        obtain ⟨rfl, _, _⟩ := e
        exact hc k hlt
      obtain ⟨m, hmn, hm, hmb, hmt⟩ := HST.out k hlt
      rw [hm] at ck2
      have hzl : z < 32 := by rw [HZK.out]; exact HLT.out k
      have hm5 : m < 5 := by omega
      rw [← HZK.out] at hmb hmt
      have hb1 := bit_one_false hmb
      have hp := pow_small (p := m) (by omega)
      have HW := Lib.hid (wrap_pow hm5)
      have HO := Lib.hid (or_nat (a := z) (b := 2 ^ m) (by omega) (by omega))
      have HN : Hid (z ||| 2 ^ m = setN (l.take (k + 1))) := Lib.hid hmt.symm
      clear ck hm hmt hmb hp
      go_wp2
      go_roundw
      case rel => exact ⟨k + 1, z ||| 2 ^ m, by omega, by go_num, int_eq (by rw [HW.out, HO.out]), HN, hQ⟩
      case measure => simp [intOf]; omega
    · obtain rfl : k = L.length := by omega
      have HE : Hid (z = gs) := Lib.hid (by rw [HZK.out, HFIN.out])
      go_wp2
      go_ret2
      exact .mk hQ.ext (by rw [HE.out]; rfl)
end Go.Proofs.YtmlgbaogkbfklaaDoor
