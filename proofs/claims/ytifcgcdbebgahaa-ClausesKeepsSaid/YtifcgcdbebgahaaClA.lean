/- Literals and clauses, in the reference. -/
import Derived.Test.YtifcgcdbebgahaaWords
namespace Go.Proofs.Ytifcgcdbebgahaa
set_option linter.unusedVariables false
open Go.RowKit
attribute [local go_sem ↓] Go.wp_at_zero Go.wp_at_succ

/-- A world in which something has been drawn, and nothing else. -/
def QW (w w' : World) : Prop := ∃ n, w' = w.drewN n
theorem QW.refl (w : World) : QW w w := ⟨0, rfl⟩
theorem QW.drewN {a b : World} (h : QW a b) (n : Nat) : QW a (b.drewN n) := by obtain ⟨k, rfl⟩ := h; exact ⟨_, World.drewN_drewN _ _ _⟩
theorem QW.trans {a b c : World} (h : QW a b) (k : QW b c) : QW a c := by obtain ⟨n, rfl⟩ := k; exact h.drewN n
theorem QW.ext {a b : World} (h : QW a b) : Below a.heap.size a b := by obtain ⟨n, rfl⟩ := h; exact drewN_below _ _ _
theorem QuietP.fin {w w' : World} {u v : Value} (h : u = v) (q : QW w w') : QuietP w v (.returned u) w' := ⟨by rw [h], q⟩
theorem QuietP.take {w : World} {v : Value} {e : Ending} {w' : World} (h : QuietP w v e w') : ∃ u, e = .returned u ∧ QW w w' ∧ u = v := ⟨v, h.1, h.2, rfl⟩
/-- The variable of a literal. -/
def varS (x : Int) : Int := if x < 0 then wrap64 (-x) else x
theorem varS_neg {x : Int} (h : x < 0) : varS x = wrap64 (-x) := by unfold varS; rw [if_pos h]
theorem varS_pos {x : Int} (h : ¬ x < 0) : varS x = x := by unfold varS; rw [if_neg h]
theorem varS_small {x : Int} (h : -1000000 ≤ x ∧ x ≤ 1000000) : varS x = if x < 0 then -x else x := by
  unfold varS wrap64
  split <;> omega
theorem var_quiet (w : World) (x : Int) : Calls Try.prog 24 #[.int .i64 x] w (QuietP w (.int .i64 (varS x))) := by
  by_cases h : x < 0
  · have e := Lib.hid (varS_neg h)
    go_enter Try.func24, Try.ntmps24
    go_wp2
    go_ret
    exact .of (int_eq e.out.symm) 0
  · have e := Lib.hid (varS_pos h)
    go_enter Try.func24, Try.ntmps24
    go_wp2
    go_ret
    exact .of (int_eq e.out.symm) 0
def goodP (v x : Int) : Bool := decide (x ≠ 0) && (decide (-v ≤ x) && decide (x ≤ v))
theorem goodP_iff {v x : Int} : goodP v x = true ↔ x ≠ 0 ∧ -v ≤ x ∧ x ≤ v := by simp [goodP]
theorem goodP_not {v x : Int} : goodP v x = false ↔ ¬ (x ≠ 0 ∧ -v ≤ x ∧ x ≤ v) := by rw [← goodP_iff]; simp
theorem good_quiet (w : World) {v : Int} (hv : 0 ≤ v ∧ v ≤ 100000) (x : Int) : Calls Try.prog 58 #[.int .i64 v, .int .i64 x] w (QuietP w (.bool (goodP v x))) := by
  obtain ⟨hv0, hv1⟩ := hv
  obtain ⟨q, hq⟩ : ∃ q, q = goodP v x := ⟨_, rfl⟩
  rw [← hq]
  by_cases h0 : x = 0
  · have e : Hid (q = false) := Lib.hid (by rw [hq, goodP_not]; omega)
    subst h0
    clear hq
    go_enter Try.func58, Try.ntmps58
    go_wp2
    go_ret
    exact .of (bool_eq e.out.symm) 0
  have hx0 : (x != 0) = true := by simp [h0]
  by_cases h1 : -v ≤ x
  · by_cases h2 : x ≤ v
    · have e : Hid (q = true) := Lib.hid (by rw [hq, goodP_iff]; exact ⟨h0, h1, h2⟩)
      clear hq h0
      go_enter Try.func58, Try.ntmps58
      go_wp2
      go_ret
      exact .of (bool_eq e.out.symm) 0
    · have e : Hid (q = false) := Lib.hid (by rw [hq, goodP_not]; omega)
      clear hq h0
      go_enter Try.func58, Try.ntmps58
      go_wp2
      go_ret
      exact .of (bool_eq e.out.symm) 0
  · have e : Hid (q = false) := Lib.hid (by rw [hq, goodP_not]; omega)
    clear hq h0
    go_enter Try.func58, Try.ntmps58
    go_wp2
    go_ret
    exact .of (bool_eq e.out.symm) 0

/-- The error at one place of a clause. -/
def cstep (n : Int) (l : List Int) (k : Nat) : Int := if goodP n (nth l k) = false then 2 else if 0 < k ∧ varS (nth l k) ≤ varS (nth l (k - 1)) then 14 else 0
def cfrom (n : Int) (l : List Int) (k : Nat) : Int := if k < l.length then (if cstep n l k ≠ 0 then cstep n l k else cfrom n l (k + 1)) else 0
termination_by l.length - k
def clauseE (n : Int) (l : List Int) : Int := cfrom n l 0
theorem cfrom_end {n : Int} {l : List Int} {k : Nat} (h : l.length ≤ k) : cfrom n l k = 0 := by rw [cfrom, if_neg (by omega)]
theorem cfrom_err {n : Int} {l : List Int} {k : Nat} (h : k < l.length) {x : Int} (hx : cstep n l k = x) (h0 : x ≠ 0) : cfrom n l k = x := by rw [cfrom, if_pos h, hx, if_pos h0]
theorem cfrom_next {n : Int} {l : List Int} {k : Nat} (h : k < l.length) (hx : cstep n l k = 0) : cfrom n l k = cfrom n l (k + 1) := by rw [cfrom, if_pos h, hx]; simp

set_option maxRecDepth 100000 in
set_option maxHeartbeats 2000000 in
theorem refClause_quiet {S : Nat → Prop} {w : World} {v : Value} {l : List Int} (h : Ints S w v l) {n : Int} (hn : 0 ≤ n ∧ n ≤ 100000) :
    Calls Try.prog 32 #[.int .i64 n, v] w (QuietP w (.int .i64 (clauseE n l))) := by
  obtain ⟨a, cap, rfl, ad, l1, lm, hc, hwf⟩ := h
  unfold maxLen at lm
  obtain ⟨i, hi, hz1, hz2, hz3⟩ := info_parts info_int
  have HQ := Lib.hid (idx_one Try.underlying25 hi hz2 ad)
  have HP := Lib.hid (idx_prev Try.underlying25 hi hz2 ad)
  have HC := Lib.hid hc
  obtain ⟨E, hE⟩ : ∃ E, E = clauseE n l := ⟨_, rfl⟩
  rw [← hE]
  have HE := Lib.hid hE
  have HG := Lib.hid (fun W x => good_quiet W hn x)
  clear hc hE hwf
  go_enter Try.func32, Try.ntmps32
  go_wp2
  go_loopw [5] (fun i wr => ∃ k : Nat, k ≤ l.length ∧ i = .int .i64 k ∧ QW w wr ∧ Hid (E = cfrom n l k)) (fun i _ => l.length - (intOf i).toNat)
  case atStart => exact ⟨0, Nat.zero_le _, rfl, .refl _, HE⟩
  case round =>
    obtain ⟨k, hk, rfl, hQ, hF⟩ := hrel
    by_cases hlt : k < l.length
    · have q := HQ.out k hlt
      have c := cells_at ad hQ.ext HC.out k hlt
      have hst : ∀ x, cstep n l k = x → x ≠ 0 → Hid (E = x) := fun x hx h0 => Lib.hid (hF.out.trans (cfrom_err hlt hx h0))
      have hnx : cstep n l k = 0 → Hid (E = cfrom n l (k + 1)) := fun hx => Lib.hid (hF.out.trans (cfrom_next hlt hx))
      have HST := Lib.hid hst
      have HNX := Lib.hid hnx
      obtain ⟨x, hx⟩ : ∃ x, x = nth l k := ⟨_, rfl⟩
      rw [← hx] at c
      have HX := Lib.hid hx
      clear hst hnx hx
      cases hg : goodP n x with
      | false =>
        have HR := HST.out 2 (by unfold cstep; rw [← HX.out, if_pos hg]) (by omega)
        have HGX : Hid (∀ W, Calls Try.prog 58 #[.int .i64 n, .int .i64 x] W (QuietP W (.bool false))) := Lib.hid (fun W => hg ▸ HG.out W x)
        clear hg
        go_wp2_with fail
        refine ((HGX.out _).mono fun _ _ h => h.take).mono ?_
        rintro _ w2 ⟨_, rfl, hq2, rfl⟩
        go_wp2
        go_ret
        exact .fin (int_eq HR.out.symm) (hQ.trans hq2)
      | true =>
        have HGX : Hid (∀ W, Calls Try.prog 58 #[.int .i64 n, .int .i64 x] W (QuietP W (.bool true))) := Lib.hid (fun W => hg ▸ HG.out W x)
        have HGG := Lib.hid hg
        clear hg
        by_cases h3 : k = 0
        · have HR := HNX.out (by unfold cstep; rw [← HX.out, if_neg (by rw [HGG.out]; simp), if_neg (by omega)])
          subst h3
          rw [show (((0 : Nat)) : Int) = 0 from rfl] at q
          clear hF
          go_wp2_with fail
          refine ((HGX.out _).mono fun _ _ h => h.take).mono ?_
          rintro _ w2 ⟨_, rfl, hq2, rfl⟩
          go_wp2_with fail
          go_quiet (fail)
          go_wp2
          go_roundw
          case rel => exact ⟨1, by omega, by go_num, (hQ.trans hq2).drewN nq, HR⟩
          case measure => simp [intOf]; omega
        have hkp : 0 < k := by omega
        have qp := HP.out k hkp hlt
        have cp := cells_at ad hQ.ext HC.out (k - 1) (by omega)
        obtain ⟨y, hy⟩ : ∃ y, y = nth l (k - 1) := ⟨_, rfl⟩
        rw [← hy] at cp
        have HY := Lib.hid hy
        have hk1 : (1 : Int) ≤ (k : Int) := by omega
        have hk0 : (0 : Int) < (k : Int) := by omega
        have hwr : IntKind.i64.wrap ((k : Int) - 1) = (k : Int) - 1 := IntWalk.i64_in _ (by omega)
        clear hy
        by_cases h4 : varS x ≤ varS y
        · have HR := HST.out 14 (by unfold cstep; rw [← HX.out, ← HY.out, if_neg (by rw [HGG.out]; simp), if_pos ⟨hkp, h4⟩]) (by omega)
          clear h3
          go_wp2_with fail
          refine ((HGX.out _).mono fun _ _ h => h.take).mono ?_
          rintro _ w2 ⟨_, rfl, hq2, rfl⟩
          have c2 := cells_at ad (hQ.trans hq2).ext HC.out k hlt
          have cp2 := cells_at ad (hQ.trans hq2).ext HC.out (k - 1) (by omega)
          rw [← HX.out] at c2
          rw [← HY.out] at cp2
          go_wp2_with fail
          go_quiet ((go_at_call 24; exact quiet_calls (var_quiet _ _)))
          go_wp2
          go_ret
          exact .fin (int_eq HR.out.symm) ((hQ.trans hq2).drewN nq)
        · have HR := HNX.out (by unfold cstep; rw [← HX.out, ← HY.out, if_neg (by rw [HGG.out]; simp), if_neg (fun h => h4 h.2)])
          have h4' : decide (varS x ≤ varS y) = false := by simpa using h4
          clear hF h3
          go_wp2_with fail
          refine ((HGX.out _).mono fun _ _ h => h.take).mono ?_
          rintro _ w2 ⟨_, rfl, hq2, rfl⟩
          have c2 := cells_at ad (hQ.trans hq2).ext HC.out k hlt
          have cp2 := cells_at ad (hQ.trans hq2).ext HC.out (k - 1) (by omega)
          rw [← HX.out] at c2
          rw [← HY.out] at cp2
          go_wp2_with fail
          go_quiet ((go_at_call 24; exact quiet_calls (var_quiet _ _)))
          go_wp2
          go_roundw
          case rel => exact ⟨k + 1, by omega, by go_num, (hQ.trans hq2).drewN nq, HR⟩
          case measure => simp [intOf]; omega
    · have HR := Lib.hid (hF.out.trans (cfrom_end (by omega)))
      clear hF
      go_wp2
      go_ret
      exact .fin (int_eq HR.out.symm) hQ
end Go.Proofs.Ytifcgcdbebgahaa
