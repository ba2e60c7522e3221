/- The contract of the reference's Join. -/
import Derived.Test.YtnmbiibchajehaaJoin
namespace Go.Proofs.Ytnmbiibchajehaa
set_option linter.unusedVariables false
open Go.RowKit

/-- Each element bears an element of its class. -/
def Bears (a b os : List Int) : Prop := ∀ i, i < a.length → ∃ x : Nat, nth os i = (x : Int) ∧ x ≤ i ∧ Gen a b i x
/-- a or b puts the elements together. -/
def Tied (a b : List Int) (i j : Nat) : Prop := nth a i = nth a j ∨ nth b i = nth b j
def sumN (l : List Int) : Nat := (l.map Int.toNat).sum

theorem sumN_set {l : List Int} {i : Nat} (h : i < l.length) (x : Int) : sumN (l.set i x) + (nth l i).toNat = sumN l + x.toNat := by
  induction l generalizing i with
  | nil => simp at h
  | cons y l ih =>
    cases i with
    | zero => simp [sumN, nth]; omega
    | succ i =>
      have := ih (i := i) (by simpa using h)
      have e : nth (y :: l) (i + 1) = nth l i := rfl
      rw [e]
      simp [sumN] at this ⊢
      omega

theorem Bears.id (a b : List Int) : Bears a b (idList a.length) := fun i hi => ⟨i, nth_idList hi, Nat.le_refl _, .base hi hi (.inl rfl)⟩
theorem Bears.glue {a b os : List Int} {i k : Nat} {m : Int} (h : Bears a b os) (hl : os.length = a.length) (hi : i < a.length) (hk : k < i) (ht : Tied a b i k) (hm : (m = nth os i ∧ nth os i < nth os k) ∨ (m = nth os k ∧ nth os k < nth os i)) :
    Bears a b ((os.set i m).set k m) ∧ sumN ((os.set i m).set k m) < sumN os := by
  have hik : Gen a b i k := .base hi (by omega) ht
  obtain ⟨x, hx, hxi, gx⟩ := h i hi
  obtain ⟨y, hy, hyk, gy⟩ := h k (by omega)
  obtain ⟨z, hz, hzk, gi, gk⟩ : ∃ z : Nat, m = (z : Int) ∧ z ≤ k ∧ Gen a b i z ∧ Gen a b k z := by
    rcases hm with ⟨rfl, h1⟩ | ⟨rfl, h1⟩
    · exact ⟨x, hx, by omega, gx, hik.symm.trans gx⟩
    · exact ⟨y, hy, by omega, hik.trans gy, gy⟩
  constructor
  · intro j hj
    by_cases e : j = k
    · subst e; exact ⟨z, by rw [nth_set_eq (by simp; omega)]; exact hz, hzk, gk⟩
    · rw [nth_set_ne e]
      by_cases e2 : j = i
      · subst e2; exact ⟨z, by rw [nth_set_eq (by omega)]; exact hz, by omega, gi⟩
      · rw [nth_set_ne e2]; exact h j hj
  · have h1 := sumN_set (l := os.set i m) (i := k) (by simp; omega) m
    have h2 := sumN_set (l := os) (i := i) (by omega) m
    rw [nth_set_ne (by omega : k ≠ i)] at h1
    rcases hm with ⟨h3, h4⟩ | ⟨h3, h4⟩ <;> omega

theorem bears_iff {a b os : List Int} (h : Bears a b os) (hd : ∀ p q, p < a.length → q < p → Tied a b p q → nth os p = nth os q) {i j : Nat} (hi : i < a.length) (hj : j < a.length) : nth os i = nth os j ↔ Gen a b i j := by
  constructor
  · intro e
    obtain ⟨x, hx, _, gx⟩ := h i hi
    obtain ⟨y, hy, _, gy⟩ := h j hj
    have : x = y := by omega
    subst this
    exact gx.trans gy.symm
  · intro g
    refine g (fun i j => nth os i = nth os j) ?_ (fun i j e => e.symm) (fun i j k e1 e2 => e1.trans e2)
    intro i j hi hj ht
    by_cases h1 : j < i
    · exact hd i j hi h1 ht
    · by_cases h2 : i = j
      · rw [h2]
      · exact (hd j i hj (by omega) (by rcases ht with h | h; · exact .inl h.symm
                                        · exact .inr h.symm)).symm

theorem bears_wf {a b os : List Int} (h : Bears a b os) (hl : os.length = a.length) (hn : a.length ≤ 65536) : ∀ x ∈ os, WF x := by
  intro x hx
  obtain ⟨i, hi, rfl⟩ := List.getElem_of_mem hx
  obtain ⟨y, hy, h1, _⟩ := h i (by omega)
  rw [nth_eq hi] at hy
  rw [hy]
  exact WF.small (by omega)

/-- What is known in a pass over all pairs: nothing has changed, and what has been looked at is equal; or the sum is less. -/
def Pass (a b os0 os : List Int) (f : Bool) (done : Nat → Nat → Prop) : Prop :=
  (f = false ∧ os = os0 ∧ ∀ p q, p < a.length → q < p → done p q → Tied a b p q → nth os p = nth os q) ∨ (f = true ∧ sumN os < sumN os0)

def rowSum (w : World) (g : Nat) : Nat := match w.heap[g]? with | some (.cells cs _ _) => (cs.toList.map fun v => (intOf v).toNat).sum | _ => 0
def flagOf : Value → Nat | .bool true => 1 | _ => 0
theorem rowSum_eq {w : World} {g : Nat} {e : TypeId} {os : List Int} (h : Row w g e (os.map (Value.int .i64))) : rowSum w g = sumN os := by
  unfold rowSum
  rw [h]
  have : (fun v => (intOf v).toNat) ∘ Value.int .i64 = Int.toNat := by funext x; rfl
  simp [sumN, this]

set_option maxRecDepth 100000 in
set_option maxHeartbeats 2000000 in
theorem refGlue_calls {S S' : Nat → Prop} {w : World} {va vb : Value} {a b : List Int} (ha : Ints S w va a) (hb : Ints S' w vb b) (hlen : a.length = b.length) (hmax : a.length ≤ 65536) :
    Calls Try.prog 52 #[va, vb] w (Post w fun w' r => Ints (fun b => w.heap.size ≤ b) w' r (joinS a b)) := by
  obtain ⟨aa, capa, rfl, haa, _, hma, hca, hfa⟩ := ha
  obtain ⟨ab, capb, rfl, hab, _, hmb, hcb, hfb⟩ := hb
  clear hma hmb
  obtain ⟨i0, hi, hz0, hz1, hz2⟩ := info_parts info3
  have hixa := idx_one Try.underlying22 hi hz1 haa
  have hixb := idx_one Try.underlying22 hi hz1 hab
  have HL := Lib.hid hlen
  clear hlen
  have hmk := run_make_row' 22 3 (.int .i64 0) 8 Try.underlying22 info3 rfl .i64 .i64 a.length (by omega) (by omega)
  go_enter Try.func52, Try.ntmps52
  go_wp2
  go_loopw [6] (fun i wr => ∃ k : Nat, k ≤ a.length ∧ i = .int .i64 k ∧ Below w.heap.size w wr ∧ Row wr w.heap.size 3 (partRow (fun i => (i : Int)) k a.length))
    (fun i _ => a.length - (intOf i).toNat)
  case atStart =>
    refine ⟨0, by omega, rfl, (Below.refl _ _).alloc (Nat.le_refl _) _, ?_⟩
    rw [partRow_zero]
    exact Row.made w (.int .i64 0) a.length 3
  case round =>
    obtain ⟨k, hk, rfl, hbr, hR⟩ := hrel
    by_cases hlt : k < a.length
    · have r1 := hR.cell (partRow_get hlt)
      have r2 := hR.free k
      go_wp2
      go_roundw
      case rel => exact ⟨k + 1, by omega, by go_num, hbr.setCell (by simp) _, by rw [← partRow_set hlt]; exact hR.set k _⟩
      case measure => simp [intOf]; omega
    · have hk' : k = a.length := by omega
      subst hk'
      rw [partRow_full] at hR
      go_wp2
      go_loopw [7] (fun fv wr => ∃ (f : Bool) (os : List Int), fv = .bool f ∧ Below w.heap.size w wr ∧ Row wr w.heap.size 3 (os.map (Value.int .i64)) ∧ os.length = a.length ∧ Bears a b os ∧ (f = false → ∀ p q, p < a.length → q < p → Tied a b p q → nth os p = nth os q))
        (fun fv wr => 2 * rowSum wr w.heap.size + flagOf fv)
      case atStart => exact ⟨true, idList a.length, rfl, hbr, hR, by simp, Bears.id a b, fun h => by cases h⟩
      case round =>
        obtain ⟨f, os, rfl, hb1, hR1, hl1, hB1, hd1⟩ := hrel
        obtain ⟨wp, rfl⟩ : ∃ wp : World, wp = wr := ⟨_, rfl⟩
        have HL1 := Lib.hid hl1
        have HD1 := Lib.hid hd1
        clear hl1 hd1 hbr hR hmk
        cases f with
        | false =>
          go_wp2_with fail
          have hwf := bears_wf hB1 HL1.out hmax
          have hI := hR1.ints (by have := HL1.out; unfold maxLen; omega) hwf
          have hlk : os.length ≤ 65536 := by have := HL1.out; omega
          rw [show (Value.slice (some ⟨w.heap.size, 0, none⟩) os.length os.length) = .slice (some ⟨w.heap.size, 0, none⟩) a.length a.length by rw [HL1.out]] at hI
          have HC := Lib.hid (refLabels_calls hI hlk)
          have HJ := Lib.hid (show labs os = joinS a b from joinS_of HL1.out (fun i j hi hj => bears_iff hB1 (HD1.out trivial) hi hj))
          clear hI hlk hwf
          refine HC.out.mono ?_
          rintro _ wz ⟨vz, rfl, hbz, hvz⟩
          rw [HJ.out] at hvz
          have hBs := hb1.size
          go_wp2
          go_ret
          exact .mk (ext_trans hb1 hbz) (hvz.mono (by intro b hb'; omega))
        | true =>
          go_wp2
          go_loopw [7, 8] (fun fv iv wr => ∃ (f : Bool) (i : Nat) (qs : List Int), fv = .bool f ∧ iv = .int .i64 i ∧ i ≤ a.length ∧ Below w.heap.size w wr ∧ Row wr w.heap.size 3 (qs.map (Value.int .i64)) ∧ qs.length = a.length ∧ Bears a b qs ∧ Pass a b os qs f (fun p _ => p < i))
            (fun _ iv _ => a.length - (intOf iv).toNat)
          case atStart => exact ⟨false, 0, os, rfl, rfl, by omega, hb1, hR1, HL1.out, hB1, .inl ⟨rfl, rfl, fun p q _ _ h => by omega⟩⟩
          case round =>
            obtain ⟨f, i, qs, rfl, rfl, hin, hb2, hR2, hl2, hB2, hP2⟩ := hrel
            obtain ⟨wq, rfl⟩ : ∃ wq : World, wq = wr := ⟨_, rfl⟩
            have HL2 := Lib.hid hl2
            have HP2 := Lib.hid hP2
            clear hl2 hP2
            by_cases hlt : i < a.length
            · have hltb : i < b.length := by have := HL.out; omega
              have qa := hixa i hlt
              have qb := hixb i hltb
              go_wp2
              go_loopw [7, 9] (fun fv kv wr => ∃ (f : Bool) (k : Nat) (rs : List Int), fv = .bool f ∧ kv = .int .i64 k ∧ k ≤ i ∧ Below w.heap.size w wr ∧ Row wr w.heap.size 3 (rs.map (Value.int .i64)) ∧ rs.length = a.length ∧ Bears a b rs ∧ Pass a b os rs f (fun p q => p < i ∨ p = i ∧ q < k))
                (fun _ kv _ => i - (intOf kv).toNat)
              case atStart =>
                refine ⟨f, 0, qs, rfl, rfl, by omega, hb2, hR2, HL2.out, hB2, ?_⟩
                rcases HP2.out with ⟨h1, h2, h3⟩ | h
                · exact .inl ⟨h1, h2, fun p q hp hq hd ht => h3 p q hp hq (by omega) ht⟩
                · exact .inr h
              case round =>
                obtain ⟨f, k, rs, rfl, rfl, hki, hb3, hR3, hl3, hB3, hP3⟩ := hrel
                obtain ⟨wk, rfl⟩ : ∃ wk : World, wk = wr := ⟨_, rfl⟩
                have HL3 := Lib.hid hl3
                have HP3 := Lib.hid hP3
                clear hl3 hP3
                by_cases hlk : k < i
                · have pai := cells_at haa hb3 hca i hlt
                  have pak := cells_at haa hb3 hca k (by omega)
                  have pbi := cells_at hab hb3 hcb i hltb
                  have pbk := cells_at hab hb3 hcb k (by omega)
                  have qak := hixa k (by omega)
                  have qbk := hixb k (by omega)
                  have hir : i < rs.length := by have := HL3.out; omega
                  have hkr : k < rs.length := by omega
                  have ci : wk.cell? ⟨w.heap.size, i, none⟩ = some (.int .i64 (nth rs i)) := hR3.cell (by rw [List.getElem?_map, get?_nth hir]; rfl)
                  have ck : wk.cell? ⟨w.heap.size, k, none⟩ = some (.int .i64 (nth rs k)) := hR3.cell (by rw [List.getElem?_map, get?_nth hkr]; rfl)
                  have fi := hR3.free i
                  have fk := hR3.free k
                  have hRl := hR3.lt
                  have hka : k < a.length := by omega
                  -- what a step without a change keeps
                  have hstep : (Tied a b i k → nth rs i = nth rs k) → Pass a b os rs f (fun p q => p < i ∨ p = i ∧ q < k + 1) := by
                    intro h
                    rcases HP3.out with ⟨h1, h2, h3⟩ | h'
                    · refine .inl ⟨h1, h2, fun p q hp hq hd ht => ?_⟩
                      by_cases e : p = i ∧ q = k
                      · obtain ⟨rfl, rfl⟩ := e; exact h ht
                      · exact h3 p q hp hq (by omega) ht
                    · exact .inr h'
                  have HST := Lib.hid hstep
                  clear hstep
                  have hsumle : sumN rs ≤ sumN os := by
                    rcases HP3.out with ⟨_, h2, _⟩ | ⟨_, h2⟩
                    · rw [h2]; exact Nat.le_refl _
                    · omega
                  have HSL := Lib.hid hsumle
                  clear hsumle
                  by_cases ht : Tied a b i k
                  · have ht' : (nth a i == nth a k) = true ∨ ((nth a i == nth a k) = false ∧ (nth b i == nth b k) = true) := by
                      by_cases e : nth a i = nth a k
                      · exact .inl (by simp [e])
                      · rcases ht with h | h
                        · exact absurd h e
                        · exact .inr ⟨by simp [e], by simp [h]⟩
                    have HT := Lib.hid ht
                    clear ht
                    by_cases he : nth rs i = nth rs k
                    · have he' : (nth rs i != nth rs k) = false := by simp [he]
                      have HE := Lib.hid he
                      clear he
                      rcases ht' with h1 | ⟨h1, h2⟩
                      all_goals
                        go_wp2
                        go_quiet (fail)
                        go_wp2
                        go_roundw
                        case rel => exact ⟨f, k + 1, rs, rfl, by go_num, by omega, ext_drewN hb3 _, hR3, HL3.out, hB3, HST.out (fun _ => HE.out)⟩
                        case measure => simp [intOf]; omega
                    · have he' : (nth rs i != nth rs k) = true := by simp [he]
                      have hne : ¬ nth rs i = nth rs k := he
                      rcases ht' with h1 | ⟨h1, h2⟩
                      all_goals
                        by_cases hmin : nth rs k < nth rs i
                        · go_wp2
                          go_quiet (fail)
                          go_wp2
                          go_quiet (fail)
                          go_wp2
                          go_roundw
                          case rel =>
                            have hg := hB3.glue HL3.out hlt hlk HT.out (m := nth rs k) (.inr ⟨rfl, hmin⟩)
                            have := HSL.out
                            refine ⟨true, k + 1, _, rfl, by go_num, by omega, ?_, ?_, ?_, hg.1, .inr ⟨rfl, by omega⟩⟩
                            · exact ((ext_drewN (hb3) _).setCell (p := ⟨w.heap.size, i, none⟩) (Nat.le_refl _) _).setCell (p := ⟨w.heap.size, k, none⟩) (Nat.le_refl _) _
                            · rw [List.map_set, List.map_set]
                              exact (hR3.set i _).set k _
                            · simp [HL3.out]
                          case measure => simp [intOf]; omega
                        · go_wp2
                          go_quiet (fail)
                          go_wp2
                          go_quiet (fail)
                          go_wp2
                          go_roundw
                          case rel =>
                            have hg := hB3.glue HL3.out hlt hlk HT.out (m := nth rs i) (.inl ⟨rfl, by omega⟩)
                            have := HSL.out
                            refine ⟨true, k + 1, _, rfl, by go_num, by omega, ?_, ?_, ?_, hg.1, .inr ⟨rfl, by omega⟩⟩
                            · exact ((ext_drewN (hb3) _).setCell (p := ⟨w.heap.size, i, none⟩) (Nat.le_refl _) _).setCell (p := ⟨w.heap.size, k, none⟩) (Nat.le_refl _) _
                            · rw [List.map_set, List.map_set]
                              exact (hR3.set i _).set k _
                            · simp [HL3.out]
                          case measure => simp [intOf]; omega
                  · have ht1 : (nth a i == nth a k) = false := by simp; exact fun e => ht (.inl e)
                    have ht2 : (nth b i == nth b k) = false := by simp; exact fun e => ht (.inr e)
                    have HT := Lib.hid ht
                    clear ht
                    go_wp2
                    go_quiet (fail)
                    go_wp2
                    go_roundw
                    case rel => exact ⟨f, k + 1, rs, rfl, by go_num, by omega, ext_drewN hb3 _, hR3, HL3.out, hB3, HST.out (fun h => absurd h HT.out)⟩
                    case measure => simp [intOf]; omega
                · have hk' : k = i := by omega
                  subst hk'
                  go_wp2
                  go_roundw
                  case rel =>
                    refine ⟨f, k + 1, rs, rfl, by go_num, by omega, hb3, hR3, HL3.out, hB3, ?_⟩
                    rcases HP3.out with ⟨h1, h2, h3⟩ | h'
                    · exact .inl ⟨h1, h2, fun p q hp hq hd ht => h3 p q hp hq (by omega) ht⟩
                    · exact .inr h'
                  case measure => simp [intOf]; omega
            · have hi' : i = a.length := by omega
              subst hi'
              go_wp2
              go_roundw
              case rel =>
                refine ⟨f, qs, rfl, hb2, hR2, HL2.out, hB2, fun hf => ?_⟩
                rcases HP2.out with ⟨h1, h2, h3⟩ | ⟨h', _⟩
                · exact fun p q hp hq ht => h3 p q hp hq hp ht
                · rw [hf] at h'; cases h'
              case measure =>
                rw [rowSum_eq hR1, rowSum_eq hR2]
                rcases HP2.out with ⟨h1, h2, _⟩ | ⟨h1, h2⟩
                · rw [h1, h2]; simp [flagOf]
                · rw [h1]; simp [flagOf]; omega
end Go.Proofs.Ytnmbiibchajehaa
