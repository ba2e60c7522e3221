/- Renamings of graphs: the laws in plain words. -/
import Derived.Test.YtmlgbaogkbfklaaDoorGrV
namespace Go.Proofs.YtmlgbaogkbfklaaDoor
set_option linter.unusedVariables false
open Go.RowKit

def mvG (n : Nat) (pl : List Nat) (h : Nat → Nat) : Nat → Nat := cut n (permG pl h)
theorem bit_perm {pl : List Nat} {h : Nat → Nat} {q i : Nat} : (permG pl h q).testBit i = true ↔ ∃ j, ∃ hj : j < pl.length, (h (backN pl q)).testBit j = true ∧ pl[j] = i := by
  unfold permG
  rw [bit_img _ (Nat.le_refl _)]
  constructor
  · rintro ⟨j, hj, _, h2, h3⟩; exact ⟨j, hj, h2, h3⟩
  · rintro ⟨j, hj, h2, h3⟩; exact ⟨j, hj, hj, h2, h3⟩
theorem bit_mv {n : Nat} {pl : List Nat} {h : Nat → Nat} {q i : Nat} (hq : q < n) : (mvG n pl h q).testBit i = true ↔ ∃ j, ∃ hj : j < pl.length, (h (backN pl q)).testBit j = true ∧ pl[j] = i := by
  unfold mvG; rw [cut_lt hq]; exact bit_perm
theorem gok_mv {n : Nat} {pl : List Nat} {h : Nat → Nat} (H : PermN pl) (hn : pl.length = n) (A : GOK n h) : GOK n (mvG n pl h) :=
  gok_cut A.pos A.le (fun p hp => lt_of_bits fun i hi => by
    obtain ⟨j, hj, _, e⟩ := bit_perm.1 hi
    rw [← e, ← hn]; exact H.lt _ (List.getElem_mem hj)) fun p hp => bit_perm.2 ⟨backN pl p, backN_lt H p, A.own _ (by rw [← hn]; exact backN_lt H p), at_back H (by omega)⟩
theorem mv_mul {n : Nat} {pl : List Nat} {a b : Nat → Nat} (H : PermN pl) (hn : pl.length = n) (A : GOK n a) (B : GOK n b) : ∀ p, p < 5 → mulG n (mvG n pl a) (mvG n pl b) p = mvG n pl (mulG n a b) p :=
  ext_gok (gok_mul (gok_mv H hn A) (gok_mv H hn B)) (gok_mv H hn (gok_mul A B)) fun p hp i => by
    have hb : backN pl p < n := by rw [← hn]; exact backN_lt H p
    rw [bit_mul (gok_mv H hn B) hp, bit_mv hp]
    constructor
    · rintro ⟨m, h1, h2, h3⟩
      obtain ⟨u, hu, u1, u2⟩ := (bit_mv hp).1 h2
      obtain ⟨j, hj, j1, j2⟩ := (bit_mv h1).1 h3
      have e : backN pl m = u := by rw [← u2]; exact back_at H hu
      rw [e] at j1
      exact ⟨j, hj, (bit_mul B hb).2 ⟨u, by omega, u1, j1⟩, j2⟩
    · rintro ⟨j, hj, j1, j2⟩
      obtain ⟨u, h1, h2, h3⟩ := (bit_mul B hb).1 j1
      have hu : u < pl.length := by omega
      have hm : pl[u] < n := by rw [← hn]; exact H.lt _ (List.getElem_mem hu)
      exact ⟨pl[u], hm, (bit_mv hp).2 ⟨u, hu, h2, rfl⟩, (bit_mv hm).2 ⟨j, hj, by rw [back_at H hu]; exact h3, j2⟩⟩
/-- The inverse. -/
def invP (pl : List Nat) : List Nat := (List.range pl.length).map (backN pl)
theorem invP_len (pl : List Nat) : (invP pl).length = pl.length := by simp [invP]
theorem invP_at {pl : List Nat} {q : Nat} (hq : q < (invP pl).length) : (invP pl)[q] = backN pl q := by simp [invP]
theorem invP_perm {pl : List Nat} (H : PermN pl) : PermN (invP pl) where
  pos := by rw [invP_len]; exact H.pos
  le := by rw [invP_len]; exact H.le
  lt := fun p hp => by
    obtain ⟨q, _, rfl⟩ := List.mem_map.1 hp
    rw [invP_len]; exact backN_lt H q
  nodup := by
    rw [List.nodup_iff_pairwise_ne, List.pairwise_iff_getElem]
    intro i j hi hj hij e
    rw [invP_at, invP_at] at e
    rw [invP_len] at hi hj
    have h1 := at_back H hi
    have h2 := at_back H hj
    simp only [e] at h1
    omega
theorem invTo_eq (pl : List Nat) : invTo pl pl.length = permI (invP pl) := by
  apply List.ext_getElem
  · simp [invTo, invP]
  · intro i h1 h2
    simp only [invTo, invP, permI, List.getElem_map, List.getElem_range, backN]
    split <;> rfl
theorem back_inv {pl : List Nat} (H : PermN pl) {k : Nat} (hk : k < pl.length) : backN (invP pl) k = pl[k] := by
  have hp : pl[k] < (invP pl).length := by rw [invP_len]; exact H.lt _ (List.getElem_mem hk)
  have := back_at (invP_perm H) hp
  rw [invP_at, back_at H hk] at this
  exact this
theorem mv_back {n : Nat} {pl : List Nat} {a : Nat → Nat} (H : PermN pl) (hn : pl.length = n) (A : GOK n a) : ∀ p, p < 5 → mvG n (invP pl) (mvG n pl a) p = a p :=
  ext_gok (gok_mv (invP_perm H) (by rw [invP_len]; exact hn) (gok_mv H hn A)) A fun p hp i => by
    have hp2 : p < pl.length := by omega
    have hm : pl[p] < n := by rw [← hn]; exact H.lt _ (List.getElem_mem hp2)
    rw [bit_mv hp, back_inv H hp2]
    constructor
    · rintro ⟨j, hj, j1, j2⟩
      obtain ⟨v, hv, v1, v2⟩ := (bit_mv hm).1 j1
      rw [back_at H hp2] at v1
      rw [invP_at, ← v2, back_at H hv] at j2
      rw [← j2]; exact v1
    · intro h
      have hi := bit_lt (A.lt p hp) h
      have hi2 : i < pl.length := by omega
      have hj : pl[i] < (invP pl).length := by rw [invP_len]; exact H.lt _ (List.getElem_mem hi2)
      exact ⟨pl[i], hj, (bit_mv hm).2 ⟨i, hi2, by rw [back_at H hp2]; exact h, rfl⟩, by rw [invP_at, back_at H hi2]⟩
theorem ker_mv {n : Nat} {pl : List Nat} {a : Nat → Nat} (H : PermN pl) (hn : pl.length = n) (A : GOK n a) : imgTo pl (kerTo n a n) pl.length = kerTo n (mvG n pl a) n := by
  apply bits_eq
  intro i
  rw [bit_img _ (Nat.le_refl _), testBit_ker]
  constructor
  · rintro ⟨j, hj, _, h2, h3⟩
    rw [testBit_ker] at h2
    refine ⟨by rw [← h3, ← hn]; exact H.lt _ (List.getElem_mem hj), fun p hp => (bit_mv hp).2 ⟨j, hj, h2.2 _ (by rw [← hn]; exact backN_lt H p), h3⟩⟩
  · rintro ⟨h1, h2⟩
    have hi : i < pl.length := by omega
    refine ⟨backN pl i, backN_lt H i, backN_lt H i, (testBit_ker _ _ _ _).2 ⟨by rw [← hn]; exact backN_lt H i, fun p hp => ?_⟩, at_back H hi⟩
    have hp2 : p < pl.length := by omega
    have hm : pl[p] < n := by rw [← hn]; exact H.lt _ (List.getElem_mem hp2)
    obtain ⟨j, hj, j1, j2⟩ := (bit_mv hm).1 (h2 _ hm)
    rw [back_at H hp2] at j1
    have : backN pl i = j := by rw [← j2]; exact back_at H hj
    rw [this]; exact j1
end Go.Proofs.YtmlgbaogkbfklaaDoor
