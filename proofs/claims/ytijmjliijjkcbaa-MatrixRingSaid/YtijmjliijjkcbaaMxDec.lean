/- What solutions, refutations and kernels do: plain data. -/
import Derived.Test.YtijmjliijjkcbaaMxNul
namespace Go.Proofs.Ytijmjliijjkcbaa
set_option linter.unusedVariables false

theorem Sp.even {R : List (List Int)} (p : Int → Bool) (h : ∀ r ∈ R, par p r = false) {v : List Int} (hv : Sp R v) : par p v = false := by
  induction hv with
  | nil => rfl
  | add hv hw ih => rw [par_xorL, h _ hv, ih]; rfl
/-- A parity over an ordered row of which only the first element can count. -/
theorem par_first {r : List Int} (hr : Ord r) (hne : r ≠ []) {p : Int → Bool} {v : Bool} (h1 : p (lead r) = v) (h2 : ∀ z ∈ r, z ≠ lead r → p z = false) : par p r = v := by
  cases r with
  | nil => exact absurd rfl hne
  | cons x r =>
    have ho := List.pairwise_cons.1 hr
    rw [par_cons, par_none (l := r) fun z hz => h2 z (by simp [hz]) (by have := ho.1 z hz; show z ≠ x; omega), Bool.xor_false]
    exact h1
/-- How often one number is in an ordered list. -/
theorem par_at {r : List Int} (hr : Ord r) (a : Int) : par (fun z => decide (z = a)) r = memB r a := by
  have := oddV_comm hr (List.pairwise_singleton (· < ·) a)
  have e : oddV r [a] = par (fun z => decide (z = a)) r := par_congr fun x _ => by simp [memB]
  rw [← e, this]
  unfold oddV
  rw [par_cons, par_nil, Bool.xor_false]

theorem memB_image {R : List (List Int)} {x : List Int} {z : Int} (h : 0 ≤ z ∧ z < R.length) : memB (imageV R x) z = oddV (nthL R z.toNat) x := by
  rw [Bool.eq_iff_iff, memB_iff]
  unfold imageV
  rw [mem_numsTo]
  exact ⟨fun h => h.2.2, fun k => ⟨h.1, h.2, k⟩⟩
theorem image_inR (R : List (List Int)) (x : List Int) : InR R.length (imageV R x) := ⟨numsTo_ord _ _, fun z hz => by have := mem_numsTo.1 hz; omega⟩
theorem image_ext {R : List (List Int)} {x b : List Int} (hb : InR R.length b) (h : ∀ j, j < R.length → oddV (nthL R j) x = memB b (j : Int)) : imageV R x = b := by
  refine ord_extB (image_inR R x).1 hb.1 fun z => ?_
  by_cases hz : 0 ≤ z ∧ z < R.length
  · rw [memB_image hz, h z.toNat (by omega), show ((z.toNat : Nat) : Int) = z by omega]
  · have h1 : memB (imageV R x) z = false := by
      simp only [memB, decide_eq_false_iff_not]
      exact fun hm => hz ((image_inR R x).2 z hm)
    have h2 : memB b z = false := by
      simp only [memB, decide_eq_false_iff_not]
      exact fun hm => hz (hb.2 z hm)
    rw [h1, h2]
/-- Rows with an empty sum have nothing odd in common with an image. -/
theorem dep_even {R : List (List Int)} {d : List Int} (hd : ∀ x ∈ d, 0 ≤ x ∧ x < R.length) (hs : sumRows R d = []) (x : List Int) : oddV d (imageV R x) = false := by
  have h1 : oddV d (imageV R x) = par (fun k => oddV (nthL R k.toNat) x) d := par_congr fun k hk => memB_image (hd k hk)
  have h2 : par (memB x) (sumRows R d) = par (fun k => oddV (nthL R k.toNat) x) d := par_sumRows _ _ _
  rw [h1, ← h2, hs]
  rfl
theorem image_xor {R : List (List Int)} {x y : List Int} (hx : Ord x) (hy : Ord y) : imageV R (xorL x y) = xorL (imageV R x) (imageV R y) := by
  refine image_ext ((image_inR R x).xor (image_inR R y)) fun j hj => ?_
  rw [oddV_xor_right hx hy, memB_xorL (image_inR R x).1 (image_inR R y).1, memB_image ⟨by omega, by omega⟩, memB_image ⟨by omega, by omega⟩]
  simp

theorem vecE_inR {n : Nat} {b : List Int} : vecE (n : Int) b = 0 ↔ InR n b := vecE_zero
theorem MOk.vecC {m : Mx} (h : MOk m) {x : List Int} : vecE m.cols x = 0 ↔ InR m.cols.toNat x := by rw [← h.cast, vecE_inR, Int.toNat_natCast]

/-! the solution -/
theorem solD_none {m : Mx} {b : List Int} (h : solD m b = none) : ∀ d ∈ depsE m, oddV d b = false := by
  unfold solD at h
  rw [List.find?_eq_none] at h
  intro d hd
  have := h d hd
  cases hq : oddV d b with
  | false => rfl
  | true => exact absurd hq this
theorem solD_some {m : Mx} {b d : List Int} (h : solD m b = some d) : d ∈ depsE m ∧ oddV d b = true := by
  unfold solD at h
  exact ⟨List.mem_of_find?_eq_some h, by have := List.find?_some h; simpa using this⟩
theorem lines_lead_inj {m : Mx} (h : MOk m) {l k : Ln} (hl : l ∈ linesE m) (hk : k ∈ linesE m) (e : lead l.1 = lead k.1) : l = k := by
  obtain ⟨z, h1, h2, _⟩ := h.lines hl
  obtain ⟨y, h3, h4, _⟩ := h.lines hk
  have : z = y := by omega
  subst this
  rw [h1] at h3
  exact Option.some.inj h3
theorem mem_solX {m : Mx} {b : List Int} {z : Int} : z ∈ solX m b ↔ ∃ l ∈ linesE m, oddV l.2 b = true ∧ lead l.1 = z := by
  unfold solX
  rw [List.mem_map]
  constructor
  · rintro ⟨l, hl, e⟩
    rw [List.mem_filter] at hl
    exact ⟨l, hl.1, hl.2, e⟩
  · rintro ⟨l, hl, ho, e⟩
    exact ⟨l, List.mem_filter.2 ⟨hl, ho⟩, e⟩
theorem solX_inR {m : Mx} (h : MOk m) (b : List Int) : InR m.cols.toNat (solX m b) := by
  refine ⟨?_, fun z hz => ?_⟩
  · unfold Ord solX
    rw [List.pairwise_map]
    exact List.Pairwise.filter _ (outTo_inc h.inv.gm m.cols.toNat)
  · obtain ⟨l, hl, _, rfl⟩ := mem_solX.1 hz
    obtain ⟨_, _, _, hne, hg, _⟩ := h.lines hl
    have := hg.r1 _ (lead_mem hne)
    have := h.c0
    omega
theorem memB_solX {m : Mx} (h : MOk m) {b : List Int} {l : Ln} (hl : l ∈ linesE m) : memB (solX m b) (lead l.1) = oddV l.2 b := by
  rw [Bool.eq_iff_iff, memB_iff, mem_solX]
  constructor
  · rintro ⟨k, hk, ho, e⟩
    rwa [lines_lead_inj h hk hl e] at ho
  · exact fun ho => ⟨l, hl, ho, rfl⟩
theorem odd_solX {m : Mx} (h : MOk m) {b : List Int} {l : Ln} (hl : l ∈ linesE m) : oddV l.1 (solX m b) = oddV l.2 b := by
  obtain ⟨_, _, _, hne, hg, _⟩ := h.lines hl
  refine par_first hg.o1 hne (memB_solX h hl) fun z hz hzl => ?_
  simp only [memB, decide_eq_false_iff_not]
  intro hm
  obtain ⟨k, hk, _, rfl⟩ := mem_solX.1 hm
  have h1 : k.1 ∈ rowsE m := List.mem_map.2 ⟨k, hk, rfl⟩
  have h2 : l.1 ∈ rowsE m := List.mem_map.2 ⟨l, hl, rfl⟩
  have := (rowsE_rref h).own _ h1 _ h2 hz
  exact hzl (by rw [this])
theorem sol_image {m : Mx} (h : MOk m) {b : List Int} (hb : InR m.rows.length b) (hd : ∀ d ∈ depsE m, oddV d b = false) : imageV m.rows (solX m b) = b := by
  refine image_ext hb fun j hj => ?_
  have key : ∀ {l : Ln}, GL m.cols m.rows.length l → par (fun z => if z = m.cols then true else memB (solX m b) z) (tagL m.cols b l) = (oddV l.1 (solX m b) ^^ oddV l.2 b) := by
    intro l hg
    unfold tagL
    rw [par_append]
    congr 1
    · exact par_congr fun z hz => by
        have := hg.r1 z hz
        rw [if_neg (by omega)]
    · cases oddV l.2 b <;> simp [par]
  have h1 : par (fun z => if z = m.cols then true else memB (solX m b) z) (tagL m.cols b (nthL m.rows j, [(j : Int)])) = false := by
    refine Sp.even _ (fun r hr => ?_) (tag_sp1 h hd _ (List.mem_map.2 ⟨j, List.mem_range.2 hj, rfl⟩))
    obtain ⟨l, hl, rfl⟩ := List.mem_map.1 hr
    obtain ⟨_, _, _, _, hg, _⟩ := h.lines hl
    rw [key hg, odd_solX h hl, Bool.xor_self]
  rw [key (h.gl1 hj)] at h1
  have e2 : oddV [(j : Int)] b = memB b (j : Int) := by unfold oddV; rw [par_cons, par_nil, Bool.xor_false]
  rw [e2] at h1
  dsimp only at h1
  revert h1
  cases oddV (nthL m.rows j) (solX m b) <;> cases memB b (j : Int) <;> simp
theorem solD_image {m : Mx} (h : MOk m) (x : List Int) : solD m (imageV m.rows x) = none := by
  cases hs : solD m (imageV m.rows x) with
  | none => rfl
  | some d =>
    obtain ⟨h1, h2⟩ := solD_some hs
    obtain ⟨hr, _, hs'⟩ := h.inv.dep d h1
    rw [dep_even hr.2 hs' x] at h2
    cases h2
/-- A refutation. -/
theorem solD_ver {m : Mx} (h : MOk m) {b d : List Int} (hb : InR m.rows.length b) (hs : solD m b = some d) : verS m b d = 0 := by
  obtain ⟨h1, h2⟩ := solD_some hs
  obtain ⟨hr, _, hs'⟩ := h.inv.dep d h1
  exact verS_yes (checkM_zero.2 h) (vecE_inR.2 hb) (vecE_inR.2 hr) (by rw [hs', h2]; simp)
/-- No refutation is accepted for an image. -/
theorem ver_image {m : Mx} (h : MOk m) (x y : List Int) : verS m (imageV m.rows x) y ≠ 0 := by
  intro hv
  have hc := checkM_zero.2 h
  have hb := vecE_inR.2 (image_inR m.rows x)
  by_cases hy : vecE m.rows.length y = 0
  · by_cases h4 : (sumRows m.rows y).length ≠ 0 ∨ oddV y (imageV m.rows x) = false
    · rw [verS_no hc hb hy h4] at hv; cases hv
    · have h5 : sumRows m.rows y = [] := List.length_eq_zero_iff.1 (Classical.not_not.1 fun e => h4 (.inl e))
      exact h4 (.inr (dep_even (vecE_inR.1 hy).2 h5 x))
  · rw [verS_y hc hb hy] at hv; exact hy hv

/-! the kernel -/
theorem kerAcc_nodup {E : List (List Int)} (hE : Rref E) {c : Int} (hc : leadsB E c = false) : (kerAcc E c).Nodup := by
  have := (nullTo_spec hE hc E.length (Nat.le_refl _)).2.1
  rwa [List.take_length] at this
theorem ker_ord {E : List (List Int)} (hE : Rref E) {c : Int} (hc : leadsB E c = false) : Ord (sortL (kerAcc E c)) := sortL_ord (kerAcc_nodup hE hc)
theorem mem_ker {E : List (List Int)} {c z : Int} : z ∈ sortL (kerAcc E c) ↔ z = c ∨ ∃ r ∈ E, c ∈ r ∧ lead r = z := by
  rw [(sortL_perm _).mem_iff]
  unfold kerAcc
  rw [List.mem_cons, List.mem_map]
  refine or_congr Iff.rfl ⟨?_, ?_⟩
  · rintro ⟨r, hr, e⟩
    rw [List.mem_filter, memB_iff] at hr
    exact ⟨r, hr.1, hr.2, e⟩
  · rintro ⟨r, hr, hc, e⟩
    exact ⟨r, by rw [List.mem_filter, memB_iff]; exact ⟨hr, hc⟩, e⟩
theorem leadsB_iff {E : List (List Int)} {c : Int} : leadsB E c = true ↔ ∃ r ∈ E, lead r = c := by simp [leadsB]
theorem leadsB_not {E : List (List Int)} {c : Int} : leadsB E c = false ↔ ∀ r ∈ E, lead r ≠ c := by simp [leadsB]
theorem ker_even {E : List (List Int)} (hE : Rref E) {c : Int} (hc : leadsB E c = false) {r : List Int} (hr : r ∈ E) : oddV r (sortL (kerAcc E c)) = false := by
  have hcl := leadsB_not.1 hc
  have key : ∀ z ∈ r, memB (sortL (kerAcc E c)) z = ((memB r c && decide (z = lead r)) ^^ decide (z = c)) := by
    intro z hz
    rw [Bool.eq_iff_iff, memB_iff, mem_ker]
    by_cases h1 : z = c
    · subst h1
      have : z ≠ lead r := fun e => hcl r hr e.symm
      simp [this]
    · simp only [h1, false_or, decide_false, Bool.xor_false, Bool.and_eq_true, decide_eq_true_eq, memB_iff]
      constructor
      · rintro ⟨s, hs, hcs, e⟩
        have := hE.own s hs r hr (e ▸ hz)
        subst this
        exact ⟨hcs, e.symm⟩
      · rintro ⟨h2, h3⟩
        exact ⟨r, hr, h2, h3.symm⟩
  have ho := hE.ord r hr
  unfold oddV
  rw [par_congr key, par_xor, par_at ho]
  cases hm : memB r c with
  | false =>
    rw [par_none fun z _ => by simp]
    rfl
  | true =>
    have e : par (fun z => true && decide (z = lead r)) r = par (fun z => decide (z = lead r)) r := par_congr fun z _ => by simp
    rw [e, par_at ho]
    have : memB r (lead r) = true := memB_iff.2 (lead_mem (hE.ne r hr))
    rw [this]
    rfl
/-- The rows of the kernel are mapped to nothing. -/
theorem image_nil {R : List (List Int)} {x : List Int} (h : ∀ r ∈ R, oddV r x = false) : imageV R x = [] := by
  refine image_ext (.nil _) fun j hj => ?_
  rw [h _ (nthL_mem hj)]
  rfl
theorem image_nil_iff {R : List (List Int)} {x : List Int} : imageV R x = [] ↔ ∀ r ∈ R, oddV r x = false := by
  refine ⟨fun h r hr => ?_, image_nil⟩
  obtain ⟨j, hj, rfl⟩ := List.getElem_of_mem hr
  have := memB_image (R := R) (x := x) (z := (j : Int)) ⟨by omega, by omega⟩
  rw [h, Int.toNat_natCast, nthL_eq hj] at this
  exact this.symm
theorem ker_image {m : Mx} (h : MOk m) {c : Int} (hc : leadsB (rowsE m) c = false) : imageV m.rows (sortL (kerAcc (rowsE m) c)) = [] :=
  image_nil fun r hr => Sp.even _ (fun s hs => ker_even (rowsE_rref h) hc hs) (rowsE_sp1 h r hr)
/-- The columns that do not lead. -/
def freeC (E : List (List Int)) (n : Nat) : List Nat := (List.range n).filter fun (c : Nat) => !leadsB E (c : Int)
theorem kerTo_free (E : List (List Int)) (n : Nat) : kerTo E n = (freeC E n).map fun (c : Nat) => sortL (kerAcc E (c : Int)) := rfl
theorem mem_freeC {E : List (List Int)} {n c : Nat} : c ∈ freeC E n ↔ c < n ∧ leadsB E (c : Int) = false := by
  unfold freeC
  rw [List.mem_filter, List.mem_range]
  simp
theorem freeC_inc (E : List (List Int)) (n : Nat) : (freeC E n).Pairwise (· < ·) := List.Pairwise.filter _ List.pairwise_lt_range
theorem mem_kerTo {E : List (List Int)} {n : Nat} {x : List Int} : x ∈ kerTo E n ↔ ∃ c : Nat, c < n ∧ leadsB E (c : Int) = false ∧ x = sortL (kerAcc E (c : Int)) := by
  rw [kerTo_free, List.mem_map]
  constructor
  · rintro ⟨c, hc, rfl⟩
    exact ⟨c, (mem_freeC.1 hc).1, (mem_freeC.1 hc).2, rfl⟩
  · rintro ⟨c, h1, h2, rfl⟩
    exact ⟨c, mem_freeC.2 ⟨h1, h2⟩, rfl⟩
theorem ker_inR {m : Mx} (h : MOk m) {c : Nat} (hc : c < m.cols.toNat) (hl : leadsB (rowsE m) (c : Int) = false) : InR m.cols.toNat (sortL (kerAcc (rowsE m) (c : Int))) := by
  refine ⟨ker_ord (rowsE_rref h) hl, fun z hz => ?_⟩
  have h0 := h.c0
  have := kerAcc_wf h.kok (by have := h.c1; omega) (x := (c : Int)) (by omega) z ((sortL_perm _).mem_iff.1 hz)
  omega
theorem ker_ok {m : Mx} (h : MOk m) : MOk ⟨m.cols, kerTo (rowsE m) m.cols.toNat⟩ := by
  have hl := kerTo_length (rowsE m) m.cols.toNat
  have hc1 := h.c1
  have hc0 := h.c0
  refine checkM_zero.1 (checkM_ok ⟨hc0, hc1⟩ (by dsimp only; omega) (fun r hr => ?_) (fun r hr => ?_))
  · obtain ⟨c, h1, h2, rfl⟩ := mem_kerTo.1 hr
    exact (ker_inR h h1 h2).1
  · obtain ⟨c, h1, h2, rfl⟩ := mem_kerTo.1 hr
    intro z hz
    have := (ker_inR h h1 h2).2 z hz
    dsimp only
    omega
/-- How many columns lead. -/
theorem rowsE_count {m : Mx} (h : MOk m) : (rowsE m).length = (List.range m.cols.toNat).countP fun (c : Nat) => leadsB (rowsE m) (c : Int) := by
  unfold rowsE
  rw [List.length_map]
  unfold linesE
  rw [outTo_length]
  refine List.countP_congr fun c hc => ?_
  have hc := List.mem_range.1 hc
  show _ ↔ leadsB ((linesE m).map (·.1)) (c : Int) = true
  rw [leadsB_iff]
  constructor
  · intro hs
    obtain ⟨l, hl⟩ := Option.isSome_iff_exists.1 hs
    have hm : l ∈ linesE m := mem_outTo.2 ⟨c, hc, hl⟩
    exact ⟨l.1, List.mem_map.2 ⟨l, hm, rfl⟩, h.inv.gm.ld _ _ hl⟩
  · rintro ⟨r, hr, e⟩
    obtain ⟨l, hl, rfl⟩ := List.mem_map.1 hr
    obtain ⟨z, h1, h2, _⟩ := h.lines hl
    have : z = c := by omega
    subst this
    rw [h1]
    rfl
theorem countP_not (p : Nat → Bool) (l : List Nat) : l.countP p + (l.filter fun x => !p x).length = l.length := by
  induction l with
  | nil => rfl
  | cons x l ih => cases h : p x <;> simp [h] <;> omega
theorem rank_ker {m : Mx} (h : MOk m) : ((rowsE m).length : Int) + (kerTo (rowsE m) m.cols.toNat).length = m.cols := by
  have := rowsE_count h
  have h2 := countP_not (fun (c : Nat) => leadsB (rowsE m) (c : Int)) (List.range m.cols.toNat)
  rw [List.length_range] at h2
  have h3 : (kerTo (rowsE m) m.cols.toNat).length = ((List.range m.cols.toNat).filter fun (c : Nat) => !leadsB (rowsE m) (c : Int)).length := by rw [kerTo_free, List.length_map]; rfl
  have := h.c0
  omega
/-- A free column is in its own row of the kernel alone. -/
theorem ker_own {E : List (List Int)} {c d : Int} (hc : leadsB E c = false) : memB (sortL (kerAcc E d)) c = decide (c = d) := by
  rw [Bool.eq_iff_iff, memB_iff, mem_ker, decide_eq_true_eq]
  refine ⟨fun h => ?_, .inl⟩
  rcases h with h | ⟨r, hr, _, e⟩
  · exact h
  · exact absurd e (leadsB_not.1 hc r hr)
theorem nthL_ker {E : List (List Int)} {n j : Nat} (hj : j < (freeC E n).length) : nthL (kerTo E n) j = sortL (kerAcc E (((freeC E n)[j] : Nat) : Int)) := by
  rw [nthL_eq (by rw [kerTo_free, List.length_map]; exact hj)]
  simp [kerTo_free]
theorem ker_sum {E : List (List Int)} {n : Nat} (hK : Rows (kerTo E n)) {d : List Int} (hd : InR (kerTo E n).length d) {j : Nat} (hj : j < (freeC E n).length) : memB (sumRows (kerTo E n) d) (((freeC E n)[j] : Nat) : Int) = memB d (j : Int) := by
  have hlen : (kerTo E n).length = (freeC E n).length := by rw [kerTo_free, List.length_map]
  rw [memB_sumRows hK, ← par_at hd.1]
  refine par_congr fun k hk => ?_
  have hkr := hd.2 k hk
  rw [hlen] at hkr
  have hkn : k.toNat < (freeC E n).length := by omega
  rw [nthL_ker hkn, ker_own (mem_freeC.1 (List.getElem_mem hj)).2]
  congr 1
  refine propext ⟨fun h => ?_, fun h => ?_⟩
  · have hi := List.pairwise_iff_getElem.1 (freeC_inc E n)
    rcases Nat.lt_trichotomy k.toNat j with h1 | h1 | h1
    · have := hi _ _ hkn hj h1; omega
    · omega
    · have := hi _ _ hj hkn h1; omega
  · have : k.toNat = j := by omega
    simp [this]
theorem ker_deps {m : Mx} (h : MOk m) : depsE ⟨m.cols, kerTo (rowsE m) m.cols.toNat⟩ = [] := by
  have hk := ker_ok h
  cases hd : depsE ⟨m.cols, kerTo (rowsE m) m.cols.toNat⟩ with
  | nil => rfl
  | cons d D =>
    obtain ⟨h1, h2, h3⟩ := hk.inv.dep d (show d ∈ depsE _ by rw [hd]; simp)
    dsimp only at h1 h3
    cases d with
    | nil => exact absurd rfl h2
    | cons k d =>
      have hkr := h1.2 k (by simp)
      have hlen : (kerTo (rowsE m) m.cols.toNat).length = (freeC (rowsE m) m.cols.toNat).length := by rw [kerTo_free, List.length_map]
      have := ker_sum hk.ord h1 (j := k.toNat) (by omega)
      rw [h3, show ((k.toNat : Nat) : Int) = k by omega] at this
      simp [memB] at this
theorem ker_rank {m : Mx} (h : MOk m) : (rowsE ⟨m.cols, kerTo (rowsE m) m.cols.toNat⟩).length = (kerTo (rowsE m) m.cols.toNat).length := by
  have hk := ker_ok h
  have := hk.inv.cnt
  dsimp only at this
  have hd := ker_deps h
  unfold depsE at hd
  dsimp only at hd
  rw [hd] at this
  have e : ∀ k : Mx, (rowsE k).length = (outTo (echTo k.rows k.rows.length).1 k.cols.toNat).length := fun k => by unfold rowsE linesE; rw [List.length_map]
  rw [e]
  simpa using this
/-- What is mapped to nothing is a sum of rows of the kernel. -/
theorem ker_span {m : Mx} (h : MOk m) {x : List Int} (hx : InR m.cols.toNat x) (h0 : imageV m.rows x = []) : ∃ d, InR (kerTo (rowsE m) m.cols.toNat).length d ∧ sumRows (kerTo (rowsE m) m.cols.toNat) d = x := by
  have hk := ker_ok h
  have hE := rowsE_rref h
  have hlen : (kerTo (rowsE m) m.cols.toNat).length = (freeC (rowsE m) m.cols.toNat).length := by rw [kerTo_free, List.length_map]
  have hdr : InR (kerTo (rowsE m) m.cols.toNat).length (numsTo (fun j => memB x (((freeC (rowsE m) m.cols.toNat).getD j 0 : Nat) : Int)) (kerTo (rowsE m) m.cols.toNat).length) := ⟨numsTo_ord _ _, fun z hz => by have := mem_numsTo.1 hz; omega⟩
  refine ⟨_, hdr, ?_⟩
  obtain ⟨d, hdd⟩ : ∃ d, d = numsTo (fun j => memB x (((freeC (rowsE m) m.cols.toNat).getD j 0 : Nat) : Int)) (kerTo (rowsE m) m.cols.toNat).length := ⟨_, rfl⟩
  rw [← hdd] at hdr ⊢
  have hso := sumRows_ord hk.ord d
  dsimp only at hso
  have hv0 : xorL (sumRows (kerTo (rowsE m) m.cols.toNat) d) x = [] := by
    have hev : ∀ r ∈ rowsE m, oddV r (xorL (sumRows (kerTo (rowsE m) m.cols.toNat) d) x) = false := by
      intro r hr
      rw [oddV_xor_right hso hx.1]
      have h1 : oddV r x = false := Sp.even _ (fun s hs => image_nil_iff.1 h0 s hs) (rowsE_sp2 h r hr)
      have h2 : oddV r (sumRows (kerTo (rowsE m) m.cols.toNat) d) = false := by
        rw [oddV_comm (hE.ord r hr) hso]
        refine Sp.even _ (fun s hs => ?_) (sumRows_sp hk.ord d)
        obtain ⟨c, h3, h4, rfl⟩ := mem_kerTo.1 hs
        show oddV _ r = false
        rw [← oddV_comm (hE.ord r hr) (ker_ord hE h4)]
        exact ker_even hE h4 hr
      rw [h1, h2]; rfl
    have hfree : ∀ z ∈ xorL (sumRows (kerTo (rowsE m) m.cols.toNat) d) x, leadsB (rowsE m) z = true := by
      intro z hz
      cases hq : leadsB (rowsE m) z with
      | true => rfl
      | false =>
        exfalso
        have hzr : 0 ≤ z ∧ z < (m.cols.toNat : Int) := by
          rcases xorL_sub z hz with h1 | h1
          · have := sumRows_rng hk.rok d z h1
            dsimp only at this
            have := h.cast
            omega
          · exact hx.2 z h1
        have hmf : z.toNat ∈ freeC (rowsE m) m.cols.toNat := mem_freeC.2 ⟨by omega, by rw [show ((z.toNat : Nat) : Int) = z by omega]; exact hq⟩
        obtain ⟨j, hj, e⟩ := List.getElem_of_mem hmf
        have h1 := ker_sum hk.ord hdr hj
        have h2 : memB d (j : Int) = memB x z := by
          rw [Bool.eq_iff_iff, memB_iff, hdd, mem_numsTo]
          rw [Int.toNat_natCast, List.getD_eq_getElem?_getD, List.getElem?_eq_getElem hj, Option.getD_some, e, show ((z.toNat : Nat) : Int) = z by omega]
          exact ⟨fun h => h.2.2, fun h => ⟨by omega, by omega, h⟩⟩
        rw [e, show ((z.toNat : Nat) : Int) = z by omega, h2] at h1
        have h3 := memB_xorL hso hx.1 z
        rw [memB_iff.2 hz, h1, Bool.xor_self] at h3
        cases h3
    cases hv : xorL (sumRows (kerTo (rowsE m) m.cols.toNat) d) x with
    | nil => rfl
    | cons z v =>
      exfalso
      rw [hv] at hev hfree
      have hvo : Ord (z :: v) := hv ▸ xorL_ord hso hx.1
      obtain ⟨r, hr, hrl⟩ := leadsB_iff.1 (hfree z (by simp))
      have h1 := hev r hr
      have h2 : oddV r (z :: v) = true := by
        refine par_first (hE.ord r hr) (hE.ne r hr) (by rw [hrl]; simp [memB]) fun y hy hyl => ?_
        simp only [memB, decide_eq_false_iff_not]
        intro hm
        obtain ⟨s, hs, hsl⟩ := leadsB_iff.1 (hfree y hm)
        have := hE.own s hs r hr (hsl ▸ hy)
        subst this
        exact hyl hsl.symm
      rw [h2] at h1
      cases h1
  exact xorL_eq_nil hso hx.1 hv0
end Go.Proofs.Ytijmjliijjkcbaa
