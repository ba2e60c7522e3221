/- Sums of rows, and echelon forms: there is one of a kind. Plain data. -/
import Derived.Test.YtijmjliijjkcbaaMxVec
namespace Go.Proofs.Ytijmjliijjkcbaa
set_option linter.unusedVariables false

theorem Ord.nil : Ord [] := List.Pairwise.nil
theorem xorL_cancel {a b : List Int} (ha : Ord a) (hb : Ord b) : xorL a (xorL a b) = b := by rw [← xorL_assoc ha ha hb, xorL_self ha, xorL_nil_left]
theorem xorL_left_comm {a b c : List Int} (ha : Ord a) (hb : Ord b) (hc : Ord c) : xorL a (xorL b c) = xorL b (xorL a c) := by
  rw [← xorL_assoc ha hb hc, xorL_comm ha hb, xorL_assoc hb ha hc]
theorem xorL_eq_nil {a b : List Int} (ha : Ord a) (hb : Ord b) (h : xorL a b = []) : a = b := by
  have := xorL_cancel ha hb
  rw [h, xorL_nil_right] at this
  exact this

def Rows (R : List (List Int)) : Prop := ∀ r ∈ R, Ord r
/-- The sums of rows. -/
inductive Sp (R : List (List Int)) : List Int → Prop where
  | nil : Sp R []
  | add {v w : List Int} (hv : v ∈ R) (hw : Sp R w) : Sp R (xorL v w)
theorem Sp.ord {R : List (List Int)} (hR : Rows R) {v : List Int} (h : Sp R v) : Ord v := by
  induction h with
  | nil => exact .nil
  | add hv hw ih => exact xorL_ord (hR _ hv) ih
theorem Sp.mem {R : List (List Int)} {v : List Int} (h : v ∈ R) : Sp R v := by
  have := Sp.add h .nil
  rwa [xorL_nil_right] at this
theorem Sp.xor {R : List (List Int)} (hR : Rows R) {v w : List Int} (h : Sp R v) (k : Sp R w) : Sp R (xorL v w) := by
  induction h with
  | nil => rw [xorL_nil_left]; exact k
  | add hv hw ih => rw [xorL_assoc (hR _ hv) (hw.ord hR) (k.ord hR)]; exact .add hv ih
theorem Sp.trans {R R' : List (List Int)} (hR' : Rows R') (hs : ∀ r ∈ R, Sp R' r) {v : List Int} (h : Sp R v) : Sp R' v := by
  induction h with
  | nil => exact .nil
  | add hv hw ih => exact (hs _ hv).xor hR' ih
theorem Sp.mono {R R' : List (List Int)} (hs : ∀ r ∈ R, r ∈ R') {v : List Int} (h : Sp R v) : Sp R' v := by
  induction h with
  | nil => exact .nil
  | add hv hw ih => exact .add (hs _ hv) ih

def lead (r : List Int) : Int := r.headD 0
theorem lead_mem {r : List Int} (h : r ≠ []) : lead r ∈ r := by cases r with | nil => exact absurd rfl h | cons x r => simp [lead]
theorem lead_le {r : List Int} (hr : Ord r) {z : Int} (hz : z ∈ r) : lead r ≤ z := by
  cases r with
  | nil => simp at hz
  | cons x r =>
    rcases List.mem_cons.1 hz with rfl | hz
    · simp [lead]
    · have := (List.pairwise_cons.1 hr).1 z hz
      show x ≤ z
      omega

/-- An echelon form. -/
structure Rref (R : List (List Int)) : Prop where
  ord : Rows R
  ne : ∀ r ∈ R, r ≠ []
  inc : R.Pairwise fun r s => lead r < lead s
  own : ∀ r ∈ R, ∀ s ∈ R, lead r ∈ s → s = r
theorem Rref.inj {R : List (List Int)} (h : Rref R) {r s : List Int} (hr : r ∈ R) (hs : s ∈ R) (he : lead r = lead s) : r = s :=
  h.own s hs r hr (he ▸ lead_mem (h.ne r hr))

/-- The sum of the rows whose leading columns are in v. -/
def comb (R : List (List Int)) (p : List Int → Bool) : List Int := R.foldr (fun r acc => if p r then xorL r acc else acc) []
theorem comb_sp {R : List (List Int)} (p : List Int → Bool) : ∀ R', (∀ r ∈ R', r ∈ R) → Sp R (comb R' p) := by
  intro R'
  induction R' with
  | nil => intro _; exact .nil
  | cons r R' ih =>
    intro h
    have := ih fun s hs => h s (by simp [hs])
    unfold comb at this ⊢
    rw [List.foldr_cons]
    split
    · exact .add (h r (by simp)) this
    · exact this
theorem comb_congr {R : List (List Int)} {p q : List Int → Bool} (h : ∀ r ∈ R, p r = q r) : comb R p = comb R q := by
  induction R with
  | nil => rfl
  | cons r R ih =>
    have e := ih fun s hs => h s (by simp [hs])
    unfold comb at e ⊢
    rw [List.foldr_cons, List.foldr_cons, e, h r (by simp)]
theorem comb_ord {R : List (List Int)} (hR : Rows R) (p : List Int → Bool) : Ord (comb R p) := (comb_sp p R fun r h => h).ord hR
theorem comb_toggle {R : List (List Int)} (hR : Rows R) (hnd : R.Nodup) {r : List Int} (hr : r ∈ R) (p : List Int → Bool) : xorL r (comb R p) = comb R (fun s => p s ^^ decide (s = r)) := by
  induction R with
  | nil => simp at hr
  | cons s R ih =>
    have hRs : Rows R := fun x hx => hR x (by simp [hx])
    have hs := hR s (by simp)
    have hro := hR r hr
    rw [List.nodup_cons] at hnd
    have hco := comb_ord hRs p
    have e1 : ∀ q, comb (s :: R) q = if q s then xorL s (comb R q) else comb R q := fun q => rfl
    rw [e1, e1]
    by_cases hrs : r = s
    · subst hrs
      have e2 : comb R (fun t => p t ^^ decide (t = r)) = comb R p := comb_congr fun t ht => by
        have : t ≠ r := fun e => hnd.1 (e ▸ ht)
        simp [this]
      rw [e2]
      cases hp : p r with
      | true => simp only [decide_true, Bool.xor_true, Bool.not_true, ↓reduceIte, Bool.false_eq_true]; exact xorL_cancel hs hco
      | false => simp
    · have hr' : r ∈ R := by
        rcases List.mem_cons.1 hr with h | h
        · exact absurd h hrs
        · exact h
      have ih := ih hRs hnd.2 hr'
      have hsr : ¬ s = r := fun e => hrs e.symm
      simp only [hsr, decide_false, Bool.xor_false]
      cases hp : p s with
      | true => simp only [↓reduceIte]; rw [← ih, xorL_left_comm hro hs hco]
      | false => simp only [Bool.false_eq_true, ↓reduceIte]; exact ih
theorem Rref.nodup {R : List (List Int)} (h : Rref R) : R.Nodup := h.inc.imp fun hab e => by subst e; omega
/-- Each sum of rows is the sum of the rows whose leading columns it has. -/
theorem Rref.coord {R : List (List Int)} (h : Rref R) {v : List Int} (hv : Sp R v) : v = comb R (fun r => decide (lead r ∈ v)) := by
  induction hv with
  | nil =>
    have : comb R (fun r => decide (lead r ∈ [])) = comb R (fun _ => false) := comb_congr fun r _ => by simp
    rw [this]
    clear this
    induction R with
    | nil => rfl
    | cons r R ih2 => unfold comb; rw [List.foldr_cons, if_neg (by simp)]; exact ih2 ⟨fun x hx => h.ord x (by simp [hx]), fun x hx => h.ne x (by simp [hx]), (List.pairwise_cons.1 h.inc).2, fun x hx y hy => h.own x (by simp [hx]) y (by simp [hy])⟩
  | add hr hw ih =>
    rename_i r w
    have hwo := hw.ord h.ord
    have hro := h.ord r hr
    conv => lhs; rw [ih]
    rw [comb_toggle h.ord h.nodup hr]
    refine comb_congr fun s hs => ?_
    have h1 : lead s ∈ r ↔ s = r := ⟨fun hm => (h.own s hs r hr hm).symm, fun e => e ▸ lead_mem (h.ne s hs)⟩
    have hm := mem_xorL hro hwo (lead s)
    rw [h1] at hm
    by_cases a : lead s ∈ w <;> by_cases b : s = r <;> simp only [a, b, iff_self, not_true, iff_true, iff_false, not_false_iff, true_iff] at hm <;> simp [a, b, hm]
/-- The first column of a sum of rows is a leading one. -/
theorem Rref.first {R : List (List Int)} (h : Rref R) {v : List Int} (hv : Sp R v) (hn : v ≠ []) : ∃ r ∈ R, lead r = lead v := by
  have hc := h.coord hv
  suffices hs : ∀ R', (∀ r ∈ R', r ∈ R) → R'.Pairwise (fun r s => lead r < lead s) → ∀ p, comb R' p ≠ [] → ∃ r ∈ R', p r = true ∧ lead r = lead (comb R' p) by
    obtain ⟨r, hr, _, he⟩ := hs R (fun r hr => hr) h.inc _ (hc ▸ hn)
    exact ⟨r, hr, by rw [he, ← hc]⟩
  intro R'
  induction R' with
  | nil => intro _ _ p hp; exact absurd rfl hp
  | cons r R' ih =>
    intro hsub hinc p hp
    have e1 : comb (r :: R') p = if p r then xorL r (comb R' p) else comb R' p := rfl
    rw [List.pairwise_cons] at hinc
    have hR' : Rows R' := fun x hx => h.ord x (hsub x (by simp [hx]))
    have ih := ih (fun x hx => hsub x (by simp [hx])) hinc.2 p
    rw [e1] at hp ⊢
    cases hpr : p r with
    | false =>
      rw [hpr] at hp
      simp only [Bool.false_eq_true, ↓reduceIte] at hp ⊢
      obtain ⟨s, hs, h1, h2⟩ := ih hp
      exact ⟨s, by simp [hs], h1, h2⟩
    | true =>
      rw [hpr] at hp
      simp only [↓reduceIte] at hp ⊢
      refine ⟨r, by simp, hpr, ?_⟩
      have hro := h.ord r (hsub r (by simp))
      have hco := comb_ord hR' p
      have hrn := h.ne r (hsub r (by simp))
      by_cases hcn : comb R' p = []
      · rw [hcn, xorL_nil_right]
      · obtain ⟨s, hs, _, h2⟩ := ih hcn
        have hlt := hinc.1 s hs
        have hm : lead r ∈ xorL r (comb R' p) := by
          rw [mem_xorL hro hco]
          intro hiff
          have := lead_le hco (hiff.1 (lead_mem hrn))
          omega
        have hle := lead_le (xorL_ord hro hco) hm
        have hmm := lead_mem (r := xorL r (comb R' p)) (fun e => by rw [e] at hm; simp at hm)
        rcases xorL_sub _ hmm with h3 | h3
        · have := lead_le hro h3; omega
        · have := lead_le hco h3; omega
theorem comb_none {R : List (List Int)} {p : List Int → Bool} (h : ∀ r ∈ R, p r = false) : comb R p = [] := by
  rw [comb_congr (q := fun _ => false) h]
  induction R with
  | nil => rfl
  | cons r R ih => unfold comb; rw [List.foldr_cons, if_neg (by simp)]; exact ih fun r hr => by simp_all
theorem Rref.unique {R R' : List (List Int)} (h : Rref R) (h' : Rref R') (h1 : ∀ r ∈ R, Sp R' r) (h2 : ∀ r ∈ R', Sp R r) : R = R' := by
  have key : ∀ {A B : List (List Int)}, Rref A → Rref B → (∀ r ∈ A, Sp B r) → (∀ r ∈ B, Sp A r) → ∀ r ∈ A, r ∈ B := by
    intro A B hA hB hAB hBA r hr
    obtain ⟨s, hs, he⟩ := hB.first (hAB r hr) (hA.ne r hr)
    have hsp : Sp A (xorL r s) := (Sp.mem hr).xor hA.ord (hBA s hs)
    have hc := hA.coord hsp
    have hro := hA.ord r hr
    have hso := hB.ord s hs
    have hnone : comb A (fun t => decide (lead t ∈ xorL r s)) = [] := comb_none fun t ht => by
      rw [decide_eq_false_iff_not, mem_xorL hro hso, Classical.not_not]
      obtain ⟨t', ht', he'⟩ := hB.first (hAB t ht) (hA.ne t ht)
      constructor
      · intro hm
        have e := hA.own t ht r hr hm
        rw [← e, ← he]; exact lead_mem (hB.ne s hs)
      · intro hm
        have e := hB.own t' ht' s hs (he' ▸ hm)
        have : lead t = lead r := by rw [← he', ← he, e]
        rw [this]; exact lead_mem (hA.ne r hr)
    rw [hnone] at hc
    rw [xorL_eq_nil hro hso hc]
    exact hs
  have hm : ∀ r, r ∈ R ↔ r ∈ R' := fun r => ⟨key h h' h1 h2 r, key h' h h2 h1 r⟩
  have hinc := h.inc
  have hinc' := h'.inc
  clear h h' h1 h2 key
  induction R generalizing R' with
  | nil =>
    cases R' with
    | nil => rfl
    | cons y m => exact absurd ((hm y).2 (by simp)) (by simp)
  | cons x l ih =>
    cases R' with
    | nil => exact absurd ((hm x).1 (by simp)) (by simp)
    | cons y m =>
      rw [List.pairwise_cons] at hinc hinc'
      have hxy : x = y := by
        rcases List.mem_cons.1 ((hm x).1 (by simp)) with h1 | h1
        · exact h1
        · rcases List.mem_cons.1 ((hm y).2 (by simp)) with h2 | h2
          · exact h2.symm
          · have := hinc.1 y h2; have := hinc'.1 x h1; omega
      subst hxy
      rw [ih (R' := m) (fun z => ?_) hinc.2 hinc'.2]
      constructor
      · intro hz
        rcases List.mem_cons.1 ((hm z).1 (by simp [hz])) with rfl | hz'
        · have := hinc.1 z hz; omega
        · exact hz'
      · intro hz
        rcases List.mem_cons.1 ((hm z).2 (by simp [hz])) with rfl | hz'
        · have := hinc'.1 z hz; omega
        · exact hz'
end Go.Proofs.Ytijmjliijjkcbaa
