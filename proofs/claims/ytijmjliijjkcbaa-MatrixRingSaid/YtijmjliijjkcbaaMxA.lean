/- Vectors over the field of two elements as ordered lists of positions: plain data. Sums of rows, and echelon forms: there is one of a kind. Plain data. Errors of vectors and matrices: plain data. Parity, and sums of rows by number: plain data. -/
import Derived.Test.YtijmjliijjkcbaaBase
import Derived.Test.YtijmjliijjkcbaaLists
/- Vectors over the field of two elements as ordered lists of positions: plain data. -/
namespace Go.Proofs.Ytijmjliijjkcbaa
set_option linter.unusedVariables false

/-- The sum of two vectors: what is in just one of them. -/
def xorL : List Int → List Int → List Int
  | [], b => b
  | x :: a, [] => x :: a
  | x :: a, y :: b => if x < y then x :: xorL a (y :: b) else if y < x then y :: xorL (x :: a) b else xorL a b
termination_by a b => a.length + b.length

def Ord (l : List Int) : Prop := l.Pairwise (· < ·)

theorem xorL_nil_left (b : List Int) : xorL [] b = b := by rw [xorL]
theorem xorL_nil_right (a : List Int) : xorL a [] = a := by cases a <;> rw [xorL]
theorem xorL_cons (x y : Int) (a b : List Int) : xorL (x :: a) (y :: b) = if x < y then x :: xorL a (y :: b) else if y < x then y :: xorL (x :: a) b else xorL a b := by rw [xorL]

theorem xorL_sub {a b : List Int} : ∀ z, z ∈ xorL a b → z ∈ a ∨ z ∈ b := by
  induction a, b using xorL.induct with
  | case1 b => intro z hz; rw [xorL_nil_left] at hz; exact .inr hz
  | case2 x a => intro z hz; rw [xorL_nil_right] at hz; exact .inl hz
  | case3 x a y b h ih =>
    intro z hz
    rw [xorL_cons, if_pos h] at hz
    rcases List.mem_cons.1 hz with rfl | hz
    · exact .inl (by simp)
    · rcases ih z hz with h | h
      · exact .inl (by simp [h])
      · exact .inr h
  | case4 x a y b h h2 ih =>
    intro z hz
    rw [xorL_cons, if_neg h, if_pos h2] at hz
    rcases List.mem_cons.1 hz with rfl | hz
    · exact .inr (by simp)
    · rcases ih z hz with h | h
      · exact .inl h
      · exact .inr (by simp [h])
  | case5 x a y b h h2 ih =>
    intro z hz
    rw [xorL_cons, if_neg h, if_neg h2] at hz
    rcases ih z hz with h | h
    · exact .inl (by simp [h])
    · exact .inr (by simp [h])

theorem xorL_ord {a b : List Int} (ha : Ord a) (hb : Ord b) : Ord (xorL a b) := by
  unfold Ord at *
  induction a, b using xorL.induct with
  | case1 b => rw [xorL_nil_left]; exact hb
  | case2 x a => rw [xorL_nil_right]; exact ha
  | case3 x a y b h ih =>
    rw [xorL_cons, if_pos h]
    rw [List.pairwise_cons] at ha
    refine List.pairwise_cons.2 ⟨fun z hz => ?_, ih ha.2 hb⟩
    rcases xorL_sub z hz with hz | hz
    · exact ha.1 z hz
    · rw [List.pairwise_cons] at hb
      rcases List.mem_cons.1 hz with rfl | hz
      · exact h
      · have := hb.1 z hz; omega
  | case4 x a y b h h2 ih =>
    rw [xorL_cons, if_neg h, if_pos h2]
    rw [List.pairwise_cons] at hb
    refine List.pairwise_cons.2 ⟨fun z hz => ?_, ih ha hb.2⟩
    rcases xorL_sub z hz with hz | hz
    · rw [List.pairwise_cons] at ha
      rcases List.mem_cons.1 hz with rfl | hz
      · exact h2
      · have := ha.1 z hz; omega
    · exact hb.1 z hz
  | case5 x a y b h h2 ih =>
    rw [xorL_cons, if_neg h, if_neg h2]
    rw [List.pairwise_cons] at ha hb
    exact ih ha.2 hb.2

theorem mem_xorL {a b : List Int} (ha : Ord a) (hb : Ord b) (z : Int) : z ∈ xorL a b ↔ ¬ (z ∈ a ↔ z ∈ b) := by
  unfold Ord at *
  induction a, b using xorL.induct with
  | case1 b => rw [xorL_nil_left]; simp
  | case2 x a =>
    rw [xorL_nil_right]
    by_cases h : z ∈ x :: a
    · simp only [h, List.not_mem_nil]; simp
    · simp only [h, List.not_mem_nil]; simp
  | case3 x a y b h ih =>
    rw [xorL_cons, if_pos h]
    have ha' := List.pairwise_cons.1 ha
    have hb' := List.pairwise_cons.1 hb
    have ih := ih ha'.2 hb
    have hy : ∀ w, w ∈ y :: b → y ≤ w := fun w hw => by
      rcases List.mem_cons.1 hw with rfl | hw
      · omega
      · have := hb'.1 w hw; omega
    by_cases hz : z = x
    · subst hz
      have h1 : z ∉ y :: b := fun hm => by have := hy z hm; omega
      simp [h1]
    · rw [List.mem_cons, List.mem_cons (a := z) (b := x), ih]
      simp only [hz, false_or]
  | case4 x a y b h h2 ih =>
    rw [xorL_cons, if_neg h, if_pos h2]
    have ha' := List.pairwise_cons.1 ha
    have hb' := List.pairwise_cons.1 hb
    have ih := ih ha hb'.2
    have hx : ∀ w, w ∈ x :: a → x ≤ w := fun w hw => by
      rcases List.mem_cons.1 hw with rfl | hw
      · omega
      · have := ha'.1 w hw; omega
    by_cases hz : z = y
    · subst hz
      have h1 : z ∉ x :: a := fun hm => by have := hx z hm; omega
      simp [h1]
    · rw [List.mem_cons, List.mem_cons (a := z) (b := y), ih]
      simp only [hz, false_or]
  | case5 x a y b h h2 ih =>
    rw [xorL_cons, if_neg h, if_neg h2]
    have ha' := List.pairwise_cons.1 ha
    have hb' := List.pairwise_cons.1 hb
    obtain rfl : x = y := by omega
    rw [ih ha'.2 hb'.2, List.mem_cons, List.mem_cons]
    by_cases hz : z = x
    · subst hz
      have h1 : z ∉ a := fun hm => by have := ha'.1 z hm; omega
      have h2 : z ∉ b := fun hm => by have := hb'.1 z hm; omega
      simp [h1, h2]
    · simp [hz]

/-- Of ordered lists with the same elements there is one. -/
theorem ord_ext {l m : List Int} (hl : Ord l) (hm : Ord m) (h : ∀ x, x ∈ l ↔ x ∈ m) : l = m := by
  unfold Ord at *
  induction l generalizing m with
  | nil =>
    cases m with
    | nil => rfl
    | cons y m => exact absurd ((h y).2 (by simp)) (by simp)
  | cons x l ih =>
    cases m with
    | nil => exact absurd ((h x).1 (by simp)) (by simp)
    | cons y m =>
      rw [List.pairwise_cons] at hl hm
      have hxy : x = y := by
        have h1 := (h x).1 (by simp)
        have h2 := (h y).2 (by simp)
        rcases List.mem_cons.1 h1 with h1 | h1
        · exact h1
        · rcases List.mem_cons.1 h2 with h2 | h2
          · exact h2.symm
          · have := hl.1 y h2; have := hm.1 x h1; omega
      subst hxy
      rw [ih hl.2 hm.2]
      intro z
      constructor
      · intro hz
        rcases List.mem_cons.1 ((h z).1 (by simp [hz])) with rfl | hz'
        · have := hl.1 z hz; omega
        · exact hz'
      · intro hz
        rcases List.mem_cons.1 ((h z).2 (by simp [hz])) with rfl | hz'
        · have := hm.1 z hz; omega
        · exact hz'
theorem xorL_comm {a b : List Int} (ha : Ord a) (hb : Ord b) : xorL a b = xorL b a :=
  ord_ext (xorL_ord ha hb) (xorL_ord hb ha) fun z => by rw [mem_xorL ha hb, mem_xorL hb ha]; exact not_congr Iff.comm
theorem xorL_self {a : List Int} (ha : Ord a) : xorL a a = [] :=
  ord_ext (xorL_ord ha ha) .nil fun z => by rw [mem_xorL ha ha]; simp
theorem xorL_assoc {a b c : List Int} (ha : Ord a) (hb : Ord b) (hc : Ord c) : xorL (xorL a b) c = xorL a (xorL b c) :=
  ord_ext (xorL_ord (xorL_ord ha hb) hc) (xorL_ord ha (xorL_ord hb hc)) fun z => by
    rw [mem_xorL (xorL_ord ha hb) hc, mem_xorL ha hb, mem_xorL ha (xorL_ord hb hc), mem_xorL hb hc]
    by_cases h1 : z ∈ a <;> by_cases h2 : z ∈ b <;> by_cases h3 : z ∈ c <;> simp [h1, h2, h3]
end Go.Proofs.Ytijmjliijjkcbaa
/- Sums of rows, and echelon forms: there is one of a kind. Plain data. -/
namespace Go.Proofs.Ytijmjliijjkcbaa
set_option linter.unusedVariables false

theorem Ord.nil : Ord [] := List.Pairwise.nil
theorem xorL_cancel {a b : List Int} (ha : Ord a) (hb : Ord b) : xorL a (xorL a b) = b := by rw [← xorL_assoc ha ha hb, xorL_self ha, xorL_nil_left]
theorem xorL_left_comm {a b c : List Int} (ha : Ord a) (hb : Ord b) (hc : Ord c) : xorL a (xorL b c) = xorL b (xorL a c) := by
  rw [← xorL_assoc ha hb hc, xorL_comm ha hb, xorL_assoc hb ha hc]
theorem xorL_eq_nil {a b : List Int} (ha : Ord a) (hb : Ord b) (h : xorL a b = []) : a = b := by
  have := xorL_cancel ha hb
  rw [h, xorL_nil_right] at this
  exact this

def Rows (R : List (List Int)) : Prop := ∀ r ∈ R, Ord r
/-- The sums of rows. -/
inductive Sp (R : List (List Int)) : List Int → Prop where
  | nil : Sp R []
  | add {v w : List Int} (hv : v ∈ R) (hw : Sp R w) : Sp R (xorL v w)
theorem Sp.ord {R : List (List Int)} (hR : Rows R) {v : List Int} (h : Sp R v) : Ord v := by
  induction h with
  | nil => exact .nil
  | add hv hw ih => exact xorL_ord (hR _ hv) ih
theorem Sp.mem {R : List (List Int)} {v : List Int} (h : v ∈ R) : Sp R v := by
  have := Sp.add h .nil
  rwa [xorL_nil_right] at this
theorem Sp.xor {R : List (List Int)} (hR : Rows R) {v w : List Int} (h : Sp R v) (k : Sp R w) : Sp R (xorL v w) := by
  induction h with
  | nil => rw [xorL_nil_left]; exact k
  | add hv hw ih => rw [xorL_assoc (hR _ hv) (hw.ord hR) (k.ord hR)]; exact .add hv ih
theorem Sp.trans {R R' : List (List Int)} (hR' : Rows R') (hs : ∀ r ∈ R, Sp R' r) {v : List Int} (h : Sp R v) : Sp R' v := by
  induction h with
  | nil => exact .nil
  | add hv hw ih => exact (hs _ hv).xor hR' ih
theorem Sp.mono {R R' : List (List Int)} (hs : ∀ r ∈ R, r ∈ R') {v : List Int} (h : Sp R v) : Sp R' v := by
  induction h with
  | nil => exact .nil
  | add hv hw ih => exact .add (hs _ hv) ih

def lead (r : List Int) : Int := r.headD 0
theorem lead_mem {r : List Int} (h : r ≠ []) : lead r ∈ r := by cases r with | nil => exact absurd rfl h | cons x r => simp [lead]
theorem lead_le {r : List Int} (hr : Ord r) {z : Int} (hz : z ∈ r) : lead r ≤ z := by
  cases r with
  | nil => simp at hz
  | cons x r =>
    rcases List.mem_cons.1 hz with rfl | hz
    · simp [lead]
    · have := (List.pairwise_cons.1 hr).1 z hz
      show x ≤ z
      omega

/-- An echelon form. -/
structure Rref (R : List (List Int)) : Prop where
  ord : Rows R
  ne : ∀ r ∈ R, r ≠ []
  inc : R.Pairwise fun r s => lead r < lead s
  own : ∀ r ∈ R, ∀ s ∈ R, lead r ∈ s → s = r
theorem Rref.inj {R : List (List Int)} (h : Rref R) {r s : List Int} (hr : r ∈ R) (hs : s ∈ R) (he : lead r = lead s) : r = s :=
  h.own s hs r hr (he ▸ lead_mem (h.ne r hr))

/-- The sum of the rows whose leading columns are in v. -/
def comb (R : List (List Int)) (p : List Int → Bool) : List Int := R.foldr (fun r acc => if p r then xorL r acc else acc) []
theorem comb_sp {R : List (List Int)} (p : List Int → Bool) : ∀ R', (∀ r ∈ R', r ∈ R) → Sp R (comb R' p) := by
  intro R'
  induction R' with
  | nil => intro _; exact .nil
  | cons r R' ih =>
    intro h
    have := ih fun s hs => h s (by simp [hs])
    unfold comb at this ⊢
    rw [List.foldr_cons]
    split
    · exact .add (h r (by simp)) this
    · exact this
theorem comb_congr {R : List (List Int)} {p q : List Int → Bool} (h : ∀ r ∈ R, p r = q r) : comb R p = comb R q := by
  induction R with
  | nil => rfl
  | cons r R ih =>
    have e := ih fun s hs => h s (by simp [hs])
    unfold comb at e ⊢
    rw [List.foldr_cons, List.foldr_cons, e, h r (by simp)]
theorem comb_ord {R : List (List Int)} (hR : Rows R) (p : List Int → Bool) : Ord (comb R p) := (comb_sp p R fun r h => h).ord hR
theorem comb_toggle {R : List (List Int)} (hR : Rows R) (hnd : R.Nodup) {r : List Int} (hr : r ∈ R) (p : List Int → Bool) : xorL r (comb R p) = comb R (fun s => p s ^^ decide (s = r)) := by
  induction R with
  | nil => simp at hr
  | cons s R ih =>
    have hRs : Rows R := fun x hx => hR x (by simp [hx])
    have hs := hR s (by simp)
    have hro := hR r hr
    rw [List.nodup_cons] at hnd
    have hco := comb_ord hRs p
    have e1 : ∀ q, comb (s :: R) q = if q s then xorL s (comb R q) else comb R q := fun q => rfl
    rw [e1, e1]
    by_cases hrs : r = s
    · subst hrs
      have e2 : comb R (fun t => p t ^^ decide (t = r)) = comb R p := comb_congr fun t ht => by
        have : t ≠ r := fun e => hnd.1 (e ▸ ht)
        simp [this]
      rw [e2]
      cases hp : p r with
      | true => simp only [decide_true, Bool.xor_true, Bool.not_true, ↓reduceIte, Bool.false_eq_true]; exact xorL_cancel hs hco
      | false => simp
    · have hr' : r ∈ R := by
        rcases List.mem_cons.1 hr with h | h
        · exact absurd h hrs
        · exact h
      have ih := ih hRs hnd.2 hr'
      have hsr : ¬ s = r := fun e => hrs e.symm
      simp only [hsr, decide_false, Bool.xor_false]
      cases hp : p s with
      | true => simp only [↓reduceIte]; rw [← ih, xorL_left_comm hro hs hco]
      | false => simp only [Bool.false_eq_true, ↓reduceIte]; exact ih
theorem Rref.nodup {R : List (List Int)} (h : Rref R) : R.Nodup := h.inc.imp fun hab e => by subst e; omega
/-- Each sum of rows is the sum of the rows whose leading columns it has. -/
theorem Rref.coord {R : List (List Int)} (h : Rref R) {v : List Int} (hv : Sp R v) : v = comb R (fun r => decide (lead r ∈ v)) := by
  induction hv with
  | nil =>
    have : comb R (fun r => decide (lead r ∈ [])) = comb R (fun _ => false) := comb_congr fun r _ => by simp
    rw [this]
    clear this
    induction R with
    | nil => rfl
    | cons r R ih2 => unfold comb; rw [List.foldr_cons, if_neg (by simp)]; exact ih2 ⟨fun x hx => h.ord x (by simp [hx]), fun x hx => h.ne x (by simp [hx]), (List.pairwise_cons.1 h.inc).2, fun x hx y hy => h.own x (by simp [hx]) y (by simp [hy])⟩
  | add hr hw ih =>
    rename_i r w
    have hwo := hw.ord h.ord
    have hro := h.ord r hr
    conv => lhs; rw [ih]
    rw [comb_toggle h.ord h.nodup hr]
    refine comb_congr fun s hs => ?_
    have h1 : lead s ∈ r ↔ s = r := ⟨fun hm => (h.own s hs r hr hm).symm, fun e => e ▸ lead_mem (h.ne s hs)⟩
    have hm := mem_xorL hro hwo (lead s)
    rw [h1] at hm
    by_cases a : lead s ∈ w <;> by_cases b : s = r <;> simp only [a, b, iff_self, not_true, iff_true, iff_false, not_false_iff, true_iff] at hm <;> simp [a, b, hm]
/-- The first column of a sum of rows is a leading one. -/
theorem Rref.first {R : List (List Int)} (h : Rref R) {v : List Int} (hv : Sp R v) (hn : v ≠ []) : ∃ r ∈ R, lead r = lead v := by
  have hc := h.coord hv
  suffices hs : ∀ R', (∀ r ∈ R', r ∈ R) → R'.Pairwise (fun r s => lead r < lead s) → ∀ p, comb R' p ≠ [] → ∃ r ∈ R', p r = true ∧ lead r = lead (comb R' p) by
    obtain ⟨r, hr, _, he⟩ := hs R (fun r hr => hr) h.inc _ (hc ▸ hn)
    exact ⟨r, hr, by rw [he, ← hc]⟩
  intro R'
  induction R' with
  | nil => intro _ _ p hp; exact absurd rfl hp
  | cons r R' ih =>
    intro hsub hinc p hp
    have e1 : comb (r :: R') p = if p r then xorL r (comb R' p) else comb R' p := rfl
    rw [List.pairwise_cons] at hinc
    have hR' : Rows R' := fun x hx => h.ord x (hsub x (by simp [hx]))
    have ih := ih (fun x hx => hsub x (by simp [hx])) hinc.2 p
    rw [e1] at hp ⊢
    cases hpr : p r with
    | false =>
      rw [hpr] at hp
      simp only [Bool.false_eq_true, ↓reduceIte] at hp ⊢
      obtain ⟨s, hs, h1, h2⟩ := ih hp
      exact ⟨s, by simp [hs], h1, h2⟩
    | true =>
      rw [hpr] at hp
      simp only [↓reduceIte] at hp ⊢
      refine ⟨r, by simp, hpr, ?_⟩
      have hro := h.ord r (hsub r (by simp))
      have hco := comb_ord hR' p
      have hrn := h.ne r (hsub r (by simp))
      by_cases hcn : comb R' p = []
      · rw [hcn, xorL_nil_right]
      · obtain ⟨s, hs, _, h2⟩ := ih hcn
        have hlt := hinc.1 s hs
        have hm : lead r ∈ xorL r (comb R' p) := by
          rw [mem_xorL hro hco]
          intro hiff
          have := lead_le hco (hiff.1 (lead_mem hrn))
          omega
        have hle := lead_le (xorL_ord hro hco) hm
        have hmm := lead_mem (r := xorL r (comb R' p)) (fun e => by rw [e] at hm; simp at hm)
        rcases xorL_sub _ hmm with h3 | h3
        · have := lead_le hro h3; omega
        · have := lead_le hco h3; omega
theorem comb_none {R : List (List Int)} {p : List Int → Bool} (h : ∀ r ∈ R, p r = false) : comb R p = [] := by
  rw [comb_congr (q := fun _ => false) h]
  induction R with
  | nil => rfl
  | cons r R ih => unfold comb; rw [List.foldr_cons, if_neg (by simp)]; exact ih fun r hr => by simp_all
theorem Rref.unique {R R' : List (List Int)} (h : Rref R) (h' : Rref R') (h1 : ∀ r ∈ R, Sp R' r) (h2 : ∀ r ∈ R', Sp R r) : R = R' := by
  have key : ∀ {A B : List (List Int)}, Rref A → Rref B → (∀ r ∈ A, Sp B r) → (∀ r ∈ B, Sp A r) → ∀ r ∈ A, r ∈ B := by
    intro A B hA hB hAB hBA r hr
    obtain ⟨s, hs, he⟩ := hB.first (hAB r hr) (hA.ne r hr)
    have hsp : Sp A (xorL r s) := (Sp.mem hr).xor hA.ord (hBA s hs)
    have hc := hA.coord hsp
    have hro := hA.ord r hr
    have hso := hB.ord s hs
    have hnone : comb A (fun t => decide (lead t ∈ xorL r s)) = [] := comb_none fun t ht => by
      rw [decide_eq_false_iff_not, mem_xorL hro hso, Classical.not_not]
      obtain ⟨t', ht', he'⟩ := hB.first (hAB t ht) (hA.ne t ht)
      constructor
      · intro hm
        have e := hA.own t ht r hr hm
        rw [← e, ← he]; exact lead_mem (hB.ne s hs)
      · intro hm
        have e := hB.own t' ht' s hs (he' ▸ hm)
        have : lead t = lead r := by rw [← he', ← he, e]
        rw [this]; exact lead_mem (hA.ne r hr)
    rw [hnone] at hc
    rw [xorL_eq_nil hro hso hc]
    exact hs
  have hm : ∀ r, r ∈ R ↔ r ∈ R' := fun r => ⟨key h h' h1 h2 r, key h' h h2 h1 r⟩
  have hinc := h.inc
  have hinc' := h'.inc
  clear h h' h1 h2 key
  induction R generalizing R' with
  | nil =>
    cases R' with
    | nil => rfl
    | cons y m => exact absurd ((hm y).2 (by simp)) (by simp)
  | cons x l ih =>
    cases R' with
    | nil => exact absurd ((hm x).1 (by simp)) (by simp)
    | cons y m =>
      rw [List.pairwise_cons] at hinc hinc'
      have hxy : x = y := by
        rcases List.mem_cons.1 ((hm x).1 (by simp)) with h1 | h1
        · exact h1
        · rcases List.mem_cons.1 ((hm y).2 (by simp)) with h2 | h2
          · exact h2.symm
          · have := hinc.1 y h2; have := hinc'.1 x h1; omega
      subst hxy
      rw [ih (R' := m) (fun z => ?_) hinc.2 hinc'.2]
      constructor
      · intro hz
        rcases List.mem_cons.1 ((hm z).1 (by simp [hz])) with rfl | hz'
        · have := hinc.1 z hz; omega
        · exact hz'
      · intro hz
        rcases List.mem_cons.1 ((hm z).2 (by simp [hz])) with rfl | hz'
        · have := hinc'.1 z hz; omega
        · exact hz'
end Go.Proofs.Ytijmjliijjkcbaa
/- Errors of vectors and matrices: plain data. -/
namespace Go.Proofs.Ytijmjliijjkcbaa
set_option linter.unusedVariables false

/-- The error at one place of a vector. -/
def vstep (n : Int) (l : List Int) (k : Nat) : Int := if nth l k < 0 ∨ n ≤ nth l k then 2 else if 0 < k ∧ nth l k ≤ nth l (k - 1) then 14 else 0
def vfrom (n : Int) (l : List Int) (k : Nat) : Int := if k < l.length then (if vstep n l k ≠ 0 then vstep n l k else vfrom n l (k + 1)) else 0
termination_by l.length - k
def vecE (n : Int) (l : List Int) : Int := vfrom n l 0
theorem vfrom_end {n : Int} {l : List Int} {k : Nat} (h : l.length ≤ k) : vfrom n l k = 0 := by rw [vfrom, if_neg (by omega)]
theorem vfrom_err {n : Int} {l : List Int} {k : Nat} (h : k < l.length) {x : Int} (hx : vstep n l k = x) (h0 : x ≠ 0) : vfrom n l k = x := by rw [vfrom, if_pos h, hx, if_pos h0]
theorem vfrom_next {n : Int} {l : List Int} {k : Nat} (h : k < l.length) (hx : vstep n l k = 0) : vfrom n l k = vfrom n l (k + 1) := by rw [vfrom, if_pos h, hx]; simp

theorem vfrom_zero {n : Int} {l : List Int} : ∀ m k, l.length - k = m → (vfrom n l k = 0 ↔ ∀ j, k ≤ j → j < l.length → 0 ≤ nth l j ∧ nth l j < n ∧ (0 < j → nth l (j - 1) < nth l j)) := by
  intro m
  induction m with
  | zero =>
    intro k hk
    rw [vfrom_end (by omega)]
    exact ⟨fun _ j h1 h2 => by omega, fun _ => rfl⟩
  | succ m ih =>
    intro k hk
    have hlt : k < l.length := by omega
    have ih := ih (k + 1) (by omega)
    by_cases hs : vstep n l k = 0
    · rw [vfrom_next hlt hs, ih]
      have hk0 : 0 ≤ nth l k ∧ nth l k < n ∧ (0 < k → nth l (k - 1) < nth l k) := by
        unfold vstep at hs
        split at hs
        · omega
        · split at hs
          · omega
          · rename_i h1 h2
            exact ⟨by omega, by omega, fun h => by omega⟩
      constructor
      · intro h j h1 h2
        rcases Nat.lt_or_ge k j with h3 | h3
        · exact h j (by omega) h2
        · obtain rfl : j = k := by omega
          exact hk0
      · intro h j h1 h2
        exact h j (by omega) h2
    · rw [vfrom_err hlt rfl hs]
      refine ⟨fun h => absurd h hs, fun h => ?_⟩
      have := h k (Nat.le_refl _) hlt
      unfold vstep
      rw [if_neg (by omega), if_neg (by omega)]
theorem vecE_zero {n : Int} {l : List Int} : vecE n l = 0 ↔ Ord l ∧ ∀ x ∈ l, 0 ≤ x ∧ x < n := by
  unfold vecE
  rw [vfrom_zero _ 0 rfl]
  constructor
  · intro h
    refine ⟨?_, fun x hx => ?_⟩
    · unfold Ord
      rw [List.pairwise_iff_getElem]
      intro i j hi hj hij
      have key : ∀ d, i + d + 1 < l.length → nth l i < nth l (i + d + 1) := by
        intro d
        induction d with
        | zero => intro h1; have := (h (i + 1) (by omega) h1).2.2 (by omega); simpa using this
        | succ d ih =>
          intro h1
          have h2 := ih (by omega)
          have h3 := (h (i + (d + 1) + 1) (by omega) h1).2.2 (by omega)
          have e : i + (d + 1) + 1 - 1 = i + d + 1 := by omega
          rw [e] at h3
          omega
      have := key (j - i - 1) (by omega)
      have e : i + (j - i - 1) + 1 = j := by omega
      rw [e, nth_eq hi, nth_eq hj] at this
      exact this
    · obtain ⟨j, hj, rfl⟩ := List.getElem_of_mem hx
      have := h j (by omega) hj
      rw [← nth_eq hj]
      exact ⟨this.1, this.2.1⟩
  · rintro ⟨ho, hr⟩ j _ hj
    have hm := hr _ (nth_mem hj)
    refine ⟨hm.1, hm.2, fun h0 => ?_⟩
    rw [nth_eq hj, nth_eq (show j - 1 < l.length by omega)]
    exact List.pairwise_iff_getElem.1 ho (j - 1) j (by omega) hj (by omega)

/-- A matrix: its number of columns, its rows. -/
structure Mx where
  cols : Int
  rows : List (List Int)
def rfrom (n : Int) (ll : List (List Int)) (k : Nat) : Int := if k < ll.length then (if vecE n (nthL ll k) ≠ 0 then vecE n (nthL ll k) else rfrom n ll (k + 1)) else 0
termination_by ll.length - k
def checkM (m : Mx) : Int := if m.cols < 0 ∨ 4096 < m.cols then 2 else if 4096 < m.rows.length then 5 else rfrom m.cols m.rows 0
theorem rfrom_end {n : Int} {l : List (List Int)} {k : Nat} (h : l.length ≤ k) : rfrom n l k = 0 := by rw [rfrom, if_neg (by omega)]
theorem rfrom_err {n : Int} {l : List (List Int)} {k : Nat} (h : k < l.length) {x : Int} (hx : vecE n (nthL l k) = x) (h0 : x ≠ 0) : rfrom n l k = x := by rw [rfrom, if_pos h, hx, if_pos h0]
theorem rfrom_next {n : Int} {l : List (List Int)} {k : Nat} (h : k < l.length) (hx : vecE n (nthL l k) = 0) : rfrom n l k = rfrom n l (k + 1) := by rw [rfrom, if_pos h, hx]; simp
theorem rfrom_zero {n : Int} {l : List (List Int)} : ∀ m k, l.length - k = m → (rfrom n l k = 0 ↔ ∀ j, k ≤ j → j < l.length → vecE n (nthL l j) = 0) := by
  intro m
  induction m with
  | zero => intro k hk; rw [rfrom_end (by omega)]; exact ⟨fun _ j h1 h2 => by omega, fun _ => rfl⟩
  | succ m ih =>
    intro k hk
    have hlt : k < l.length := by omega
    have ih := ih (k + 1) (by omega)
    by_cases hs : vecE n (nthL l k) = 0
    · rw [rfrom_next hlt hs, ih]
      constructor
      · intro h j h1 h2
        rcases Nat.lt_or_ge k j with h3 | h3
        · exact h j (by omega) h2
        · obtain rfl : j = k := by omega
          exact hs
      · intro h j h1 h2
        exact h j (by omega) h2
    · rw [rfrom_err hlt rfl hs]
      exact ⟨fun h => absurd h hs, fun h => h k (Nat.le_refl _) hlt⟩
/-- Well-formed. -/
structure MOk (m : Mx) : Prop where
  c0 : 0 ≤ m.cols
  c1 : m.cols ≤ 4096
  r1 : m.rows.length ≤ 4096
  ord : ∀ r ∈ m.rows, Ord r
  rng : ∀ r ∈ m.rows, ∀ x ∈ r, 0 ≤ x ∧ x < m.cols
theorem checkM_zero {m : Mx} : checkM m = 0 ↔ MOk m := by
  unfold checkM
  constructor
  · intro h
    split at h
    · omega
    split at h
    · omega
    rename_i h1 h2
    have := (rfrom_zero _ 0 rfl).1 h
    have hm : ∀ r ∈ m.rows, vecE m.cols r = 0 := by
      intro r hr
      obtain ⟨j, hj, rfl⟩ := List.getElem_of_mem hr
      rw [← nthL_eq hj]
      exact this j (by omega) hj
    exact ⟨by omega, by omega, by omega, fun r hr => (vecE_zero.1 (hm r hr)).1, fun r hr => (vecE_zero.1 (hm r hr)).2⟩
  · intro h
    have := h.c0
    have := h.c1
    have := h.r1
    rw [if_neg (by omega), if_neg (by omega), rfrom_zero _ 0 rfl]
    intro j _ hj
    exact vecE_zero.2 ⟨h.ord _ (nthL_mem hj), h.rng _ (nthL_mem hj)⟩
/-- An ordered list of numbers from 0 to n - 1 has at most n places. -/
theorem Ord.length_le {l : List Int} {n : Int} (ho : Ord l) (hr : ∀ x ∈ l, 0 ≤ x ∧ x < n) : (l.length : Int) ≤ n ∨ l = [] := by
  cases hl : l with
  | nil => exact .inr rfl
  | cons x t =>
    left
    have key : ∀ j, j < l.length → (j : Int) ≤ nth l j := by
      intro j
      induction j with
      | zero => intro h; exact (hr _ (nth_mem h)).1
      | succ j ih =>
        intro h
        have h1 := ih (by omega)
        have h2 := List.pairwise_iff_getElem.1 ho j (j + 1) (by omega) h (by omega)
        rw [← nth_eq, ← nth_eq] at h2
        omega
    have hp : 0 < l.length := by rw [hl]; simp
    have h1 := key (l.length - 1) (by omega)
    have h2 := (hr _ (nth_mem (k := l.length - 1) (by omega))).2
    rw [← hl]
    omega
end Go.Proofs.Ytijmjliijjkcbaa
/- Parity, and sums of rows by number: plain data. -/
namespace Go.Proofs.Ytijmjliijjkcbaa
set_option linter.unusedVariables false

/-- How many elements have p, modulo 2. -/
def par (p : Int → Bool) (l : List Int) : Bool := decide (l.countP p % 2 = 1)
theorem par_nil (p : Int → Bool) : par p [] = false := rfl
theorem par_cons (p : Int → Bool) (x : Int) (l : List Int) : par p (x :: l) = (p x ^^ par p l) := by
  unfold par
  rw [List.countP_cons]
  cases p x with
  | false => simp
  | true =>
    simp only [↓reduceIte, Bool.true_xor]
    rcases Nat.mod_two_eq_zero_or_one (l.countP p) with h | h
    · rw [decide_eq_true (by omega), h]; rfl
    · rw [decide_eq_false (by omega), h]; rfl
theorem par_append (p : Int → Bool) (l m : List Int) : par p (l ++ m) = (par p l ^^ par p m) := by
  induction l with
  | nil => rw [List.nil_append, par_nil]; simp
  | cons x l ih => rw [List.cons_append, par_cons, par_cons, ih, Bool.xor_assoc]
theorem par_snoc (p : Int → Bool) (l : List Int) (x : Int) : par p (l ++ [x]) = (par p l ^^ p x) := by
  rw [par_append, par_cons, par_nil, Bool.xor_false]
theorem par_congr {p q : Int → Bool} {l : List Int} (h : ∀ x ∈ l, p x = q x) : par p l = par q l := by
  induction l with
  | nil => rfl
  | cons x l ih => rw [par_cons, par_cons, h x (by simp), ih fun y hy => h y (by simp [hy])]
theorem par_xor (p q : Int → Bool) (l : List Int) : par (fun x => p x ^^ q x) l = (par p l ^^ par q l) := by
  induction l with
  | nil => rfl
  | cons x l ih =>
    rw [par_cons, par_cons, par_cons, ih]
    cases p x <;> cases q x <;> cases par p l <;> cases par q l <;> rfl
theorem par_none {p : Int → Bool} {l : List Int} (h : ∀ x ∈ l, p x = false) : par p l = false := by
  rw [par_congr (q := fun _ => false) h]
  induction l with
  | nil => rfl
  | cons x l ih => rw [par_cons, ih fun y hy => h y (by simp [hy])]; rfl
theorem par_xorL (p : Int → Bool) (a b : List Int) : par p (xorL a b) = (par p a ^^ par p b) := by
  induction a, b using xorL.induct with
  | case1 b => rw [xorL_nil_left, par_nil, Bool.false_xor]
  | case2 x a => rw [xorL_nil_right, par_nil, Bool.xor_false]
  | case3 x a y b h ih => rw [xorL_cons, if_pos h, par_cons, ih, par_cons p x a, Bool.xor_assoc]
  | case4 x a y b h h2 ih =>
    rw [xorL_cons, if_neg h, if_pos h2, par_cons, ih, par_cons p y b]
    cases p y <;> cases par p (x :: a) <;> cases par p b <;> rfl
  | case5 x a y b h h2 ih =>
    obtain rfl : x = y := by omega
    rw [xorL_cons, if_neg h, if_neg h2, ih, par_cons, par_cons]
    cases p x <;> cases par p a <;> cases par p b <;> rfl

def memB (b : List Int) (x : Int) : Bool := decide (x ∈ b)
/-- An odd number of elements of a lies in b. -/
def oddV (a b : List Int) : Bool := par (memB b) a
theorem memB_xorL {a b : List Int} (ha : Ord a) (hb : Ord b) (x : Int) : memB (xorL a b) x = (memB a x ^^ memB b x) := by
  unfold memB
  have := mem_xorL ha hb x
  by_cases h1 : x ∈ a <;> by_cases h2 : x ∈ b <;> simp only [h1, h2, iff_self, not_true, iff_true, iff_false, not_false_iff, iff_true] at this <;> simp [h1, h2, this]
theorem oddV_xor_left (a c b : List Int) : oddV (xorL a c) b = (oddV a b ^^ oddV c b) := par_xorL _ _ _
theorem oddV_xor_right {a b c : List Int} (hb : Ord b) (hc : Ord c) : oddV a (xorL b c) = (oddV a b ^^ oddV a c) := by
  unfold oddV
  rw [← par_xor]
  exact par_congr fun x _ => memB_xorL hb hc x
/-- The parity over an ordered list of what is in an ordered list: of the ones that both have. -/
theorem par_and {a b : List Int} (ha : Ord a) (hb : Ord b) (f : Int → Bool) : par (fun x => f x && memB b x) a = par (fun x => f x && memB a x) b := by
  unfold Ord at *
  induction a, b using xorL.induct with
  | case1 b => rw [par_nil, par_none fun x _ => by simp [memB]]
  | case2 x a => rw [par_nil, par_none fun x _ => by simp [memB]]
  | case3 x a y b h ih =>
    have ha' := List.pairwise_cons.1 ha
    have hb' := List.pairwise_cons.1 hb
    have hx : memB (y :: b) x = false := by
      simp only [memB, decide_eq_false_iff_not, List.mem_cons, not_or]
      exact ⟨by omega, fun hm => by have := hb'.1 x hm; omega⟩
    rw [par_cons, hx, Bool.and_false, Bool.false_xor, ih ha'.2 hb]
    refine par_congr fun z hz => ?_
    have : z ≠ x := by
      rintro rfl
      rcases List.mem_cons.1 hz with rfl | hz
      · omega
      · have := hb'.1 z hz; omega
    simp [memB, this]
  | case4 x a y b h h2 ih =>
    have ha' := List.pairwise_cons.1 ha
    have hb' := List.pairwise_cons.1 hb
    have hy : memB (x :: a) y = false := by
      simp only [memB, decide_eq_false_iff_not, List.mem_cons, not_or]
      exact ⟨by omega, fun hm => by have := ha'.1 y hm; omega⟩
    rw [par_cons _ y b, hy, Bool.and_false, Bool.false_xor, ← ih ha hb'.2]
    refine par_congr fun z hz => ?_
    have : z ≠ y := by
      rintro rfl
      rcases List.mem_cons.1 hz with rfl | hz
      · omega
      · have := ha'.1 z hz; omega
    simp [memB, this]
  | case5 x a y b h h2 ih =>
    have ha' := List.pairwise_cons.1 ha
    have hb' := List.pairwise_cons.1 hb
    obtain rfl : x = y := by omega
    have e1 : par (fun z => f z && memB (x :: b) z) a = par (fun z => f z && memB b z) a := par_congr fun z hz => by
      have := ha'.1 z hz
      have : z ≠ x := by omega
      simp [memB, this]
    have e2 : par (fun z => f z && memB (x :: a) z) b = par (fun z => f z && memB a z) b := par_congr fun z hz => by
      have := hb'.1 z hz
      have : z ≠ x := by omega
      simp [memB, this]
    rw [par_cons, par_cons, e1, e2, ih ha'.2 hb'.2]
    simp [memB]
theorem oddV_comm {a b : List Int} (ha : Ord a) (hb : Ord b) : oddV a b = oddV b a := by
  have := par_and ha hb (fun _ => true)
  simp only [Bool.true_and] at this
  exact this
theorem oddV_nil_left (b : List Int) : oddV [] b = false := rfl
theorem oddV_nil_right (a : List Int) : oddV a [] = false := par_none fun x _ => by simp [memB]
/-- The length of a sum. -/
theorem length_xorL {a b : List Int} (ha : Ord a) (hb : Ord b) : (xorL a b).length + 2 * a.countP (memB b) = a.length + b.length := by
  unfold Ord at *
  induction a, b using xorL.induct with
  | case1 b => rw [xorL_nil_left]; simp
  | case2 x a =>
    rw [xorL_nil_right, show (x :: a).countP (memB []) = 0 from by rw [List.countP_eq_zero]; intro z _; simp [memB]]; simp
  | case3 x a y b h ih =>
    have ha' := List.pairwise_cons.1 ha
    have hb' := List.pairwise_cons.1 hb
    have hx : memB (y :: b) x = false := by
      simp only [memB, decide_eq_false_iff_not, List.mem_cons, not_or]
      exact ⟨by omega, fun hm => by have := hb'.1 x hm; omega⟩
    have := ih ha'.2 hb
    rw [xorL_cons, if_pos h, List.countP_cons, hx]
    simp only [List.length_cons, Bool.false_eq_true, ↓reduceIte] at this ⊢
    omega
  | case4 x a y b h h2 ih =>
    have ha' := List.pairwise_cons.1 ha
    have hb' := List.pairwise_cons.1 hb
    have := ih ha hb'.2
    rw [xorL_cons, if_neg h, if_pos h2]
    have e : (x :: a).countP (memB (y :: b)) = (x :: a).countP (memB b) := List.countP_congr fun z hz => by
      have : z ≠ y := by
        rintro rfl
        rcases List.mem_cons.1 hz with rfl | hz
        · omega
        · have := ha'.1 z hz; omega
      simp [memB, this]
    rw [e]
    simp only [List.length_cons] at this ⊢
    omega
  | case5 x a y b h h2 ih =>
    have ha' := List.pairwise_cons.1 ha
    have hb' := List.pairwise_cons.1 hb
    obtain rfl : x = y := by omega
    have := ih ha'.2 hb'.2
    have e : a.countP (memB (x :: b)) = a.countP (memB b) := List.countP_congr fun z hz => by
      have := ha'.1 z hz
      have : z ≠ x := by omega
      simp [memB, this]
    rw [xorL_cons, if_neg h, if_neg h2, List.countP_cons, e]
    simp only [List.length_cons, memB, List.mem_cons, true_or, decide_true, ↓reduceIte] at this ⊢
    omega
/-- How the program tells it. -/
theorem oddV_len {a b : List Int} (ha : Ord a) (hb : Ord b) : oddV a b = decide ((a.length + b.length - (xorL a b).length) / 2 % 2 = 1) := by
  have := length_xorL ha hb
  have e : (a.length + b.length - (xorL a b).length) / 2 = a.countP (memB b) := by omega
  rw [e]
  rfl

/-- The sum of the rows with these numbers. -/
def sumRows (R : List (List Int)) (y : List Int) : List Int := y.foldl (fun acc k => xorL acc (nthL R k.toNat)) []
theorem sumRows_nil (R : List (List Int)) : sumRows R [] = [] := rfl
theorem sumRows_snoc (R : List (List Int)) (y : List Int) (k : Int) : sumRows R (y ++ [k]) = xorL (sumRows R y) (nthL R k.toNat) := by unfold sumRows; rw [List.foldl_append]; rfl
theorem nthL_ord {R : List (List Int)} (hR : Rows R) (k : Nat) : Ord (nthL R k) := by
  rcases Nat.lt_or_ge k R.length with h | h
  · exact hR _ (nthL_mem h)
  · rw [show nthL R k = [] from by simp [nthL, List.getElem?_eq_none h]]; exact .nil
theorem snoc_ind {P : List Int → Prop} (h0 : P []) (h1 : ∀ y k, P y → P (y ++ [k])) (y : List Int) : P y := by
  have key : ∀ n, ∀ y : List Int, y.length = n → P y := by
    intro n
    induction n with
    | zero => intro y hy; rw [List.length_eq_zero_iff.1 hy]; exact h0
    | succ n ih =>
      intro y hy
      have hne : y ≠ [] := fun e => by rw [e] at hy; simp at hy
      rw [← List.dropLast_concat_getLast hne]
      exact h1 _ _ (ih _ (by simp [hy]))
  exact key _ y rfl
theorem sumRows_ord {R : List (List Int)} (hR : Rows R) (y : List Int) : Ord (sumRows R y) :=
  snoc_ind (P := fun y => Ord (sumRows R y)) .nil (fun y k h => by show Ord (sumRows R (y ++ [k])); rw [sumRows_snoc]; exact xorL_ord h (nthL_ord hR _)) y
/-- Any parity over a sum of rows. -/
theorem par_sumRows (p : Int → Bool) (R : List (List Int)) (y : List Int) : par p (sumRows R y) = par (fun k => par p (nthL R k.toNat)) y :=
  snoc_ind (P := fun y => par p (sumRows R y) = par (fun k => par p (nthL R k.toNat)) y) rfl (fun y k h => by
    show par p (sumRows R (y ++ [k])) = _
    rw [sumRows_snoc, par_xorL, h, par_snoc]) y
theorem memB_sumRows {R : List (List Int)} (hR : Rows R) (y : List Int) (z : Int) : memB (sumRows R y) z = par (fun k => memB (nthL R k.toNat) z) y :=
  snoc_ind (P := fun y => memB (sumRows R y) z = par (fun k => memB (nthL R k.toNat) z) y) rfl (fun y k h => by
    show memB (sumRows R (y ++ [k])) z = _
    rw [sumRows_snoc, memB_xorL (sumRows_ord hR y) (nthL_ord hR _), h, par_snoc]) y
theorem sumRows_xor {R : List (List Int)} (hR : Rows R) (x y : List Int) : sumRows R (xorL x y) = xorL (sumRows R x) (sumRows R y) := by
  refine ord_ext (sumRows_ord hR _) (xorL_ord (sumRows_ord hR _) (sumRows_ord hR _)) fun z => ?_
  have h1 := memB_sumRows hR (xorL x y) z
  rw [par_xorL, ← memB_sumRows hR, ← memB_sumRows hR, ← memB_xorL (sumRows_ord hR _) (sumRows_ord hR _)] at h1
  have : z ∈ sumRows R (xorL x y) ↔ memB (sumRows R (xorL x y)) z = true := by simp [memB]
  rw [this, h1]; simp [memB]
theorem sumRows_sp {R : List (List Int)} (hR : Rows R) (y : List Int) : Sp R (sumRows R y) :=
  snoc_ind (P := fun y => Sp R (sumRows R y)) .nil (fun y k h => by
    show Sp R (sumRows R (y ++ [k]))
    rw [sumRows_snoc]
    refine h.xor hR ?_
    rcases Nat.lt_or_ge k.toNat R.length with h1 | h1
    · exact .mem (nthL_mem h1)
    · rw [show nthL R k.toNat = [] from by simp [nthL, List.getElem?_eq_none h1]]; exact .nil) y
theorem sumRows_one (R : List (List Int)) (k : Int) : sumRows R [k] = nthL R k.toNat := by show xorL [] _ = _; rw [xorL_nil_left]
/-- Numbers below n, in order. -/
def InR (n : Nat) (y : List Int) : Prop := Ord y ∧ ∀ x ∈ y, 0 ≤ x ∧ x < n
theorem InR.xor {n : Nat} {x y : List Int} (hx : InR n x) (hy : InR n y) : InR n (xorL x y) :=
  ⟨xorL_ord hx.1 hy.1, fun z hz => (xorL_sub z hz).elim (hx.2 z) (hy.2 z)⟩
theorem InR.one {n k : Nat} (h : k < n) : InR n [(k : Int)] := ⟨List.pairwise_singleton _ _, fun x hx => by rw [List.mem_singleton.1 hx]; omega⟩
theorem InR.nil (n : Nat) : InR n [] := ⟨.nil, fun x hx => by simp at hx⟩
/-- Each sum is one by number. -/
theorem Sp.numbers {R : List (List Int)} (hR : Rows R) {v : List Int} (h : Sp R v) : ∃ y, InR R.length y ∧ v = sumRows R y := by
  induction h with
  | nil => exact ⟨[], .nil _, rfl⟩
  | add hv hw ih =>
    obtain ⟨y, hy, rfl⟩ := ih
    obtain ⟨k, hk, rfl⟩ := List.getElem_of_mem hv
    refine ⟨xorL [(k : Int)] y, (InR.one hk).xor hy, ?_⟩
    rw [sumRows_xor hR, sumRows_one, show ((k : Int)).toNat = k by omega, nthL_eq hk]
end Go.Proofs.Ytijmjliijjkcbaa
