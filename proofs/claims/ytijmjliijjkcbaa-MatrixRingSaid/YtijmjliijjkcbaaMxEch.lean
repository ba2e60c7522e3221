/- What the program's elimination keeps: plain data. -/
import Derived.Test.YtijmjliijjkcbaaMxRed
namespace Go.Proofs.Ytijmjliijjkcbaa
set_option linter.unusedVariables false

/-- A line with a further column: whether its numbers and b have an odd number in common. -/
def tagL (c : Int) (b : List Int) (l : Ln) : List Int := l.1 ++ (if oddV l.2 b = true then [c] else [])
theorem tagL_ord {c : Int} {b : List Int} {N : Nat} {l : Ln} (h : GL c N l) : Ord (tagL c b l) := by
  unfold tagL Ord
  rw [List.pairwise_append]
  refine ⟨h.o1, by split <;> simp, fun x hx y hy => ?_⟩
  have := h.r1 x hx
  split at hy
  · rw [List.mem_singleton.1 hy]; omega
  · simp at hy
theorem mem_tagL {c : Int} {b : List Int} {N : Nat} {l : Ln} (h : GL c N l) (z : Int) : z ∈ tagL c b l ↔ (z ∈ l.1) ∨ (z = c ∧ oddV l.2 b = true) := by
  unfold tagL
  rw [List.mem_append]
  cases oddV l.2 b <;> simp
theorem memB_tagL {c : Int} {b : List Int} {N : Nat} {l : Ln} (h : GL c N l) (z : Int) : memB (tagL c b l) z = if z = c then oddV l.2 b else memB l.1 z := by
  have hm := mem_tagL (b := b) h z
  unfold memB
  split
  · rename_i e
    subst e
    have : z ∉ l.1 := fun h1 => by have := h.r1 z h1; omega
    cases ho : oddV l.2 b <;> simp [hm, this, ho]
  · rename_i e
    simp [hm, e]
theorem tagL_add {c : Int} {b : List Int} {N : Nat} {x l : Ln} (hx : GL c N x) (hl : GL c N l) : tagL c b (addL x l) = xorL (tagL c b x) (tagL c b l) := by
  refine ord_ext (tagL_ord (hx.add hl)) (xorL_ord (tagL_ord hx) (tagL_ord hl)) fun z => ?_
  have h1 := memB_tagL (b := b) (hx.add hl) z
  have h2 := memB_xorL (tagL_ord (b := b) hx) (tagL_ord (b := b) hl) z
  rw [memB_tagL hx, memB_tagL hl] at h2
  have : memB (tagL c b (addL x l)) z = memB (xorL (tagL c b x) (tagL c b l)) z := by
    rw [h1, h2]
    split
    · exact oddV_xor_left _ _ _
    · exact memB_xorL hx.o1 hl.o1 z
  simpa [memB] using this
theorem tagL_nil {c : Int} {l : Ln} : tagL c [] l = l.1 := by unfold tagL; rw [oddV_nil_right]; simp

/-- The rows that all sums come of. -/
def gensE (n : Nat) (b : List Int) (s : (Int → Option Ln) × List (List Int)) : List (List Int) := (outTo s.1 n).map (tagL n b) ++ s.2.map fun d => tagL n b ([], d)
theorem mem_gensE {n : Nat} {b : List Int} {s : (Int → Option Ln) × List (List Int)} {v : List Int} : v ∈ gensE n b s ↔ (∃ (z : Nat) (l : Ln), z < n ∧ s.1 z = some l ∧ v = tagL n b l) ∨ ∃ d ∈ s.2, v = tagL n b ([], d) := by
  unfold gensE
  rw [List.mem_append, List.mem_map, List.mem_map]
  constructor
  · rintro (⟨l, hl, rfl⟩ | ⟨d, hd, rfl⟩)
    · obtain ⟨z, hz, hm⟩ := mem_outTo.1 hl
      exact .inl ⟨z, l, hz, hm, rfl⟩
    · exact .inr ⟨d, hd, rfl⟩
  · rintro (⟨z, l, hz, hm, rfl⟩ | ⟨d, hd, rfl⟩)
    · exact .inl ⟨l, mem_outTo.2 ⟨z, hz, hm⟩, rfl⟩
    · exact .inr ⟨d, hd, rfl⟩

/-- What holds behind k rows. -/
structure EInv (R : List (List Int)) (n k : Nat) (s : (Int → Option Ln) × List (List Int)) : Prop where
  gm : GM n k s.1
  sum : ∀ z l, s.1 z = some l → sumRows R l.2 = l.1
  own : ∀ z l z', s.1 z = some l → z' ∈ l.1 → (s.1 z').isSome = true → z' = z
  dep : ∀ d ∈ s.2, InR k d ∧ d ≠ [] ∧ sumRows R d = []
  span : ∀ b, ∀ j, j < k → Sp (gensE n b s) (tagL n b (nthL R j, [(j : Int)]))
  cnt : (outTo s.1 n).length + s.2.length = k

theorem EInv.gens_ord {R : List (List Int)} {n k : Nat} {s : (Int → Option Ln) × List (List Int)} (h : EInv R n k s) (b : List Int) : Rows (gensE n b s) := by
  intro v hv
  rcases mem_gensE.1 hv with ⟨z, l, _, hm, rfl⟩ | ⟨d, hd, rfl⟩
  · exact tagL_ord (h.gm.gl _ _ hm)
  · exact tagL_ord (N := k) ⟨.nil, fun x hx => by simp at hx, (h.dep d hd).1.1, (h.dep d hd).1.2⟩

/-- What the reduced line of a row is. -/
structure XSpec (R : List (List Int)) (n k : Nat) (s : (Int → Option Ln) × List (List Int)) (x : Ln) : Prop where
  gl : GL n (k + 1) x
  sum : sumRows R x.2 = x.1
  own : memB x.2 (k : Int) = true
  span : ∀ b, ∃ v, Sp (gensE n b s) v ∧ tagL n b (nthL R k, [(k : Int)]) = xorL (tagL n b x) v
  none : ∀ z ∈ x.1, s.1 z = none
theorem EInv.xspec {R : List (List Int)} {n k : Nat} {s : (Int → Option Ln) × List (List Int)} (ok : ROk n R) (h : EInv R n k s) (hk : k < R.length) : XSpec R n k s (echX s k (nthL R k)) := by
  have hg0 : GL n (k + 1) (nthL R k, [(k : Int)]) := ⟨ok.nth_ord k, ok.nth_rng k, List.pairwise_singleton _ _, fun x hx => by rw [List.mem_singleton.1 hx]; omega⟩
  have hgl : ∀ z l, s.1 z = some l → GL n (k + 1) l := fun z l hm => (h.gm.gl z l hm).mono (by omega)
  unfold echX
  have key : GL n (k + 1) (redP s.1 fuelP 0 (nthL R k, [(k : Int)])) := redP_ind (GL n (k + 1)) (fun x l c hx hm => hx.add (hgl _ _ hm)) _ _ _ hg0
  refine ⟨key, ?_, ?_, fun b => ?_, ?_⟩
  · refine redP_ind (fun x => sumRows R x.2 = x.1) (fun x l c hx hm => ?_) _ _ _ (by rw [sumRows_one]; congr 1)
    show sumRows R (xorL x.2 l.2) = xorL x.1 l.1
    rw [sumRows_xor ok.ord, hx, h.sum _ _ hm]
  · refine (redP_ind (fun x => GL n (k + 1) x ∧ memB x.2 (k : Int) = true) (fun x l c hx hm => ⟨hx.1.add (hgl _ _ hm), ?_⟩) _ _ _ ⟨hg0, by simp [memB]⟩).2
    show memB (xorL x.2 l.2) (k : Int) = true
    rw [memB_xorL hx.1.o2 (hgl _ _ hm).o2, hx.2]
    have : memB l.2 (k : Int) = false := by
      simp only [memB, decide_eq_false_iff_not]
      intro hmm
      have := (h.gm.gl _ _ hm).r2 _ hmm
      omega
    rw [this]; rfl
  · have hR := h.gens_ord b
    refine (redP_ind (fun x => GL n (k + 1) x ∧ ∃ v, Sp (gensE n b s) v ∧ tagL n b (nthL R k, [(k : Int)]) = xorL (tagL n b x) v) (fun x l c hx hm => ?_) _ _ _ ⟨hg0, [], .nil, by rw [xorL_nil_right]⟩).2
    obtain ⟨hgx, v, hv, he⟩ := hx
    have hgll := hgl _ _ hm
    refine ⟨hgx.add hgll, xorL (tagL n b l) v, ?_, ?_⟩
    · have hz := h.gm.rng hm
      exact .add (mem_gensE.2 (.inl ⟨c.toNat, l, by omega, by rw [show ((c.toNat : Nat) : Int) = c by omega]; exact hm, rfl⟩)) hv
    · rw [he, tagL_add hgx hgll]
      have o1 := tagL_ord (b := b) hgx
      have o2 := tagL_ord (b := b) hgll
      have o3 := hv.ord hR
      rw [xorL_assoc o1 o2 (xorL_ord o2 o3), xorL_cancel o2 o3]
  · refine redP_none h.gm (N' := k + 1) (by omega) _ _ _ hg0 ?_ (fun z hz => by simp at hz)
    unfold muP fuelP
    have := ok.c1
    split
    · rename_i h1
      have := hg0.r1 _ (nth_mem h1)
      omega
    · omega

theorem EInv.zero (R : List (List Int)) (n : Nat) : EInv R n 0 (echTo R 0) := by
  refine ⟨⟨fun z l h => (by cases h), fun z l h => (by cases h), fun z l h => (by cases h)⟩, fun z l h => (by cases h), fun z l z' h => (by cases h), fun d hd => (by simp [echTo] at hd), fun b j hj => (by omega), ?_⟩
  have : outTo (fun _ => none) n = [] := by
    rw [List.eq_nil_iff_forall_not_mem]
    intro l hl
    obtain ⟨c, _, h⟩ := mem_outTo.1 hl
    cases h
  simp [echTo, this]

theorem insM_lead {M : Int → Option Ln} {x : Ln} : insM M x (lead x.1) = some x := by unfold insM; rw [if_pos rfl]
theorem insM_other {M : Int → Option Ln} {x : Ln} {z : Int} (h : z ≠ lead x.1) : insM M x z = (M z).map (fun l => if memB l.1 (lead x.1) = true then addL l x else l) := by unfold insM; rw [if_neg h]
theorem insM_isSome {M : Int → Option Ln} {x : Ln} (z : Int) : (insM M x z).isSome = ((M z).isSome || decide (z = lead x.1)) := by
  by_cases h : z = lead x.1
  · subst h; rw [insM_lead]; simp
  · rw [insM_other h]; cases M z <;> simp [h]
theorem outTo_length (M : Int → Option Ln) (n : Nat) : (outTo M n).length = (List.range n).countP fun c => (M (c : Nat)).isSome := by
  unfold outTo
  induction n with
  | zero => rfl
  | succ n ih =>
    rw [List.range_succ, List.filterMap_append, List.length_append, ih, List.countP_append]
    congr 1
    cases h : M (n : Nat) <;> simp [h]
theorem count_one {p : Nat → Bool} {a n : Nat} (ha : a < n) (hp : p a = false) : (List.range n).countP (fun c => p c || decide (c = a)) = (List.range n).countP p + 1 := by
  induction n with
  | zero => omega
  | succ n ih =>
    rw [List.range_succ, List.countP_append, List.countP_append]
    by_cases h : a = n
    · subst h
      have : (List.range a).countP (fun c => p c || decide (c = a)) = (List.range a).countP p := List.countP_congr fun c hc => by
        have : c ≠ a := by have := List.mem_range.1 hc; omega
        simp [this]
      rw [this]
      simp [hp]
    · have := ih (by omega)
      rw [this]
      have hn : n ≠ a := fun e => h e.symm
      simp [hn]
      omega
theorem EInv.step {R : List (List Int)} {n k : Nat} {s : (Int → Option Ln) × List (List Int)} (ok : ROk n R) (h : EInv R n k s) (hk : k < R.length) : EInv R n (k + 1) (echStep s k (nthL R k)) := by
  have hx := h.xspec ok hk
  unfold echStep
  obtain ⟨x, hxx⟩ : ∃ x, x = echX s k (nthL R k) := ⟨_, rfl⟩
  rw [← hxx] at hx ⊢
  clear hxx
  by_cases h0 : x.1.length = 0
  · rw [if_pos h0]
    have hx0 : x.1 = [] := List.length_eq_zero_iff.1 h0
    have hsub : ∀ b, ∀ v ∈ gensE n b s, v ∈ gensE n b (s.1, s.2 ++ [x.2]) := fun b v hv => by
      rcases mem_gensE.1 hv with ⟨z, l, h1, h2, rfl⟩ | ⟨d, hd, rfl⟩
      · exact mem_gensE.2 (.inl ⟨z, l, h1, h2, rfl⟩)
      · exact mem_gensE.2 (.inr ⟨d, by simp [hd], rfl⟩)
    have hord : ∀ b, Rows (gensE n b (s.1, s.2 ++ [x.2])) := fun b v hv => by
      rcases mem_gensE.1 hv with ⟨z, l, h1, h2, rfl⟩ | ⟨d, hd, rfl⟩
      · exact tagL_ord (h.gm.gl _ _ h2)
      · rcases List.mem_append.1 hd with hd | hd
        · exact tagL_ord (N := k) ⟨.nil, fun x hx => by simp at hx, (h.dep d hd).1.1, (h.dep d hd).1.2⟩
        · rw [List.mem_singleton.1 hd]; exact tagL_ord (N := k + 1) ⟨.nil, fun x hx => by simp at hx, hx.gl.o2, hx.gl.r2⟩
    refine ⟨⟨fun z l hm => (h.gm.gl z l hm).mono (by omega), h.gm.ne, h.gm.ld⟩, h.sum, h.own, fun d hd => ?_, fun b j hj => ?_, ?_⟩
    · rcases List.mem_append.1 hd with hd | hd
      · have := h.dep d hd
        exact ⟨⟨this.1.1, fun y hy => by have := this.1.2 y hy; omega⟩, this.2⟩
      · rw [List.mem_singleton.1 hd]
        refine ⟨⟨hx.gl.o2, hx.gl.r2⟩, fun e => ?_, by rw [hx.sum, hx0]⟩
        have := hx.own
        rw [e] at this; simp [memB] at this
    · rcases Nat.lt_or_ge j k with hj' | hj'
      · exact (h.span b j hj').mono (hsub b)
      · obtain rfl : j = k := by omega
        obtain ⟨v, hv, he⟩ := hx.span b
        rw [he]
        refine .xor (hord b) (.mem (mem_gensE.2 (.inr ⟨x.2, by simp, ?_⟩))) (hv.mono (hsub b))
        unfold tagL
        rw [hx0]
    · have := h.cnt
      simp only [List.length_append, List.length_singleton]
      omega
  · rw [if_neg h0]
    have hne : x.1 ≠ [] := fun e => h0 (by rw [e]; rfl)
    obtain ⟨p, hp⟩ : ∃ p, p = lead x.1 := ⟨_, rfl⟩
    have hpm : p ∈ x.1 := hp ▸ lead_mem hne
    have hpn := hx.none p hpm
    have hpr := hx.gl.r1 p hpm
    have hadd : ∀ z l, s.1 z = some l → z ≠ p → memB l.1 p = true → (addL l x).1 ≠ [] ∧ lead (addL l x).1 = z := by
      intro z l hm hz hb
      have hg := h.gm.gl z l hm
      have hzl : z ∈ l.1 := by have := lead_mem (h.gm.ne z l hm); rwa [h.gm.ld z l hm] at this
      have hzx : z ∉ x.1 := fun hh => by have := hx.none z hh; rw [hm] at this; cases this
      have hzm : z ∈ (addL l x).1 := by rw [show (addL l x).1 = xorL l.1 x.1 from rfl, mem_xorL hg.o1 hx.gl.o1]; simp [hzl, hzx]
      have hne2 : (addL l x).1 ≠ [] := fun e => by rw [e] at hzm; simp at hzm
      refine ⟨hne2, ?_⟩
      have h1 := lead_le (xorL_ord hg.o1 hx.gl.o1) hzm
      have h2 : lead (addL l x).1 ∈ l.1 ∨ lead (addL l x).1 ∈ x.1 := xorL_sub _ (lead_mem hne2)
      have hpz : z ≤ p := h.gm.le hm (by simpa [memB] using hb)
      have hle1 : lead (addL l x).1 ≤ z := h1
      rcases h2 with h3 | h3
      · have := h.gm.le hm h3; omega
      · have := lead_le hx.gl.o1 h3; rw [← hp] at this; omega
    have hgl' : ∀ z l, insM s.1 x z = some l → GL n (k + 1) l := by
      intro z l hm
      by_cases hz : z = p
      · rw [hz, hp, insM_lead] at hm; cases hm; exact hx.gl
      · rw [insM_other (hp ▸ hz)] at hm
        cases hm0 : s.1 z with
        | none => rw [hm0] at hm; cases hm
        | some l0 =>
          rw [hm0] at hm
          simp only [Option.map_some, Option.some.injEq] at hm
          have hg0 := (h.gm.gl z l0 hm0).mono (show k ≤ k + 1 by omega)
          subst hm
          split
          · exact hg0.add hx.gl
          · exact hg0
    have hgm' : GM n (k + 1) (insM s.1 x) := by
      refine ⟨hgl', fun z l hm => ?_, fun z l hm => ?_⟩
      · by_cases hz : z = p
        · rw [hz, hp, insM_lead] at hm; cases hm; exact hne
        · rw [insM_other (hp ▸ hz)] at hm
          cases hm0 : s.1 z with
          | none => rw [hm0] at hm; cases hm
          | some l0 =>
            rw [hm0] at hm
            simp only [Option.map_some, Option.some.injEq] at hm
            subst hm
            split
            · rename_i hb; exact (hadd z l0 hm0 hz (hp ▸ hb)).1
            · exact h.gm.ne z l0 hm0
      · by_cases hz : z = p
        · rw [hz, hp, insM_lead] at hm; cases hm; rw [hz, hp]
        · rw [insM_other (hp ▸ hz)] at hm
          cases hm0 : s.1 z with
          | none => rw [hm0] at hm; cases hm
          | some l0 =>
            rw [hm0] at hm
            simp only [Option.map_some, Option.some.injEq] at hm
            subst hm
            split
            · rename_i hb; exact (hadd z l0 hm0 hz (hp ▸ hb)).2
            · exact h.gm.ld z l0 hm0
    have hord : ∀ b, Rows (gensE n b (insM s.1 x, s.2)) := fun b v hv => by
      rcases mem_gensE.1 hv with ⟨z, l, h1, h2, rfl⟩ | ⟨d, hd, rfl⟩
      · exact tagL_ord (hgl' _ _ h2)
      · exact tagL_ord (N := k) ⟨.nil, fun x hx => by simp at hx, (h.dep d hd).1.1, (h.dep d hd).1.2⟩
    have hxg : ∀ b, Sp (gensE n b (insM s.1 x, s.2)) (tagL n b x) := fun b => .mem (mem_gensE.2 (.inl ⟨p.toNat, x, by omega, by rw [show ((p.toNat : Nat) : Int) = p by omega, hp]; exact insM_lead, rfl⟩))
    have hsub : ∀ b, ∀ v ∈ gensE n b s, Sp (gensE n b (insM s.1 x, s.2)) v := fun b v hv => by
      rcases mem_gensE.1 hv with ⟨z, l, h1, h2, rfl⟩ | ⟨d, hd, rfl⟩
      · have hz : (z : Int) ≠ p := fun e => by rw [e, hpn] at h2; cases h2
        have e1 : insM s.1 x z = some (if memB l.1 (lead x.1) = true then addL l x else l) := by rw [insM_other (hp ▸ hz), h2]; rfl
        by_cases hb : memB l.1 (lead x.1) = true
        · rw [if_pos hb] at e1
          have hg0 := (h.gm.gl _ l h2).mono (show k ≤ k + 1 by omega)
          have e2 : tagL n b l = xorL (tagL n b x) (tagL n b (addL l x)) := by
            have o1 := tagL_ord (b := b) hg0
            have o2 := tagL_ord (b := b) hx.gl
            rw [tagL_add hg0 hx.gl, xorL_comm o1 o2, xorL_cancel o2 o1]
          rw [e2]
          exact .xor (hord b) (hxg b) (.mem (mem_gensE.2 (.inl ⟨z, _, h1, e1, rfl⟩)))
        · rw [if_neg hb] at e1
          exact .mem (mem_gensE.2 (.inl ⟨z, _, h1, e1, rfl⟩))
      · exact .mem (mem_gensE.2 (.inr ⟨d, hd, rfl⟩))
    refine ⟨hgm', fun z l hm => ?_, fun z l z' hm hz' hs => ?_, fun d hd => ?_, fun b j hj => ?_, ?_⟩
    · replace hm : insM s.1 x z = some l := hm
      by_cases hz : z = p
      · rw [hz, hp, insM_lead] at hm; cases hm; exact hx.sum
      · rw [insM_other (hp ▸ hz)] at hm
        cases hm0 : s.1 z with
        | none => rw [hm0] at hm; cases hm
        | some l0 =>
          rw [hm0] at hm
          simp only [Option.map_some, Option.some.injEq] at hm
          subst hm
          split
          · show sumRows R (xorL l0.2 x.2) = xorL l0.1 x.1
            rw [sumRows_xor ok.ord, h.sum _ _ hm0, hx.sum]
          · exact h.sum _ _ hm0
    · replace hm : insM s.1 x z = some l := hm
      replace hs : (insM s.1 x z').isSome = true := hs
      rw [insM_isSome] at hs
      rw [← hp] at hs
      simp only [Bool.or_eq_true, decide_eq_true_eq] at hs
      have hnx : (s.1 z').isSome = true → z' ∉ x.1 := fun hs hh => by have := hx.none z' hh; rw [this] at hs; cases hs
      by_cases hz : z = p
      · rw [hz, hp, insM_lead] at hm; cases hm
        rcases hs with hs | hs
        · exact absurd hz' (hnx hs)
        · rw [hs, hz]
      · rw [insM_other (hp ▸ hz)] at hm
        cases hm0 : s.1 z with
        | none => rw [hm0] at hm; cases hm
        | some l0 =>
          rw [hm0] at hm
          simp only [Option.map_some, Option.some.injEq] at hm
          have hg0 := h.gm.gl z l0 hm0
          by_cases hb : memB l0.1 (lead x.1) = true
          · rw [if_pos hb] at hm
            subst hm
            have hz2 : z' ∈ xorL l0.1 x.1 := hz'
            rw [mem_xorL hg0.o1 hx.gl.o1] at hz2
            rcases hs with hs | hs
            · have h1 := hnx hs
              have h2 : z' ∈ l0.1 := Classical.byContradiction fun h2 => hz2 ⟨fun a => absurd a h2, fun a => absurd a h1⟩
              exact h.own z l0 z' hm0 h2 hs
            · subst hs
              exact absurd ⟨fun _ => hpm, fun _ => by simpa [memB, ← hp] using hb⟩ hz2
          · rw [if_neg hb] at hm
            subst hm
            rcases hs with hs | hs
            · exact h.own z l0 z' hm0 hz' hs
            · subst hs
              exact absurd (show memB l0.1 (lead x.1) = true by simpa [memB, ← hp] using hz') hb
    · have := h.dep d hd
      exact ⟨⟨this.1.1, fun y hy => by have := this.1.2 y hy; omega⟩, this.2⟩
    · rcases Nat.lt_or_ge j k with hj' | hj'
      · exact (h.span b j hj').trans (hord b) (hsub b)
      · obtain rfl : j = k := by omega
        obtain ⟨v, hv, he⟩ := hx.span b
        rw [he]
        exact .xor (hord b) (hxg b) (hv.trans (hord b) (hsub b))
    · have hc := h.cnt
      rw [outTo_length] at hc ⊢
      have e1 : (List.range n).countP (fun c => (insM s.1 x (c : Nat)).isSome) = (List.range n).countP (fun c => (s.1 (c : Nat)).isSome || decide (c = p.toNat)) := List.countP_congr fun c hcm => by
        rw [insM_isSome, ← hp]
        have : ((c : Int) = p) ↔ (c = p.toNat) := by omega
        simp [this]
      show (List.range n).countP (fun c => (insM s.1 x (c : Nat)).isSome) + _ = _
      rw [e1, count_one (p := fun c => (s.1 (c : Nat)).isSome) (by omega) (by rw [show ((p.toNat : Nat) : Int) = p by omega, hpn]; rfl)]
      show _ + s.2.length = _
      omega
theorem EInv.all {R : List (List Int)} {n : Nat} (ok : ROk n R) : ∀ k, k ≤ R.length → EInv R n k (echTo R k) := by
  intro k
  induction k with
  | zero => intro _; exact .zero R n
  | succ k ih => intro hk; exact (ih (by omega)).step ok (by omega)
end Go.Proofs.Ytijmjliijjkcbaa
