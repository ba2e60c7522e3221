/- A drawn region in which some operations write what loads read (as in 'a[i], a[k] = a[k], a[i]'): what the loads need holds until one of these is done. -/
import Derived.Test.YthogcbffnbhalaaDoorReg
namespace Go.Proofs.YthogcbffnbhalaaDoor
set_option linter.unusedVariables false

section
variable {P : Program} {ops : Array Oper} {Q : Exit → Act → World → Prop} {md : Region.Mode} {S : World → Prop} {D : Nat → Bool}

def NoD (D : Nat → Bool) (listed : Array Bool) : Prop := ∀ d, D d = true → listed.getD d true = false
theorem NoD.set {listed : Array Bool} {i : Nat} (h : NoD D listed) (hi : D i = false) : NoD D (listed.setIfInBounds i true) := fun d hd => by
  rw [getD_set_ne true (fun e => by subst e; rw [hi] at hd; cases hd)]; exact h d hd
theorem NoD.of_set {listed : Array Bool} {i : Nat} (h : NoD D (listed.setIfInBounds i true)) (hi : D i = false) : NoD D listed := fun d hd => by
  have := h d hd
  rwa [getD_set_ne true (fun e => by subst e; rw [hi] at hd; cases hd)] at this

def AnyD (P : Program) (md : Region.Mode) (ops : Array Oper) (Q : Exit → Act → World → Prop) (S : World → Prop) (D : Nat → Bool) : Nat → Array Bool → Act → World → Prop
  | 0, listed, a, w => Region.ready md ops listed = [] ∧ Q .normal a w
  | fuel + 1, listed, a, w =>
    (Region.ready md ops listed = [] → Q .normal a w) ∧
    ∀ i ∈ Region.ready md ops listed, wpOp P ops Q i (fun a' w' => (NoD D (listed.setIfInBounds i true) → S w') ∧ AnyD P md ops Q S D fuel (listed.setIfInBounds i true) a' w') a w

theorem any_of_anyD : ∀ (fuel : Nat) (listed : Array Bool) (a : Act) (w : World), AnyD P md ops Q S D fuel listed a w → wpAny P md ops Q fuel listed a w
  | 0, _, _, _, h => h
  | fuel + 1, _, _, _, h => ⟨h.1, fun i hi => wpOp_mono (fun a' w' h' => any_of_anyD fuel _ a' w' h'.2) (h.2 i hi)⟩

/-- An operation that needs S: those that end S wait for it. -/
theorem anyD_first {i : Nat} {oi : Oper} {v : Value} (hi : ops[i]? = some oi) (hsel : ∀ (j : Nat) (o : Oper) cs b, ops[j]? = some o → o.op ≠ .select cs b)
    (hX : waitFor md ops D i = true) (hDi : D i = false) (hQ : ∀ c a w, Q (.panic c) (a.put oi.dst v) w → Q (.panic c) a w) :
    ∀ (fuel : Nat) (listed : Array Bool) (a : Act) (w : World),
      (∀ j oj, ops[j]? = some oj → j ≠ i → listed.getD j true = false → (∀ e ∈ oj.after, Region.binds md e = true → e.on ≠ i) → oi.apart ops oj = true) →
      i ∈ Region.ready md ops listed → YieldsIf P ops S oi v a → NoD D listed → S w →
      AnyD P md ops Q S D fuel (listed.setIfInBounds i true) (a.put oi.dst v) w → AnyD P md ops Q S D (fuel + 1) listed a w := by
  intro fuel
  induction fuel with
  | zero =>
    intro listed a w _ hr hy hN hS H
    refine ⟨fun h => (by rw [h] at hr; cases hr), fun j hj => ?_⟩
    by_cases hji : j = i
    · subst hji; exact hy.wpOp hi hS ⟨fun _ => hS, H⟩
    · have := ready_mono hj hji
      rw [H.1] at this
      cases this
  | succ fuel ih =>
    intro listed a w hfree hr hy hN hS H
    refine ⟨fun h => (by rw [h] at hr; cases hr), fun j hj => ?_⟩
    by_cases hji : j = i
    · subst hji; exact hy.wpOp hi hS ⟨fun _ => hS, H⟩
    · have h1 := H.2 j (ready_mono hj hji)
      obtain ⟨hjun, oj, hoj, hall⟩ := mem_ready.1 hj
      have hnot : ∀ e ∈ oj.after, Region.binds md e = true → e.on ≠ i := fun e he hb heq => by
        have k1 := hall e he hb
        have k0 := (mem_ready.1 hr).1
        rw [heq] at k1
        rcases Nat.lt_or_ge i listed.size with h' | h'
        · simp [h'] at k0 k1; rw [k0] at k1; cases k1
        · simp [Array.getElem?_eq_none h'] at k1
      have hxj : D j = false := waitFor_spec hX hoj hnot
      have h2 := wpOp_putIf hoj (hfree j oj hoj hji hjun hnot) (fun cs b => hsel i oi cs b hi) (fun cs b => hsel j oj cs b hoj) hQ hy h1
      refine wpOp_mono (fun a' w' h3 => ?_) h2
      have hS' : S w' := h3.2.1 ((hN.set hDi).set hxj)
      refine ⟨fun _ => hS', ih (listed.setIfInBounds j true) a' w' (fun k ok hk hki hun hno => ?_) (ready_mono hr (Ne.symm hji)) h3.1 (hN.set hxj) hS' ?_⟩
      · refine hfree k ok hk hki ?_ hno
        by_cases hjk : j = k
        · subst hjk; exact hjun
        · rw [getD_set_ne true hjk] at hun; exact hun
      · rw [Array.setIfInBounds_comm _ _ hji]
        exact h3.2.2

/-- An operation that does not look at memory. -/
theorem anyD_blind {i : Nat} {oi : Oper} {v : Value} (hi : ops[i]? = some oi) (hsel : ∀ (j : Nat) (o : Oper) cs b, ops[j]? = some o → o.op ≠ .select cs b)
    (hDi : D i = false) (hQ : ∀ c a w, Q (.panic c) (a.put oi.dst v) w → Q (.panic c) a w) :
    ∀ (fuel : Nat) (listed : Array Bool) (a : Act) (w : World),
      (∀ j oj, ops[j]? = some oj → j ≠ i → listed.getD j true = false → (∀ e ∈ oj.after, Region.binds md e = true → e.on ≠ i) → oi.apart ops oj = true) →
      i ∈ Region.ready md ops listed → YieldsIf P ops (fun _ => True) oi v a → (NoD D listed → S w) →
      AnyD P md ops Q S D fuel (listed.setIfInBounds i true) (a.put oi.dst v) w → AnyD P md ops Q S D (fuel + 1) listed a w := by
  intro fuel
  induction fuel with
  | zero =>
    intro listed a w _ hr hy hS H
    refine ⟨fun h => (by rw [h] at hr; cases hr), fun j hj => ?_⟩
    by_cases hji : j = i
    · subst hji; exact hy.wpOp hi trivial ⟨fun h => hS (h.of_set hDi), H⟩
    · have := ready_mono hj hji
      rw [H.1] at this
      cases this
  | succ fuel ih =>
    intro listed a w hfree hr hy hS H
    refine ⟨fun h => (by rw [h] at hr; cases hr), fun j hj => ?_⟩
    by_cases hji : j = i
    · subst hji; exact hy.wpOp hi trivial ⟨fun h => hS (h.of_set hDi), H⟩
    · have h1 := H.2 j (ready_mono hj hji)
      obtain ⟨hjun, oj, hoj, hall⟩ := mem_ready.1 hj
      have hnot : ∀ e ∈ oj.after, Region.binds md e = true → e.on ≠ i := fun e he hb heq => by
        have k1 := hall e he hb
        have k0 := (mem_ready.1 hr).1
        rw [heq] at k1
        rcases Nat.lt_or_ge i listed.size with h' | h'
        · simp [h'] at k0 k1; rw [k0] at k1; cases k1
        · simp [Array.getElem?_eq_none h'] at k1
      have h2 := wpOp_putIf hoj (hfree j oj hoj hji hjun hnot) (fun cs b => hsel i oi cs b hi) (fun cs b => hsel j oj cs b hoj) hQ hy h1
      refine wpOp_mono (fun a' w' h3 => ?_) h2
      have hS' : NoD D (listed.setIfInBounds j true) → S w' := fun hN => h3.2.1 (by rw [Array.setIfInBounds_comm _ _ (Ne.symm hji)]; exact hN.set hDi)
      refine ⟨hS', ih (listed.setIfInBounds j true) a' w' (fun k ok hk hki hun hno => ?_) (ready_mono hr (Ne.symm hji)) h3.1 hS' ?_⟩
      · refine hfree k ok hk hki ?_ hno
        by_cases hjk : j = k
        · subst hjk; exact hjun
        · rw [getD_set_ne true hjk] at hun; exact hun
      · rw [Array.setIfInBounds_comm _ _ hji]
        exact h3.2.2

/-- No operation of D is done. -/
def noD (D : Nat → Bool) (listed : Array Bool) : Bool := (List.range listed.size).all fun d => !D d || !listed.getD d true
theorem noD_spec {listed : Array Bool} (h : noD D listed = true) (hs : ∀ d, D d = true → d < listed.size) : NoD D listed := fun d hd => by
  have := List.all_eq_true.1 h d (List.mem_range.2 (hs d hd))
  rw [hd] at this
  simpa using this
/-- Number i, which needs S, is taken first. -/
theorem anyD_take {l : List Oper} (i : Nat) {oi : Oper} {v : Value} {fuel : Nat} {listed : Array Bool} {a : Act} {w : World} (hi : l[i]? = some oi)
    (hf : (Region.noSelect l.toArray && (Region.free md l.toArray listed i && ((Region.ready md l.toArray listed).contains i && (waitFor md l.toArray D i && (!D i && noD D listed))))) = true) (hs : ∀ d, D d = true → d < listed.size)
    (hQ : ∀ c a w, Q (.panic c) (a.put oi.dst v) w → Q (.panic c) a w) (hw : Region.wanted oi (yielded l.toArray a.tmps) = true) (hy : ∀ w, S w → (execOp a.eval oi).run P w = .ok (.value v) w) (hS : S w)
    (h : AnyD P md l.toArray Q S D fuel (listed.setIfInBounds i true) (a.put oi.dst v) w) : AnyD P md l.toArray Q S D (fuel + 1) listed a w := by
  simp only [Bool.and_eq_true, Bool.not_eq_true'] at hf
  obtain ⟨h1, h2, h3, h4, h5, h6⟩ := hf
  have hi' : l.toArray[i]? = some oi := by simpa using hi
  exact anyD_first hi' (Region.noSelect_spec h1) h4 h5 hQ fuel listed a w (Region.free_spec hi' h2) (by simpa using h3) (.inl ⟨hw, hy⟩) (noD_spec h6 hs) hS h
/-- Number i, which does not look at memory, is taken first. -/
theorem anyD_see {l : List Oper} (i : Nat) {oi : Oper} {v : Value} {fuel : Nat} {listed : Array Bool} {a : Act} {w : World} (hi : l[i]? = some oi)
    (hf : (Region.noSelect l.toArray && (Region.free md l.toArray listed i && ((Region.ready md l.toArray listed).contains i && !D i))) = true)
    (hQ : ∀ c a w, Q (.panic c) (a.put oi.dst v) w → Q (.panic c) a w) (hw : Region.wanted oi (yielded l.toArray a.tmps) = true) (hy : ∀ w, (execOp a.eval oi).run P w = .ok (.value v) w) (hS : NoD D listed → S w)
    (h : AnyD P md l.toArray Q S D fuel (listed.setIfInBounds i true) (a.put oi.dst v) w) : AnyD P md l.toArray Q S D (fuel + 1) listed a w := by
  simp only [Bool.and_eq_true, Bool.not_eq_true'] at hf
  obtain ⟨h1, h2, h3, h5⟩ := hf
  have hi' : l.toArray[i]? = some oi := by simpa using hi
  exact anyD_blind hi' (Region.noSelect_spec h1) h5 hQ fuel listed a w (Region.free_spec hi' h2) (by simpa using h3) (.inl ⟨hw, fun w _ => hy w⟩) hS h
/-- Number i alone may come up. -/
theorem anyD_one {l : List Oper} (i : Nat) {o : Oper} {fuel : Nat} {listed : Array Bool} {a : Act} {w : World} (ho : l[i]? = some o) (hr : Region.ready md l.toArray listed = [i])
    (h : ∀ K' : Act → World → Prop, Shut (∀ a w, (NoD D (listed.setIfInBounds i true) → S w) → ((NoD D (listed.setIfInBounds i true) → S w) → AnyD P md l.toArray Q S D fuel (listed.setIfInBounds i true) a w) → K' a w) → if Region.wanted o (yielded l.toArray a.tmps) = true then Oper.wp P o a w K' Q else K' (a.put o.dst undef) w) :
    AnyD P md l.toArray Q S D (fuel + 1) listed a w := by
  refine ⟨fun h0 => (by rw [hr] at h0; cases h0), fun j hj => ?_⟩
  rw [hr] at hj
  obtain rfl : j = i := by simpa using hj
  exact wpOp_step (by simpa using ho) fun K' hK => h K' fun a w h1 h2 => hK a w ⟨h1, h2 h1⟩
theorem anyD_done {listed : Array Bool} {a : Act} {w : World} (hr : Region.ready md ops listed = []) (h : Q .normal a w) :
    ∀ fuel, AnyD P md ops Q S D fuel listed a w
  | 0 => ⟨hr, h⟩
  | _ + 1 => ⟨fun _ => h, by rw [hr]; simp⟩
theorem region_D (S : World → Prop) (D : Nat → Bool) {id : Nat} {a : Act} {w : World} (hm : P.follows .mixedOrders = true) (hS : S w.drew)
    (h : S w.drew → AnyD P .any ops Q S D ops.size (Array.replicate ops.size false) a w.drew) : (Code.region id ops true).wp P Q a w :=
  wp_region_any hm (any_of_anyD _ _ _ _ (h hS))
theorem noD_done {listed : Array Bool} {i : Nat} (hi : D i = true) (h : listed.getD i true = true) : ¬ NoD D listed := fun h2 => by have := h2 i hi; rw [h] at this; cases this
end
end Go.Proofs.YthogcbffnbhalaaDoor

