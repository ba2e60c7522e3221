/- ExprPermutes, plain: permuting the processes of a scene keeps the value of an expression that names processes by variables of quantifiers alone. -/
import Derived.Test.YthogcbffnbhalaaDoorExMath
namespace Go.Proofs.YthogcbffnbhalaaDoor
set_option linter.unusedVariables false

/-- An expression names processes by variables alone. -/
def nameOp (op : Int) : Bool := decide (op = 2 ∨ op = 3 ∨ op = 4)
mutual
def namE : Ex → Bool → Bool
  | .node op num xs, top => if op = 1 then top else if top = true ∧ op = 0 then false else namL xs (nameOp op)
def namL : List Ex → Bool → Bool
  | [], _ => true
  | e :: es, b => !(b && decide (e.op ≠ 1)) && (namE e b && namL es b)
end
theorem namL_iff : ∀ {l : List Ex} {b : Bool}, namL l b = true ↔ ∀ a ∈ l, (b = true → a.op = 1) ∧ namE a b = true
  | [], b => by simp [namL]
  | e :: es, b => by
    simp only [namL, Bool.and_eq_true, List.mem_cons, forall_eq_or_imp, namL_iff (l := es)]
    cases b <;> simp [and_assoc]
theorem nodesErrL_iff : ∀ {l : List Ex} {v : Int}, nodesErrL l v = 0 ↔ ∀ a ∈ l, nodesErr a v = 0
  | [], v => by simp [nodesErrL]
  | e :: es, v => by
    simp only [nodesErrL, List.mem_cons, forall_eq_or_imp]
    by_cases h : nodesErr e v = 0
    · rw [if_neg (by simpa using h), nodesErrL_iff (l := es)]; simp [h]
    · rw [if_pos h]; simp [h]
theorem perm_sum {l l' : List Int} (h : l.Perm l') : l.sum = l'.sum := by
  induction h with
  | nil => rfl
  | cons x _ ih => simp only [List.sum_cons, ih]
  | swap x y l => simp only [List.sum_cons]; omega
  | trans _ _ h1 h2 => exact h1.trans h2
def piI (pi : List Int) (v : Int) : Int := nth pi v.toNat
structure PermS (s t : Sc) (n : Nat) (pi : List Int) : Prop where
  sn : s.n = (n : Int)
  tn : t.n = (n : Int)
  len : pi.length = n
  perm : pi.Perm ((List.range n).map fun k : Nat => (k : Int))
  si : s.inl.length = n
  ti : t.inl.length = n
  so : s.outl.length = n
  to' : t.outl.length = n
  inn : ∀ p, p < n → nth t.inl (nth pi p).toNat = nth s.inl p
  out : ∀ p, p < n → nth t.outl (nth pi p).toNat = nth s.outl p
  hears : ∀ p x, p < n → x < n → bitS (nth t.hears (nth pi p).toNat) (nth pi x) = bitS (nth s.hears p) (x : Int)
theorem PermS.at {s t : Sc} {n : Nat} {pi : List Int} (h : PermS s t n pi) {p : Nat} (hp : p < n) : ∃ q : Nat, q < n ∧ nth pi p = (q : Int) := by
  have hm : nth pi p ∈ pi := by
    have hl := h.len
    simp only [nth, List.getElem?_eq_getElem (show p < pi.length by omega), List.getD_eq_getElem?_getD, Option.getD_some]
    exact List.getElem_mem _
  obtain ⟨q, hq, e⟩ := List.mem_map.1 (h.perm.mem_iff.1 hm)
  exact ⟨q, List.mem_range.1 hq, e.symm⟩
theorem PermS.sum {s t : Sc} {n : Nat} {pi : List Int} (h : PermS s t n pi) (g : Int → Int) : ((List.range n).map fun p : Nat => g (nth pi p)).sum = ((List.range n).map fun p : Nat => g (p : Int)).sum := by
  have e : (List.range n).map (fun p : Nat => nth pi p) = pi := by
    apply List.ext_getElem (by simp [h.len])
    intro i h1 h2
    simp [nth, h2]
  have h1 := perm_sum (h.perm.map g)
  rw [← e, List.map_map, List.map_map] at h1
  exact h1
theorem fs_at (s : Sc) (xs : List Ex) (k : Nat) (vars : List Int) : ((valL s xs)[k]?.getD fun _ => 0) vars = match xs[k]? with | some a => valE s a vars | none => 0 := by
  rw [valL_map, List.getElem?_map]
  cases xs[k]? <;> rfl
theorem nth_map_pi {pi vars : List Int} {k : Nat} (h : k < vars.length) : nth (vars.map (piI pi)) k = piI pi (nth vars k) := by
  simp [nth, h]
theorem atS_perm {n : Nat} {l l' : List Int} {pi : List Int} (h1 : l.length = n) (h2 : l'.length = n) {p q : Nat} (hp : p < n) (hq : q < n) (e : nth pi p = (q : Int)) (h : nth l' (nth pi p).toNat = nth l p) : atS l' (nth pi p) n = atS l (p : Int) n := by
  unfold atS
  rw [if_neg (by rw [h2]; omega), if_neg (by rw [h1]; omega), h, Int.toNat_natCast]
section
variable {s t : Sc} {n : Nat} {pi : List Int}
/-- A variable. -/
theorem var_val {a : Ex} (ha : a.op = 1) (s : Sc) (vars : List Int) : valE s a vars = nth vars a.num.toNat := by
  cases a with
  | node op num xs =>
    have : op = 1 := ha
    subst this
    simp [valE, combine, Ex.num]
theorem var_in {a : Ex} {vars : List Int} (ha : a.op = 1) (h : nodesErr a vars.length = 0) : a.num.toNat < vars.length := by
  cases a with
  | node op num xs =>
    have : op = 1 := ha
    subst this
    unfold nodesErr at h
    split at h
    · omega
    · rename_i h1
      have h2 : nodeErr (.node 1 num xs) vars.length = 0 := by simpa using h1
      unfold nodeErr at h2
      simp only [Ex.op, Ex.num, Ex.args] at h2
      show num.toNat < vars.length
      apply Decidable.byContradiction
      intro hlt
      have h3 : num < 0 ∨ (vars.length : Int) ≤ num := by omega
      rw [if_neg (by decide)] at h2
      split at h2
      · omega
      · rw [if_pos ⟨trivial, h3⟩] at h2; omega
theorem var_perm (h : PermS s t n pi) {a : Ex} {vars : List Int} (ha : a.op = 1) (he : nodesErr a vars.length = 0) (hv : ∀ v ∈ vars, 0 ≤ v ∧ v < (n : Int)) : ∃ p q : Nat, p < n ∧ q < n ∧ nth pi p = (q : Int) ∧ valE s a vars = (p : Int) ∧ valE t a (vars.map (piI pi)) = nth pi p := by
  have hl := var_in ha he
  rw [var_val ha, var_val ha, nth_map_pi hl]
  have hb := hv (nth vars a.num.toNat) (by simp only [nth, List.getD_eq_getElem?_getD, List.getElem?_eq_getElem hl, Option.getD_some]; exact List.getElem_mem _)
  obtain ⟨q, hq, e⟩ := h.at (p := (nth vars a.num.toNat).toNat) (by omega)
  exact ⟨(nth vars a.num.toNat).toNat, q, by omega, hq, e, by omega, rfl⟩
theorem combine_quant {op num : Int} {fs fs' : List (List Int → Int)} {v v' : List Int} (hn : t.n = s.n) (hq : quant op = true)
    (hc : ((List.range t.n.toNat).map fun p : Nat => (fs'[0]?.getD fun _ => 0) (v' ++ [(p : Int)])).sum = ((List.range s.n.toNat).map fun p : Nat => (fs[0]?.getD fun _ => 0) (v ++ [(p : Int)])).sum) : combine t op num fs' v' = combine s op num fs v := by
  have h : op = 13 ∨ op = 14 ∨ op = 15 := by
    unfold quant at hq
    simp only [Bool.and_eq_true, decide_eq_true_eq] at hq
    omega
  unfold combine
  dsimp only
  rcases h with rfl | rfl | rfl
  · rw [if_neg (by decide), if_neg (by decide), if_pos rfl, if_neg (by decide), if_neg (by decide), if_pos rfl, hc, hn]
  · rw [if_neg (by decide), if_neg (by decide), if_neg (by decide), if_pos rfl, if_neg (by decide), if_neg (by decide), if_neg (by decide), if_pos rfl, hc]
  · rw [if_neg (by decide), if_neg (by decide), if_neg (by decide), if_neg (by decide), if_pos rfl, if_neg (by decide), if_neg (by decide), if_neg (by decide), if_neg (by decide), if_pos rfl, hc]
theorem combine_plain {op num : Int} {fs fs' : List (List Int → Int)} {v v' : List Int} (h1 : op ≠ 1) (hq : quant op = false) (h2 : op ≠ 2) (h3 : op ≠ 3) (h4 : op ≠ 4)
    (h0 : (fs'[0]?.getD fun _ => 0) v' = (fs[0]?.getD fun _ => 0) v) (hb : (fs'[1]?.getD fun _ => 0) v' = (fs[1]?.getD fun _ => 0) v) : combine t op num fs' v' = combine s op num fs v := by
  have h : op ≠ 13 ∧ op ≠ 14 ∧ op ≠ 15 := by
    refine ⟨?_, ?_, ?_⟩ <;> (rintro rfl; exact absurd hq (by decide))
  unfold combine
  dsimp only
  rw [h0, hb]
  simp only [if_neg h1, if_neg h.1, if_neg h.2.1, if_neg h.2.2, if_neg h2, if_neg h3, if_neg h4]
theorem node_arity {op num : Int} {xs : List Ex} {v : Int} (h : nodesErr (.node op num xs) v = 0) : (xs.length : Int) = arity op ∧ ∀ a ∈ xs, nodesErr a (innerV op v) = 0 := by
  unfold nodesErr at h
  by_cases h1 : nodeErr (.node op num xs) v = 0
  · rw [if_neg (by simpa using h1)] at h
    refine ⟨?_, nodesErrL_iff.1 h⟩
    unfold nodeErr at h1
    by_cases a1 : arity (Ex.node op num xs).op < 0
    · rw [if_pos a1] at h1; exact absurd h1 (by decide)
    rw [if_neg a1] at h1
    by_cases a2 : ((Ex.node op num xs).args.length : Int) ≠ arity (Ex.node op num xs).op
    · rw [if_pos a2] at h1; exact absurd h1 (by decide)
    exact Decidable.not_not.1 a2
  · rw [if_pos h1] at h; exact absurd h h1
mutual
theorem val_permE (h : PermS s t n pi) : ∀ (e : Ex) (vars : List Int), nodesErr e vars.length = 0 → (∀ v ∈ vars, 0 ≤ v ∧ v < (n : Int)) → namE e false = true → valE t e (vars.map (piI pi)) = valE s e vars
  | .node op num xs, vars, he, hv, hn => by
    obtain ⟨hal, hx⟩ := node_arity he
    unfold namE at hn
    by_cases h1 : op = 1
    · rw [if_pos h1] at hn; cases hn
    rw [if_neg h1, if_neg (by simp)] at hn
    show combine t op num (valL t xs) (vars.map (piI pi)) = combine s op num (valL s xs) vars
    have htn : t.n = s.n := h.tn.trans h.sn.symm
    cases hq : quant op with
    | true =>
      have hno : nameOp op = false := by
        unfold nameOp quant at *
        simp only [Bool.and_eq_true, decide_eq_true_eq] at hq
        rw [decide_eq_false_iff_not]; omega
      rw [hno] at hn
      have hiv : innerV op (vars.length : Int) = ((vars.length + 1 : Nat) : Int) := by unfold innerV; rw [if_pos hq]; omega
      rw [hiv] at hx
      refine combine_quant htn hq ?_
      rw [h.tn, h.sn, Int.toNat_natCast]
      have key : ∀ p : Nat, p < n → ((valL t xs)[0]?.getD fun _ => 0) (vars.map (piI pi) ++ [nth pi p]) = ((valL s xs)[0]?.getD fun _ => 0) (vars ++ [(p : Int)]) := fun p hp => by
        have := val_permL h xs (vars ++ [(p : Int)]) (fun a ha => by rw [List.length_append, List.length_singleton]; exact hx a ha) (fun v hm => by
          rcases List.mem_append.1 hm with hm | hm
          · exact hv v hm
          · rw [List.mem_singleton.1 hm]; omega) hn 0
        rw [List.map_append] at this
        exact this
      rw [← h.sum (fun x => ((valL t xs)[0]?.getD fun _ => 0) (vars.map (piI pi) ++ [x]))]
      congr 1
      exact List.map_congr_left fun p hp => key p (List.mem_range.1 hp)
    | false =>
      have hiv : innerV op (vars.length : Int) = (vars.length : Int) := by unfold innerV; rw [hq]; rfl
      rw [hiv] at hx
      by_cases h2 : op = 2
      · subst h2
        obtain ⟨a, rfl⟩ : ∃ a, xs = [a] := by
          match xs, hal with
          | [a], _ => exact ⟨a, rfl⟩
          | [], h => exact absurd h (by decide)
          | a :: b :: l, h => exact absurd h (by simp [arity]; omega)
        have hna := namL_iff.1 hn a (by simp)
        obtain ⟨p, q, hp, hq', e, v1, v2⟩ := var_perm h (hna.1 rfl) (hx a (by simp)) hv
        have r : ∀ u : Sc, ∀ vs, combine u 2 num (valL u [a]) vs = atS u.inl (valE u a vs) u.n := fun u vs => by simp [combine, valL]
        rw [r, r, v1, v2, h.tn, h.sn]
        exact atS_perm h.si h.ti hp hq' e (h.inn p hp)
      by_cases h3 : op = 3
      · subst h3
        obtain ⟨a, rfl⟩ : ∃ a, xs = [a] := by
          match xs, hal with
          | [a], _ => exact ⟨a, rfl⟩
          | [], h => exact absurd h (by decide)
          | a :: b :: l, h => exact absurd h (by simp [arity]; omega)
        have hna := namL_iff.1 hn a (by simp)
        obtain ⟨p, q, hp, hq', e, v1, v2⟩ := var_perm h (hna.1 rfl) (hx a (by simp)) hv
        have r : ∀ u : Sc, ∀ vs, combine u 3 num (valL u [a]) vs = atS u.outl (valE u a vs) u.n := fun u vs => by simp [combine, valL]
        rw [r, r, v1, v2, h.tn, h.sn]
        exact atS_perm h.so h.to' hp hq' e (h.out p hp)
      by_cases h4 : op = 4
      · subst h4
        obtain ⟨a, b, rfl⟩ : ∃ a b, xs = [a, b] := by
          match xs, hal with
          | [a, b], _ => exact ⟨a, b, rfl⟩
          | [], h => exact absurd h (by decide)
          | [a], h => exact absurd h (by simp [arity])
          | a :: b :: c :: l, h => exact absurd h (by simp [arity]; omega)
        have hna := namL_iff.1 hn a (by simp)
        have hnb := namL_iff.1 hn b (by simp)
        obtain ⟨p, q, hp, hq', e, v1, v2⟩ := var_perm h (hna.1 rfl) (hx a (by simp)) hv
        obtain ⟨x, y, hx', hy, e', v3, v4⟩ := var_perm h (hnb.1 rfl) (hx b (by simp)) hv
        have r : ∀ u : Sc, ∀ vs, combine u 4 num (valL u [a, b]) vs = flag (decide (0 ≤ valE u a vs) && decide (valE u a vs < u.n) && decide (0 ≤ valE u b vs) && decide (valE u b vs < u.n) && bitS (nth u.hears (valE u a vs).toNat) (valE u b vs)) := fun u vs => by simp [combine, valL]
        rw [r, r, v1, v2, v3, v4, h.tn, h.sn, h.hears p x hp hx', Int.toNat_natCast]
        rw [decide_eq_true (show 0 ≤ nth pi p by omega), decide_eq_true (show nth pi p < (n : Int) by omega), decide_eq_true (show 0 ≤ nth pi x by omega), decide_eq_true (show nth pi x < (n : Int) by omega),
          decide_eq_true (show (0 : Int) ≤ (p : Int) by omega), decide_eq_true (show (p : Int) < (n : Int) by omega), decide_eq_true (show (0 : Int) ≤ (x : Int) by omega), decide_eq_true (show (x : Int) < (n : Int) by omega)]
      have hno : nameOp op = false := by unfold nameOp; rw [decide_eq_false_iff_not]; omega
      rw [hno] at hn
      exact combine_plain h1 hq h2 h3 h4 (val_permL h xs vars hx hv hn 0) (val_permL h xs vars hx hv hn 1)
theorem val_permL (h : PermS s t n pi) : ∀ (xs : List Ex) (vars : List Int), (∀ a ∈ xs, nodesErr a vars.length = 0) → (∀ v ∈ vars, 0 ≤ v ∧ v < (n : Int)) → namL xs false = true → ∀ k : Nat, ((valL t xs)[k]?.getD fun _ => 0) (vars.map (piI pi)) = ((valL s xs)[k]?.getD fun _ => 0) vars
  | [], vars, he, hv, hn, k => rfl
  | e :: es, vars, he, hv, hn, k => by
    have hn' := namL_iff.1 hn
    cases k with
    | zero => exact val_permE h e vars (he e (by simp)) hv (hn' e (by simp)).2
    | succ k => exact val_permL h es vars (fun a ha => he a (by simp [ha])) hv (namL_iff.2 fun a ha => hn' a (by simp [ha])) k
end
/-- ExprPermutes, plain. -/
theorem val_perm (h : PermS s t n pi) {e : Ex} (he : checkE e 0 = 0) (hn : namE e false = true) : valE t e [] = valE s e [] := by
  have h1 : nodesErr e (([] : List Int).length) = 0 := by
    unfold checkE at he
    split at he
    · cases he
    · split at he
      · cases he
      · split at he
        · cases he
        · exact he
  exact val_permE h e [] h1 (fun v hv => by cases hv) hn
end
/-- A swap keeps a permutation one. -/
theorem swap_perm {l : List Int} {i k : Nat} (hi : i < l.length) (hk : k < l.length) : ((l.set i (nth l k)).set k (nth l i)).Perm l := by
  have ei : nth l i = l[i] := by simp [nth, hi]
  have ek : nth l k = l[k] := by simp [nth, hk]
  rw [ei, ek]
  have h1 := Array.swap_perm (xs := l.toArray) (i := i) (j := k) (by simpa using hi) (by simpa using hk)
  have h2 := Array.perm_iff_toList_perm.1 h1
  simpa [Array.swap] using h2
/-- Its entries differ. -/
theorem perm_inj {pi : List Int} {n : Nat} (h : pi.Perm ((List.range n).map fun k : Nat => (k : Int))) {p q : Nat} (hp : p < n) (hq : q < n) (e : nth pi p = nth pi q) : p = q := by
  have hl : pi.length = n := by have := h.length_eq; simpa using this
  have hnd : pi.Nodup := h.symm.nodup (List.pairwise_map.2 (List.nodup_range.imp fun h e => h (by omega)))
  have key : ∀ i j, i < j → j < n → nth pi i ≠ nth pi j := fun i j hij hj => by
    have := List.pairwise_iff_getElem.1 hnd i j (by omega) (by omega) hij
    simpa [nth, show i < pi.length by omega, show j < pi.length by omega] using this
  rcases Nat.lt_trichotomy p q with hlt | hlt | hlt
  · exact absurd e (key p q hlt hq)
  · exact hlt
  · exact absurd e.symm (key q p hlt hp)
/-- Each process is an entry. -/
theorem perm_onto {pi : List Int} {n : Nat} (h : pi.Perm ((List.range n).map fun k : Nat => (k : Int))) {q : Nat} (hq : q < n) : ∃ p, p < n ∧ nth pi p = (q : Int) := by
  have hl : pi.length = n := by have := h.length_eq; simpa using this
  have hm : (q : Int) ∈ pi := h.mem_iff.2 (List.mem_map.2 ⟨q, List.mem_range.2 hq, rfl⟩)
  obtain ⟨p, hp, e⟩ := List.getElem_of_mem hm
  exact ⟨p, by omega, by simp [nth, hp, e]⟩
end Go.Proofs.YthogcbffnbhalaaDoor

