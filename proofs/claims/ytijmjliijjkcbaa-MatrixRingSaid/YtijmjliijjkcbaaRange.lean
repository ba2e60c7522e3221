/- Ranging over a map whose elements a round may store anew. -/
import Derived.Test.YtijmjliijjkcbaaMaps
import Derived.Maps.RangeWalk
namespace Go.Proofs.Ytijmjliijjkcbaa
set_option linter.unusedVariables false
open Go.RowKit Go.Maps Go.MapKept
open Go.WideShapes (atKey_sorted)
open Go.WideElems (Fit rd rg pl rd_key rd_val rg_of other_key rd_mk)

section
variable {P : Program} {k : TypeId} {K : Type}

/-- Each key is one of the bundle's. -/
def KeyInv (B : KeyB P k K) : Prop := ∀ v l, keyOf P k v = some l → ∃ x, B.ok x ∧ v = B.kv x ∧ l = B.kl x
theorem intKey_inv (hk : P.underlying k = some (.int .i64)) : KeyInv (intKey hk) := fun v l h => by
  obtain ⟨x, rfl, rfl, hw⟩ := Maps.keyOf_int_inv hk h
  exact ⟨x, WF.of_lit hw, rfl, rfl⟩

/-- The entries, one for each key of m. -/
structure Ents (B : KeyB P k K) (es : Array MapEntry) (clock : Nat) (m : K → Option Value) (n : Nat) : Prop where
  fit : Fit P k heldR es clock
  size : es.size = n
  to : ∀ e ∈ es.toList, ∃ x, B.ok x ∧ e.key = B.kv x ∧ m x = some e.val
  from_ : ∀ x y, B.ok x → m x = some y → ∃ e ∈ es.toList, e.key = B.kv x ∧ e.val = y
end

section
variable {P : Program} {k : TypeId} {K : Type} {B : KeyB P k K} {w : World} {b n : Nat} {m : K → Option Value} {es : Array MapEntry} {clock : Nat}

theorem Ents.uniq (h : Ents B es clock m n) {e e' : MapEntry} (he : e ∈ es.toList) (he' : e' ∈ es.toList) (hk : e.key = e'.key) : e = e' :=
  entry_eq_of_key ((stamped_iff es clock).1 h.fit.stamped).2.2 he he' hk
theorem ents_rg {e : MapEntry} (F : Fit P k heldR es clock) (he : e ∈ es.toList) {x : K} (hx : B.ok x) (hk : e.key = B.kv x) : rg P k heldR e = (B.kl x, .held e.val) := by
  obtain ⟨y, hy⟩ := F.reads e he
  obtain ⟨z, hz, hzd⟩ := rd_val hy
  have h1 := rd_key hy
  rw [hk, B.reads x hx] at h1
  rw [rg_of hy]
  simp only [heldR, Option.some.injEq] at hz
  rw [← hz] at hzd
  have h2 : B.kl x = y.1 := Option.some.inj h1
  obtain ⟨y1, y2⟩ := y
  simp only at h2 hzd
  rw [h2, hzd]
theorem MapV.ents (h : MapV B w b m n) (inv : KeyInv B) : ∃ es clock, w.heap[b]? = some (.map es clock) ∧ Ents B es clock m n := by
  obtain ⟨D, ⟨es, clock, hb, F, hs, rfl⟩, hsz, hm⟩ := h
  refine ⟨es, clock, hb, F, ?_, fun e he => ?_, fun x y hx hy => ?_⟩
  · simpa [Maps.size, length_sorted] using hsz
  · obtain ⟨y, hy⟩ := F.reads e he
    obtain ⟨x, hx, hkv, hkl⟩ := inv _ _ (rd_key hy)
    have hrg := ents_rg F he hx hkv
    have hmem : rg P k heldR e ∈ es.toList.map (rg P k heldR) := List.mem_map.2 ⟨e, he, rfl⟩
    obtain ⟨h1, h2⟩ := hm x hx
    have hh : has (DataW.map ((es.toList.map (rg P k heldR)).foldr DataW.insert [])) (B.kl x) = true :=
      List.any_eq_true.2 ⟨rg P k heldR e, mem_sorted.2 hmem, by rw [hrg]; exact WideAt.sameKey_self (B.key hx)⟩
    rw [hh] at h1
    cases hmx : m x with
    | none => rw [hmx] at h1; cases h1
    | some y' =>
      have h3 := h2 y' hmx (.held y')
      rw [(atKey_sorted (es.toList.map (rg P k heldR)) (Maps.fit_rising B.law F) (B.kl x) (B.key hx)).2 _ hmem (by rw [hrg]) (.held y'), hrg] at h3
      injection h3 with h3
      exact ⟨x, hx, hkv, by rw [hmx, h3]⟩
  · obtain ⟨h1, h2⟩ := hm x hx
    rw [hy] at h1
    obtain ⟨p, hp, hpk⟩ := List.any_eq_true.1 h1
    obtain ⟨e, he, rfl⟩ := List.mem_map.1 (mem_sorted.1 hp)
    obtain ⟨y0, hy0⟩ := F.reads e he
    obtain ⟨x', hx', hkv, hkl⟩ := inv _ _ (rd_key hy0)
    have hrg := ents_rg F he hx' hkv
    rw [hrg] at hpk
    have hll : B.kl x' = B.kl x := WideAt.sameKey_eq hpk
    have hxx : x' = x := by
      rcases Classical.em (x' = x) with h | h
      · exact h
      · exact absurd hll (B.lit_ne hx' hx h)
    subst hxx
    have h3 := h2 y hy (.held y)
    rw [(atKey_sorted (es.toList.map (rg P k heldR)) (Maps.fit_rising B.law F) (B.kl x') (B.key hx)).2 _ (List.mem_map.2 ⟨e, he, rfl⟩) (by rw [hrg]) (.held y), hrg] at h3
    injection h3 with h3
    exact ⟨e, he, hkv, h3⟩
theorem Ents.mapV (h : Ents B es clock m n) (hb : w.heap[b]? = some (.map es clock)) : MapV B w b m n := by
  refine ⟨.map ((es.toList.map (rg P k heldR)).foldr DataW.insert []), ⟨es, clock, hb, h.fit, by rw [h.size]; exact Nat.le_refl _, rfl⟩, by simp [Maps.size, length_sorted, h.size], fun x hx => ?_⟩
  cases hmx : m x with
  | none =>
    refine ⟨?_, fun y hy => by cases hy⟩
    cases hh : has (DataW.map ((es.toList.map (rg P k heldR)).foldr DataW.insert [])) (B.kl x) with
    | false => rfl
    | true =>
      obtain ⟨p, hp, hpk⟩ := List.any_eq_true.1 hh
      obtain ⟨e, he, rfl⟩ := List.mem_map.1 (mem_sorted.1 hp)
      obtain ⟨x', hx', hkv, hv⟩ := h.to e he
      rw [ents_rg h.fit he hx' hkv] at hpk
      have hll : B.kl x' = B.kl x := WideAt.sameKey_eq hpk
      have hxx : x' = x := by
        rcases Classical.em (x' = x) with h | h
        · exact h
        · exact absurd hll (B.lit_ne hx' hx h)
      subst hxx
      rw [hmx] at hv; cases hv
  | some y =>
    obtain ⟨e, he, hkv, rfl⟩ := h.from_ x y hx hmx
    have hrg := ents_rg h.fit he hx hkv
    have hmem : rg P k heldR e ∈ es.toList.map (rg P k heldR) := List.mem_map.2 ⟨e, he, rfl⟩
    refine ⟨List.any_eq_true.2 ⟨rg P k heldR e, mem_sorted.2 hmem, by rw [hrg]; exact WideAt.sameKey_self (B.key hx)⟩, fun y' hy' z => ?_⟩
    cases hy'
    rw [(atKey_sorted (es.toList.map (rg P k heldR)) (Maps.fit_rising B.law h.fit) (B.kl x) (B.key hx)).2 _ hmem (by rw [hrg]) z, hrg]

/-- 'for x, y := range m' under way: left x tells whether x is still to come. -/
def RangeV (B : KeyB P k K) (w : World) (b r : Nat) (m : K → Option Value) (n : Nat) (left : K → Bool) (cnt : Nat) : Prop :=
  ∃ es clock since seen c0, w.heap[b]? = some (.map es clock) ∧ Ents B es clock m n ∧ w.heap[r]? = some (.mapIter (some b) since seen c0) ∧ (∀ x ∈ es.toList, x.born < since) ∧ since ≤ c0 ∧ since ≤ clock ∧ (leftOf es seen).size = cnt ∧
    ∀ x, B.ok x → (left x = true ↔ ∃ e ∈ es.toList, e.key = B.kv x ∧ seen.contains e.born = false)
theorem RangeV.mapV {r cnt : Nat} {left : K → Bool} (h : RangeV B w b r m n left cnt) : MapV B w b m n := by
  obtain ⟨es, clock, _, _, _, hb, E, _⟩ := h
  exact E.mapV hb
theorem RangeV.lt {r cnt : Nat} {left : K → Bool} (h : RangeV B w b r m n left cnt) : b < w.heap.size ∧ r < w.heap.size ∧ r ≠ b := by
  obtain ⟨es, clock, since, seen, c0, hb, E, hr, _⟩ := h
  exact ⟨(Array.getElem?_eq_some_iff.1 hb).1, (Array.getElem?_eq_some_iff.1 hr).1, fun e => by rw [e, hb] at hr; cases hr⟩
theorem RangeV.agree {S : Nat → Prop} {w' : World} {r cnt : Nat} {left : K → Bool} (h : RangeV B w b r m n left cnt) (hw : Agree S w w') (h1 : S b) (h2 : S r) : RangeV B w' b r m n left cnt := by
  obtain ⟨l1, l2, _⟩ := h.lt
  obtain ⟨es, clock, since, seen, c0, hb, E, hr, rest⟩ := h
  exact ⟨es, clock, since, seen, c0, (hw.block b h1 l1).trans hb, E, (hw.block r h2 l2).trans hr, rest⟩
theorem RangeV.ext {w' : World} {r cnt : Nat} {left : K → Bool} (h : RangeV B w b r m n left cnt) (hw : Below w.heap.size w w') : RangeV B w' b r m n left cnt := h.agree (S := fun _ => True) (.of_ext hw) trivial trivial
theorem RangeV.left_eq {r cnt : Nat} {left : K → Bool} (h : RangeV B w b r m n left cnt) : w.rangeLeft b r = cnt := by
  obtain ⟨es, clock, since, seen, c0, hb, _, hr, _, _, _, hc, _⟩ := h
  simp only [World.rangeLeft, hb, hr]
  exact hc
theorem RangeV.left_some {r cnt : Nat} {left : K → Bool} (h : RangeV B w b r m n left cnt) {x : K} (hx : B.ok x) (hl : left x = true) : (m x).isSome = true := by
  obtain ⟨es, clock, since, seen, c0, hb, E, hr, _, _, _, hc, hlf⟩ := h
  obtain ⟨e, he, hk, _⟩ := (hlf x hx).1 hl
  obtain ⟨x', hx', hk', hv⟩ := E.to e he
  rw [B.inj x x' (hk ▸ hk'), hv]; rfl

theorem MapV.range {t e : TypeId} (h : MapV B w b m n) (inv : KeyInv B) (ht : P.underlying t = some (.map k e)) :
    ∃ w', (Instr.range t (.map (some b))).run P w = .ok (.pointer (some ⟨w.heap.size, 0, none⟩)) w' ∧ RangeV B w' b w.heap.size m n (fun x => (m x).isSome) n ∧ w.grownBy w' none ∧ w'.heap.size = w.heap.size + 1 := by
  have hlt := h.lt
  obtain ⟨es, clock, hb, E⟩ := h.ents inv
  refine ⟨_, run_range_map w t k e b es clock ht hb, ⟨es, clock, clock, #[], clock, ((MapKept.heap_alloc w _).2 b hlt).trans hb, E, (MapKept.heap_alloc w _).1, E.fit.stamped.1, Nat.le_refl _, Nat.le_refl _, ?_, fun x hx => ?_⟩, World.grownBy_alloc w _ none, by simp⟩
  · rw [show leftOf es #[] = es from by unfold leftOf; simp]; exact E.size
  show (m x).isSome = true ↔ _
  constructor
  · intro hs
    cases hmx : m x with
    | none => rw [hmx] at hs; cases hs
    | some y =>
      obtain ⟨e', he', hk, _⟩ := E.from_ x y hx hmx
      exact ⟨e', he', hk, by simp⟩
  · rintro ⟨e', he', hk, _⟩
    obtain ⟨x', hx', hk', hv⟩ := E.to e' he'
    have : x = x' := B.inj x x' (hk ▸ hk')
    rw [this, hv]; rfl

variable [DecidableEq K]
theorem RangeV.next {r cnt : Nat} {left : K → Bool} (h : RangeV B w b r m n left cnt) (ty : TypeId) :
    ((∀ x, B.ok x → left x = false) ∧ (Instr.next (.pointer (some ⟨r, 0, none⟩)) false ty).run P w = .ok (.tuple #[.bool false]) w) ∨
    ∃ x y w' cnt', B.ok x ∧ left x = true ∧ m x = some y ∧ (Instr.next (.pointer (some ⟨r, 0, none⟩)) false ty).run P w = .ok (.tuple #[.bool true, B.kv x, y]) w' ∧
      RangeV B w' b r m n (fun z => left z && decide (z ≠ x)) cnt' ∧ cnt' < cnt ∧ w.grownBy w' (some r) ∧ w'.heap.size = w.heap.size ∧ (Instr.entry (.pointer (some ⟨r, 0, none⟩))).run P w' = .ok (.tuple #[B.kv x, y]) w' := by
  have hne := h.lt.2.2
  obtain ⟨es, clock, since, seen, c0, hb, E, hr, hold, hsc, hsk, rfl, hl⟩ := h
  rcases run_next_at (P := P) w ty r b since c0 seen es clock hr hb hold hsc with ⟨h0, hrun⟩ | ⟨e, he, w1, hal, hrun⟩
  · refine Or.inl ⟨fun x hx => ?_, hrun⟩
    cases hk : left x
    · rfl
    · obtain ⟨e, he, _, hs⟩ := (hl x hx).1 hk
      rw [all_seen es seen h0 e he] at hs
      cases hs
  · obtain ⟨hem, hes⟩ := mem_left he
    obtain ⟨x, hx, hkv, hv⟩ := E.to e hem
    have hr1 : w1.heap[r]? = some (.mapIter (some b) since seen c0) := by rcases hal with rfl | rfl <;> exact hr
    have hb1 : w1.heap[b]? = some (.map es clock) := by rcases hal with rfl | rfl <;> exact hb
    have hset := heap_set (o' := .mapIter (some b) since (seen.push e.born) clock) hr1
    have hb' : (ChangeMaps.setBlock w1 r (.mapIter (some b) since (seen.push e.born) clock)).heap[b]? = some (.map es clock) := (hset.2 b (fun e1 => hne e1.symm)).trans hb1
    refine Or.inr ⟨x, e.val, _, _, hx, (hl x hx).2 ⟨e, hem, hkv, hes⟩, hv, by rw [hrun, hkv],
      ⟨es, clock, since, seen.push e.born, clock, hb', E, hset.1, hold, hsk, hsk, rfl, fun z hz => ?_⟩, left_shrinks es seen e he, ?_, ?_,
      by rw [← hkv]; exact run_entry_at _ r b since seen es clock e hset.1 hb' hem ((stamped_iff es clock).1 E.fit.stamped).2.1⟩
    · rw [Bool.and_eq_true, decide_eq_true_eq, hl z hz]
      constructor
      · rintro ⟨⟨e', he', hk', hs'⟩, hzx⟩
        refine ⟨e', he', hk', ?_⟩
        rw [contains_push, hs']
        have : ¬ e'.born = e.born := fun hbe => by
          have := born_inj ((stamped_iff es clock).1 E.fit.stamped).2.1 he' hem hbe
          subst this
          exact hzx (B.inj z x (by rw [← hk', ← hkv]))
        simp [this]
      · rintro ⟨e', he', hk', hs'⟩
        rw [contains_push, Bool.or_eq_false_iff] at hs'
        refine ⟨⟨e', he', hk', hs'.1⟩, fun hzx => ?_⟩
        subst hzx
        have := E.uniq he' hem (by rw [hk', hkv])
        subst this
        simp at hs'
    · rcases hal with rfl | rfl <;> exact ⟨rfl, rfl, rfl, by simp [ChangeMaps.setBlock], fun i _ hi => hset.2 i (fun e1 => hi (by rw [e1]))⟩
    · rcases hal with rfl | rfl <;> simp [ChangeMaps.setBlock]

/-- A store at a key that is there, in the round. -/
theorem RangeV.store {r cnt : Nat} {left : K → Bool} {t e : TypeId} (h : RangeV B w b r m n left cnt) (ht : P.underlying t = some (.map k e)) {x : K} (hx : B.ok x) (hs : (m x).isSome = true) (y : Value) :
    ∃ w', (Instr.mapUpdate t (.map (some b)) (B.kv x) y).run P w = .ok () w' ∧ RangeV B w' b r (fun z => if z = x then some y else m z) n left cnt ∧ w.grownBy w' (some b) := by
  have hne := h.lt.2.2
  obtain ⟨es, clock, since, seen, c0, hb, E, hr, hold, hsc, hsk, rfl, hl⟩ := h
  have hkey := B.reads x hx
  rcases B.law.find w hkey es.toList E.fit.keys with ⟨h1, h2⟩ | ⟨j, e0, h1, h2, h3⟩
  · cases hmx : m x with
    | none => rw [hmx] at hs; cases hs
    | some y0 =>
      obtain ⟨e', he', hk, _⟩ := E.from_ x y0 hx hmx
      exact absurd hk (h2 e' he')
  · have hj : es[j]? = some e0 := by simpa using h2
    have hjl : j < es.toList.length := (List.getElem?_eq_some_iff.1 h2).1
    have he0 : e0 ∈ es.toList := List.mem_of_getElem? h2
    obtain ⟨e1, hE1⟩ : ∃ e1 : MapEntry, e1 = { e0 with key := B.kv x, val := y } := ⟨_, rfl⟩
    have hkeyf : ∀ e', es[j]? = some e' → ({ e' with key := B.kv x, val := y } : MapEntry).key = e'.key := fun e' he' => by rw [hj] at he'; cases he'; exact h3.symm
    have hlist : (es.modify j (fun e' => { e' with key := B.kv x, val := y })).toList = es.toList.set j e1 := by rw [Array.toList_modify, ChangeMaps.modify_eq_set _ _ _ _ h2, hE1]
    have hborn1 : e1.born = e0.born := by rw [hE1]
    have hkey1 : e1.key = B.kv x := by rw [hE1]
    have hval1 : e1.val = y := by rw [hE1]
    have who : ∀ e' ∈ es.toList.set j e1, e' = e1 ∨ (e' ∈ es.toList ∧ e'.key ≠ B.kv x) := by
      intro e' he'
      obtain ⟨i, hi, ex⟩ := List.getElem_of_mem he'
      rw [List.getElem_set] at ex
      split at ex
      · exact Or.inl ex.symm
      · rename_i hni
        have hi' : i < es.toList.length := by simpa using hi
        refine Or.inr ⟨ex ▸ List.getElem_mem hi', ?_⟩
        rw [← h3]
        exact other_key E.fit h2 (by rw [List.getElem?_eq_getElem hi', ex]) (fun e1 => hni e1.symm)
    have mem1 : e1 ∈ es.toList.set j e1 := List.mem_iff_getElem.2 ⟨j, by simpa using hjl, by simp⟩
    have keep : ∀ e' ∈ es.toList, e'.key ≠ B.kv x → e' ∈ es.toList.set j e1 := by
      intro e' he' hk'
      obtain ⟨i, hi, ex⟩ := List.getElem_of_mem he'
      refine List.mem_iff_getElem.2 ⟨i, by simpa using hi, ?_⟩
      rw [List.getElem_set, if_neg, ex]
      rintro rfl
      rw [List.getElem?_eq_getElem hi, ex] at h2
      cases h2
      exact hk' h3
    have hE' : Ents B (es.modify j (fun e' => { e' with key := B.kv x, val := y })) clock (fun z => if z = x then some y else m z) n := by
      refine ⟨⟨by simpa using E.fit.size, stamped_modify E.fit.stamped _ _ (fun _ _ => rfl) (fun e' _ he' => hkeyf e' he'), fun e' he' => ?_⟩, by simpa using E.size, fun e' he' => ?_, fun z y' hz hy' => ?_⟩
      · rw [hlist] at he'
        rcases who e' he' with rfl | ⟨he', _⟩
        · rw [hE1]; exact ⟨_, rd_mk (val := y) (yv := (.held y, [])) hkey rfl⟩
        · exact E.fit.reads e' he'
      · rw [hlist] at he'
        rcases who e' he' with rfl | ⟨he', hk'⟩
        · exact ⟨x, hx, hkey1, by rw [if_pos rfl, hval1]⟩
        · obtain ⟨z, hz, hkz, hv⟩ := E.to e' he'
          refine ⟨z, hz, hkz, ?_⟩
          rw [if_neg, hv]
          rintro rfl
          exact hk' hkz
      · rw [hlist]
        by_cases hzx : z = x
        · subst hzx
          rw [if_pos rfl] at hy'
          cases hy'
          exact ⟨e1, mem1, hkey1, hval1⟩
        · rw [if_neg hzx] at hy'
          obtain ⟨e', he', hk', hv'⟩ := E.from_ z y' hz hy'
          exact ⟨e', keep e' he' (by rw [hk']; exact fun e => hzx (B.inj _ _ e)), hk', hv'⟩
    refine ⟨ChangeMaps.setBlock w b (.map (es.modify j (fun e' => { e' with key := B.kv x, val := y })) clock), ?_, ⟨_, clock, since, seen, c0, ChangeMaps.heap_setBlock_same hb _, hE', (ChangeMaps.heap_setBlock_other hb _ hne).trans hr, fun e' he' => ?_, hsc, hsk, ?_, fun z hz => ?_⟩, ?_⟩
    · simp [Instr.mapUpdate, run_underlying ht, MapKept.run_getObj_map hb, B.law.check w false hkey, h1, hj, h3, B.law.stays w hkey, MapKept.run_setObj_map _ hb, Result.andThen, ChangeMaps.setBlock]
    · rw [hlist] at he'
      rcases who e' he' with rfl | ⟨he', _⟩
      · rw [hborn1]; exact hold e0 he0
      · exact hold e' he'
    · have e1' : ∀ a : Array MapEntry, (leftOf a seen).size = (a.toList.map (·.born)).countP fun q => !seen.contains q := fun a => by
        unfold leftOf
        rw [List.countP_map, List.countP_eq_length_filter, ← Array.length_toList (xs := Array.filter _ _), Array.toList_filter]; rfl
      rw [e1', e1', hlist]
      congr 1
      refine List.ext_getElem (by simp) fun i h5 h6 => ?_
      simp only [List.getElem_map, List.getElem_set]
      split
      · rename_i hji
        subst hji
        rw [hborn1]
        rw [List.getElem?_eq_getElem hjl] at h2
        cases h2
        rfl
      · rfl
    · rw [hl z hz, hlist]
      constructor
      · rintro ⟨e', he', hk', hs'⟩
        by_cases hzx : e'.key = B.kv x
        · have := E.uniq he' he0 (by rw [hzx, h3])
          subst this
          exact ⟨e1, mem1, by rw [hkey1, ← hzx, hk'], by rw [hborn1]; exact hs'⟩
        · exact ⟨e', keep e' he' hzx, hk', hs'⟩
      · rintro ⟨e', he', hk', hs'⟩
        rcases who e' he' with rfl | ⟨he', _⟩
        · exact ⟨e0, he0, by rw [h3, ← hk', hkey1], by rw [← hborn1]; exact hs'⟩
        · exact ⟨e', he', hk', hs'⟩
    · exact World.mapTurned.grown ⟨es, clock, _, clock, hb, rfl⟩
end
end Go.Proofs.Ytijmjliijjkcbaa
