/- Maps that a call has made, as functions from keys to values. -/
import Derived.Test.YtmlgbaogkbfklaaDoorBase
import Derived.Maps.RangeWalk
import Derived.DeepKeys4
namespace Go.Proofs.YtmlgbaogkbfklaaDoor
set_option linter.unusedVariables false
open Go.RowKit Go.Maps

/-- An element is kept as it is. -/
def heldR (v : Value) : Option (DataW Value × List MemPlace) := some (.held v, [])

/-- Keys of Go's type k as values of a Lean type. -/
structure KeyB (P : Program) (k : TypeId) (K : Type) where
  law : Keyed P k
  kv : K → Value
  kl : K → Lit
  ok : K → Prop
  reads : ∀ x, ok x → keyOf P k (kv x) = some (kl x)
  inj : ∀ x y, kv x = kv y → x = y

theorem KeyB.lit_ne {P : Program} {k : TypeId} {K : Type} (B : KeyB P k K) {x y : K} (hx : B.ok x) (hy : B.ok y) (h : x ≠ y) : B.kl x ≠ B.kl y := fun e =>
  h (B.inj _ _ (B.law.inj (B.reads x hx) (e ▸ B.reads y hy)))
theorem KeyB.key {P : Program} {k : TypeId} {K : Type} (B : KeyB P k K) {x : K} (hx : B.ok x) : WideAt.IsKeyLit (B.kl x) := B.law.key (B.reads x hx)

def intKey {P : Program} {k : TypeId} (hk : P.underlying k = some (.int .i64)) : KeyB P k Int where
  law := int_keyed hk
  kv := .int .i64
  kl := .int .i64
  ok := WF
  reads := fun _ h => keyOf_int_mk hk h.lit
  inj := fun _ _ h => by injection h

/-- Block b is a map with n entries, those of m. -/
def MapV {P : Program} {k : TypeId} {K : Type} (B : KeyB P k K) (w : World) (b : Nat) (m : K → Option Value) (n : Nat) : Prop :=
  ∃ D : DataW Value, w.ownsMap P k heldR b n D ∧ size D = n ∧ ∀ x, B.ok x → has D (B.kl x) = (m x).isSome ∧ ∀ y, m x = some y → ∀ z, D.atKey (B.kl x) z = .held y

theorem ownsMap_exact {H : Type} {P : Program} {k : TypeId} {R : Value → Option (DataW H × List MemPlace)} {w : World} {b n : Nat} {D : DataW H} (h : w.ownsMap P k R b n D) : w.ownsMap P k R b (size D) D := by
  obtain ⟨es, clock, hb, F, _, rfl⟩ := h
  exact ⟨es, clock, hb, F, by simp [size, length_sorted], rfl⟩

section
variable {P : Program} {k : TypeId} {K : Type} {B : KeyB P k K} {w : World} {b n : Nat} {m : K → Option Value}

theorem MapV.made (B : KeyB P k K) (w : World) : MapV B (w.alloc (.map #[] 0)) w.heap.size (fun _ => none) 0 :=
  ⟨_, World.ownsMap_made _ _ _ _, rfl, fun _ _ => ⟨rfl, fun y h => by cases h⟩⟩

theorem MapV.lt (h : MapV B w b m n) : b < w.heap.size := by obtain ⟨D, h, _⟩ := h; exact h.lt

theorem MapV.agree {S : Nat → Prop} {w' : World} (h : MapV B w b m n) (hw : Agree S w w') (hS : S b) : MapV B w' b m n := by
  have hl := h.lt
  obtain ⟨D, ⟨es, clock, hb, F, hs, hD⟩, r⟩ := h
  exact ⟨D, ⟨es, clock, (hw.block b hS hl).trans hb, F, hs, hD⟩, r⟩
theorem MapV.ext {w' : World} (h : MapV B w b m n) (hw : Below w.heap.size w w') : MapV B w' b m n := h.agree (S := fun _ => True) (.of_ext hw) trivial

theorem MapV.alloc (h : MapV B w b m n) (o : Obj) : MapV B (w.alloc o) b m n := h.agree (S := fun _ => True) ⟨by simp, fun k _ hk => heap_alloc_old w o hk⟩ trivial
theorem MapV.grown {w' : World} {row : Option Nat} (h : MapV B w b m n) (hw : w.grownBy w' row) (hne : row ≠ some b) : MapV B w' b m n := h.agree (S := fun x => x = b) (.of_grown hw fun x hx => hx ▸ hne) rfl
theorem MapV.look {t e : TypeId} {z : Value} (h : MapV B w b m n) (ht : P.underlying t = some (.map k e)) (hz : (zeroValue e).run P w = .ok z w) {x : K} (hx : B.ok x) (c : Bool) :
    (Instr.lookup t (.map (some b)) (B.kv x) c).run P w = .ok (if c then .tuple #[(m x).getD z, .bool (m x).isSome] else (m x).getD z) w := by
  obtain ⟨D, h, _, hm⟩ := h
  obtain ⟨h1, h2⟩ := hm x hx
  have key : ∀ v ps, heldR v = some (D.atKey (B.kl x) (.held z), ps) → v = (m x).getD z := by
    intro v ps hv
    simp only [heldR, Option.some.injEq, Prod.mk.injEq] at hv
    have hv := hv.1
    cases hmx : m x with
    | some y => rw [h2 y hmx] at hv; injection hv
    | none =>
      rw [hmx] at h1
      rw [atKey_of_not_has h1] at hv
      injection hv
  cases c with
  | true =>
    obtain ⟨v, ps, hr, hv⟩ := h.look_ok B.law ht hz (zd := .held z) (zp := []) rfl (B.reads x hx)
    rw [hr, key v ps hv, h1]; rfl
  | false =>
    obtain ⟨v, ps, hr, hv⟩ := h.lookup B.law ht hz (zd := .held z) (zp := []) rfl (B.reads x hx)
    rw [hr, key v ps hv]; rfl

theorem MapV.len {t e : TypeId} (h : MapV B w b m n) (ht : P.underlying t = some (.map k e)) (ty : TypeId) : (Builtin.len_ #[t] ty #[.map (some b)]).run P w = .ok (.int .i64 n) w := by
  obtain ⟨D, h, hs, _⟩ := h
  rw [h.len ht ty, hs]

theorem MapV.store [DecidableEq K] {t e : TypeId} (h : MapV B w b m n) (ht : P.underlying t = some (.map k e)) (hn : n < maxLen) {x : K} (hx : B.ok x) (y : Value) :
    ∃ w', (Instr.mapUpdate t (.map (some b)) (B.kv x) y).run P w = .ok () w' ∧ MapV B w' b (fun z => if z = x then some y else m z) (if (m x).isSome then n else n + 1) ∧ w.grownBy w' (some b) := by
  obtain ⟨D, h, hs, hm⟩ := h
  obtain ⟨w', hr, ho, ht⟩ := h.store (val := y) (d := .held y) (ps := []) B.law ht hn (B.reads x hx) rfl
  have hsz : size (D.put (B.kl x) (.held y)) = if (m x).isSome then n else n + 1 := by
    rw [size_put (h.tidy B.law), (hm x hx).1, hs]
  refine ⟨w', hr, ⟨_, by rw [← hsz]; exact ownsMap_exact ho, hsz, ?_⟩, ht.grown⟩
  intro z hz
  by_cases e : z = x
  · subst e
    simp only [if_true, Option.isSome_some]
    refine ⟨has_put_same h.isMap (B.key hz) _, fun u hu q => ?_⟩
    cases hu
    exact atKey_put_same h.isMap (B.key hz) _ _
  · simp only [if_neg e]
    have hne := B.lit_ne hz hx e
    rw [has_put_other hne]
    refine ⟨(hm z hz).1, fun u hu q => ?_⟩
    rw [atKey_put_other hne]
    exact (hm z hz).2 u hu q

variable {ops : Array Oper} {rest : List Oper} {o : Oper} {a : Act} {Q : Exit → Act → World → Prop}

/-- 'v, ok := m[x]', there is such an entry. -/
theorem wpList_hit (hg : o.guard = none) (mo xo : Operand) (t : TypeId) (hop : o.op = Op.lookup t mo xo true) (e : TypeId) (ht : P.underlying t = some (.map k e)) (z : Value) (hz : (zeroValue e).run P w = .ok z w)
    (hm : a.eval mo = .map (some b)) (h : MapV B w b m n) (x : K) (hxv : a.eval xo = B.kv x) (hx : B.ok x) (y : Value) (hy : m x = some y)
    (hK : wpList P ops Q rest (a.put o.dst (.tuple #[y, .bool true])) w) : wpList P ops Q (o :: rest) a w := by
  refine wpList_plain hg fun K' hK' => ?_
  unfold Oper.wp
  simp [execOp, hop, hm, hxv, h.look ht hz hx true, Result.andThen, hy]
  exact hK' _ _ hK

/-- 'v, ok := m[x]', there is none. -/
theorem wpList_miss (hg : o.guard = none) (mo xo : Operand) (t : TypeId) (hop : o.op = Op.lookup t mo xo true) (e : TypeId) (ht : P.underlying t = some (.map k e)) (z : Value) (hz : (zeroValue e).run P w = .ok z w)
    (hm : a.eval mo = .map (some b)) (h : MapV B w b m n) (x : K) (hxv : a.eval xo = B.kv x) (hx : B.ok x) (hy : m x = none)
    (hK : wpList P ops Q rest (a.put o.dst (.tuple #[z, .bool false])) w) : wpList P ops Q (o :: rest) a w := by
  refine wpList_plain hg fun K' hK' => ?_
  unfold Oper.wp
  simp [execOp, hop, hm, hxv, h.look ht hz hx true, Result.andThen, hy]
  exact hK' _ _ hK

/-- 'm[x]'. -/
theorem wpList_get (hg : o.guard = none) (mo xo : Operand) (t : TypeId) (hop : o.op = Op.lookup t mo xo false) (e : TypeId) (ht : P.underlying t = some (.map k e)) (z : Value) (hz : (zeroValue e).run P w = .ok z w)
    (hm : a.eval mo = .map (some b)) (h : MapV B w b m n) (x : K) (hxv : a.eval xo = B.kv x) (hx : B.ok x) (y : Value) (hy : (m x).getD z = y)
    (hK : wpList P ops Q rest (a.put o.dst y) w) : wpList P ops Q (o :: rest) a w := by
  refine wpList_plain hg fun K' hK' => ?_
  unfold Oper.wp
  simp [execOp, hop, hm, hxv, h.look ht hz hx false, Result.andThen, hy]
  exact hK' _ _ hK

/-- 'm[x] = y'. -/
theorem wpList_upd [DecidableEq K] (hg : o.guard = none) (mo xo yo : Operand) (t : TypeId) (hop : o.op = Op.mapUpdate t mo xo yo) (e : TypeId) (ht : P.underlying t = some (.map k e))
    (hm : a.eval mo = .map (some b)) (h : MapV B w b m n) (hn : n < maxLen) (x : K) (hxv : a.eval xo = B.kv x) (hx : B.ok x) (y : Value) (hy : a.eval yo = y)
    (hK : ∀ w', MapV B w' b (fun z => if z = x then some y else m z) (if (m x).isSome then n else n + 1) → w.grownBy w' (some b) → wpList P ops Q rest (a.put o.dst undef) w') : wpList P ops Q (o :: rest) a w := by
  refine wpList_plain hg fun K' hK' => ?_
  obtain ⟨w', hr, r1, r2⟩ := h.store ht hn hx y
  unfold Oper.wp
  simp [execOp, hop, hm, hxv, hy, hr, Result.andThen]
  exact hK' _ _ (hK w' r1 r2)

/-- 'len(m)'. -/
theorem wpList_maplen (hg : o.guard = none) (mo : Operand) (t : TypeId) (hop : o.op = Op.call { callee := Callee.builtin Builtin.len, args := #[mo], argTypes := #[t] }) (e : TypeId) (ht : P.underlying t = some (.map k e))
    (hm : a.eval mo = .map (some b)) (h : MapV B w b m n) (hK : wpList P ops Q rest (a.put o.dst (.int .i64 n)) w) : wpList P ops Q (o :: rest) a w := by
  refine wpList_plain hg fun K' hK' => ?_
  unfold Oper.wp
  simp [execOp, hop, resolve, invoke, builtin, hm, h.len ht o.type, Result.andThen]
  exact hK' _ _ hK
end

end Go.Proofs.YtmlgbaogkbfklaaDoor
