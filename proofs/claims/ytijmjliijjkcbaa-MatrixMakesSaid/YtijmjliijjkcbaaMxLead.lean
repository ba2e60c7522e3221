/- Lines that lie in memory, and the map of the leading columns. -/
import Derived.Test.YtijmjliijjkcbaaMxEch
import Derived.Test.YtijmjliijjkcbaaMxRows
import Derived.Test.YtijmjliijjkcbaaMaps
namespace Go.Proofs.Ytijmjliijjkcbaa
set_option linter.unusedVariables false
open Go.RowKit Go.Maps

/-- The value reads as the line. -/
def LnV (S : Nat → Prop) (w : World) (v : Value) (l : Ln) : Prop := ∃ va vb, v = .agg #[va, vb] ∧ Ints S w va l.1 ∧ Ints S w vb l.2
theorem LnV.agree {S : Nat → Prop} {w w' : World} {v : Value} {l : Ln} (h : LnV S w v l) (hw : Agree S w w') : LnV S w' v l := by
  obtain ⟨va, vb, rfl, h1, h2⟩ := h; exact ⟨va, vb, rfl, h1.agree hw, h2.agree hw⟩
theorem LnV.mono {S S' : Nat → Prop} {w : World} {v : Value} {l : Ln} (h : LnV S w v l) (hS : ∀ b, S b → S' b) : LnV S' w v l := by
  obtain ⟨va, vb, rfl, h1, h2⟩ := h; exact ⟨va, vb, rfl, h1.mono hS, h2.mono hS⟩
theorem LnV.ext {S : Nat → Prop} {w w' : World} {v : Value} {l : Ln} (h : LnV S w v l) (hw : Below w.heap.size w w') : LnV S w' v l := h.agree (.of_ext hw)
theorem LnV.form {S : Nat → Prop} {w : World} {v : Value} {l : Ln} (h : LnV S w v l) : ∃ a ca b cb, v = .agg #[.slice a l.1.length ca, .slice b l.2.length cb] ∧ Ints S w (.slice a l.1.length ca) l.1 ∧ Ints S w (.slice b l.2.length cb) l.2 := by
  obtain ⟨va, vb, rfl, h1, h2⟩ := h
  obtain ⟨a, ca, rfl, _⟩ := h1.form
  obtain ⟨b, cb, rfl, _⟩ := h2.form
  exact ⟨a, ca, b, cb, rfl, h1, h2⟩

noncomputable def KI : KeyB Try.prog 3 Int := intKey Try.underlying3
/-- Block b is the map of the lines. -/
structure LeadV (S : Nat → Prop) (w : World) (b : Nat) (M : Int → Option Ln) (n : Nat) (MV : Int → Option Value) : Prop where
  map : MapV KI w b MV n
  non : ∀ c, M c = none → MV c = none
  som : ∀ c l, M c = some l → ∃ v, MV c = some v ∧ LnV S w v l
theorem LeadV.agree {S : Nat → Prop} {w w' : World} {b n : Nat} {M : Int → Option Ln} {MV : Int → Option Value} (h : LeadV S w b M n MV) (hw : Agree S w w') (hm : Agree (fun x => x = b) w w') : LeadV S w' b M n MV :=
  ⟨h.map.agree hm rfl, h.non, fun c l hc => by obtain ⟨v, hv, hl⟩ := h.som c l hc; exact ⟨v, hv, hl.agree hw⟩⟩
theorem LeadV.ext {S : Nat → Prop} {w w' : World} {b n : Nat} {M : Int → Option Ln} {MV : Int → Option Value} (h : LeadV S w b M n MV) (hw : Below w.heap.size w w') : LeadV S w' b M n MV := h.agree (.of_ext hw) (.of_ext hw)
theorem LeadV.mono {S S' : Nat → Prop} {w : World} {b n : Nat} {M : Int → Option Ln} {MV : Int → Option Value} (h : LeadV S w b M n MV) (hS : ∀ b, S b → S' b) : LeadV S' w b M n MV :=
  ⟨h.map, h.non, fun c l hc => by obtain ⟨v, hv, hl⟩ := h.som c l hc; exact ⟨v, hv, hl.mono hS⟩⟩
theorem LeadV.isSome {S : Nat → Prop} {w : World} {b n : Nat} {M : Int → Option Ln} {MV : Int → Option Value} (h : LeadV S w b M n MV) (c : Int) : (MV c).isSome = (M c).isSome := by
  cases hm : M c with
  | none => rw [h.non c hm]; rfl
  | some l => obtain ⟨v, hv, _⟩ := h.som c l hm; rw [hv]; rfl

/-- 'v, ok := m[x]' as an operation that yields. -/
theorem yields_look {P : Program} {k : TypeId} {K : Type} {B : KeyB P k K} {w : World} {b n : Nat} {m : K → Option Value} {o : Oper} {f : Operand → Value} (mo xo : Operand) (t : TypeId) (hop : o.op = Op.lookup t mo xo true) (e : TypeId) (ht : P.underlying t = some (.map k e)) (z : Value) (hz : (zeroValue e).run P w = .ok z w)
    (hm : f mo = .map (some b)) (h : MapV B w b m n) (x : K) (hxv : f xo = B.kv x) (hx : B.ok x) (u : Value) (q : Bool) (hu : (m x).getD z = u) (hq : (m x).isSome = q) : (execOp f o).run P w = .ok (.value (.tuple #[u, .bool q])) w := by
  subst hu hq
  simp [execOp, hop, hm, hxv, h.look ht hz hx true, Result.andThen]
theorem zero_line (w : World) : (zeroValue 69).run Try.prog w = .ok (.agg #[.slice none 0 0, .slice none 0 0]) w := by kernel_rfl
end Go.Proofs.Ytijmjliijjkcbaa
