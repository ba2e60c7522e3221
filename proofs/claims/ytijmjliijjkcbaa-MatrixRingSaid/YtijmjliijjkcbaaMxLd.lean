/- Lines that lie in memory, and the map of the leading columns. The map of the leading columns in walks. -/
import Derived.Test.YtijmjliijjkcbaaMxEch
import Derived.Test.YtijmjliijjkcbaaMxRowsA
import Derived.Test.YtijmjliijjkcbaaMaps
import Derived.Test.YtijmjliijjkcbaaRange
/- Lines that lie in memory, and the map of the leading columns. -/
namespace Go.Proofs.Ytijmjliijjkcbaa
set_option linter.unusedVariables false
open Go.RowKit Go.Maps

/-- The value reads as the line. -/
def LnV (S : Nat → Prop) (w : World) (v : Value) (l : Ln) : Prop := ∃ va vb, v = .agg #[va, vb] ∧ Ints S w va l.1 ∧ Ints S w vb l.2
theorem LnV.agree {S : Nat → Prop} {w w' : World} {v : Value} {l : Ln} (h : LnV S w v l) (hw : Agree S w w') : LnV S w' v l := by
  obtain ⟨va, vb, rfl, h1, h2⟩ := h; exact ⟨va, vb, rfl, h1.agree hw, h2.agree hw⟩
theorem LnV.mono {S S' : Nat → Prop} {w : World} {v : Value} {l : Ln} (h : LnV S w v l) (hS : ∀ b, S b → S' b) : LnV S' w v l := by
  obtain ⟨va, vb, rfl, h1, h2⟩ := h; exact ⟨va, vb, rfl, h1.mono hS, h2.mono hS⟩
theorem LnV.ext {S : Nat → Prop} {w w' : World} {v : Value} {l : Ln} (h : LnV S w v l) (hw : Below w.heap.size w w') : LnV S w' v l := h.agree (.of_ext hw)
theorem LnV.form {S : Nat → Prop} {w : World} {v : Value} {l : Ln} (h : LnV S w v l) : ∃ a ca b cb, v = .agg #[.slice a l.1.length ca, .slice b l.2.length cb] ∧ Ints S w (.slice a l.1.length ca) l.1 ∧ Ints S w (.slice b l.2.length cb) l.2 := by
  obtain ⟨va, vb, rfl, h1, h2⟩ := h
  obtain ⟨a, ca, rfl, _⟩ := h1.form
  obtain ⟨b, cb, rfl, _⟩ := h2.form
  exact ⟨a, ca, b, cb, rfl, h1, h2⟩

noncomputable def KI : KeyB Try.prog 3 Int := intKey Try.underlying3
/-- Block b is the map of the lines. -/
structure LeadV (S : Nat → Prop) (w : World) (b : Nat) (M : Int → Option Ln) (n : Nat) (MV : Int → Option Value) : Prop where
  map : MapV KI w b MV n
  non : ∀ c, M c = none → MV c = none
  som : ∀ c l, M c = some l → ∃ v, MV c = some v ∧ LnV S w v l
theorem LeadV.agree {S : Nat → Prop} {w w' : World} {b n : Nat} {M : Int → Option Ln} {MV : Int → Option Value} (h : LeadV S w b M n MV) (hw : Agree S w w') (hm : Agree (fun x => x = b) w w') : LeadV S w' b M n MV :=
  ⟨h.map.agree hm rfl, h.non, fun c l hc => by obtain ⟨v, hv, hl⟩ := h.som c l hc; exact ⟨v, hv, hl.agree hw⟩⟩
theorem LeadV.ext {S : Nat → Prop} {w w' : World} {b n : Nat} {M : Int → Option Ln} {MV : Int → Option Value} (h : LeadV S w b M n MV) (hw : Below w.heap.size w w') : LeadV S w' b M n MV := h.agree (.of_ext hw) (.of_ext hw)
theorem LeadV.mono {S S' : Nat → Prop} {w : World} {b n : Nat} {M : Int → Option Ln} {MV : Int → Option Value} (h : LeadV S w b M n MV) (hS : ∀ b, S b → S' b) : LeadV S' w b M n MV :=
  ⟨h.map, h.non, fun c l hc => by obtain ⟨v, hv, hl⟩ := h.som c l hc; exact ⟨v, hv, hl.mono hS⟩⟩
theorem LeadV.isSome {S : Nat → Prop} {w : World} {b n : Nat} {M : Int → Option Ln} {MV : Int → Option Value} (h : LeadV S w b M n MV) (c : Int) : (MV c).isSome = (M c).isSome := by
  cases hm : M c with
  | none => rw [h.non c hm]; rfl
  | some l => obtain ⟨v, hv, _⟩ := h.som c l hm; rw [hv]; rfl

/-- 'v, ok := m[x]' as an operation that yields. -/
theorem yields_look {P : Program} {k : TypeId} {K : Type} {B : KeyB P k K} {w : World} {b n : Nat} {m : K → Option Value} {o : Oper} {f : Operand → Value} (mo xo : Operand) (t : TypeId) (hop : o.op = Op.lookup t mo xo true) (e : TypeId) (ht : P.underlying t = some (.map k e)) (z : Value) (hz : (zeroValue e).run P w = .ok z w)
    (hm : f mo = .map (some b)) (h : MapV B w b m n) (x : K) (hxv : f xo = B.kv x) (hx : B.ok x) (u : Value) (q : Bool) (hu : (m x).getD z = u) (hq : (m x).isSome = q) : (execOp f o).run P w = .ok (.value (.tuple #[u, .bool q])) w := by
  subst hu hq
  simp [execOp, hop, hm, hxv, h.look ht hz hx true, Result.andThen]
theorem zero_line (w : World) : (zeroValue 69).run Try.prog w = .ok (.agg #[.slice none 0 0, .slice none 0 0]) w := by kernel_rfl
end Go.Proofs.Ytijmjliijjkcbaa
/- The map of the leading columns in walks. -/
namespace Go.Proofs.Ytijmjliijjkcbaa
set_option linter.unusedVariables false
open Go.RowKit Go.Maps

/-- All but x. -/
def cutL (left : Int → Bool) (x : Int) : Int → Bool := fun z => left z && decide (z ≠ x)

section
variable {w : World} {b n : Nat} {m : Int → Option Value} {ops : Array Oper} {rest : List Oper} {o : Oper} {a : Act} {Q : Exit → Act → World → Prop}
theorem wpList_rangeL (hg : o.guard = none) (mo : Operand) (t : TypeId) (hop : o.op = Op.range t mo) (e : TypeId) (ht : Try.prog.underlying t = some (.map 3 e)) (hm : a.eval mo = .map (some b)) (h : MapV KI w b m n)
    (hK : ∀ w', RangeV KI w' b w.heap.size m n (fun x => (m x).isSome) n → w.grownBy w' none → w'.heap.size = w.heap.size + 1 → wpList Try.prog ops Q rest (a.put o.dst (.pointer (some ⟨w.heap.size, 0, none⟩))) w') :
    wpList Try.prog ops Q (o :: rest) a w := by
  refine wpList_plain hg fun K' hK' => ?_
  obtain ⟨w', hrun, r1, r2, r3⟩ := h.range (intKey_inv Try.underlying3) ht
  unfold Oper.wp
  simp [execOp, hop, hm, hrun, Result.andThen]
  exact hK' _ _ (hK w' r1 r2 r3)
theorem wpList_nextL {r cnt : Nat} {left : Int → Bool} (hg : o.guard = none) (it : Operand) (hop : o.op = Op.next it false) (hit : a.eval it = .pointer (some ⟨r, 0, none⟩)) (h : RangeV KI w b r m n left cnt)
    (hDone : (∀ x, WF x → left x = false) → wpList Try.prog ops Q rest (a.put o.dst (.tuple #[.bool false])) w)
    (hMore : ∀ (x : Int) (y : Value) (w' : World) (cnt' : Nat), WF x → left x = true → m x = some y → RangeV KI w' b r m n (cutL left x) cnt' → cnt' < cnt → w.grownBy w' (some r) → w'.heap.size = w.heap.size →
      (Instr.entry (.pointer (some ⟨r, 0, none⟩))).run Try.prog w' = .ok (.tuple #[.int .i64 x, y]) w' → wpList Try.prog ops Q rest (a.put o.dst (.tuple #[.bool true, .int .i64 x, y])) w') :
    wpList Try.prog ops Q (o :: rest) a w := by
  refine wpList_plain hg fun K' hK' => ?_
  unfold Oper.wp
  rcases h.next o.type with ⟨hl, hrun⟩ | ⟨x, y, w', cnt', hx, hlx, hy, hrun, hrg, hlt, hgr, hsz, hen⟩
  · simp [execOp, hop, hit, hrun, Result.andThen]
    exact hK' _ _ (hDone hl)
  · simp [execOp, hop, hit, hrun, Result.andThen]
    exact hK' _ _ (hMore x y w' cnt' hx hlx hy hrg hlt hgr hsz hen)
end
section
variable {w : World} {b n : Nat} {m : Int → Option Value} {ops : Array Oper} {o : Oper} {a : Act} {K : Act → World → Prop} {Q : Exit → Act → World → Prop} {E : Prop}
/-- 'm[x] = y' at a step of a drawn region, in a range's round. -/
theorem step_updR {r cnt : Nat} {left : Int → Bool} (hgd : o.guard = none) (mo xo yo : Operand) (t : TypeId) (hop : o.op = Op.mapUpdate t mo xo yo) (e : TypeId) (ht : Try.prog.underlying t = some (.map 3 e)) (hm : a.eval mo = .map (some b))
    (h : RangeV KI w b r m n left cnt) (x : Int) (hxv : a.eval xo = .int .i64 x) (hx : WF x) (hs : (m x).isSome = true) (y : Value) (hy : a.eval yo = y)
    (hK : ∀ w', RangeV KI w' b r (fun z => if z = x then some y else m z) n left cnt → w.grownBy w' (some b) → K (a.put o.dst undef) w') :
    if Region.wanted o (yielded ops a.tmps) = true then Oper.wp Try.prog o a w K Q else E := by
  have hw : Region.wanted o (yielded ops a.tmps) = true := by simp [Region.wanted, hgd]
  rw [if_pos hw]
  obtain ⟨w', hr, r1, r2⟩ := h.store ht (x := x) hx hs y
  have hr' : (Instr.mapUpdate t (.map (some b)) (.int .i64 x) y).run Try.prog w = .ok () w' := hr
  unfold Oper.wp
  simp [execOp, hop, hm, hxv, hy, hr', Result.andThen]
  exact hK w' r1 r2
/-- 'm[x] = y' at a step of a drawn region. -/
theorem step_updM (hgd : o.guard = none) (mo xo yo : Operand) (t : TypeId) (hop : o.op = Op.mapUpdate t mo xo yo) (e : TypeId) (ht : Try.prog.underlying t = some (.map 3 e)) (hm : a.eval mo = .map (some b))
    (h : MapV KI w b m n) (hn : n < maxLen) (x : Int) (hxv : a.eval xo = .int .i64 x) (hx : WF x) (y : Value) (hy : a.eval yo = y)
    (hK : ∀ w', MapV KI w' b (fun z => if z = x then some y else m z) (if (m x).isSome then n else n + 1) → w.grownBy w' (some b) → K (a.put o.dst undef) w') :
    if Region.wanted o (yielded ops a.tmps) = true then Oper.wp Try.prog o a w K Q else E := by
  have hw : Region.wanted o (yielded ops a.tmps) = true := by simp [Region.wanted, hgd]
  rw [if_pos hw]
  obtain ⟨w', hr, r1, r2⟩ := h.store ht hn (x := x) hx y
  have hr' : (Instr.mapUpdate t (.map (some b)) (.int .i64 x) y).run Try.prog w = .ok () w' := hr
  unfold Oper.wp
  simp [execOp, hop, hm, hxv, hy, hr', Result.andThen]
  exact hK w' r1 r2
end

/-- The lines while the new one is struck out of them: those of left are still as they were. -/
def insL (M : Int → Option Ln) (x : Ln) (left : Int → Bool) : Int → Option Ln := fun c => if left c = true then M c else (M c).map (fun l => if memB l.1 (lead x.1) = true then addL l x else l)
theorem insL_start {M : Int → Option Ln} {x : Ln} {left : Int → Bool} (h : ∀ c, left c = (M c).isSome) : insL M x left = M := by
  funext c
  unfold insL
  rw [h c]
  cases hm : M c <;> simp
theorem insL_step {M : Int → Option Ln} {x : Ln} {left : Int → Bool} {c : Int} {l : Ln} (hc : left c = true) (hm : M c = some l) :
    insL M x (cutL left c) = fun z => if z = c then some (if memB l.1 (lead x.1) = true then addL l x else l) else insL M x left z := by
  funext z
  unfold insL cutL
  by_cases h : z = c
  · subst h; simp [hm]
  · simp [h]
theorem insL_end {M : Int → Option Ln} {x : Ln} {left : Int → Bool} (h : ∀ c, WF c → left c = false) (hm : ∀ c, ¬ WF c → M c = none) (hp : M (lead x.1) = none) : insM M x = fun z => if z = lead x.1 then some x else insL M x left z := by
  funext z
  unfold insM insL
  by_cases hz : z = lead x.1
  · simp [hz]
  · rw [if_neg hz, if_neg hz]
    by_cases hw : WF z
    · rw [h z hw]; simp
    · rw [hm z hw]; simp
theorem LeadV.upd {S : Nat → Prop} {w w' : World} {b n n' : Nat} {M : Int → Option Ln} {MV : Int → Option Value} {c : Int} {l : Ln} {v : Value} (h : LeadV S w b M n MV) (hw : Agree S w w') (hm : MapV KI w' b (fun z => if z = c then some v else MV z) n') (hv : LnV S w' v l) :
    LeadV S w' b (fun z => if z = c then some l else M z) n' (fun z => if z = c then some v else MV z) := by
  refine ⟨hm, fun z hz => ?_, fun z l' hz => ?_⟩
  · by_cases e : z = c
    · simp [e] at hz
    · simp only [if_neg e] at hz ⊢; exact h.non z hz
  · by_cases e : z = c
    · simp only [if_pos e, Option.some.injEq] at hz ⊢
      subst hz
      exact ⟨v, rfl, hv⟩
    · simp only [if_neg e] at hz ⊢
      obtain ⟨u, hu, hl⟩ := h.som z l' hz
      exact ⟨u, hu, hl.agree hw⟩
theorem LeadV.same {S : Nat → Prop} {w w' : World} {b n n' : Nat} {M M' : Int → Option Ln} {MV : Int → Option Value} (h : LeadV S w b M n MV) (hw : Agree S w w') (hm : MapV KI w' b MV n') (he : M' = M) : LeadV S w' b M' n' MV := by
  subst he
  exact ⟨hm, h.non, fun z l' hz => by obtain ⟨u, hu, hl⟩ := h.som z l' hz; exact ⟨u, hu, hl.agree hw⟩⟩
theorem LnV.block {S : Nat → Prop} {w : World} {v : Value} {l : Ln} (h : LnV S w v l) : LnV (fun b => S b ∧ b < w.heap.size) w v l := by
  obtain ⟨va, vb, rfl, h1, h2⟩ := h; exact ⟨va, vb, rfl, h1.block 0, h2.block 0⟩
theorem LeadV.block {S : Nat → Prop} {w : World} {b n : Nat} {M : Int → Option Ln} {MV : Int → Option Value} (h : LeadV S w b M n MV) : LeadV (fun b => S b ∧ b < w.heap.size) w b M n MV :=
  ⟨h.map, h.non, fun c l hc => by obtain ⟨v, hv, hl⟩ := h.som c l hc; exact ⟨v, hv, hl.block⟩⟩
end Go.Proofs.Ytijmjliijjkcbaa
