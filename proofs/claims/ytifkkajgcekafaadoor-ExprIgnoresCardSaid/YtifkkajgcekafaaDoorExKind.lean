/- The kind of an expression, on both sides. -/
import Derived.Test.YtifkkajgcekafaaDoorExCheck3
namespace Go.Proofs.YtifkkajgcekafaaDoor
set_option linter.unusedVariables false
open Go.RowKit

def kindR (e : Ex) : Int × Int := if arity e.op < 0 then (0, 1) else (kindOf e.op, 0)

set_option maxRecDepth 100000 in
theorem kind_calls {S : Nat → Prop} {w : World} {e : Ex} {v : Value} (hT : Tab w) (h : ExprV S w e v) :
    Calls Tryd.prog 25 #[v] w (Post w fun _ r => r = .tuple #[.int .i64 (kindR e).1, .int .i64 (kindR e).2]) := by
  obtain ⟨a, cap, rfl, wo, wn, ha, hl, hm⟩ := h.parts
  have ex1 := ext_alloc w (.cells #[.int .i64 e.op, .int .i64 e.num, .slice a e.args.length cap] 24)
  have r1 := row_new w [.int .i64 e.op, .int .i64 e.num, .slice a e.args.length cap] 24
  obtain ⟨K, hK⟩ : ∃ K, K = kindR e := ⟨_, rfl⟩
  rw [← hK]
  unfold kindR at hK
  go_enter Tryd.func25, Tryd.ntmps25
  go_wp2_with fail
  refine ((known_quiet _ e.op).mono fun _ _ h => h.post).mono ?_
  rintro _ w1 ⟨_, rfl, hb1, rfl⟩
  have e1 := ext_trans ex1 hb1
  have co := (r1.ext hb1).cell (j := 0) rfl
  by_cases h1 : arity e.op < 0
  · rw [if_pos h1] at hK
    subst hK
    rw [decide_eq_false (by omega : ¬ 0 ≤ arity e.op)]
    go_wp2
    go_ret2
    exact .mk e1 rfl
  · rw [if_neg h1] at hK
    subst hK
    rw [decide_eq_true (by omega : 0 ≤ arity e.op)]
    obtain ⟨k0, k1⟩ := arity_known h1
    have qt := idx_rows k0 k1
    have t1 := (hT.ext e1).kind e.op k0 k1
    go_wp2
    go_ret2
    exact .mk e1 rfl

set_option maxRecDepth 100000 in
theorem refKind_calls {S : Nat → Prop} {w : World} {e : Ex} {v : Value} (h : ExprV S w e v) :
    Calls Tryd.prog 26 #[v] w (Post w fun _ r => r = .tuple #[.int .i64 (kindR e).1, .int .i64 (kindR e).2]) := by
  obtain ⟨a, cap, rfl, wo, wn, ha, hl, hm⟩ := h.parts
  have ex1 := ext_alloc w (.cells #[.int .i64 e.op, .int .i64 e.num, .slice a e.args.length cap] 24)
  have r1 := row_new w [.int .i64 e.op, .int .i64 e.num, .slice a e.args.length cap] 24
  obtain ⟨K, hK⟩ : ∃ K, K = kindR e := ⟨_, rfl⟩
  rw [← hK]
  unfold kindR at hK
  go_enter Tryd.func26, Tryd.ntmps26
  go_wp2_with fail
  refine ((arity_quiet _ e.op).mono fun _ _ h => h.post).mono ?_
  rintro _ w1 ⟨_, rfl, hb1, rfl⟩
  have e1 := ext_trans ex1 hb1
  have co := (r1.ext hb1).cell (j := 0) rfl
  by_cases h1 : arity e.op < 0
  · have d1 : decide (arity e.op < 0) = true := by simpa using h1
    rw [if_pos h1] at hK
    subst hK
    go_wp2
    go_ret2
    exact .mk e1 rfl
  · have d1 : decide (arity e.op < 0) = false := by simpa using h1
    rw [if_neg h1] at hK
    subst hK
    obtain ⟨k0, k1⟩ := arity_known h1
    go_wp2_with fail
    refine ((kindOf_quiet _ e.op k0 k1).mono fun _ _ h => h.post).mono ?_
    rintro _ w2 ⟨_, rfl, hb2, rfl⟩
    go_wp2
    go_ret2
    exact .mk (ext_trans e1 hb2) rfl
end Go.Proofs.YtifkkajgcekafaaDoor
