/-
  NARROWER THAN 'FOR EVERY INPUT', by the rows' own cells (each row's printed sentence says how): ExprEvals: loops, laid · ExprFolds: loops, laid · ExprPermutes: loops, laid · ExprOpposes: loops, laid · ExprChecks: loops, laid · ExprKeeps: loops, laid · ExprIgnores: loops, laid · ExprRewrites: loops, laid.
  DERIVED. THE GIVEN ROWS OF THIS SEAT. 8 by the template 'for every input the law returns true; each argument reads behind the call as it read before'; 0 by the template 'total and deterministic' (their statements: YtifkkajgcekafaaDoorTotals.lean).
  GIVEN WITH THE SEED: the statements are not yours to turn. If you find one false, say at which input.
  Laid BY PROGRAM, IN A SANDBOX (cutbox-rows.mjs): the forced cells as the released guide's own fill.sh prints them over the translation f5c81ab0e6d79cc8… (all of the seat's roots in one cut). By AI agents, Wed Nov 11 2026. No macro, syntax, notation, axiom, sorry.
-/
import Derived.Test.YtifkkajgcekafaaDoorChecked
import GoSem.Claim
import GoSem.ClaimJoined
import GoSem.ClaimMapViews
import Derived.JoinedTies
import Derived.KernelRfl
namespace Go.Proofs.YtifkkajgcekafaaDoor
/- THE CELL 'sum', in the pinned program and in every row, IS THE sha256 OF THE DUMP (.gsa) THAT YtifkkajgcekafaaDoorProg.lean LOADS. Nothing in Lean hashes anything: it is a label: what it is worth is what the hold of that sum in a sandbox is worth. -/
noncomputable def Tryd.pinned : Pinned := { name := "ytifkkajgcekafaadoor", sum := "f5c81ab0e6d79cc89e02d7dc99fdb35c4284dc6124456e57433adf93a5b0af02", checked := Tryd.checked }
namespace Rows
def none {H : Type} : Left H := { results := [], args := [] }

/- WHAT THE LISTED PACKAGE-LEVEL VARIABLES READ AS WHEN THE CALL BEGINS. Each datum BY PROGRAM (the guide's laid-datum.mjs) off the statement by which the dump's own 'gosem.cut.vars' lays the variable. In a bare row this is a premise. The card (YtifkkajgcekafaaDoorCards.lean) ties it to the program's text. -/
def laid_roundtable_expr_rows {H : Type} : DataW H := .agg [.agg [.lit (.int .i64 0), .lit (.int .i64 0), .lit (.int .i64 0)], .agg [.lit (.int .i64 0), .lit (.int .i64 0), .lit (.int .i64 0)], .agg [.lit (.int .i64 0), .lit (.int .i64 1), .lit (.int .i64 0)], .agg [.lit (.int .i64 0), .lit (.int .i64 1), .lit (.int .i64 0)], .agg [.lit (.int .i64 1), .lit (.int .i64 2), .lit (.int .i64 0)], .agg [.lit (.int .i64 0), .lit (.int .i64 2), .lit (.int .i64 0)], .agg [.lit (.int .i64 0), .lit (.int .i64 2), .lit (.int .i64 0)], .agg [.lit (.int .i64 1), .lit (.int .i64 2), .lit (.int .i64 0)], .agg [.lit (.int .i64 1), .lit (.int .i64 2), .lit (.int .i64 0)], .agg [.lit (.int .i64 1), .lit (.int .i64 2), .lit (.int .i64 0)], .agg [.lit (.int .i64 1), .lit (.int .i64 2), .lit (.int .i64 1)], .agg [.lit (.int .i64 1), .lit (.int .i64 2), .lit (.int .i64 1)], .agg [.lit (.int .i64 1), .lit (.int .i64 1), .lit (.int .i64 1)], .agg [.lit (.int .i64 1), .lit (.int .i64 1), .lit (.int .i64 1)], .agg [.lit (.int .i64 1), .lit (.int .i64 1), .lit (.int .i64 1)], .agg [.lit (.int .i64 0), .lit (.int .i64 1), .lit (.int .i64 1)]]
def laid_roundtable_expr_duals {H : Type} : DataW H := .agg [.agg [.lit (.int .i64 8), .lit (.int .i64 9)], .agg [.lit (.int .i64 10), .lit (.int .i64 11)], .agg [.lit (.int .i64 13), .lit (.int .i64 14)]]

/-- 'roundtablelaw07.ExprEvals': WHATEVER THE INPUT: true; the input reads as it did. -/
def exprEvalsSpec : ChangeSpec := { name := "exprEvals", fn := fun _ => fun
  | [d1, d2] => { results := [.lit (.bool true)], args := [d1, d2] }
  | _ => none }
def exprEvalsRow : OpenClaim := { program := "ytifkkajgcekafaadoor", sum := "f5c81ab0e6d79cc89e02d7dc99fdb35c4284dc6124456e57433adf93a5b0af02", func := "roundtable/roundtablelaw07.ExprEvals", spec := "exprEvals", unfollowed := true, recurses := true, named := ["roundtable/expr.rows", "roundtable/expr.duals"], loops := true, apart := false, laid := [("roundtable/expr.rows", laid_roundtable_expr_rows), ("roundtable/expr.duals", laid_roundtable_expr_duals)] }
def ExprEvalsSaid : Prop := exprEvalsRow.holds Tryd.pinned (OpenSpec.ofChange exprEvalsSpec)

/-- ITS FALSE NEIGHBOUR: 'it returns false'. Refute it at one input. -/
def exprEvalsWrong : ChangeSpec := { name := "exprEvals", fn := fun _ => fun
  | [d1, d2] => { results := [.lit (.bool false)], args := [d1, d2] }
  | _ => none }
def ExprEvalsWrongFalsely : Prop := exprEvalsRow.holds Tryd.pinned (OpenSpec.ofChange exprEvalsWrong)

/-- 'roundtablelaw07.ExprFolds': WHATEVER THE INPUT: true; the input reads as it did. -/
def exprFoldsSpec : ChangeSpec := { name := "exprFolds", fn := fun _ => fun
  | [d1, d2] => { results := [.lit (.bool true)], args := [d1, d2] }
  | _ => none }
def exprFoldsRow : OpenClaim := { program := "ytifkkajgcekafaadoor", sum := "f5c81ab0e6d79cc89e02d7dc99fdb35c4284dc6124456e57433adf93a5b0af02", func := "roundtable/roundtablelaw07.ExprFolds", spec := "exprFolds", unfollowed := true, recurses := true, named := ["roundtable/expr.rows", "roundtable/expr.duals"], loops := true, apart := false, laid := [("roundtable/expr.rows", laid_roundtable_expr_rows), ("roundtable/expr.duals", laid_roundtable_expr_duals)] }
def ExprFoldsSaid : Prop := exprFoldsRow.holds Tryd.pinned (OpenSpec.ofChange exprFoldsSpec)

/-- ITS FALSE NEIGHBOUR: 'it returns false'. Refute it at one input. -/
def exprFoldsWrong : ChangeSpec := { name := "exprFolds", fn := fun _ => fun
  | [d1, d2] => { results := [.lit (.bool false)], args := [d1, d2] }
  | _ => none }
def ExprFoldsWrongFalsely : Prop := exprFoldsRow.holds Tryd.pinned (OpenSpec.ofChange exprFoldsWrong)

/-- 'roundtablelaw07.ExprPermutes': WHATEVER THE INPUT: true; the input reads as it did. -/
def exprPermutesSpec : ChangeSpec := { name := "exprPermutes", fn := fun _ => fun
  | [d1, d2, d3] => { results := [.lit (.bool true)], args := [d1, d2, d3] }
  | _ => none }
def exprPermutesRow : OpenClaim := { program := "ytifkkajgcekafaadoor", sum := "f5c81ab0e6d79cc89e02d7dc99fdb35c4284dc6124456e57433adf93a5b0af02", func := "roundtable/roundtablelaw07.ExprPermutes", spec := "exprPermutes", unfollowed := true, recurses := true, named := ["roundtable/expr.rows", "roundtable/expr.duals"], loops := true, apart := false, laid := [("roundtable/expr.rows", laid_roundtable_expr_rows), ("roundtable/expr.duals", laid_roundtable_expr_duals)] }
def ExprPermutesSaid : Prop := exprPermutesRow.holds Tryd.pinned (OpenSpec.ofChange exprPermutesSpec)

/-- ITS FALSE NEIGHBOUR: 'it returns false'. Refute it at one input. -/
def exprPermutesWrong : ChangeSpec := { name := "exprPermutes", fn := fun _ => fun
  | [d1, d2, d3] => { results := [.lit (.bool false)], args := [d1, d2, d3] }
  | _ => none }
def ExprPermutesWrongFalsely : Prop := exprPermutesRow.holds Tryd.pinned (OpenSpec.ofChange exprPermutesWrong)

/-- 'roundtablelaw07.ExprOpposes': WHATEVER THE INPUT: true; the input reads as it did. -/
def exprOpposesSpec : ChangeSpec := { name := "exprOpposes", fn := fun _ => fun
  | [d1, d2] => { results := [.lit (.bool true)], args := [d1, d2] }
  | _ => none }
def exprOpposesRow : OpenClaim := { program := "ytifkkajgcekafaadoor", sum := "f5c81ab0e6d79cc89e02d7dc99fdb35c4284dc6124456e57433adf93a5b0af02", func := "roundtable/roundtablelaw07.ExprOpposes", spec := "exprOpposes", unfollowed := true, recurses := true, named := ["roundtable/expr.rows", "roundtable/expr.duals"], loops := true, apart := false, laid := [("roundtable/expr.rows", laid_roundtable_expr_rows), ("roundtable/expr.duals", laid_roundtable_expr_duals)] }
def ExprOpposesSaid : Prop := exprOpposesRow.holds Tryd.pinned (OpenSpec.ofChange exprOpposesSpec)

/-- ITS FALSE NEIGHBOUR: 'it returns false'. Refute it at one input. -/
def exprOpposesWrong : ChangeSpec := { name := "exprOpposes", fn := fun _ => fun
  | [d1, d2] => { results := [.lit (.bool false)], args := [d1, d2] }
  | _ => none }
def ExprOpposesWrongFalsely : Prop := exprOpposesRow.holds Tryd.pinned (OpenSpec.ofChange exprOpposesWrong)

/-- 'roundtablelaw07.ExprChecks': WHATEVER THE INPUT: true; the input reads as it did. -/
def exprChecksSpec : ChangeSpec := { name := "exprChecks", fn := fun _ => fun
  | [d1, d2] => { results := [.lit (.bool true)], args := [d1, d2] }
  | _ => none }
def exprChecksRow : OpenClaim := { program := "ytifkkajgcekafaadoor", sum := "f5c81ab0e6d79cc89e02d7dc99fdb35c4284dc6124456e57433adf93a5b0af02", func := "roundtable/roundtablelaw07.ExprChecks", spec := "exprChecks", unfollowed := true, recurses := true, named := ["roundtable/expr.rows", "roundtable/expr.duals"], loops := true, apart := false, laid := [("roundtable/expr.rows", laid_roundtable_expr_rows), ("roundtable/expr.duals", laid_roundtable_expr_duals)] }
def ExprChecksSaid : Prop := exprChecksRow.holds Tryd.pinned (OpenSpec.ofChange exprChecksSpec)

/-- ITS FALSE NEIGHBOUR: 'it returns false'. Refute it at one input. -/
def exprChecksWrong : ChangeSpec := { name := "exprChecks", fn := fun _ => fun
  | [d1, d2] => { results := [.lit (.bool false)], args := [d1, d2] }
  | _ => none }
def ExprChecksWrongFalsely : Prop := exprChecksRow.holds Tryd.pinned (OpenSpec.ofChange exprChecksWrong)

/-- 'roundtablelaw07.ExprKeeps': WHATEVER THE INPUT: true; the input reads as it did. -/
def exprKeepsSpec : ChangeSpec := { name := "exprKeeps", fn := fun _ => fun
  | [d1, d2] => { results := [.lit (.bool true)], args := [d1, d2] }
  | _ => none }
def exprKeepsRow : OpenClaim := { program := "ytifkkajgcekafaadoor", sum := "f5c81ab0e6d79cc89e02d7dc99fdb35c4284dc6124456e57433adf93a5b0af02", func := "roundtable/roundtablelaw07.ExprKeeps", spec := "exprKeeps", unfollowed := true, recurses := true, named := ["roundtable/expr.rows", "roundtable/expr.duals"], loops := true, apart := false, laid := [("roundtable/expr.rows", laid_roundtable_expr_rows), ("roundtable/expr.duals", laid_roundtable_expr_duals)] }
def ExprKeepsSaid : Prop := exprKeepsRow.holds Tryd.pinned (OpenSpec.ofChange exprKeepsSpec)

/-- ITS FALSE NEIGHBOUR: 'it returns false'. Refute it at one input. -/
def exprKeepsWrong : ChangeSpec := { name := "exprKeeps", fn := fun _ => fun
  | [d1, d2] => { results := [.lit (.bool false)], args := [d1, d2] }
  | _ => none }
def ExprKeepsWrongFalsely : Prop := exprKeepsRow.holds Tryd.pinned (OpenSpec.ofChange exprKeepsWrong)

/-- 'roundtablelaw07.ExprIgnores': WHATEVER THE INPUT: true; the input reads as it did. -/
def exprIgnoresSpec : ChangeSpec := { name := "exprIgnores", fn := fun _ => fun
  | [d1, d2, d3] => { results := [.lit (.bool true)], args := [d1, d2, d3] }
  | _ => none }
def exprIgnoresRow : OpenClaim := { program := "ytifkkajgcekafaadoor", sum := "f5c81ab0e6d79cc89e02d7dc99fdb35c4284dc6124456e57433adf93a5b0af02", func := "roundtable/roundtablelaw07.ExprIgnores", spec := "exprIgnores", unfollowed := true, recurses := true, named := ["roundtable/expr.rows", "roundtable/expr.duals"], loops := true, apart := false, laid := [("roundtable/expr.rows", laid_roundtable_expr_rows), ("roundtable/expr.duals", laid_roundtable_expr_duals)] }
def ExprIgnoresSaid : Prop := exprIgnoresRow.holds Tryd.pinned (OpenSpec.ofChange exprIgnoresSpec)

/-- ITS FALSE NEIGHBOUR: 'it returns false'. Refute it at one input. -/
def exprIgnoresWrong : ChangeSpec := { name := "exprIgnores", fn := fun _ => fun
  | [d1, d2, d3] => { results := [.lit (.bool false)], args := [d1, d2, d3] }
  | _ => none }
def ExprIgnoresWrongFalsely : Prop := exprIgnoresRow.holds Tryd.pinned (OpenSpec.ofChange exprIgnoresWrong)

/-- 'roundtablelaw07.ExprRewrites': WHATEVER THE INPUT: true; the input reads as it did. -/
def exprRewritesSpec : ChangeSpec := { name := "exprRewrites", fn := fun _ => fun
  | [d1, d2, d3] => { results := [.lit (.bool true)], args := [d1, d2, d3] }
  | _ => none }
def exprRewritesRow : OpenClaim := { program := "ytifkkajgcekafaadoor", sum := "f5c81ab0e6d79cc89e02d7dc99fdb35c4284dc6124456e57433adf93a5b0af02", func := "roundtable/roundtablelaw07.ExprRewrites", spec := "exprRewrites", unfollowed := true, recurses := true, named := ["roundtable/expr.rows", "roundtable/expr.duals"], loops := true, apart := false, laid := [("roundtable/expr.rows", laid_roundtable_expr_rows), ("roundtable/expr.duals", laid_roundtable_expr_duals)] }
def ExprRewritesSaid : Prop := exprRewritesRow.holds Tryd.pinned (OpenSpec.ofChange exprRewritesSpec)

/-- ITS FALSE NEIGHBOUR: 'it returns false'. Refute it at one input. -/
def exprRewritesWrong : ChangeSpec := { name := "exprRewrites", fn := fun _ => fun
  | [d1, d2, d3] => { results := [.lit (.bool false)], args := [d1, d2, d3] }
  | _ => none }
def ExprRewritesWrongFalsely : Prop := exprRewritesRow.holds Tryd.pinned (OpenSpec.ofChange exprRewritesWrong)

/- THE SECOND FORM. 'bulk': how many values and letters a reading holds, each counted each time it is reached (what is shared counts as often as it is met; a slice's spare places count too). A statement '..UptoSaid' is the law's where the arguments, and the package variables that the reading takes, are together of bulk at most 1048576: NARROWER than '..Said'. Prove '..Said' where nothing that the law and all that it calls make is longer than what came in: it says more and counts as full. Else prove '..UptoSaid'. A law counts once. -/
mutual
def uptoBulk {H : Type} : DataW H → Nat
  | .lit (.string bytes) => bytes.length + 1
  | .lit _ => 1
  | .nil => 1
  | .ptr d => uptoBulk d + 1
  | .slice elems spare => uptoBulkAll elems + uptoBulkAll spare + 1
  | .agg parts => uptoBulkAll parts + 1
  | .iface _ d => uptoBulk d + 1
  | .map entries => uptoBulkEntries entries + 1
  | .held _ => 1
def uptoBulkAll {H : Type} : List (DataW H) → Nat
  | [] => 0
  | d :: r => uptoBulk d + uptoBulkAll r
def uptoBulkEntries {H : Type} : List (Lit × DataW H) → Nat
  | [] => 0
  | x :: r => uptoBulkEntry x + uptoBulkEntries r
def uptoBulkEntry {H : Type} : Lit × DataW H → Nat
  | (.string bytes, d) => bytes.length + uptoBulk d + 1
  | (_, d) => uptoBulk d + 1
 end
def uptoSmall : (H : Type) → List (DataW H) → Bool := fun _ ds => decide (uptoBulkAll ds ≤ 1048576)
def OpenSpec.upto (s : _root_.Go.ChangeSpec) : _root_.Go.OpenSpec := { _root_.Go.OpenSpec.ofChange s with cond := some uptoSmall }

/-- 'roundtablelaw07.ExprEvals', WHERE WHAT IT READS IS OF BULK AT MOST 1048576: true; the input reads as it did. -/
def exprEvalsUptoRow : OpenClaim := { program := "ytifkkajgcekafaadoor", sum := "f5c81ab0e6d79cc89e02d7dc99fdb35c4284dc6124456e57433adf93a5b0af02", func := "roundtable/roundtablelaw07.ExprEvals", spec := "exprEvals", unfollowed := true, recurses := true, named := ["roundtable/expr.rows", "roundtable/expr.duals"], loops := true, apart := false, laid := [("roundtable/expr.rows", laid_roundtable_expr_rows), ("roundtable/expr.duals", laid_roundtable_expr_duals)], narrowed := true }
def ExprEvalsUptoSaid : Prop := exprEvalsUptoRow.holds Tryd.pinned (OpenSpec.upto exprEvalsSpec)

/-- 'roundtablelaw07.ExprFolds', WHERE WHAT IT READS IS OF BULK AT MOST 1048576: true; the input reads as it did. -/
def exprFoldsUptoRow : OpenClaim := { program := "ytifkkajgcekafaadoor", sum := "f5c81ab0e6d79cc89e02d7dc99fdb35c4284dc6124456e57433adf93a5b0af02", func := "roundtable/roundtablelaw07.ExprFolds", spec := "exprFolds", unfollowed := true, recurses := true, named := ["roundtable/expr.rows", "roundtable/expr.duals"], loops := true, apart := false, laid := [("roundtable/expr.rows", laid_roundtable_expr_rows), ("roundtable/expr.duals", laid_roundtable_expr_duals)], narrowed := true }
def ExprFoldsUptoSaid : Prop := exprFoldsUptoRow.holds Tryd.pinned (OpenSpec.upto exprFoldsSpec)

/-- 'roundtablelaw07.ExprPermutes', WHERE WHAT IT READS IS OF BULK AT MOST 1048576: true; the input reads as it did. -/
def exprPermutesUptoRow : OpenClaim := { program := "ytifkkajgcekafaadoor", sum := "f5c81ab0e6d79cc89e02d7dc99fdb35c4284dc6124456e57433adf93a5b0af02", func := "roundtable/roundtablelaw07.ExprPermutes", spec := "exprPermutes", unfollowed := true, recurses := true, named := ["roundtable/expr.rows", "roundtable/expr.duals"], loops := true, apart := false, laid := [("roundtable/expr.rows", laid_roundtable_expr_rows), ("roundtable/expr.duals", laid_roundtable_expr_duals)], narrowed := true }
def ExprPermutesUptoSaid : Prop := exprPermutesUptoRow.holds Tryd.pinned (OpenSpec.upto exprPermutesSpec)

/-- 'roundtablelaw07.ExprOpposes', WHERE WHAT IT READS IS OF BULK AT MOST 1048576: true; the input reads as it did. -/
def exprOpposesUptoRow : OpenClaim := { program := "ytifkkajgcekafaadoor", sum := "f5c81ab0e6d79cc89e02d7dc99fdb35c4284dc6124456e57433adf93a5b0af02", func := "roundtable/roundtablelaw07.ExprOpposes", spec := "exprOpposes", unfollowed := true, recurses := true, named := ["roundtable/expr.rows", "roundtable/expr.duals"], loops := true, apart := false, laid := [("roundtable/expr.rows", laid_roundtable_expr_rows), ("roundtable/expr.duals", laid_roundtable_expr_duals)], narrowed := true }
def ExprOpposesUptoSaid : Prop := exprOpposesUptoRow.holds Tryd.pinned (OpenSpec.upto exprOpposesSpec)

/-- 'roundtablelaw07.ExprChecks', WHERE WHAT IT READS IS OF BULK AT MOST 1048576: true; the input reads as it did. -/
def exprChecksUptoRow : OpenClaim := { program := "ytifkkajgcekafaadoor", sum := "f5c81ab0e6d79cc89e02d7dc99fdb35c4284dc6124456e57433adf93a5b0af02", func := "roundtable/roundtablelaw07.ExprChecks", spec := "exprChecks", unfollowed := true, recurses := true, named := ["roundtable/expr.rows", "roundtable/expr.duals"], loops := true, apart := false, laid := [("roundtable/expr.rows", laid_roundtable_expr_rows), ("roundtable/expr.duals", laid_roundtable_expr_duals)], narrowed := true }
def ExprChecksUptoSaid : Prop := exprChecksUptoRow.holds Tryd.pinned (OpenSpec.upto exprChecksSpec)

/-- 'roundtablelaw07.ExprKeeps', WHERE WHAT IT READS IS OF BULK AT MOST 1048576: true; the input reads as it did. -/
def exprKeepsUptoRow : OpenClaim := { program := "ytifkkajgcekafaadoor", sum := "f5c81ab0e6d79cc89e02d7dc99fdb35c4284dc6124456e57433adf93a5b0af02", func := "roundtable/roundtablelaw07.ExprKeeps", spec := "exprKeeps", unfollowed := true, recurses := true, named := ["roundtable/expr.rows", "roundtable/expr.duals"], loops := true, apart := false, laid := [("roundtable/expr.rows", laid_roundtable_expr_rows), ("roundtable/expr.duals", laid_roundtable_expr_duals)], narrowed := true }
def ExprKeepsUptoSaid : Prop := exprKeepsUptoRow.holds Tryd.pinned (OpenSpec.upto exprKeepsSpec)

/-- 'roundtablelaw07.ExprIgnores', WHERE WHAT IT READS IS OF BULK AT MOST 1048576: true; the input reads as it did. -/
def exprIgnoresUptoRow : OpenClaim := { program := "ytifkkajgcekafaadoor", sum := "f5c81ab0e6d79cc89e02d7dc99fdb35c4284dc6124456e57433adf93a5b0af02", func := "roundtable/roundtablelaw07.ExprIgnores", spec := "exprIgnores", unfollowed := true, recurses := true, named := ["roundtable/expr.rows", "roundtable/expr.duals"], loops := true, apart := false, laid := [("roundtable/expr.rows", laid_roundtable_expr_rows), ("roundtable/expr.duals", laid_roundtable_expr_duals)], narrowed := true }
def ExprIgnoresUptoSaid : Prop := exprIgnoresUptoRow.holds Tryd.pinned (OpenSpec.upto exprIgnoresSpec)

/-- 'roundtablelaw07.ExprRewrites', WHERE WHAT IT READS IS OF BULK AT MOST 1048576: true; the input reads as it did. -/
def exprRewritesUptoRow : OpenClaim := { program := "ytifkkajgcekafaadoor", sum := "f5c81ab0e6d79cc89e02d7dc99fdb35c4284dc6124456e57433adf93a5b0af02", func := "roundtable/roundtablelaw07.ExprRewrites", spec := "exprRewrites", unfollowed := true, recurses := true, named := ["roundtable/expr.rows", "roundtable/expr.duals"], loops := true, apart := false, laid := [("roundtable/expr.rows", laid_roundtable_expr_rows), ("roundtable/expr.duals", laid_roundtable_expr_duals)], narrowed := true }
def ExprRewritesUptoSaid : Prop := exprRewritesUptoRow.holds Tryd.pinned (OpenSpec.upto exprRewritesSpec)

end Rows
end Go.Proofs.YtifkkajgcekafaaDoor
