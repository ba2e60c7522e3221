/-
  DERIVED. GIVEN WITH THE SEED: THE PROGRAM's TIES (one call each: nine closed facts by the kernel) AND EACH ROW's TIE, after the 31st guide's Derived/Test/Toyas{Tie, Card}.lean. No idea stands in it: it is a product of the set-up. Laid BY PROGRAM, IN A SANDBOX (cutbox-door.mjs). By AI agents, Wed Nov 11 2026. No macro, syntax, notation, axiom, sorry.
-/
import Derived.Test.YthogcbffnbhalaaDoorRows
import Derived.LaidByTextLater
import Derived.SevenTiedAt
import Derived.LaidSub
import Derived.LaidOnce
namespace Go.Proofs.YthogcbffnbhalaaDoor
open Go
set_option maxRecDepth 100000
theorem seatTie1 : Tryd.prog.laidByTextLater [("roundtable/expr.rows", Rows.laid_roundtable_expr_rows), ("roundtable/expr.duals", Rows.laid_roundtable_expr_duals)] [.data, .data] true :=
  Program.laidByTextLater_by_one 38 8 49 (by kernel_rfl) (by kernel_rfl) (by kernel_rfl) (by kernel_rfl) (by kernel_rfl) (by kernel_rfl) (fun _ _ => by kernel_rfl)
theorem noOwnUnsafe : Tryd.pinned.checked.prog.headLifts.contains "ownunsafe" = false := by kernel_rfl
theorem tie : Tryd.prog.laidByTextLater [("roundtable/expr.rows", Rows.laid_roundtable_expr_rows), ("roundtable/expr.duals", Rows.laid_roundtable_expr_duals)] [.data, .data] true :=
  Program.laidByTextLater.sub seatTie1 ["roundtable/expr.rows", "roundtable/expr.duals"] (by kernel_rfl) (by kernel_rfl)
theorem exprPermutes_row_tie : Rows.exprPermutesRow.laidByTextAt .later Tryd.pinned [.data, .data] true :=
  OpenClaim.laidByTextAt_later rfl rfl tie noOwnUnsafe
theorem exprPermutesUpto_row_tie : Rows.exprPermutesUptoRow.laidByTextAt .later Tryd.pinned [.data, .data] true :=
  OpenClaim.laidByTextAt_later rfl rfl tie noOwnUnsafe
end Go.Proofs.YthogcbffnbhalaaDoor
