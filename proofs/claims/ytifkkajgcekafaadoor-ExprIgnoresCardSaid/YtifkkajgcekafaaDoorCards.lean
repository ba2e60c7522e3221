/-
  DERIVED. GIVEN WITH THE SEED: THE CARDS: each row of YtifkkajgcekafaaDoorRows.lean that lists a variable, with what it lists TIED to the program's text (the seventh form; the later family's looks); each row that meets fmt, with fmt's text TOLD by the authors' own Lean function (tested against real Go, not proved from fmt's source: count such statements apart). THE CARD IS WHAT COUNTS. Prove the row's statement (the work); the ties are given (YtifkkajgcekafaaDoorTie.lean); close each card by the builder's one call (the guide's Derived/Test/ToyasCard.lean, 'card_holds'). Laid BY PROGRAM, IN A SANDBOX (cutbox-door.mjs). By AI agents, Wed Nov 11 2026. No macro, syntax, notation, axiom, sorry.
-/
import Derived.Test.YtifkkajgcekafaaDoorRows
import GoSem.ClaimSeven
namespace Go.Proofs.YtifkkajgcekafaaDoor
namespace Rows

/-- THE TIED CARD OF 'roundtablelaw07.ExprEvals'. -/
def exprEvalsCard : Claim7 := { stood := { row := exprEvalsRow, standIns := [], harness := (true, "17910539f57e9e4a8314f82bdcf09c895385dd23ddc2fc759b65c8b86a84d73e"), looks := false }, kinds := [], alts := [], laidByText := true, laidKinds := [.data, .data], laidTests := true, laidLooks := .later }
def ExprEvalsCardSaid : Prop := Claim7.holds Tryd.pinned (.plain (OpenSpec.ofChange exprEvalsSpec)) exprEvalsCard

/-- THE TIED CARD OF 'roundtablelaw07.ExprFolds'. -/
def exprFoldsCard : Claim7 := { stood := { row := exprFoldsRow, standIns := [], harness := (true, "17910539f57e9e4a8314f82bdcf09c895385dd23ddc2fc759b65c8b86a84d73e"), looks := false }, kinds := [], alts := [], laidByText := true, laidKinds := [.data, .data], laidTests := true, laidLooks := .later }
def ExprFoldsCardSaid : Prop := Claim7.holds Tryd.pinned (.plain (OpenSpec.ofChange exprFoldsSpec)) exprFoldsCard

/-- THE TIED CARD OF 'roundtablelaw07.ExprPermutes'. -/
def exprPermutesCard : Claim7 := { stood := { row := exprPermutesRow, standIns := [], harness := (true, "17910539f57e9e4a8314f82bdcf09c895385dd23ddc2fc759b65c8b86a84d73e"), looks := false }, kinds := [], alts := [], laidByText := true, laidKinds := [.data, .data], laidTests := true, laidLooks := .later }
def ExprPermutesCardSaid : Prop := Claim7.holds Tryd.pinned (.plain (OpenSpec.ofChange exprPermutesSpec)) exprPermutesCard

/-- THE TIED CARD OF 'roundtablelaw07.ExprOpposes'. -/
def exprOpposesCard : Claim7 := { stood := { row := exprOpposesRow, standIns := [], harness := (true, "17910539f57e9e4a8314f82bdcf09c895385dd23ddc2fc759b65c8b86a84d73e"), looks := false }, kinds := [], alts := [], laidByText := true, laidKinds := [.data, .data], laidTests := true, laidLooks := .later }
def ExprOpposesCardSaid : Prop := Claim7.holds Tryd.pinned (.plain (OpenSpec.ofChange exprOpposesSpec)) exprOpposesCard

/-- THE TIED CARD OF 'roundtablelaw07.ExprChecks'. -/
def exprChecksCard : Claim7 := { stood := { row := exprChecksRow, standIns := [], harness := (true, "17910539f57e9e4a8314f82bdcf09c895385dd23ddc2fc759b65c8b86a84d73e"), looks := false }, kinds := [], alts := [], laidByText := true, laidKinds := [.data, .data], laidTests := true, laidLooks := .later }
def ExprChecksCardSaid : Prop := Claim7.holds Tryd.pinned (.plain (OpenSpec.ofChange exprChecksSpec)) exprChecksCard

/-- THE TIED CARD OF 'roundtablelaw07.ExprKeeps'. -/
def exprKeepsCard : Claim7 := { stood := { row := exprKeepsRow, standIns := [], harness := (true, "17910539f57e9e4a8314f82bdcf09c895385dd23ddc2fc759b65c8b86a84d73e"), looks := false }, kinds := [], alts := [], laidByText := true, laidKinds := [.data, .data], laidTests := true, laidLooks := .later }
def ExprKeepsCardSaid : Prop := Claim7.holds Tryd.pinned (.plain (OpenSpec.ofChange exprKeepsSpec)) exprKeepsCard

/-- THE TIED CARD OF 'roundtablelaw07.ExprIgnores'. -/
def exprIgnoresCard : Claim7 := { stood := { row := exprIgnoresRow, standIns := [], harness := (true, "17910539f57e9e4a8314f82bdcf09c895385dd23ddc2fc759b65c8b86a84d73e"), looks := false }, kinds := [], alts := [], laidByText := true, laidKinds := [.data, .data], laidTests := true, laidLooks := .later }
def ExprIgnoresCardSaid : Prop := Claim7.holds Tryd.pinned (.plain (OpenSpec.ofChange exprIgnoresSpec)) exprIgnoresCard

/-- THE TIED CARD OF 'roundtablelaw07.ExprRewrites'. -/
def exprRewritesCard : Claim7 := { stood := { row := exprRewritesRow, standIns := [], harness := (true, "17910539f57e9e4a8314f82bdcf09c895385dd23ddc2fc759b65c8b86a84d73e"), looks := false }, kinds := [], alts := [], laidByText := true, laidKinds := [.data, .data], laidTests := true, laidLooks := .later }
def ExprRewritesCardSaid : Prop := Claim7.holds Tryd.pinned (.plain (OpenSpec.ofChange exprRewritesSpec)) exprRewritesCard

/-- THE SECOND FORM's CARD OF 'roundtablelaw07.ExprEvals'. -/
def exprEvalsUptoCard : Claim7 := { stood := { row := exprEvalsUptoRow, standIns := [], harness := (true, "17910539f57e9e4a8314f82bdcf09c895385dd23ddc2fc759b65c8b86a84d73e"), looks := false }, kinds := [], alts := [], laidByText := true, laidKinds := [.data, .data], laidTests := true, laidLooks := .later }
def ExprEvalsUptoCardSaid : Prop := Claim7.holds Tryd.pinned (.plain (OpenSpec.upto exprEvalsSpec)) exprEvalsUptoCard

/-- THE SECOND FORM's CARD OF 'roundtablelaw07.ExprFolds'. -/
def exprFoldsUptoCard : Claim7 := { stood := { row := exprFoldsUptoRow, standIns := [], harness := (true, "17910539f57e9e4a8314f82bdcf09c895385dd23ddc2fc759b65c8b86a84d73e"), looks := false }, kinds := [], alts := [], laidByText := true, laidKinds := [.data, .data], laidTests := true, laidLooks := .later }
def ExprFoldsUptoCardSaid : Prop := Claim7.holds Tryd.pinned (.plain (OpenSpec.upto exprFoldsSpec)) exprFoldsUptoCard

/-- THE SECOND FORM's CARD OF 'roundtablelaw07.ExprPermutes'. -/
def exprPermutesUptoCard : Claim7 := { stood := { row := exprPermutesUptoRow, standIns := [], harness := (true, "17910539f57e9e4a8314f82bdcf09c895385dd23ddc2fc759b65c8b86a84d73e"), looks := false }, kinds := [], alts := [], laidByText := true, laidKinds := [.data, .data], laidTests := true, laidLooks := .later }
def ExprPermutesUptoCardSaid : Prop := Claim7.holds Tryd.pinned (.plain (OpenSpec.upto exprPermutesSpec)) exprPermutesUptoCard

/-- THE SECOND FORM's CARD OF 'roundtablelaw07.ExprOpposes'. -/
def exprOpposesUptoCard : Claim7 := { stood := { row := exprOpposesUptoRow, standIns := [], harness := (true, "17910539f57e9e4a8314f82bdcf09c895385dd23ddc2fc759b65c8b86a84d73e"), looks := false }, kinds := [], alts := [], laidByText := true, laidKinds := [.data, .data], laidTests := true, laidLooks := .later }
def ExprOpposesUptoCardSaid : Prop := Claim7.holds Tryd.pinned (.plain (OpenSpec.upto exprOpposesSpec)) exprOpposesUptoCard

/-- THE SECOND FORM's CARD OF 'roundtablelaw07.ExprChecks'. -/
def exprChecksUptoCard : Claim7 := { stood := { row := exprChecksUptoRow, standIns := [], harness := (true, "17910539f57e9e4a8314f82bdcf09c895385dd23ddc2fc759b65c8b86a84d73e"), looks := false }, kinds := [], alts := [], laidByText := true, laidKinds := [.data, .data], laidTests := true, laidLooks := .later }
def ExprChecksUptoCardSaid : Prop := Claim7.holds Tryd.pinned (.plain (OpenSpec.upto exprChecksSpec)) exprChecksUptoCard

/-- THE SECOND FORM's CARD OF 'roundtablelaw07.ExprKeeps'. -/
def exprKeepsUptoCard : Claim7 := { stood := { row := exprKeepsUptoRow, standIns := [], harness := (true, "17910539f57e9e4a8314f82bdcf09c895385dd23ddc2fc759b65c8b86a84d73e"), looks := false }, kinds := [], alts := [], laidByText := true, laidKinds := [.data, .data], laidTests := true, laidLooks := .later }
def ExprKeepsUptoCardSaid : Prop := Claim7.holds Tryd.pinned (.plain (OpenSpec.upto exprKeepsSpec)) exprKeepsUptoCard

/-- THE SECOND FORM's CARD OF 'roundtablelaw07.ExprIgnores'. -/
def exprIgnoresUptoCard : Claim7 := { stood := { row := exprIgnoresUptoRow, standIns := [], harness := (true, "17910539f57e9e4a8314f82bdcf09c895385dd23ddc2fc759b65c8b86a84d73e"), looks := false }, kinds := [], alts := [], laidByText := true, laidKinds := [.data, .data], laidTests := true, laidLooks := .later }
def ExprIgnoresUptoCardSaid : Prop := Claim7.holds Tryd.pinned (.plain (OpenSpec.upto exprIgnoresSpec)) exprIgnoresUptoCard

/-- THE SECOND FORM's CARD OF 'roundtablelaw07.ExprRewrites'. -/
def exprRewritesUptoCard : Claim7 := { stood := { row := exprRewritesUptoRow, standIns := [], harness := (true, "17910539f57e9e4a8314f82bdcf09c895385dd23ddc2fc759b65c8b86a84d73e"), looks := false }, kinds := [], alts := [], laidByText := true, laidKinds := [.data, .data], laidTests := true, laidLooks := .later }
def ExprRewritesUptoCardSaid : Prop := Claim7.holds Tryd.pinned (.plain (OpenSpec.upto exprRewritesSpec)) exprRewritesUptoCard
end Rows
end Go.Proofs.YtifkkajgcekafaaDoor
