/-
  DERIVED. GIVEN WITH THE SEED: THE CARDS: each row of YthogcbffnbhalaaDoorRows.lean that lists a variable, with what it lists TIED to the program's text (the seventh form; the later family's looks); each row that meets fmt, with fmt's text TOLD by the authors' own Lean function (tested against real Go, not proved from fmt's source: count such statements apart). THE CARD IS WHAT COUNTS. Prove the row's statement (the work); the ties are given (YthogcbffnbhalaaDoorTie.lean); close each card by the builder's one call (the guide's Derived/Test/ToyasCard.lean, 'card_holds'). Laid BY PROGRAM, IN A SANDBOX (cutbox-door.mjs). By AI agents, Wed Nov 11 2026. No macro, syntax, notation, axiom, sorry.
-/
import Derived.Test.YthogcbffnbhalaaDoorRows
import GoSem.ClaimSeven
namespace Go.Proofs.YthogcbffnbhalaaDoor
namespace Rows

/-- THE TIED CARD OF 'roundtablelaw07.ExprPermutes'. -/
def exprPermutesCard : Claim7 := { stood := { row := exprPermutesRow, standIns := [], harness := (true, "646b489de0cd887189f632c8d3c606e8cbec8ef9dc01722baa634d49451f2f5d"), looks := false }, kinds := [], alts := [], laidByText := true, laidKinds := [.data, .data], laidTests := true, laidLooks := .later }
def ExprPermutesCardSaid : Prop := Claim7.holds Tryd.pinned (.plain (OpenSpec.ofChange exprPermutesSpec)) exprPermutesCard

/-- THE SECOND FORM's CARD OF 'roundtablelaw07.ExprPermutes'. -/
def exprPermutesUptoCard : Claim7 := { stood := { row := exprPermutesUptoRow, standIns := [], harness := (true, "646b489de0cd887189f632c8d3c606e8cbec8ef9dc01722baa634d49451f2f5d"), looks := false }, kinds := [], alts := [], laidByText := true, laidKinds := [.data, .data], laidTests := true, laidLooks := .later }
def ExprPermutesUptoCardSaid : Prop := Claim7.holds Tryd.pinned (.plain (OpenSpec.upto exprPermutesSpec)) exprPermutesUptoCard
end Rows
end Go.Proofs.YthogcbffnbhalaaDoor
