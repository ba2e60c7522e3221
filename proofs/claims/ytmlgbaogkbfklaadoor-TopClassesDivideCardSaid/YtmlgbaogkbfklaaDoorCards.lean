/-
  DERIVED. GIVEN WITH THE SEED: THE CARDS: each row of YtmlgbaogkbfklaaDoorRows.lean that lists a variable, with what it lists TIED to the program's text (the seventh form; the later family's looks); each row that meets fmt, with fmt's text TOLD by the authors' own Lean function (tested against real Go, not proved from fmt's source: count such statements apart). THE CARD IS WHAT COUNTS. Prove the row's statement (the work); the ties are given (YtmlgbaogkbfklaaDoorTie.lean); close each card by the builder's one call (the guide's Derived/Test/ToyasCard.lean, 'card_holds'). Laid BY PROGRAM, IN A SANDBOX (cutbox-door.mjs). By AI agents, Wed Nov 11 2026. No macro, syntax, notation, axiom, sorry.
-/
import Derived.Test.YtmlgbaogkbfklaaDoorRows
import GoSem.ClaimSeven
namespace Go.Proofs.YtmlgbaogkbfklaaDoor
namespace Rows

/-- THE TIED CARD OF 'roundtabletop.TopGraphsOrdered'. -/
def topGraphsOrderedCard : Claim7 := { stood := { row := topGraphsOrderedRow, standIns := [], harness := (true, "ee5deff4f751a522cc204cda02de5ddd719f18303f2571bd3500686ab51a5ec8"), looks := false }, kinds := [], alts := [], laidByText := true, laidKinds := [.data, .data], laidTests := true, laidLooks := .later }
def TopGraphsOrderedCardSaid : Prop := Claim7.holds Tryd.pinned (.plain (OpenSpec.ofChange topGraphsOrderedSpec)) topGraphsOrderedCard

/-- THE TIED CARD OF 'roundtabletop.TopProductsMove'. -/
def topProductsMoveCard : Claim7 := { stood := { row := topProductsMoveRow, standIns := [], harness := (true, "ee5deff4f751a522cc204cda02de5ddd719f18303f2571bd3500686ab51a5ec8"), looks := false }, kinds := [], alts := [], laidByText := true, laidKinds := [.data, .data], laidTests := true, laidLooks := .later }
def TopProductsMoveCardSaid : Prop := Claim7.holds Tryd.pinned (.plain (OpenSpec.ofChange topProductsMoveSpec)) topProductsMoveCard

/-- THE TIED CARD OF 'roundtabletop.TopClassesDivide'. -/
def topClassesDivideCard : Claim7 := { stood := { row := topClassesDivideRow, standIns := [], harness := (true, "ee5deff4f751a522cc204cda02de5ddd719f18303f2571bd3500686ab51a5ec8"), looks := false }, kinds := [], alts := [], laidByText := true, laidKinds := [.data, .data], laidTests := true, laidLooks := .later }
def TopClassesDivideCardSaid : Prop := Claim7.holds Tryd.pinned (.plain (OpenSpec.ofChange topClassesDivideSpec)) topClassesDivideCard

/-- THE SECOND FORM's CARD OF 'roundtabletop.TopGraphsOrdered'. -/
def topGraphsOrderedUptoCard : Claim7 := { stood := { row := topGraphsOrderedUptoRow, standIns := [], harness := (true, "ee5deff4f751a522cc204cda02de5ddd719f18303f2571bd3500686ab51a5ec8"), looks := false }, kinds := [], alts := [], laidByText := true, laidKinds := [.data, .data], laidTests := true, laidLooks := .later }
def TopGraphsOrderedUptoCardSaid : Prop := Claim7.holds Tryd.pinned (.plain (OpenSpec.upto topGraphsOrderedSpec)) topGraphsOrderedUptoCard

/-- THE SECOND FORM's CARD OF 'roundtabletop.TopProductsMove'. -/
def topProductsMoveUptoCard : Claim7 := { stood := { row := topProductsMoveUptoRow, standIns := [], harness := (true, "ee5deff4f751a522cc204cda02de5ddd719f18303f2571bd3500686ab51a5ec8"), looks := false }, kinds := [], alts := [], laidByText := true, laidKinds := [.data, .data], laidTests := true, laidLooks := .later }
def TopProductsMoveUptoCardSaid : Prop := Claim7.holds Tryd.pinned (.plain (OpenSpec.upto topProductsMoveSpec)) topProductsMoveUptoCard

/-- THE SECOND FORM's CARD OF 'roundtabletop.TopClassesDivide'. -/
def topClassesDivideUptoCard : Claim7 := { stood := { row := topClassesDivideUptoRow, standIns := [], harness := (true, "ee5deff4f751a522cc204cda02de5ddd719f18303f2571bd3500686ab51a5ec8"), looks := false }, kinds := [], alts := [], laidByText := true, laidKinds := [.data, .data], laidTests := true, laidLooks := .later }
def TopClassesDivideUptoCardSaid : Prop := Claim7.holds Tryd.pinned (.plain (OpenSpec.upto topClassesDivideSpec)) topClassesDivideUptoCard
end Rows
end Go.Proofs.YtmlgbaogkbfklaaDoor
