/-
  No cell of these rows narrows 'for every input' (looked for: loops, veiled, ifaces, maps, wideKeys, modest, calm, conditions, laid).
  DERIVED. THE GIVEN ROWS OF THIS SEAT. 11 by the template 'for every input the law returns true; each argument reads behind the call as it read before'; 0 by the template 'total and deterministic' (their statements: YtijmjliijjkcbaaTotals.lean).
  GIVEN WITH THE SEED: the statements are not yours to turn. If you find one false, say at which input.
  Laid BY PROGRAM, IN A SANDBOX (cutbox-rows.mjs): the forced cells as the released guide's own fill.sh prints them over the translation d6201a1184070074… (all of the seat's roots in one cut). By AI agents, Wed Nov 11 2026. No macro, syntax, notation, axiom, sorry.
-/
import Derived.Test.YtijmjliijjkcbaaChecked
import GoSem.Claim
import GoSem.ClaimJoined
import GoSem.ClaimMapViews
import Derived.JoinedTies
import Derived.KernelRfl
namespace Go.Proofs.Ytijmjliijjkcbaa
/- THE CELL 'sum', in the pinned program and in every row, IS THE sha256 OF THE DUMP (.gsa) THAT YtijmjliijjkcbaaProg.lean LOADS. Nothing in Lean hashes anything: it is a label: what it is worth is what the hold of that sum in a sandbox is worth. -/
noncomputable def Try.pinned : Pinned := { name := "ytijmjliijjkcbaa", sum := "d6201a1184070074ac2b0ebe6b842fd21cdd794c9bca9a1d908e06a1a389ea80", checked := Try.checked }
namespace Rows
def none {H : Type} : Left H := { results := [], args := [] }

/-- 'roundtablelaw05.MatrixReduces': WHATEVER THE INPUT: true; the input reads as it did. -/
def matrixReducesSpec : ChangeSpec := { name := "matrixReduces", fn := fun _ => fun
  | [d] => { results := [.lit (.bool true)], args := [d] }
  | _ => none }
def matrixReducesRow : OpenClaim := { program := "ytijmjliijjkcbaa", sum := "d6201a1184070074ac2b0ebe6b842fd21cdd794c9bca9a1d908e06a1a389ea80", func := "roundtable/roundtablelaw05.MatrixReduces", spec := "matrixReduces", unfollowed := true, recurses := true, apart := false }
def MatrixReducesSaid : Prop := matrixReducesRow.holds Try.pinned (OpenSpec.ofChange matrixReducesSpec)

/-- ITS FALSE NEIGHBOUR: 'it returns false'. Refute it at one input. -/
def matrixReducesWrong : ChangeSpec := { name := "matrixReduces", fn := fun _ => fun
  | [d] => { results := [.lit (.bool false)], args := [d] }
  | _ => none }
def MatrixReducesWrongFalsely : Prop := matrixReducesRow.holds Try.pinned (OpenSpec.ofChange matrixReducesWrong)

/-- 'roundtablelaw05.MatrixSolves': WHATEVER THE INPUT: true; the input reads as it did. -/
def matrixSolvesSpec : ChangeSpec := { name := "matrixSolves", fn := fun _ => fun
  | [d1, d2] => { results := [.lit (.bool true)], args := [d1, d2] }
  | _ => none }
def matrixSolvesRow : OpenClaim := { program := "ytijmjliijjkcbaa", sum := "d6201a1184070074ac2b0ebe6b842fd21cdd794c9bca9a1d908e06a1a389ea80", func := "roundtable/roundtablelaw05.MatrixSolves", spec := "matrixSolves", unfollowed := true, recurses := true, apart := false }
def MatrixSolvesSaid : Prop := matrixSolvesRow.holds Try.pinned (OpenSpec.ofChange matrixSolvesSpec)

/-- ITS FALSE NEIGHBOUR: 'it returns false'. Refute it at one input. -/
def matrixSolvesWrong : ChangeSpec := { name := "matrixSolves", fn := fun _ => fun
  | [d1, d2] => { results := [.lit (.bool false)], args := [d1, d2] }
  | _ => none }
def MatrixSolvesWrongFalsely : Prop := matrixSolvesRow.holds Try.pinned (OpenSpec.ofChange matrixSolvesWrong)

/-- 'roundtablelaw05.MatrixVerifies': WHATEVER THE INPUT: true; the input reads as it did. -/
def matrixVerifiesSpec : ChangeSpec := { name := "matrixVerifies", fn := fun _ => fun
  | [d1, d2, d3] => { results := [.lit (.bool true)], args := [d1, d2, d3] }
  | _ => none }
def matrixVerifiesRow : OpenClaim := { program := "ytijmjliijjkcbaa", sum := "d6201a1184070074ac2b0ebe6b842fd21cdd794c9bca9a1d908e06a1a389ea80", func := "roundtable/roundtablelaw05.MatrixVerifies", spec := "matrixVerifies", unfollowed := true, recurses := true, apart := false }
def MatrixVerifiesSaid : Prop := matrixVerifiesRow.holds Try.pinned (OpenSpec.ofChange matrixVerifiesSpec)

/-- ITS FALSE NEIGHBOUR: 'it returns false'. Refute it at one input. -/
def matrixVerifiesWrong : ChangeSpec := { name := "matrixVerifies", fn := fun _ => fun
  | [d1, d2, d3] => { results := [.lit (.bool false)], args := [d1, d2, d3] }
  | _ => none }
def MatrixVerifiesWrongFalsely : Prop := matrixVerifiesRow.holds Try.pinned (OpenSpec.ofChange matrixVerifiesWrong)

/-- 'roundtabletop.TopSystemsDecided': WHATEVER THE INPUT: true; the input reads as it did. -/
def topSystemsDecidedSpec : ChangeSpec := { name := "topSystemsDecided", fn := fun _ => fun
  | [d1, d2, d3] => { results := [.lit (.bool true)], args := [d1, d2, d3] }
  | _ => none }
def topSystemsDecidedRow : OpenClaim := { program := "ytijmjliijjkcbaa", sum := "d6201a1184070074ac2b0ebe6b842fd21cdd794c9bca9a1d908e06a1a389ea80", func := "roundtable/roundtabletop.TopSystemsDecided", spec := "topSystemsDecided", unfollowed := true, recurses := true, apart := false }
def TopSystemsDecidedSaid : Prop := topSystemsDecidedRow.holds Try.pinned (OpenSpec.ofChange topSystemsDecidedSpec)

/-- ITS FALSE NEIGHBOUR: 'it returns false'. Refute it at one input. -/
def topSystemsDecidedWrong : ChangeSpec := { name := "topSystemsDecided", fn := fun _ => fun
  | [d1, d2, d3] => { results := [.lit (.bool false)], args := [d1, d2, d3] }
  | _ => none }
def TopSystemsDecidedWrongFalsely : Prop := topSystemsDecidedRow.holds Try.pinned (OpenSpec.ofChange topSystemsDecidedWrong)

/-- 'roundtablelaw05.MatrixSpans': WHATEVER THE INPUT: true; the input reads as it did. -/
def matrixSpansSpec : ChangeSpec := { name := "matrixSpans", fn := fun _ => fun
  | [d1, d2] => { results := [.lit (.bool true)], args := [d1, d2] }
  | _ => none }
def matrixSpansRow : OpenClaim := { program := "ytijmjliijjkcbaa", sum := "d6201a1184070074ac2b0ebe6b842fd21cdd794c9bca9a1d908e06a1a389ea80", func := "roundtable/roundtablelaw05.MatrixSpans", spec := "matrixSpans", unfollowed := true, recurses := true, apart := false }
def MatrixSpansSaid : Prop := matrixSpansRow.holds Try.pinned (OpenSpec.ofChange matrixSpansSpec)

/-- ITS FALSE NEIGHBOUR: 'it returns false'. Refute it at one input. -/
def matrixSpansWrong : ChangeSpec := { name := "matrixSpans", fn := fun _ => fun
  | [d1, d2] => { results := [.lit (.bool false)], args := [d1, d2] }
  | _ => none }
def MatrixSpansWrongFalsely : Prop := matrixSpansRow.holds Try.pinned (OpenSpec.ofChange matrixSpansWrong)

/-- 'roundtablelaw05.MatrixMakes': WHATEVER THE INPUT: true; the input reads as it did. -/
def matrixMakesSpec : ChangeSpec := { name := "matrixMakes", fn := fun _ => fun
  | [d1, d2] => { results := [.lit (.bool true)], args := [d1, d2] }
  | _ => none }
def matrixMakesRow : OpenClaim := { program := "ytijmjliijjkcbaa", sum := "d6201a1184070074ac2b0ebe6b842fd21cdd794c9bca9a1d908e06a1a389ea80", func := "roundtable/roundtablelaw05.MatrixMakes", spec := "matrixMakes", unfollowed := true, recurses := true, apart := false }
def MatrixMakesSaid : Prop := matrixMakesRow.holds Try.pinned (OpenSpec.ofChange matrixMakesSpec)

/-- ITS FALSE NEIGHBOUR: 'it returns false'. Refute it at one input. -/
def matrixMakesWrong : ChangeSpec := { name := "matrixMakes", fn := fun _ => fun
  | [d1, d2] => { results := [.lit (.bool false)], args := [d1, d2] }
  | _ => none }
def MatrixMakesWrongFalsely : Prop := matrixMakesRow.holds Try.pinned (OpenSpec.ofChange matrixMakesWrong)

/-- 'roundtablelaw05.MatrixRanks': WHATEVER THE INPUT: true; the input reads as it did. -/
def matrixRanksSpec : ChangeSpec := { name := "matrixRanks", fn := fun _ => fun
  | [d] => { results := [.lit (.bool true)], args := [d] }
  | _ => none }
def matrixRanksRow : OpenClaim := { program := "ytijmjliijjkcbaa", sum := "d6201a1184070074ac2b0ebe6b842fd21cdd794c9bca9a1d908e06a1a389ea80", func := "roundtable/roundtablelaw05.MatrixRanks", spec := "matrixRanks", unfollowed := true, recurses := true, apart := false }
def MatrixRanksSaid : Prop := matrixRanksRow.holds Try.pinned (OpenSpec.ofChange matrixRanksSpec)

/-- ITS FALSE NEIGHBOUR: 'it returns false'. Refute it at one input. -/
def matrixRanksWrong : ChangeSpec := { name := "matrixRanks", fn := fun _ => fun
  | [d] => { results := [.lit (.bool false)], args := [d] }
  | _ => none }
def MatrixRanksWrongFalsely : Prop := matrixRanksRow.holds Try.pinned (OpenSpec.ofChange matrixRanksWrong)

/-- 'roundtablelaw05.MatrixDecides': WHATEVER THE INPUT: true; the input reads as it did. -/
def matrixDecidesSpec : ChangeSpec := { name := "matrixDecides", fn := fun _ => fun
  | [d1, d2, d3] => { results := [.lit (.bool true)], args := [d1, d2, d3] }
  | _ => none }
def matrixDecidesRow : OpenClaim := { program := "ytijmjliijjkcbaa", sum := "d6201a1184070074ac2b0ebe6b842fd21cdd794c9bca9a1d908e06a1a389ea80", func := "roundtable/roundtablelaw05.MatrixDecides", spec := "matrixDecides", unfollowed := true, recurses := true, apart := false }
def MatrixDecidesSaid : Prop := matrixDecidesRow.holds Try.pinned (OpenSpec.ofChange matrixDecidesSpec)

/-- ITS FALSE NEIGHBOUR: 'it returns false'. Refute it at one input. -/
def matrixDecidesWrong : ChangeSpec := { name := "matrixDecides", fn := fun _ => fun
  | [d1, d2, d3] => { results := [.lit (.bool false)], args := [d1, d2, d3] }
  | _ => none }
def MatrixDecidesWrongFalsely : Prop := matrixDecidesRow.holds Try.pinned (OpenSpec.ofChange matrixDecidesWrong)

/-- 'roundtablelaw05.MatrixCombines': WHATEVER THE INPUT: true; the input reads as it did. -/
def matrixCombinesSpec : ChangeSpec := { name := "matrixCombines", fn := fun _ => fun
  | [d1, d2] => { results := [.lit (.bool true)], args := [d1, d2] }
  | _ => none }
def matrixCombinesRow : OpenClaim := { program := "ytijmjliijjkcbaa", sum := "d6201a1184070074ac2b0ebe6b842fd21cdd794c9bca9a1d908e06a1a389ea80", func := "roundtable/roundtablelaw05.MatrixCombines", spec := "matrixCombines", unfollowed := true, recurses := true, apart := false }
def MatrixCombinesSaid : Prop := matrixCombinesRow.holds Try.pinned (OpenSpec.ofChange matrixCombinesSpec)

/-- ITS FALSE NEIGHBOUR: 'it returns false'. Refute it at one input. -/
def matrixCombinesWrong : ChangeSpec := { name := "matrixCombines", fn := fun _ => fun
  | [d1, d2] => { results := [.lit (.bool false)], args := [d1, d2] }
  | _ => none }
def MatrixCombinesWrongFalsely : Prop := matrixCombinesRow.holds Try.pinned (OpenSpec.ofChange matrixCombinesWrong)

/-- 'roundtablelaw05.MatrixRing': WHATEVER THE INPUT: true; the input reads as it did. -/
def matrixRingSpec : ChangeSpec := { name := "matrixRing", fn := fun _ => fun
  | [d1, d2, d3] => { results := [.lit (.bool true)], args := [d1, d2, d3] }
  | _ => none }
def matrixRingRow : OpenClaim := { program := "ytijmjliijjkcbaa", sum := "d6201a1184070074ac2b0ebe6b842fd21cdd794c9bca9a1d908e06a1a389ea80", func := "roundtable/roundtablelaw05.MatrixRing", spec := "matrixRing", unfollowed := true, recurses := true, apart := false }
def MatrixRingSaid : Prop := matrixRingRow.holds Try.pinned (OpenSpec.ofChange matrixRingSpec)

/-- ITS FALSE NEIGHBOUR: 'it returns false'. Refute it at one input. -/
def matrixRingWrong : ChangeSpec := { name := "matrixRing", fn := fun _ => fun
  | [d1, d2, d3] => { results := [.lit (.bool false)], args := [d1, d2, d3] }
  | _ => none }
def MatrixRingWrongFalsely : Prop := matrixRingRow.holds Try.pinned (OpenSpec.ofChange matrixRingWrong)

/-- 'roundtabletop.TopKernelsSpan': WHATEVER THE INPUT: true; the input reads as it did. -/
def topKernelsSpanSpec : ChangeSpec := { name := "topKernelsSpan", fn := fun _ => fun
  | [d1, d2] => { results := [.lit (.bool true)], args := [d1, d2] }
  | _ => none }
def topKernelsSpanRow : OpenClaim := { program := "ytijmjliijjkcbaa", sum := "d6201a1184070074ac2b0ebe6b842fd21cdd794c9bca9a1d908e06a1a389ea80", func := "roundtable/roundtabletop.TopKernelsSpan", spec := "topKernelsSpan", unfollowed := true, recurses := true, apart := false }
def TopKernelsSpanSaid : Prop := topKernelsSpanRow.holds Try.pinned (OpenSpec.ofChange topKernelsSpanSpec)

/-- ITS FALSE NEIGHBOUR: 'it returns false'. Refute it at one input. -/
def topKernelsSpanWrong : ChangeSpec := { name := "topKernelsSpan", fn := fun _ => fun
  | [d1, d2] => { results := [.lit (.bool false)], args := [d1, d2] }
  | _ => none }
def TopKernelsSpanWrongFalsely : Prop := topKernelsSpanRow.holds Try.pinned (OpenSpec.ofChange topKernelsSpanWrong)

/- THE SECOND FORM. 'bulk': how many values and letters a reading holds, each counted each time it is reached (what is shared counts as often as it is met; a slice's spare places count too). A statement '..UptoSaid' is the law's where the arguments, and the package variables that the reading takes, are together of bulk at most 1048576: NARROWER than '..Said'. Prove '..Said' where nothing that the law and all that it calls make is longer than what came in: it says more and counts as full. Else prove '..UptoSaid'. A law counts once. -/
mutual
def uptoBulk {H : Type} : DataW H → Nat
  | .lit (.string bytes) => bytes.length + 1
  | .lit _ => 1
  | .nil => 1
  | .ptr d => uptoBulk d + 1
  | .slice elems spare => uptoBulkAll elems + uptoBulkAll spare + 1
  | .agg parts => uptoBulkAll parts + 1
  | .iface _ d => uptoBulk d + 1
  | .map entries => uptoBulkEntries entries + 1
  | .held _ => 1
def uptoBulkAll {H : Type} : List (DataW H) → Nat
  | [] => 0
  | d :: r => uptoBulk d + uptoBulkAll r
def uptoBulkEntries {H : Type} : List (Lit × DataW H) → Nat
  | [] => 0
  | x :: r => uptoBulkEntry x + uptoBulkEntries r
def uptoBulkEntry {H : Type} : Lit × DataW H → Nat
  | (.string bytes, d) => bytes.length + uptoBulk d + 1
  | (_, d) => uptoBulk d + 1
 end
def uptoSmall : (H : Type) → List (DataW H) → Bool := fun _ ds => decide (uptoBulkAll ds ≤ 1048576)
def OpenSpec.upto (s : _root_.Go.ChangeSpec) : _root_.Go.OpenSpec := { _root_.Go.OpenSpec.ofChange s with cond := some uptoSmall }

/-- 'roundtablelaw05.MatrixReduces', WHERE WHAT IT READS IS OF BULK AT MOST 1048576: true; the input reads as it did. -/
def matrixReducesUptoRow : OpenClaim := { program := "ytijmjliijjkcbaa", sum := "d6201a1184070074ac2b0ebe6b842fd21cdd794c9bca9a1d908e06a1a389ea80", func := "roundtable/roundtablelaw05.MatrixReduces", spec := "matrixReduces", unfollowed := true, recurses := true, apart := false, narrowed := true }
def MatrixReducesUptoSaid : Prop := matrixReducesUptoRow.holds Try.pinned (OpenSpec.upto matrixReducesSpec)

/-- 'roundtablelaw05.MatrixSolves', WHERE WHAT IT READS IS OF BULK AT MOST 1048576: true; the input reads as it did. -/
def matrixSolvesUptoRow : OpenClaim := { program := "ytijmjliijjkcbaa", sum := "d6201a1184070074ac2b0ebe6b842fd21cdd794c9bca9a1d908e06a1a389ea80", func := "roundtable/roundtablelaw05.MatrixSolves", spec := "matrixSolves", unfollowed := true, recurses := true, apart := false, narrowed := true }
def MatrixSolvesUptoSaid : Prop := matrixSolvesUptoRow.holds Try.pinned (OpenSpec.upto matrixSolvesSpec)

/-- 'roundtablelaw05.MatrixVerifies', WHERE WHAT IT READS IS OF BULK AT MOST 1048576: true; the input reads as it did. -/
def matrixVerifiesUptoRow : OpenClaim := { program := "ytijmjliijjkcbaa", sum := "d6201a1184070074ac2b0ebe6b842fd21cdd794c9bca9a1d908e06a1a389ea80", func := "roundtable/roundtablelaw05.MatrixVerifies", spec := "matrixVerifies", unfollowed := true, recurses := true, apart := false, narrowed := true }
def MatrixVerifiesUptoSaid : Prop := matrixVerifiesUptoRow.holds Try.pinned (OpenSpec.upto matrixVerifiesSpec)

/-- 'roundtabletop.TopSystemsDecided', WHERE WHAT IT READS IS OF BULK AT MOST 1048576: true; the input reads as it did. -/
def topSystemsDecidedUptoRow : OpenClaim := { program := "ytijmjliijjkcbaa", sum := "d6201a1184070074ac2b0ebe6b842fd21cdd794c9bca9a1d908e06a1a389ea80", func := "roundtable/roundtabletop.TopSystemsDecided", spec := "topSystemsDecided", unfollowed := true, recurses := true, apart := false, narrowed := true }
def TopSystemsDecidedUptoSaid : Prop := topSystemsDecidedUptoRow.holds Try.pinned (OpenSpec.upto topSystemsDecidedSpec)

/-- 'roundtablelaw05.MatrixSpans', WHERE WHAT IT READS IS OF BULK AT MOST 1048576: true; the input reads as it did. -/
def matrixSpansUptoRow : OpenClaim := { program := "ytijmjliijjkcbaa", sum := "d6201a1184070074ac2b0ebe6b842fd21cdd794c9bca9a1d908e06a1a389ea80", func := "roundtable/roundtablelaw05.MatrixSpans", spec := "matrixSpans", unfollowed := true, recurses := true, apart := false, narrowed := true }
def MatrixSpansUptoSaid : Prop := matrixSpansUptoRow.holds Try.pinned (OpenSpec.upto matrixSpansSpec)

/-- 'roundtablelaw05.MatrixMakes', WHERE WHAT IT READS IS OF BULK AT MOST 1048576: true; the input reads as it did. -/
def matrixMakesUptoRow : OpenClaim := { program := "ytijmjliijjkcbaa", sum := "d6201a1184070074ac2b0ebe6b842fd21cdd794c9bca9a1d908e06a1a389ea80", func := "roundtable/roundtablelaw05.MatrixMakes", spec := "matrixMakes", unfollowed := true, recurses := true, apart := false, narrowed := true }
def MatrixMakesUptoSaid : Prop := matrixMakesUptoRow.holds Try.pinned (OpenSpec.upto matrixMakesSpec)

/-- 'roundtablelaw05.MatrixRanks', WHERE WHAT IT READS IS OF BULK AT MOST 1048576: true; the input reads as it did. -/
def matrixRanksUptoRow : OpenClaim := { program := "ytijmjliijjkcbaa", sum := "d6201a1184070074ac2b0ebe6b842fd21cdd794c9bca9a1d908e06a1a389ea80", func := "roundtable/roundtablelaw05.MatrixRanks", spec := "matrixRanks", unfollowed := true, recurses := true, apart := false, narrowed := true }
def MatrixRanksUptoSaid : Prop := matrixRanksUptoRow.holds Try.pinned (OpenSpec.upto matrixRanksSpec)

/-- 'roundtablelaw05.MatrixDecides', WHERE WHAT IT READS IS OF BULK AT MOST 1048576: true; the input reads as it did. -/
def matrixDecidesUptoRow : OpenClaim := { program := "ytijmjliijjkcbaa", sum := "d6201a1184070074ac2b0ebe6b842fd21cdd794c9bca9a1d908e06a1a389ea80", func := "roundtable/roundtablelaw05.MatrixDecides", spec := "matrixDecides", unfollowed := true, recurses := true, apart := false, narrowed := true }
def MatrixDecidesUptoSaid : Prop := matrixDecidesUptoRow.holds Try.pinned (OpenSpec.upto matrixDecidesSpec)

/-- 'roundtablelaw05.MatrixCombines', WHERE WHAT IT READS IS OF BULK AT MOST 1048576: true; the input reads as it did. -/
def matrixCombinesUptoRow : OpenClaim := { program := "ytijmjliijjkcbaa", sum := "d6201a1184070074ac2b0ebe6b842fd21cdd794c9bca9a1d908e06a1a389ea80", func := "roundtable/roundtablelaw05.MatrixCombines", spec := "matrixCombines", unfollowed := true, recurses := true, apart := false, narrowed := true }
def MatrixCombinesUptoSaid : Prop := matrixCombinesUptoRow.holds Try.pinned (OpenSpec.upto matrixCombinesSpec)

/-- 'roundtablelaw05.MatrixRing', WHERE WHAT IT READS IS OF BULK AT MOST 1048576: true; the input reads as it did. -/
def matrixRingUptoRow : OpenClaim := { program := "ytijmjliijjkcbaa", sum := "d6201a1184070074ac2b0ebe6b842fd21cdd794c9bca9a1d908e06a1a389ea80", func := "roundtable/roundtablelaw05.MatrixRing", spec := "matrixRing", unfollowed := true, recurses := true, apart := false, narrowed := true }
def MatrixRingUptoSaid : Prop := matrixRingUptoRow.holds Try.pinned (OpenSpec.upto matrixRingSpec)

/-- 'roundtabletop.TopKernelsSpan', WHERE WHAT IT READS IS OF BULK AT MOST 1048576: true; the input reads as it did. -/
def topKernelsSpanUptoRow : OpenClaim := { program := "ytijmjliijjkcbaa", sum := "d6201a1184070074ac2b0ebe6b842fd21cdd794c9bca9a1d908e06a1a389ea80", func := "roundtable/roundtabletop.TopKernelsSpan", spec := "topKernelsSpan", unfollowed := true, recurses := true, apart := false, narrowed := true }
def TopKernelsSpanUptoSaid : Prop := topKernelsSpanUptoRow.holds Try.pinned (OpenSpec.upto topKernelsSpanSpec)

end Rows
end Go.Proofs.Ytijmjliijjkcbaa
