/-
  No cell of these rows narrows 'for every input' (looked for: loops, veiled, ifaces, maps, wideKeys, modest, calm, conditions, laid).
  DERIVED. THE GIVEN ROWS OF THIS SEAT. 8 by the template 'for every input the law returns true; each argument reads behind the call as it read before'; 0 by the template 'total and deterministic' (their statements: YtifcgcdbebgahaaTotals.lean).
  GIVEN WITH THE SEED: the statements are not yours to turn. If you find one false, say at which input.
  Laid BY PROGRAM, IN A SANDBOX (cutbox-rows.mjs): the forced cells as the released guide's own fill.sh prints them over the translation bcba149b742ebc52… (all of the seat's roots in one cut). By AI agents, Wed Nov 11 2026. No macro, syntax, notation, axiom, sorry.
-/
import Derived.Test.YtifcgcdbebgahaaChecked
import GoSem.Claim
import GoSem.ClaimJoined
import GoSem.ClaimMapViews
import Derived.JoinedTies
import Derived.KernelRfl
namespace Go.Proofs.Ytifcgcdbebgahaa
/- THE CELL 'sum', in the pinned program and in every row, IS THE sha256 OF THE DUMP (.gsa) THAT YtifcgcdbebgahaaProg.lean LOADS. Nothing in Lean hashes anything: it is a label: what it is worth is what the hold of that sum in a sandbox is worth. -/
noncomputable def Try.pinned : Pinned := { name := "ytifcgcdbebgahaa", sum := "bcba149b742ebc5268502b46ef6a7dbf894112458620906f22065c47aff34485", checked := Try.checked }
namespace Rows
def none {H : Type} : Left H := { results := [], args := [] }

/-- 'roundtablelaw41.ClausesEvaluates': WHATEVER THE INPUT: true; the input reads as it did. -/
def clausesEvaluatesSpec : ChangeSpec := { name := "clausesEvaluates", fn := fun _ => fun
  | [d1, d2, d3] => { results := [.lit (.bool true)], args := [d1, d2, d3] }
  | _ => none }
def clausesEvaluatesRow : OpenClaim := { program := "ytifcgcdbebgahaa", sum := "bcba149b742ebc5268502b46ef6a7dbf894112458620906f22065c47aff34485", func := "roundtable/roundtablelaw41.ClausesEvaluates", spec := "clausesEvaluates", unfollowed := true, recurses := true, apart := false }
def ClausesEvaluatesSaid : Prop := clausesEvaluatesRow.holds Try.pinned (OpenSpec.ofChange clausesEvaluatesSpec)

/-- ITS FALSE NEIGHBOUR: 'it returns false'. Refute it at one input. -/
def clausesEvaluatesWrong : ChangeSpec := { name := "clausesEvaluates", fn := fun _ => fun
  | [d1, d2, d3] => { results := [.lit (.bool false)], args := [d1, d2, d3] }
  | _ => none }
def ClausesEvaluatesWrongFalsely : Prop := clausesEvaluatesRow.holds Try.pinned (OpenSpec.ofChange clausesEvaluatesWrong)

/-- 'roundtablelaw41.ClausesPropagates': WHATEVER THE INPUT: true; the input reads as it did. -/
def clausesPropagatesSpec : ChangeSpec := { name := "clausesPropagates", fn := fun _ => fun
  | [d1, d2] => { results := [.lit (.bool true)], args := [d1, d2] }
  | _ => none }
def clausesPropagatesRow : OpenClaim := { program := "ytifcgcdbebgahaa", sum := "bcba149b742ebc5268502b46ef6a7dbf894112458620906f22065c47aff34485", func := "roundtable/roundtablelaw41.ClausesPropagates", spec := "clausesPropagates", unfollowed := true, recurses := true, apart := false }
def ClausesPropagatesSaid : Prop := clausesPropagatesRow.holds Try.pinned (OpenSpec.ofChange clausesPropagatesSpec)

/-- ITS FALSE NEIGHBOUR: 'it returns false'. Refute it at one input. -/
def clausesPropagatesWrong : ChangeSpec := { name := "clausesPropagates", fn := fun _ => fun
  | [d1, d2] => { results := [.lit (.bool false)], args := [d1, d2] }
  | _ => none }
def ClausesPropagatesWrongFalsely : Prop := clausesPropagatesRow.holds Try.pinned (OpenSpec.ofChange clausesPropagatesWrong)

/-- 'roundtablelaw41.ClausesAgrees': WHATEVER THE INPUT: true; the input reads as it did. -/
def clausesAgreesSpec : ChangeSpec := { name := "clausesAgrees", fn := fun _ => fun
  | [d1, d2, d3] => { results := [.lit (.bool true)], args := [d1, d2, d3] }
  | _ => none }
def clausesAgreesRow : OpenClaim := { program := "ytifcgcdbebgahaa", sum := "bcba149b742ebc5268502b46ef6a7dbf894112458620906f22065c47aff34485", func := "roundtable/roundtablelaw41.ClausesAgrees", spec := "clausesAgrees", unfollowed := true, recurses := true, apart := false }
def ClausesAgreesSaid : Prop := clausesAgreesRow.holds Try.pinned (OpenSpec.ofChange clausesAgreesSpec)

/-- ITS FALSE NEIGHBOUR: 'it returns false'. Refute it at one input. -/
def clausesAgreesWrong : ChangeSpec := { name := "clausesAgrees", fn := fun _ => fun
  | [d1, d2, d3] => { results := [.lit (.bool false)], args := [d1, d2, d3] }
  | _ => none }
def ClausesAgreesWrongFalsely : Prop := clausesAgreesRow.holds Try.pinned (OpenSpec.ofChange clausesAgreesWrong)

/-- 'roundtablelaw41.ClausesReasons': WHATEVER THE INPUT: true; the input reads as it did. -/
def clausesReasonsSpec : ChangeSpec := { name := "clausesReasons", fn := fun _ => fun
  | [d1, d2] => { results := [.lit (.bool true)], args := [d1, d2] }
  | _ => none }
def clausesReasonsRow : OpenClaim := { program := "ytifcgcdbebgahaa", sum := "bcba149b742ebc5268502b46ef6a7dbf894112458620906f22065c47aff34485", func := "roundtable/roundtablelaw41.ClausesReasons", spec := "clausesReasons", unfollowed := true, recurses := true, apart := false }
def ClausesReasonsSaid : Prop := clausesReasonsRow.holds Try.pinned (OpenSpec.ofChange clausesReasonsSpec)

/-- ITS FALSE NEIGHBOUR: 'it returns false'. Refute it at one input. -/
def clausesReasonsWrong : ChangeSpec := { name := "clausesReasons", fn := fun _ => fun
  | [d1, d2] => { results := [.lit (.bool false)], args := [d1, d2] }
  | _ => none }
def ClausesReasonsWrongFalsely : Prop := clausesReasonsRow.holds Try.pinned (OpenSpec.ofChange clausesReasonsWrong)

/-- 'roundtablelaw41.ClausesResolves': WHATEVER THE INPUT: true; the input reads as it did. -/
def clausesResolvesSpec : ChangeSpec := { name := "clausesResolves", fn := fun _ => fun
  | [d1, d2, d3] => { results := [.lit (.bool true)], args := [d1, d2, d3] }
  | _ => none }
def clausesResolvesRow : OpenClaim := { program := "ytifcgcdbebgahaa", sum := "bcba149b742ebc5268502b46ef6a7dbf894112458620906f22065c47aff34485", func := "roundtable/roundtablelaw41.ClausesResolves", spec := "clausesResolves", unfollowed := true, recurses := true, apart := false }
def ClausesResolvesSaid : Prop := clausesResolvesRow.holds Try.pinned (OpenSpec.ofChange clausesResolvesSpec)

/-- ITS FALSE NEIGHBOUR: 'it returns false'. Refute it at one input. -/
def clausesResolvesWrong : ChangeSpec := { name := "clausesResolves", fn := fun _ => fun
  | [d1, d2, d3] => { results := [.lit (.bool false)], args := [d1, d2, d3] }
  | _ => none }
def ClausesResolvesWrongFalsely : Prop := clausesResolvesRow.holds Try.pinned (OpenSpec.ofChange clausesResolvesWrong)

/-- 'roundtablelaw41.ClausesCuts': WHATEVER THE INPUT: true; the input reads as it did. -/
def clausesCutsSpec : ChangeSpec := { name := "clausesCuts", fn := fun _ => fun
  | [d1, d2, d3] => { results := [.lit (.bool true)], args := [d1, d2, d3] }
  | _ => none }
def clausesCutsRow : OpenClaim := { program := "ytifcgcdbebgahaa", sum := "bcba149b742ebc5268502b46ef6a7dbf894112458620906f22065c47aff34485", func := "roundtable/roundtablelaw41.ClausesCuts", spec := "clausesCuts", unfollowed := true, recurses := true, apart := false }
def ClausesCutsSaid : Prop := clausesCutsRow.holds Try.pinned (OpenSpec.ofChange clausesCutsSpec)

/-- ITS FALSE NEIGHBOUR: 'it returns false'. Refute it at one input. -/
def clausesCutsWrong : ChangeSpec := { name := "clausesCuts", fn := fun _ => fun
  | [d1, d2, d3] => { results := [.lit (.bool false)], args := [d1, d2, d3] }
  | _ => none }
def ClausesCutsWrongFalsely : Prop := clausesCutsRow.holds Try.pinned (OpenSpec.ofChange clausesCutsWrong)

/-- 'roundtablelaw41.ClausesMakes': WHATEVER THE INPUT: true; the input reads as it did. -/
def clausesMakesSpec : ChangeSpec := { name := "clausesMakes", fn := fun _ => fun
  | [d] => { results := [.lit (.bool true)], args := [d] }
  | _ => none }
def clausesMakesRow : OpenClaim := { program := "ytifcgcdbebgahaa", sum := "bcba149b742ebc5268502b46ef6a7dbf894112458620906f22065c47aff34485", func := "roundtable/roundtablelaw41.ClausesMakes", spec := "clausesMakes", unfollowed := true, recurses := true, apart := false }
def ClausesMakesSaid : Prop := clausesMakesRow.holds Try.pinned (OpenSpec.ofChange clausesMakesSpec)

/-- ITS FALSE NEIGHBOUR: 'it returns false'. Refute it at one input. -/
def clausesMakesWrong : ChangeSpec := { name := "clausesMakes", fn := fun _ => fun
  | [d] => { results := [.lit (.bool false)], args := [d] }
  | _ => none }
def ClausesMakesWrongFalsely : Prop := clausesMakesRow.holds Try.pinned (OpenSpec.ofChange clausesMakesWrong)

/-- 'roundtablelaw41.ClausesKeeps': WHATEVER THE INPUT: true; the input reads as it did. -/
def clausesKeepsSpec : ChangeSpec := { name := "clausesKeeps", fn := fun _ => fun
  | [d1, d2] => { results := [.lit (.bool true)], args := [d1, d2] }
  | _ => none }
def clausesKeepsRow : OpenClaim := { program := "ytifcgcdbebgahaa", sum := "bcba149b742ebc5268502b46ef6a7dbf894112458620906f22065c47aff34485", func := "roundtable/roundtablelaw41.ClausesKeeps", spec := "clausesKeeps", unfollowed := true, recurses := true, apart := false }
def ClausesKeepsSaid : Prop := clausesKeepsRow.holds Try.pinned (OpenSpec.ofChange clausesKeepsSpec)

/-- ITS FALSE NEIGHBOUR: 'it returns false'. Refute it at one input. -/
def clausesKeepsWrong : ChangeSpec := { name := "clausesKeeps", fn := fun _ => fun
  | [d1, d2] => { results := [.lit (.bool false)], args := [d1, d2] }
  | _ => none }
def ClausesKeepsWrongFalsely : Prop := clausesKeepsRow.holds Try.pinned (OpenSpec.ofChange clausesKeepsWrong)

/- THE SECOND FORM. 'bulk': how many values and letters a reading holds, each counted each time it is reached (what is shared counts as often as it is met; a slice's spare places count too). A statement '..UptoSaid' is the law's where the arguments, and the package variables that the reading takes, are together of bulk at most 1048576: NARROWER than '..Said'. Prove '..Said' where nothing that the law and all that it calls make is longer than what came in: it says more and counts as full. Else prove '..UptoSaid'. A law counts once. -/
mutual
def uptoBulk {H : Type} : DataW H → Nat
  | .lit (.string bytes) => bytes.length + 1
  | .lit _ => 1
  | .nil => 1
  | .ptr d => uptoBulk d + 1
  | .slice elems spare => uptoBulkAll elems + uptoBulkAll spare + 1
  | .agg parts => uptoBulkAll parts + 1
  | .iface _ d => uptoBulk d + 1
  | .map entries => uptoBulkEntries entries + 1
  | .held _ => 1
def uptoBulkAll {H : Type} : List (DataW H) → Nat
  | [] => 0
  | d :: r => uptoBulk d + uptoBulkAll r
def uptoBulkEntries {H : Type} : List (Lit × DataW H) → Nat
  | [] => 0
  | x :: r => uptoBulkEntry x + uptoBulkEntries r
def uptoBulkEntry {H : Type} : Lit × DataW H → Nat
  | (.string bytes, d) => bytes.length + uptoBulk d + 1
  | (_, d) => uptoBulk d + 1
 end
def uptoSmall : (H : Type) → List (DataW H) → Bool := fun _ ds => decide (uptoBulkAll ds ≤ 1048576)
def OpenSpec.upto (s : _root_.Go.ChangeSpec) : _root_.Go.OpenSpec := { _root_.Go.OpenSpec.ofChange s with cond := some uptoSmall }

/-- 'roundtablelaw41.ClausesEvaluates', WHERE WHAT IT READS IS OF BULK AT MOST 1048576: true; the input reads as it did. -/
def clausesEvaluatesUptoRow : OpenClaim := { program := "ytifcgcdbebgahaa", sum := "bcba149b742ebc5268502b46ef6a7dbf894112458620906f22065c47aff34485", func := "roundtable/roundtablelaw41.ClausesEvaluates", spec := "clausesEvaluates", unfollowed := true, recurses := true, apart := false, narrowed := true }
def ClausesEvaluatesUptoSaid : Prop := clausesEvaluatesUptoRow.holds Try.pinned (OpenSpec.upto clausesEvaluatesSpec)

/-- 'roundtablelaw41.ClausesPropagates', WHERE WHAT IT READS IS OF BULK AT MOST 1048576: true; the input reads as it did. -/
def clausesPropagatesUptoRow : OpenClaim := { program := "ytifcgcdbebgahaa", sum := "bcba149b742ebc5268502b46ef6a7dbf894112458620906f22065c47aff34485", func := "roundtable/roundtablelaw41.ClausesPropagates", spec := "clausesPropagates", unfollowed := true, recurses := true, apart := false, narrowed := true }
def ClausesPropagatesUptoSaid : Prop := clausesPropagatesUptoRow.holds Try.pinned (OpenSpec.upto clausesPropagatesSpec)

/-- 'roundtablelaw41.ClausesAgrees', WHERE WHAT IT READS IS OF BULK AT MOST 1048576: true; the input reads as it did. -/
def clausesAgreesUptoRow : OpenClaim := { program := "ytifcgcdbebgahaa", sum := "bcba149b742ebc5268502b46ef6a7dbf894112458620906f22065c47aff34485", func := "roundtable/roundtablelaw41.ClausesAgrees", spec := "clausesAgrees", unfollowed := true, recurses := true, apart := false, narrowed := true }
def ClausesAgreesUptoSaid : Prop := clausesAgreesUptoRow.holds Try.pinned (OpenSpec.upto clausesAgreesSpec)

/-- 'roundtablelaw41.ClausesReasons', WHERE WHAT IT READS IS OF BULK AT MOST 1048576: true; the input reads as it did. -/
def clausesReasonsUptoRow : OpenClaim := { program := "ytifcgcdbebgahaa", sum := "bcba149b742ebc5268502b46ef6a7dbf894112458620906f22065c47aff34485", func := "roundtable/roundtablelaw41.ClausesReasons", spec := "clausesReasons", unfollowed := true, recurses := true, apart := false, narrowed := true }
def ClausesReasonsUptoSaid : Prop := clausesReasonsUptoRow.holds Try.pinned (OpenSpec.upto clausesReasonsSpec)

/-- 'roundtablelaw41.ClausesResolves', WHERE WHAT IT READS IS OF BULK AT MOST 1048576: true; the input reads as it did. -/
def clausesResolvesUptoRow : OpenClaim := { program := "ytifcgcdbebgahaa", sum := "bcba149b742ebc5268502b46ef6a7dbf894112458620906f22065c47aff34485", func := "roundtable/roundtablelaw41.ClausesResolves", spec := "clausesResolves", unfollowed := true, recurses := true, apart := false, narrowed := true }
def ClausesResolvesUptoSaid : Prop := clausesResolvesUptoRow.holds Try.pinned (OpenSpec.upto clausesResolvesSpec)

/-- 'roundtablelaw41.ClausesCuts', WHERE WHAT IT READS IS OF BULK AT MOST 1048576: true; the input reads as it did. -/
def clausesCutsUptoRow : OpenClaim := { program := "ytifcgcdbebgahaa", sum := "bcba149b742ebc5268502b46ef6a7dbf894112458620906f22065c47aff34485", func := "roundtable/roundtablelaw41.ClausesCuts", spec := "clausesCuts", unfollowed := true, recurses := true, apart := false, narrowed := true }
def ClausesCutsUptoSaid : Prop := clausesCutsUptoRow.holds Try.pinned (OpenSpec.upto clausesCutsSpec)

/-- 'roundtablelaw41.ClausesMakes', WHERE WHAT IT READS IS OF BULK AT MOST 1048576: true; the input reads as it did. -/
def clausesMakesUptoRow : OpenClaim := { program := "ytifcgcdbebgahaa", sum := "bcba149b742ebc5268502b46ef6a7dbf894112458620906f22065c47aff34485", func := "roundtable/roundtablelaw41.ClausesMakes", spec := "clausesMakes", unfollowed := true, recurses := true, apart := false, narrowed := true }
def ClausesMakesUptoSaid : Prop := clausesMakesUptoRow.holds Try.pinned (OpenSpec.upto clausesMakesSpec)

/-- 'roundtablelaw41.ClausesKeeps', WHERE WHAT IT READS IS OF BULK AT MOST 1048576: true; the input reads as it did. -/
def clausesKeepsUptoRow : OpenClaim := { program := "ytifcgcdbebgahaa", sum := "bcba149b742ebc5268502b46ef6a7dbf894112458620906f22065c47aff34485", func := "roundtable/roundtablelaw41.ClausesKeeps", spec := "clausesKeeps", unfollowed := true, recurses := true, apart := false, narrowed := true }
def ClausesKeepsUptoSaid : Prop := clausesKeepsUptoRow.holds Try.pinned (OpenSpec.upto clausesKeepsSpec)

end Rows
end Go.Proofs.Ytifcgcdbebgahaa
