/-
  No cell of these rows narrows 'for every input' (looked for: loops, veiled, ifaces, maps, wideKeys, modest, calm, conditions, laid).
  DERIVED. THE GIVEN ROWS OF THIS SEAT. 8 by the template 'for every input the law returns true; each argument reads behind the call as it read before'; 0 by the template 'total and deterministic' (their statements: YtcopehiceihdaaaGreatTotals.lean).
  GIVEN WITH THE SEED: the statements are not yours to turn. If you find one false, say at which input.
  Laid BY PROGRAM, IN A SANDBOX (cutbox-rows.mjs): the forced cells as the released guide's own fill.sh prints them over the translation 9a520f88e9ee6a1f… (all of the seat's roots in one cut). By AI agents, Wed Nov 11 2026. No macro, syntax, notation, axiom, sorry.
-/
import Derived.Test.YtcopehiceihdaaaGreatChecked
import GoSem.Claim
import GoSem.ClaimJoined
import GoSem.ClaimMapViews
import Derived.JoinedTies
import Derived.KernelRfl
namespace Go.Proofs.YtcopehiceihdaaaGreat
/- THE CELL 'sum', in the pinned program and in every row, IS THE sha256 OF THE DUMP (.gsa) THAT YtcopehiceihdaaaGreatProg.lean LOADS. Nothing in Lean hashes anything: it is a label: what it is worth is what the hold of that sum in a sandbox is worth. -/
noncomputable def Tryz.pinned : Pinned := { name := "ytcopehiceihdaaagreat", sum := "9a520f88e9ee6a1f8cb528d0db6da0b0fa757154a6db3f097df8cda13a9d45f8", checked := Tryz.checked }
namespace Rows
def none {H : Type} : Left H := { results := [], args := [] }

/-- 'roundtablelaw45.RuleChecks': WHATEVER THE INPUT: true; the input reads as it did. -/
def ruleChecksSpec : ChangeSpec := { name := "ruleChecks", fn := fun _ => fun
  | [d1, d2] => { results := [.lit (.bool true)], args := [d1, d2] }
  | _ => none }
def ruleChecksRow : OpenClaim := { program := "ytcopehiceihdaaagreat", sum := "9a520f88e9ee6a1f8cb528d0db6da0b0fa757154a6db3f097df8cda13a9d45f8", func := "roundtable/roundtablelaw45.RuleChecks", spec := "ruleChecks", unfollowed := true, recurses := true, plainKeys := false, apart := false }
def RuleChecksSaid : Prop := ruleChecksRow.holds Tryz.pinned (OpenSpec.ofChange ruleChecksSpec)

/-- ITS FALSE NEIGHBOUR: 'it returns false'. Refute it at one input. -/
def ruleChecksWrong : ChangeSpec := { name := "ruleChecks", fn := fun _ => fun
  | [d1, d2] => { results := [.lit (.bool false)], args := [d1, d2] }
  | _ => none }
def RuleChecksWrongFalsely : Prop := ruleChecksRow.holds Tryz.pinned (OpenSpec.ofChange ruleChecksWrong)

/-- 'roundtablelaw45.RuleSolves': WHATEVER THE INPUT: true; the input reads as it did. -/
def ruleSolvesSpec : ChangeSpec := { name := "ruleSolves", fn := fun _ => fun
  | [d1, d2] => { results := [.lit (.bool true)], args := [d1, d2] }
  | _ => none }
def ruleSolvesRow : OpenClaim := { program := "ytcopehiceihdaaagreat", sum := "9a520f88e9ee6a1f8cb528d0db6da0b0fa757154a6db3f097df8cda13a9d45f8", func := "roundtable/roundtablelaw45.RuleSolves", spec := "ruleSolves", unfollowed := true, recurses := true, plainKeys := false, apart := false }
def RuleSolvesSaid : Prop := ruleSolvesRow.holds Tryz.pinned (OpenSpec.ofChange ruleSolvesSpec)

/-- ITS FALSE NEIGHBOUR: 'it returns false'. Refute it at one input. -/
def ruleSolvesWrong : ChangeSpec := { name := "ruleSolves", fn := fun _ => fun
  | [d1, d2] => { results := [.lit (.bool false)], args := [d1, d2] }
  | _ => none }
def RuleSolvesWrongFalsely : Prop := ruleSolvesRow.holds Tryz.pinned (OpenSpec.ofChange ruleSolvesWrong)

/-- 'roundtablelaw45.RuleEarly': WHATEVER THE INPUT: true; the input reads as it did. -/
def ruleEarlySpec : ChangeSpec := { name := "ruleEarly", fn := fun _ => fun
  | [d1, d2] => { results := [.lit (.bool true)], args := [d1, d2] }
  | _ => none }
def ruleEarlyRow : OpenClaim := { program := "ytcopehiceihdaaagreat", sum := "9a520f88e9ee6a1f8cb528d0db6da0b0fa757154a6db3f097df8cda13a9d45f8", func := "roundtable/roundtablelaw45.RuleEarly", spec := "ruleEarly", unfollowed := true, recurses := true, plainKeys := false, apart := false }
def RuleEarlySaid : Prop := ruleEarlyRow.holds Tryz.pinned (OpenSpec.ofChange ruleEarlySpec)

/-- ITS FALSE NEIGHBOUR: 'it returns false'. Refute it at one input. -/
def ruleEarlyWrong : ChangeSpec := { name := "ruleEarly", fn := fun _ => fun
  | [d1, d2] => { results := [.lit (.bool false)], args := [d1, d2] }
  | _ => none }
def RuleEarlyWrongFalsely : Prop := ruleEarlyRow.holds Tryz.pinned (OpenSpec.ofChange ruleEarlyWrong)

/-- 'roundtablelaw45.RuleDecides': WHATEVER THE INPUT: true; the input reads as it did. -/
def ruleDecidesSpec : ChangeSpec := { name := "ruleDecides", fn := fun _ => fun
  | [d1, d2, d3] => { results := [.lit (.bool true)], args := [d1, d2, d3] }
  | _ => none }
def ruleDecidesRow : OpenClaim := { program := "ytcopehiceihdaaagreat", sum := "9a520f88e9ee6a1f8cb528d0db6da0b0fa757154a6db3f097df8cda13a9d45f8", func := "roundtable/roundtablelaw45.RuleDecides", spec := "ruleDecides", unfollowed := true, recurses := true, plainKeys := false, apart := false }
def RuleDecidesSaid : Prop := ruleDecidesRow.holds Tryz.pinned (OpenSpec.ofChange ruleDecidesSpec)

/-- ITS FALSE NEIGHBOUR: 'it returns false'. Refute it at one input. -/
def ruleDecidesWrong : ChangeSpec := { name := "ruleDecides", fn := fun _ => fun
  | [d1, d2, d3] => { results := [.lit (.bool false)], args := [d1, d2, d3] }
  | _ => none }
def RuleDecidesWrongFalsely : Prop := ruleDecidesRow.holds Tryz.pinned (OpenSpec.ofChange ruleDecidesWrong)

/-- 'roundtablelaw45.RuleTimes': WHATEVER THE INPUT: true; the input reads as it did. -/
def ruleTimesSpec : ChangeSpec := { name := "ruleTimes", fn := fun _ => fun
  | [d1, d2, d3] => { results := [.lit (.bool true)], args := [d1, d2, d3] }
  | _ => none }
def ruleTimesRow : OpenClaim := { program := "ytcopehiceihdaaagreat", sum := "9a520f88e9ee6a1f8cb528d0db6da0b0fa757154a6db3f097df8cda13a9d45f8", func := "roundtable/roundtablelaw45.RuleTimes", spec := "ruleTimes", unfollowed := true, recurses := true, plainKeys := false, apart := false }
def RuleTimesSaid : Prop := ruleTimesRow.holds Tryz.pinned (OpenSpec.ofChange ruleTimesSpec)

/-- ITS FALSE NEIGHBOUR: 'it returns false'. Refute it at one input. -/
def ruleTimesWrong : ChangeSpec := { name := "ruleTimes", fn := fun _ => fun
  | [d1, d2, d3] => { results := [.lit (.bool false)], args := [d1, d2, d3] }
  | _ => none }
def RuleTimesWrongFalsely : Prop := ruleTimesRow.holds Tryz.pinned (OpenSpec.ofChange ruleTimesWrong)

/-- 'roundtablelaw45.RuleCompares': WHATEVER THE INPUT: true; the input reads as it did. -/
def ruleComparesSpec : ChangeSpec := { name := "ruleCompares", fn := fun _ => fun
  | [d1, d2, d3] => { results := [.lit (.bool true)], args := [d1, d2, d3] }
  | _ => none }
def ruleComparesRow : OpenClaim := { program := "ytcopehiceihdaaagreat", sum := "9a520f88e9ee6a1f8cb528d0db6da0b0fa757154a6db3f097df8cda13a9d45f8", func := "roundtable/roundtablelaw45.RuleCompares", spec := "ruleCompares", unfollowed := true, recurses := true, plainKeys := false, apart := false }
def RuleComparesSaid : Prop := ruleComparesRow.holds Tryz.pinned (OpenSpec.ofChange ruleComparesSpec)

/-- ITS FALSE NEIGHBOUR: 'it returns false'. Refute it at one input. -/
def ruleComparesWrong : ChangeSpec := { name := "ruleCompares", fn := fun _ => fun
  | [d1, d2, d3] => { results := [.lit (.bool false)], args := [d1, d2, d3] }
  | _ => none }
def RuleComparesWrongFalsely : Prop := ruleComparesRow.holds Tryz.pinned (OpenSpec.ofChange ruleComparesWrong)

/-- 'roundtablelaw45.RuleFirst': WHATEVER THE INPUT: true; the input reads as it did. -/
def ruleFirstSpec : ChangeSpec := { name := "ruleFirst", fn := fun _ => fun
  | [d1, d2, d3] => { results := [.lit (.bool true)], args := [d1, d2, d3] }
  | _ => none }
def ruleFirstRow : OpenClaim := { program := "ytcopehiceihdaaagreat", sum := "9a520f88e9ee6a1f8cb528d0db6da0b0fa757154a6db3f097df8cda13a9d45f8", func := "roundtable/roundtablelaw45.RuleFirst", spec := "ruleFirst", unfollowed := true, recurses := true, plainKeys := false, apart := false }
def RuleFirstSaid : Prop := ruleFirstRow.holds Tryz.pinned (OpenSpec.ofChange ruleFirstSpec)

/-- ITS FALSE NEIGHBOUR: 'it returns false'. Refute it at one input. -/
def ruleFirstWrong : ChangeSpec := { name := "ruleFirst", fn := fun _ => fun
  | [d1, d2, d3] => { results := [.lit (.bool false)], args := [d1, d2, d3] }
  | _ => none }
def RuleFirstWrongFalsely : Prop := ruleFirstRow.holds Tryz.pinned (OpenSpec.ofChange ruleFirstWrong)

/-- 'roundtablelaw45.RuleOrders': WHATEVER THE INPUT: true; the input reads as it did. -/
def ruleOrdersSpec : ChangeSpec := { name := "ruleOrders", fn := fun _ => fun
  | [d1, d2] => { results := [.lit (.bool true)], args := [d1, d2] }
  | _ => none }
def ruleOrdersRow : OpenClaim := { program := "ytcopehiceihdaaagreat", sum := "9a520f88e9ee6a1f8cb528d0db6da0b0fa757154a6db3f097df8cda13a9d45f8", func := "roundtable/roundtablelaw45.RuleOrders", spec := "ruleOrders", unfollowed := true, recurses := true, plainKeys := false, apart := false }
def RuleOrdersSaid : Prop := ruleOrdersRow.holds Tryz.pinned (OpenSpec.ofChange ruleOrdersSpec)

/-- ITS FALSE NEIGHBOUR: 'it returns false'. Refute it at one input. -/
def ruleOrdersWrong : ChangeSpec := { name := "ruleOrders", fn := fun _ => fun
  | [d1, d2] => { results := [.lit (.bool false)], args := [d1, d2] }
  | _ => none }
def RuleOrdersWrongFalsely : Prop := ruleOrdersRow.holds Tryz.pinned (OpenSpec.ofChange ruleOrdersWrong)

/- THE SECOND FORM. 'bulk': how many values and letters a reading holds, each counted each time it is reached (what is shared counts as often as it is met; a slice's spare places count too). A statement '..UptoSaid' is the law's where the arguments, and the package variables that the reading takes, are together of bulk at most 1048576: NARROWER than '..Said'. Prove '..Said' where nothing that the law and all that it calls make is longer than what came in: it says more and counts as full. Else prove '..UptoSaid'. A law counts once. -/
mutual
def uptoBulk {H : Type} : DataW H → Nat
  | .lit (.string bytes) => bytes.length + 1
  | .lit _ => 1
  | .nil => 1
  | .ptr d => uptoBulk d + 1
  | .slice elems spare => uptoBulkAll elems + uptoBulkAll spare + 1
  | .agg parts => uptoBulkAll parts + 1
  | .iface _ d => uptoBulk d + 1
  | .map entries => uptoBulkEntries entries + 1
  | .held _ => 1
def uptoBulkAll {H : Type} : List (DataW H) → Nat
  | [] => 0
  | d :: r => uptoBulk d + uptoBulkAll r
def uptoBulkEntries {H : Type} : List (Lit × DataW H) → Nat
  | [] => 0
  | x :: r => uptoBulkEntry x + uptoBulkEntries r
def uptoBulkEntry {H : Type} : Lit × DataW H → Nat
  | (.string bytes, d) => bytes.length + uptoBulk d + 1
  | (_, d) => uptoBulk d + 1
 end
def uptoSmall : (H : Type) → List (DataW H) → Bool := fun _ ds => decide (uptoBulkAll ds ≤ 1048576)
def OpenSpec.upto (s : _root_.Go.ChangeSpec) : _root_.Go.OpenSpec := { _root_.Go.OpenSpec.ofChange s with cond := some uptoSmall }

/-- 'roundtablelaw45.RuleChecks', WHERE WHAT IT READS IS OF BULK AT MOST 1048576: true; the input reads as it did. -/
def ruleChecksUptoRow : OpenClaim := { program := "ytcopehiceihdaaagreat", sum := "9a520f88e9ee6a1f8cb528d0db6da0b0fa757154a6db3f097df8cda13a9d45f8", func := "roundtable/roundtablelaw45.RuleChecks", spec := "ruleChecks", unfollowed := true, recurses := true, plainKeys := false, apart := false, narrowed := true }
def RuleChecksUptoSaid : Prop := ruleChecksUptoRow.holds Tryz.pinned (OpenSpec.upto ruleChecksSpec)

/-- 'roundtablelaw45.RuleSolves', WHERE WHAT IT READS IS OF BULK AT MOST 1048576: true; the input reads as it did. -/
def ruleSolvesUptoRow : OpenClaim := { program := "ytcopehiceihdaaagreat", sum := "9a520f88e9ee6a1f8cb528d0db6da0b0fa757154a6db3f097df8cda13a9d45f8", func := "roundtable/roundtablelaw45.RuleSolves", spec := "ruleSolves", unfollowed := true, recurses := true, plainKeys := false, apart := false, narrowed := true }
def RuleSolvesUptoSaid : Prop := ruleSolvesUptoRow.holds Tryz.pinned (OpenSpec.upto ruleSolvesSpec)

/-- 'roundtablelaw45.RuleEarly', WHERE WHAT IT READS IS OF BULK AT MOST 1048576: true; the input reads as it did. -/
def ruleEarlyUptoRow : OpenClaim := { program := "ytcopehiceihdaaagreat", sum := "9a520f88e9ee6a1f8cb528d0db6da0b0fa757154a6db3f097df8cda13a9d45f8", func := "roundtable/roundtablelaw45.RuleEarly", spec := "ruleEarly", unfollowed := true, recurses := true, plainKeys := false, apart := false, narrowed := true }
def RuleEarlyUptoSaid : Prop := ruleEarlyUptoRow.holds Tryz.pinned (OpenSpec.upto ruleEarlySpec)

/-- 'roundtablelaw45.RuleDecides', WHERE WHAT IT READS IS OF BULK AT MOST 1048576: true; the input reads as it did. -/
def ruleDecidesUptoRow : OpenClaim := { program := "ytcopehiceihdaaagreat", sum := "9a520f88e9ee6a1f8cb528d0db6da0b0fa757154a6db3f097df8cda13a9d45f8", func := "roundtable/roundtablelaw45.RuleDecides", spec := "ruleDecides", unfollowed := true, recurses := true, plainKeys := false, apart := false, narrowed := true }
def RuleDecidesUptoSaid : Prop := ruleDecidesUptoRow.holds Tryz.pinned (OpenSpec.upto ruleDecidesSpec)

/-- 'roundtablelaw45.RuleTimes', WHERE WHAT IT READS IS OF BULK AT MOST 1048576: true; the input reads as it did. -/
def ruleTimesUptoRow : OpenClaim := { program := "ytcopehiceihdaaagreat", sum := "9a520f88e9ee6a1f8cb528d0db6da0b0fa757154a6db3f097df8cda13a9d45f8", func := "roundtable/roundtablelaw45.RuleTimes", spec := "ruleTimes", unfollowed := true, recurses := true, plainKeys := false, apart := false, narrowed := true }
def RuleTimesUptoSaid : Prop := ruleTimesUptoRow.holds Tryz.pinned (OpenSpec.upto ruleTimesSpec)

/-- 'roundtablelaw45.RuleCompares', WHERE WHAT IT READS IS OF BULK AT MOST 1048576: true; the input reads as it did. -/
def ruleComparesUptoRow : OpenClaim := { program := "ytcopehiceihdaaagreat", sum := "9a520f88e9ee6a1f8cb528d0db6da0b0fa757154a6db3f097df8cda13a9d45f8", func := "roundtable/roundtablelaw45.RuleCompares", spec := "ruleCompares", unfollowed := true, recurses := true, plainKeys := false, apart := false, narrowed := true }
def RuleComparesUptoSaid : Prop := ruleComparesUptoRow.holds Tryz.pinned (OpenSpec.upto ruleComparesSpec)

/-- 'roundtablelaw45.RuleFirst', WHERE WHAT IT READS IS OF BULK AT MOST 1048576: true; the input reads as it did. -/
def ruleFirstUptoRow : OpenClaim := { program := "ytcopehiceihdaaagreat", sum := "9a520f88e9ee6a1f8cb528d0db6da0b0fa757154a6db3f097df8cda13a9d45f8", func := "roundtable/roundtablelaw45.RuleFirst", spec := "ruleFirst", unfollowed := true, recurses := true, plainKeys := false, apart := false, narrowed := true }
def RuleFirstUptoSaid : Prop := ruleFirstUptoRow.holds Tryz.pinned (OpenSpec.upto ruleFirstSpec)

/-- 'roundtablelaw45.RuleOrders', WHERE WHAT IT READS IS OF BULK AT MOST 1048576: true; the input reads as it did. -/
def ruleOrdersUptoRow : OpenClaim := { program := "ytcopehiceihdaaagreat", sum := "9a520f88e9ee6a1f8cb528d0db6da0b0fa757154a6db3f097df8cda13a9d45f8", func := "roundtable/roundtablelaw45.RuleOrders", spec := "ruleOrders", unfollowed := true, recurses := true, plainKeys := false, apart := false, narrowed := true }
def RuleOrdersUptoSaid : Prop := ruleOrdersUptoRow.holds Tryz.pinned (OpenSpec.upto ruleOrdersSpec)

end Rows
end Go.Proofs.YtcopehiceihdaaaGreat
