/-
  No cell of these rows narrows 'for every input' (looked for: loops, veiled, ifaces, maps, wideKeys, modest, calm, conditions, laid).
  DERIVED. THE GIVEN ROWS OF THIS SEAT. 7 by the template 'for every input the law returns true; each argument reads behind the call as it read before'; 0 by the template 'total and deterministic' (their statements: YtfjlhjkjjbiliaaGreatTotals.lean).
  GIVEN WITH THE SEED: the statements are not yours to turn. If you find one false, say at which input.
  Laid BY PROGRAM, IN A SANDBOX (cutbox-rows.mjs): the forced cells as the released guide's own fill.sh prints them over the translation 733181b545d3c48c… (all of the seat's roots in one cut). By AI agents, Wed Nov 11 2026. No macro, syntax, notation, axiom, sorry.
-/
import Derived.Test.YtfjlhjkjjbiliaaGreatChecked
import GoSem.Claim
import GoSem.ClaimJoined
import GoSem.ClaimMapViews
import Derived.JoinedTies
import Derived.KernelRfl
namespace Go.Proofs.YtfjlhjkjjbiliaaGreat
/- THE CELL 'sum', in the pinned program and in every row, IS THE sha256 OF THE DUMP (.gsa) THAT YtfjlhjkjjbiliaaGreatProg.lean LOADS. Nothing in Lean hashes anything: it is a label: what it is worth is what the hold of that sum in a sandbox is worth. -/
noncomputable def Tryz.pinned : Pinned := { name := "ytfjlhjkjjbiliaagreat", sum := "733181b545d3c48c714c1023e6b4da6530d8a04e64e988e15dd6bee9e05de81a", checked := Tryz.checked }
namespace Rows
def none {H : Type} : Left H := { results := [], args := [] }

/-- 'roundtablelaw52.QuotientClasses': WHATEVER THE INPUT: true; the input reads as it did. -/
def quotientClassesSpec : ChangeSpec := { name := "quotientClasses", fn := fun _ => fun
  | [d1, d2] => { results := [.lit (.bool true)], args := [d1, d2] }
  | _ => none }
def quotientClassesRow : OpenClaim := { program := "ytfjlhjkjjbiliaagreat", sum := "733181b545d3c48c714c1023e6b4da6530d8a04e64e988e15dd6bee9e05de81a", func := "roundtable/roundtablelaw52.QuotientClasses", spec := "quotientClasses", unfollowed := true, recurses := true, plainKeys := false, apart := false }
def QuotientClassesSaid : Prop := quotientClassesRow.holds Tryz.pinned (OpenSpec.ofChange quotientClassesSpec)

/-- ITS FALSE NEIGHBOUR: 'it returns false'. Refute it at one input. -/
def quotientClassesWrong : ChangeSpec := { name := "quotientClasses", fn := fun _ => fun
  | [d1, d2] => { results := [.lit (.bool false)], args := [d1, d2] }
  | _ => none }
def QuotientClassesWrongFalsely : Prop := quotientClassesRow.holds Tryz.pinned (OpenSpec.ofChange quotientClassesWrong)

/-- 'roundtablelaw52.QuotientVerifies': WHATEVER THE INPUT: true; the input reads as it did. -/
def quotientVerifiesSpec : ChangeSpec := { name := "quotientVerifies", fn := fun _ => fun
  | [d1, d2, d3] => { results := [.lit (.bool true)], args := [d1, d2, d3] }
  | _ => none }
def quotientVerifiesRow : OpenClaim := { program := "ytfjlhjkjjbiliaagreat", sum := "733181b545d3c48c714c1023e6b4da6530d8a04e64e988e15dd6bee9e05de81a", func := "roundtable/roundtablelaw52.QuotientVerifies", spec := "quotientVerifies", unfollowed := true, recurses := true, plainKeys := false, apart := false }
def QuotientVerifiesSaid : Prop := quotientVerifiesRow.holds Tryz.pinned (OpenSpec.ofChange quotientVerifiesSpec)

/-- ITS FALSE NEIGHBOUR: 'it returns false'. Refute it at one input. -/
def quotientVerifiesWrong : ChangeSpec := { name := "quotientVerifies", fn := fun _ => fun
  | [d1, d2, d3] => { results := [.lit (.bool false)], args := [d1, d2, d3] }
  | _ => none }
def QuotientVerifiesWrongFalsely : Prop := quotientVerifiesRow.holds Tryz.pinned (OpenSpec.ofChange quotientVerifiesWrong)

/-- 'roundtablelaw52.QuotientDistinguishes': WHATEVER THE INPUT: true; the input reads as it did. -/
def quotientDistinguishesSpec : ChangeSpec := { name := "quotientDistinguishes", fn := fun _ => fun
  | [d1, d2, d3] => { results := [.lit (.bool true)], args := [d1, d2, d3] }
  | _ => none }
def quotientDistinguishesRow : OpenClaim := { program := "ytfjlhjkjjbiliaagreat", sum := "733181b545d3c48c714c1023e6b4da6530d8a04e64e988e15dd6bee9e05de81a", func := "roundtable/roundtablelaw52.QuotientDistinguishes", spec := "quotientDistinguishes", unfollowed := true, recurses := true, plainKeys := false, apart := false }
def QuotientDistinguishesSaid : Prop := quotientDistinguishesRow.holds Tryz.pinned (OpenSpec.ofChange quotientDistinguishesSpec)

/-- ITS FALSE NEIGHBOUR: 'it returns false'. Refute it at one input. -/
def quotientDistinguishesWrong : ChangeSpec := { name := "quotientDistinguishes", fn := fun _ => fun
  | [d1, d2, d3] => { results := [.lit (.bool false)], args := [d1, d2, d3] }
  | _ => none }
def QuotientDistinguishesWrongFalsely : Prop := quotientDistinguishesRow.holds Tryz.pinned (OpenSpec.ofChange quotientDistinguishesWrong)

/-- 'roundtablelaw52.QuotientFollows': WHATEVER THE INPUT: true; the input reads as it did. -/
def quotientFollowsSpec : ChangeSpec := { name := "quotientFollows", fn := fun _ => fun
  | [d1, d2, d3] => { results := [.lit (.bool true)], args := [d1, d2, d3] }
  | _ => none }
def quotientFollowsRow : OpenClaim := { program := "ytfjlhjkjjbiliaagreat", sum := "733181b545d3c48c714c1023e6b4da6530d8a04e64e988e15dd6bee9e05de81a", func := "roundtable/roundtablelaw52.QuotientFollows", spec := "quotientFollows", unfollowed := true, recurses := true, plainKeys := false, apart := false }
def QuotientFollowsSaid : Prop := quotientFollowsRow.holds Tryz.pinned (OpenSpec.ofChange quotientFollowsSpec)

/-- ITS FALSE NEIGHBOUR: 'it returns false'. Refute it at one input. -/
def quotientFollowsWrong : ChangeSpec := { name := "quotientFollows", fn := fun _ => fun
  | [d1, d2, d3] => { results := [.lit (.bool false)], args := [d1, d2, d3] }
  | _ => none }
def QuotientFollowsWrongFalsely : Prop := quotientFollowsRow.holds Tryz.pinned (OpenSpec.ofChange quotientFollowsWrong)

/-- 'roundtablelaw52.QuotientSeparates': WHATEVER THE INPUT: true; the input reads as it did. -/
def quotientSeparatesSpec : ChangeSpec := { name := "quotientSeparates", fn := fun _ => fun
  | [d1, d2, d3] => { results := [.lit (.bool true)], args := [d1, d2, d3] }
  | _ => none }
def quotientSeparatesRow : OpenClaim := { program := "ytfjlhjkjjbiliaagreat", sum := "733181b545d3c48c714c1023e6b4da6530d8a04e64e988e15dd6bee9e05de81a", func := "roundtable/roundtablelaw52.QuotientSeparates", spec := "quotientSeparates", unfollowed := true, recurses := true, plainKeys := false, apart := false }
def QuotientSeparatesSaid : Prop := quotientSeparatesRow.holds Tryz.pinned (OpenSpec.ofChange quotientSeparatesSpec)

/-- ITS FALSE NEIGHBOUR: 'it returns false'. Refute it at one input. -/
def quotientSeparatesWrong : ChangeSpec := { name := "quotientSeparates", fn := fun _ => fun
  | [d1, d2, d3] => { results := [.lit (.bool false)], args := [d1, d2, d3] }
  | _ => none }
def QuotientSeparatesWrongFalsely : Prop := quotientSeparatesRow.holds Tryz.pinned (OpenSpec.ofChange quotientSeparatesWrong)

/-- 'roundtablelaw52.QuotientCoarsest': WHATEVER THE INPUT: true; the input reads as it did. -/
def quotientCoarsestSpec : ChangeSpec := { name := "quotientCoarsest", fn := fun _ => fun
  | [d1, d2, d3] => { results := [.lit (.bool true)], args := [d1, d2, d3] }
  | _ => none }
def quotientCoarsestRow : OpenClaim := { program := "ytfjlhjkjjbiliaagreat", sum := "733181b545d3c48c714c1023e6b4da6530d8a04e64e988e15dd6bee9e05de81a", func := "roundtable/roundtablelaw52.QuotientCoarsest", spec := "quotientCoarsest", unfollowed := true, recurses := true, plainKeys := false, apart := false }
def QuotientCoarsestSaid : Prop := quotientCoarsestRow.holds Tryz.pinned (OpenSpec.ofChange quotientCoarsestSpec)

/-- ITS FALSE NEIGHBOUR: 'it returns false'. Refute it at one input. -/
def quotientCoarsestWrong : ChangeSpec := { name := "quotientCoarsest", fn := fun _ => fun
  | [d1, d2, d3] => { results := [.lit (.bool false)], args := [d1, d2, d3] }
  | _ => none }
def QuotientCoarsestWrongFalsely : Prop := quotientCoarsestRow.holds Tryz.pinned (OpenSpec.ofChange quotientCoarsestWrong)

/-- 'roundtablelaw52.QuotientForgets': WHATEVER THE INPUT: true; the input reads as it did. -/
def quotientForgetsSpec : ChangeSpec := { name := "quotientForgets", fn := fun _ => fun
  | [d1, d2] => { results := [.lit (.bool true)], args := [d1, d2] }
  | _ => none }
def quotientForgetsRow : OpenClaim := { program := "ytfjlhjkjjbiliaagreat", sum := "733181b545d3c48c714c1023e6b4da6530d8a04e64e988e15dd6bee9e05de81a", func := "roundtable/roundtablelaw52.QuotientForgets", spec := "quotientForgets", unfollowed := true, recurses := true, plainKeys := false, apart := false }
def QuotientForgetsSaid : Prop := quotientForgetsRow.holds Tryz.pinned (OpenSpec.ofChange quotientForgetsSpec)

/-- ITS FALSE NEIGHBOUR: 'it returns false'. Refute it at one input. -/
def quotientForgetsWrong : ChangeSpec := { name := "quotientForgets", fn := fun _ => fun
  | [d1, d2] => { results := [.lit (.bool false)], args := [d1, d2] }
  | _ => none }
def QuotientForgetsWrongFalsely : Prop := quotientForgetsRow.holds Tryz.pinned (OpenSpec.ofChange quotientForgetsWrong)

/- THE SECOND FORM. 'bulk': how many values and letters a reading holds, each counted each time it is reached (what is shared counts as often as it is met; a slice's spare places count too). A statement '..UptoSaid' is the law's where the arguments, and the package variables that the reading takes, are together of bulk at most 1048576: NARROWER than '..Said'. Prove '..Said' where nothing that the law and all that it calls make is longer than what came in: it says more and counts as full. Else prove '..UptoSaid'. A law counts once. -/
mutual
def uptoBulk {H : Type} : DataW H → Nat
  | .lit (.string bytes) => bytes.length + 1
  | .lit _ => 1
  | .nil => 1
  | .ptr d => uptoBulk d + 1
  | .slice elems spare => uptoBulkAll elems + uptoBulkAll spare + 1
  | .agg parts => uptoBulkAll parts + 1
  | .iface _ d => uptoBulk d + 1
  | .map entries => uptoBulkEntries entries + 1
  | .held _ => 1
def uptoBulkAll {H : Type} : List (DataW H) → Nat
  | [] => 0
  | d :: r => uptoBulk d + uptoBulkAll r
def uptoBulkEntries {H : Type} : List (Lit × DataW H) → Nat
  | [] => 0
  | x :: r => uptoBulkEntry x + uptoBulkEntries r
def uptoBulkEntry {H : Type} : Lit × DataW H → Nat
  | (.string bytes, d) => bytes.length + uptoBulk d + 1
  | (_, d) => uptoBulk d + 1
 end
def uptoSmall : (H : Type) → List (DataW H) → Bool := fun _ ds => decide (uptoBulkAll ds ≤ 1048576)
def OpenSpec.upto (s : _root_.Go.ChangeSpec) : _root_.Go.OpenSpec := { _root_.Go.OpenSpec.ofChange s with cond := some uptoSmall }

/-- 'roundtablelaw52.QuotientClasses', WHERE WHAT IT READS IS OF BULK AT MOST 1048576: true; the input reads as it did. -/
def quotientClassesUptoRow : OpenClaim := { program := "ytfjlhjkjjbiliaagreat", sum := "733181b545d3c48c714c1023e6b4da6530d8a04e64e988e15dd6bee9e05de81a", func := "roundtable/roundtablelaw52.QuotientClasses", spec := "quotientClasses", unfollowed := true, recurses := true, plainKeys := false, apart := false, narrowed := true }
def QuotientClassesUptoSaid : Prop := quotientClassesUptoRow.holds Tryz.pinned (OpenSpec.upto quotientClassesSpec)

/-- 'roundtablelaw52.QuotientVerifies', WHERE WHAT IT READS IS OF BULK AT MOST 1048576: true; the input reads as it did. -/
def quotientVerifiesUptoRow : OpenClaim := { program := "ytfjlhjkjjbiliaagreat", sum := "733181b545d3c48c714c1023e6b4da6530d8a04e64e988e15dd6bee9e05de81a", func := "roundtable/roundtablelaw52.QuotientVerifies", spec := "quotientVerifies", unfollowed := true, recurses := true, plainKeys := false, apart := false, narrowed := true }
def QuotientVerifiesUptoSaid : Prop := quotientVerifiesUptoRow.holds Tryz.pinned (OpenSpec.upto quotientVerifiesSpec)

/-- 'roundtablelaw52.QuotientDistinguishes', WHERE WHAT IT READS IS OF BULK AT MOST 1048576: true; the input reads as it did. -/
def quotientDistinguishesUptoRow : OpenClaim := { program := "ytfjlhjkjjbiliaagreat", sum := "733181b545d3c48c714c1023e6b4da6530d8a04e64e988e15dd6bee9e05de81a", func := "roundtable/roundtablelaw52.QuotientDistinguishes", spec := "quotientDistinguishes", unfollowed := true, recurses := true, plainKeys := false, apart := false, narrowed := true }
def QuotientDistinguishesUptoSaid : Prop := quotientDistinguishesUptoRow.holds Tryz.pinned (OpenSpec.upto quotientDistinguishesSpec)

/-- 'roundtablelaw52.QuotientFollows', WHERE WHAT IT READS IS OF BULK AT MOST 1048576: true; the input reads as it did. -/
def quotientFollowsUptoRow : OpenClaim := { program := "ytfjlhjkjjbiliaagreat", sum := "733181b545d3c48c714c1023e6b4da6530d8a04e64e988e15dd6bee9e05de81a", func := "roundtable/roundtablelaw52.QuotientFollows", spec := "quotientFollows", unfollowed := true, recurses := true, plainKeys := false, apart := false, narrowed := true }
def QuotientFollowsUptoSaid : Prop := quotientFollowsUptoRow.holds Tryz.pinned (OpenSpec.upto quotientFollowsSpec)

/-- 'roundtablelaw52.QuotientSeparates', WHERE WHAT IT READS IS OF BULK AT MOST 1048576: true; the input reads as it did. -/
def quotientSeparatesUptoRow : OpenClaim := { program := "ytfjlhjkjjbiliaagreat", sum := "733181b545d3c48c714c1023e6b4da6530d8a04e64e988e15dd6bee9e05de81a", func := "roundtable/roundtablelaw52.QuotientSeparates", spec := "quotientSeparates", unfollowed := true, recurses := true, plainKeys := false, apart := false, narrowed := true }
def QuotientSeparatesUptoSaid : Prop := quotientSeparatesUptoRow.holds Tryz.pinned (OpenSpec.upto quotientSeparatesSpec)

/-- 'roundtablelaw52.QuotientCoarsest', WHERE WHAT IT READS IS OF BULK AT MOST 1048576: true; the input reads as it did. -/
def quotientCoarsestUptoRow : OpenClaim := { program := "ytfjlhjkjjbiliaagreat", sum := "733181b545d3c48c714c1023e6b4da6530d8a04e64e988e15dd6bee9e05de81a", func := "roundtable/roundtablelaw52.QuotientCoarsest", spec := "quotientCoarsest", unfollowed := true, recurses := true, plainKeys := false, apart := false, narrowed := true }
def QuotientCoarsestUptoSaid : Prop := quotientCoarsestUptoRow.holds Tryz.pinned (OpenSpec.upto quotientCoarsestSpec)

/-- 'roundtablelaw52.QuotientForgets', WHERE WHAT IT READS IS OF BULK AT MOST 1048576: true; the input reads as it did. -/
def quotientForgetsUptoRow : OpenClaim := { program := "ytfjlhjkjjbiliaagreat", sum := "733181b545d3c48c714c1023e6b4da6530d8a04e64e988e15dd6bee9e05de81a", func := "roundtable/roundtablelaw52.QuotientForgets", spec := "quotientForgets", unfollowed := true, recurses := true, plainKeys := false, apart := false, narrowed := true }
def QuotientForgetsUptoSaid : Prop := quotientForgetsUptoRow.holds Tryz.pinned (OpenSpec.upto quotientForgetsSpec)

end Rows
end Go.Proofs.YtfjlhjkjjbiliaaGreat
