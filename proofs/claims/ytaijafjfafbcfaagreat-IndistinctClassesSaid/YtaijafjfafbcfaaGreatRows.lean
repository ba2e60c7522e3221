/-
  No cell of these rows narrows 'for every input' (looked for: loops, veiled, ifaces, maps, wideKeys, modest, calm, conditions, laid).
  DERIVED. THE GIVEN ROWS OF THIS SEAT. 7 by the template 'for every input the law returns true; each argument reads behind the call as it read before'; 0 by the template 'total and deterministic' (their statements: YtaijafjfafbcfaaGreatTotals.lean).
  GIVEN WITH THE SEED: the statements are not yours to turn. If you find one false, say at which input.
  Laid BY PROGRAM, IN A SANDBOX (cutbox-rows.mjs): the forced cells as the released guide's own fill.sh prints them over the translation 65d1605fcb1e879b… (all of the seat's roots in one cut). By AI agents, Wed Nov 11 2026. No macro, syntax, notation, axiom, sorry.
-/
import Derived.Test.YtaijafjfafbcfaaGreatChecked
import GoSem.Claim
import GoSem.ClaimJoined
import GoSem.ClaimMapViews
import Derived.JoinedTies
import Derived.KernelRfl
namespace Go.Proofs.YtaijafjfafbcfaaGreat
/- THE CELL 'sum', in the pinned program and in every row, IS THE sha256 OF THE DUMP (.gsa) THAT YtaijafjfafbcfaaGreatProg.lean LOADS. Nothing in Lean hashes anything: it is a label: what it is worth is what the hold of that sum in a sandbox is worth. -/
noncomputable def Tryz.pinned : Pinned := { name := "ytaijafjfafbcfaagreat", sum := "65d1605fcb1e879be2064946970f80928524e2a0a41aa0a1f71145273dd46a61", checked := Tryz.checked }
namespace Rows
def none {H : Type} : Left H := { results := [], args := [] }

/-- 'roundtablelaw25.IndistinctLinks': WHATEVER THE INPUT: true; the input reads as it did. -/
def indistinctLinksSpec : ChangeSpec := { name := "indistinctLinks", fn := fun _ => fun
  | [d1, d2, d3] => { results := [.lit (.bool true)], args := [d1, d2, d3] }
  | _ => none }
def indistinctLinksRow : OpenClaim := { program := "ytaijafjfafbcfaagreat", sum := "65d1605fcb1e879be2064946970f80928524e2a0a41aa0a1f71145273dd46a61", func := "roundtable/roundtablelaw25.IndistinctLinks", spec := "indistinctLinks", unfollowed := true, recurses := true, plainKeys := false, apart := false }
def IndistinctLinksSaid : Prop := indistinctLinksRow.holds Tryz.pinned (OpenSpec.ofChange indistinctLinksSpec)

/-- ITS FALSE NEIGHBOUR: 'it returns false'. Refute it at one input. -/
def indistinctLinksWrong : ChangeSpec := { name := "indistinctLinks", fn := fun _ => fun
  | [d1, d2, d3] => { results := [.lit (.bool false)], args := [d1, d2, d3] }
  | _ => none }
def IndistinctLinksWrongFalsely : Prop := indistinctLinksRow.holds Tryz.pinned (OpenSpec.ofChange indistinctLinksWrong)

/-- 'roundtablelaw25.IndistinctComponents': WHATEVER THE INPUT: true; the input reads as it did. -/
def indistinctComponentsSpec : ChangeSpec := { name := "indistinctComponents", fn := fun _ => fun
  | [d] => { results := [.lit (.bool true)], args := [d] }
  | _ => none }
def indistinctComponentsRow : OpenClaim := { program := "ytaijafjfafbcfaagreat", sum := "65d1605fcb1e879be2064946970f80928524e2a0a41aa0a1f71145273dd46a61", func := "roundtable/roundtablelaw25.IndistinctComponents", spec := "indistinctComponents", unfollowed := true, recurses := true, plainKeys := false, apart := false }
def IndistinctComponentsSaid : Prop := indistinctComponentsRow.holds Tryz.pinned (OpenSpec.ofChange indistinctComponentsSpec)

/-- ITS FALSE NEIGHBOUR: 'it returns false'. Refute it at one input. -/
def indistinctComponentsWrong : ChangeSpec := { name := "indistinctComponents", fn := fun _ => fun
  | [d] => { results := [.lit (.bool false)], args := [d] }
  | _ => none }
def IndistinctComponentsWrongFalsely : Prop := indistinctComponentsRow.holds Tryz.pinned (OpenSpec.ofChange indistinctComponentsWrong)

/-- 'roundtablelaw25.IndistinctWalks': WHATEVER THE INPUT: true; the input reads as it did. -/
def indistinctWalksSpec : ChangeSpec := { name := "indistinctWalks", fn := fun _ => fun
  | [d1, d2, d3] => { results := [.lit (.bool true)], args := [d1, d2, d3] }
  | _ => none }
def indistinctWalksRow : OpenClaim := { program := "ytaijafjfafbcfaagreat", sum := "65d1605fcb1e879be2064946970f80928524e2a0a41aa0a1f71145273dd46a61", func := "roundtable/roundtablelaw25.IndistinctWalks", spec := "indistinctWalks", unfollowed := true, recurses := true, plainKeys := false, apart := false }
def IndistinctWalksSaid : Prop := indistinctWalksRow.holds Tryz.pinned (OpenSpec.ofChange indistinctWalksSpec)

/-- ITS FALSE NEIGHBOUR: 'it returns false'. Refute it at one input. -/
def indistinctWalksWrong : ChangeSpec := { name := "indistinctWalks", fn := fun _ => fun
  | [d1, d2, d3] => { results := [.lit (.bool false)], args := [d1, d2, d3] }
  | _ => none }
def IndistinctWalksWrongFalsely : Prop := indistinctWalksRow.holds Tryz.pinned (OpenSpec.ofChange indistinctWalksWrong)

/-- 'roundtablelaw25.IndistinctVerifies': WHATEVER THE INPUT: true; the input reads as it did. -/
def indistinctVerifiesSpec : ChangeSpec := { name := "indistinctVerifies", fn := fun _ => fun
  | [d1, d2] => { results := [.lit (.bool true)], args := [d1, d2] }
  | _ => none }
def indistinctVerifiesRow : OpenClaim := { program := "ytaijafjfafbcfaagreat", sum := "65d1605fcb1e879be2064946970f80928524e2a0a41aa0a1f71145273dd46a61", func := "roundtable/roundtablelaw25.IndistinctVerifies", spec := "indistinctVerifies", unfollowed := true, recurses := true, plainKeys := false, apart := false }
def IndistinctVerifiesSaid : Prop := indistinctVerifiesRow.holds Tryz.pinned (OpenSpec.ofChange indistinctVerifiesSpec)

/-- ITS FALSE NEIGHBOUR: 'it returns false'. Refute it at one input. -/
def indistinctVerifiesWrong : ChangeSpec := { name := "indistinctVerifies", fn := fun _ => fun
  | [d1, d2] => { results := [.lit (.bool false)], args := [d1, d2] }
  | _ => none }
def IndistinctVerifiesWrongFalsely : Prop := indistinctVerifiesRow.holds Tryz.pinned (OpenSpec.ofChange indistinctVerifiesWrong)

/-- 'roundtablelaw25.IndistinctConnects': WHATEVER THE INPUT: true; the input reads as it did. -/
def indistinctConnectsSpec : ChangeSpec := { name := "indistinctConnects", fn := fun _ => fun
  | [d1, d2, d3] => { results := [.lit (.bool true)], args := [d1, d2, d3] }
  | _ => none }
def indistinctConnectsRow : OpenClaim := { program := "ytaijafjfafbcfaagreat", sum := "65d1605fcb1e879be2064946970f80928524e2a0a41aa0a1f71145273dd46a61", func := "roundtable/roundtablelaw25.IndistinctConnects", spec := "indistinctConnects", unfollowed := true, recurses := true, plainKeys := false, apart := false }
def IndistinctConnectsSaid : Prop := indistinctConnectsRow.holds Tryz.pinned (OpenSpec.ofChange indistinctConnectsSpec)

/-- ITS FALSE NEIGHBOUR: 'it returns false'. Refute it at one input. -/
def indistinctConnectsWrong : ChangeSpec := { name := "indistinctConnects", fn := fun _ => fun
  | [d1, d2, d3] => { results := [.lit (.bool false)], args := [d1, d2, d3] }
  | _ => none }
def IndistinctConnectsWrongFalsely : Prop := indistinctConnectsRow.holds Tryz.pinned (OpenSpec.ofChange indistinctConnectsWrong)

/-- 'roundtablelaw25.IndistinctMeasures': WHATEVER THE INPUT: true; the input reads as it did. -/
def indistinctMeasuresSpec : ChangeSpec := { name := "indistinctMeasures", fn := fun _ => fun
  | [d1, d2] => { results := [.lit (.bool true)], args := [d1, d2] }
  | _ => none }
def indistinctMeasuresRow : OpenClaim := { program := "ytaijafjfafbcfaagreat", sum := "65d1605fcb1e879be2064946970f80928524e2a0a41aa0a1f71145273dd46a61", func := "roundtable/roundtablelaw25.IndistinctMeasures", spec := "indistinctMeasures", unfollowed := true, recurses := true, plainKeys := false, apart := false }
def IndistinctMeasuresSaid : Prop := indistinctMeasuresRow.holds Tryz.pinned (OpenSpec.ofChange indistinctMeasuresSpec)

/-- ITS FALSE NEIGHBOUR: 'it returns false'. Refute it at one input. -/
def indistinctMeasuresWrong : ChangeSpec := { name := "indistinctMeasures", fn := fun _ => fun
  | [d1, d2] => { results := [.lit (.bool false)], args := [d1, d2] }
  | _ => none }
def IndistinctMeasuresWrongFalsely : Prop := indistinctMeasuresRow.holds Tryz.pinned (OpenSpec.ofChange indistinctMeasuresWrong)

/-- 'roundtablelaw25.IndistinctClasses': WHATEVER THE INPUT: true; the input reads as it did. -/
def indistinctClassesSpec : ChangeSpec := { name := "indistinctClasses", fn := fun _ => fun
  | [d1, d2, d3] => { results := [.lit (.bool true)], args := [d1, d2, d3] }
  | _ => none }
def indistinctClassesRow : OpenClaim := { program := "ytaijafjfafbcfaagreat", sum := "65d1605fcb1e879be2064946970f80928524e2a0a41aa0a1f71145273dd46a61", func := "roundtable/roundtablelaw25.IndistinctClasses", spec := "indistinctClasses", unfollowed := true, recurses := true, plainKeys := false, apart := false }
def IndistinctClassesSaid : Prop := indistinctClassesRow.holds Tryz.pinned (OpenSpec.ofChange indistinctClassesSpec)

/-- ITS FALSE NEIGHBOUR: 'it returns false'. Refute it at one input. -/
def indistinctClassesWrong : ChangeSpec := { name := "indistinctClasses", fn := fun _ => fun
  | [d1, d2, d3] => { results := [.lit (.bool false)], args := [d1, d2, d3] }
  | _ => none }
def IndistinctClassesWrongFalsely : Prop := indistinctClassesRow.holds Tryz.pinned (OpenSpec.ofChange indistinctClassesWrong)

/- THE SECOND FORM. 'bulk': how many values and letters a reading holds, each counted each time it is reached (what is shared counts as often as it is met; a slice's spare places count too). A statement '..UptoSaid' is the law's where the arguments, and the package variables that the reading takes, are together of bulk at most 1048576: NARROWER than '..Said'. Prove '..Said' where nothing that the law and all that it calls make is longer than what came in: it says more and counts as full. Else prove '..UptoSaid'. A law counts once. -/
mutual
def uptoBulk {H : Type} : DataW H → Nat
  | .lit (.string bytes) => bytes.length + 1
  | .lit _ => 1
  | .nil => 1
  | .ptr d => uptoBulk d + 1
  | .slice elems spare => uptoBulkAll elems + uptoBulkAll spare + 1
  | .agg parts => uptoBulkAll parts + 1
  | .iface _ d => uptoBulk d + 1
  | .map entries => uptoBulkEntries entries + 1
  | .held _ => 1
def uptoBulkAll {H : Type} : List (DataW H) → Nat
  | [] => 0
  | d :: r => uptoBulk d + uptoBulkAll r
def uptoBulkEntries {H : Type} : List (Lit × DataW H) → Nat
  | [] => 0
  | x :: r => uptoBulkEntry x + uptoBulkEntries r
def uptoBulkEntry {H : Type} : Lit × DataW H → Nat
  | (.string bytes, d) => bytes.length + uptoBulk d + 1
  | (_, d) => uptoBulk d + 1
 end
def uptoSmall : (H : Type) → List (DataW H) → Bool := fun _ ds => decide (uptoBulkAll ds ≤ 1048576)
def OpenSpec.upto (s : _root_.Go.ChangeSpec) : _root_.Go.OpenSpec := { _root_.Go.OpenSpec.ofChange s with cond := some uptoSmall }

/-- 'roundtablelaw25.IndistinctLinks', WHERE WHAT IT READS IS OF BULK AT MOST 1048576: true; the input reads as it did. -/
def indistinctLinksUptoRow : OpenClaim := { program := "ytaijafjfafbcfaagreat", sum := "65d1605fcb1e879be2064946970f80928524e2a0a41aa0a1f71145273dd46a61", func := "roundtable/roundtablelaw25.IndistinctLinks", spec := "indistinctLinks", unfollowed := true, recurses := true, plainKeys := false, apart := false, narrowed := true }
def IndistinctLinksUptoSaid : Prop := indistinctLinksUptoRow.holds Tryz.pinned (OpenSpec.upto indistinctLinksSpec)

/-- 'roundtablelaw25.IndistinctComponents', WHERE WHAT IT READS IS OF BULK AT MOST 1048576: true; the input reads as it did. -/
def indistinctComponentsUptoRow : OpenClaim := { program := "ytaijafjfafbcfaagreat", sum := "65d1605fcb1e879be2064946970f80928524e2a0a41aa0a1f71145273dd46a61", func := "roundtable/roundtablelaw25.IndistinctComponents", spec := "indistinctComponents", unfollowed := true, recurses := true, plainKeys := false, apart := false, narrowed := true }
def IndistinctComponentsUptoSaid : Prop := indistinctComponentsUptoRow.holds Tryz.pinned (OpenSpec.upto indistinctComponentsSpec)

/-- 'roundtablelaw25.IndistinctWalks', WHERE WHAT IT READS IS OF BULK AT MOST 1048576: true; the input reads as it did. -/
def indistinctWalksUptoRow : OpenClaim := { program := "ytaijafjfafbcfaagreat", sum := "65d1605fcb1e879be2064946970f80928524e2a0a41aa0a1f71145273dd46a61", func := "roundtable/roundtablelaw25.IndistinctWalks", spec := "indistinctWalks", unfollowed := true, recurses := true, plainKeys := false, apart := false, narrowed := true }
def IndistinctWalksUptoSaid : Prop := indistinctWalksUptoRow.holds Tryz.pinned (OpenSpec.upto indistinctWalksSpec)

/-- 'roundtablelaw25.IndistinctVerifies', WHERE WHAT IT READS IS OF BULK AT MOST 1048576: true; the input reads as it did. -/
def indistinctVerifiesUptoRow : OpenClaim := { program := "ytaijafjfafbcfaagreat", sum := "65d1605fcb1e879be2064946970f80928524e2a0a41aa0a1f71145273dd46a61", func := "roundtable/roundtablelaw25.IndistinctVerifies", spec := "indistinctVerifies", unfollowed := true, recurses := true, plainKeys := false, apart := false, narrowed := true }
def IndistinctVerifiesUptoSaid : Prop := indistinctVerifiesUptoRow.holds Tryz.pinned (OpenSpec.upto indistinctVerifiesSpec)

/-- 'roundtablelaw25.IndistinctConnects', WHERE WHAT IT READS IS OF BULK AT MOST 1048576: true; the input reads as it did. -/
def indistinctConnectsUptoRow : OpenClaim := { program := "ytaijafjfafbcfaagreat", sum := "65d1605fcb1e879be2064946970f80928524e2a0a41aa0a1f71145273dd46a61", func := "roundtable/roundtablelaw25.IndistinctConnects", spec := "indistinctConnects", unfollowed := true, recurses := true, plainKeys := false, apart := false, narrowed := true }
def IndistinctConnectsUptoSaid : Prop := indistinctConnectsUptoRow.holds Tryz.pinned (OpenSpec.upto indistinctConnectsSpec)

/-- 'roundtablelaw25.IndistinctMeasures', WHERE WHAT IT READS IS OF BULK AT MOST 1048576: true; the input reads as it did. -/
def indistinctMeasuresUptoRow : OpenClaim := { program := "ytaijafjfafbcfaagreat", sum := "65d1605fcb1e879be2064946970f80928524e2a0a41aa0a1f71145273dd46a61", func := "roundtable/roundtablelaw25.IndistinctMeasures", spec := "indistinctMeasures", unfollowed := true, recurses := true, plainKeys := false, apart := false, narrowed := true }
def IndistinctMeasuresUptoSaid : Prop := indistinctMeasuresUptoRow.holds Tryz.pinned (OpenSpec.upto indistinctMeasuresSpec)

/-- 'roundtablelaw25.IndistinctClasses', WHERE WHAT IT READS IS OF BULK AT MOST 1048576: true; the input reads as it did. -/
def indistinctClassesUptoRow : OpenClaim := { program := "ytaijafjfafbcfaagreat", sum := "65d1605fcb1e879be2064946970f80928524e2a0a41aa0a1f71145273dd46a61", func := "roundtable/roundtablelaw25.IndistinctClasses", spec := "indistinctClasses", unfollowed := true, recurses := true, plainKeys := false, apart := false, narrowed := true }
def IndistinctClassesUptoSaid : Prop := indistinctClassesUptoRow.holds Tryz.pinned (OpenSpec.upto indistinctClassesSpec)

end Rows
end Go.Proofs.YtaijafjfafbcfaaGreat
