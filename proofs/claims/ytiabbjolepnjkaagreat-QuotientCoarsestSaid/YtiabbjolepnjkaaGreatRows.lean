/-
  No cell of these rows narrows 'for every input' (looked for: loops, veiled, ifaces, maps, wideKeys, modest, calm, conditions, laid).
  DERIVED. THE GIVEN ROWS OF THIS SEAT. 12 by the template 'for every input the law returns true; each argument reads behind the call as it read before'; 0 by the template 'total and deterministic' (their statements: YtiabbjolepnjkaaGreatTotals.lean).
  GIVEN WITH THE SEED: the statements are not yours to turn. If you find one false, say at which input.
  Laid BY PROGRAM, IN A SANDBOX (cutbox-rows.mjs): the forced cells as the released guide's own fill.sh prints them over the translation 66bfd23028f849d2… (all of the seat's roots in one cut). By AI agents, Wed Nov 11 2026. No macro, syntax, notation, axiom, sorry.
-/
import Derived.Test.YtiabbjolepnjkaaGreatChecked
import GoSem.Claim
import GoSem.ClaimJoined
import GoSem.ClaimMapViews
import Derived.JoinedTies
import Derived.KernelRfl
namespace Go.Proofs.YtiabbjolepnjkaaGreat
/- THE CELL 'sum', in the pinned program and in every row, IS THE sha256 OF THE DUMP (.gsa) THAT YtiabbjolepnjkaaGreatProg.lean LOADS. Nothing in Lean hashes anything: it is a label: what it is worth is what the hold of that sum in a sandbox is worth. -/
noncomputable def Tryz.pinned : Pinned := { name := "ytiabbjolepnjkaagreat", sum := "66bfd23028f849d2c667a37f1cc52c29e9c431200b4d9f1ea84492c4b46db2fc", checked := Tryz.checked }
namespace Rows
def none {H : Type} : Left H := { results := [], args := [] }

/-- 'roundtablelaw52.QuotientVerifies': WHATEVER THE INPUT: true; the input reads as it did. -/
def quotientVerifiesSpec : ChangeSpec := { name := "quotientVerifies", fn := fun _ => fun
  | [d1, d2, d3] => { results := [.lit (.bool true)], args := [d1, d2, d3] }
  | _ => none }
def quotientVerifiesRow : OpenClaim := { program := "ytiabbjolepnjkaagreat", sum := "66bfd23028f849d2c667a37f1cc52c29e9c431200b4d9f1ea84492c4b46db2fc", func := "roundtable/roundtablelaw52.QuotientVerifies", spec := "quotientVerifies", unfollowed := true, recurses := true, plainKeys := false, apart := false }
def QuotientVerifiesSaid : Prop := quotientVerifiesRow.holds Tryz.pinned (OpenSpec.ofChange quotientVerifiesSpec)

/-- ITS FALSE NEIGHBOUR: 'it returns false'. Refute it at one input. -/
def quotientVerifiesWrong : ChangeSpec := { name := "quotientVerifies", fn := fun _ => fun
  | [d1, d2, d3] => { results := [.lit (.bool false)], args := [d1, d2, d3] }
  | _ => none }
def QuotientVerifiesWrongFalsely : Prop := quotientVerifiesRow.holds Tryz.pinned (OpenSpec.ofChange quotientVerifiesWrong)

/-- 'roundtablelaw52.QuotientDistinguishes': WHATEVER THE INPUT: true; the input reads as it did. -/
def quotientDistinguishesSpec : ChangeSpec := { name := "quotientDistinguishes", fn := fun _ => fun
  | [d1, d2, d3] => { results := [.lit (.bool true)], args := [d1, d2, d3] }
  | _ => none }
def quotientDistinguishesRow : OpenClaim := { program := "ytiabbjolepnjkaagreat", sum := "66bfd23028f849d2c667a37f1cc52c29e9c431200b4d9f1ea84492c4b46db2fc", func := "roundtable/roundtablelaw52.QuotientDistinguishes", spec := "quotientDistinguishes", unfollowed := true, recurses := true, plainKeys := false, apart := false }
def QuotientDistinguishesSaid : Prop := quotientDistinguishesRow.holds Tryz.pinned (OpenSpec.ofChange quotientDistinguishesSpec)

/-- ITS FALSE NEIGHBOUR: 'it returns false'. Refute it at one input. -/
def quotientDistinguishesWrong : ChangeSpec := { name := "quotientDistinguishes", fn := fun _ => fun
  | [d1, d2, d3] => { results := [.lit (.bool false)], args := [d1, d2, d3] }
  | _ => none }
def QuotientDistinguishesWrongFalsely : Prop := quotientDistinguishesRow.holds Tryz.pinned (OpenSpec.ofChange quotientDistinguishesWrong)

/-- 'roundtablelaw52.QuotientFollows': WHATEVER THE INPUT: true; the input reads as it did. -/
def quotientFollowsSpec : ChangeSpec := { name := "quotientFollows", fn := fun _ => fun
  | [d1, d2, d3] => { results := [.lit (.bool true)], args := [d1, d2, d3] }
  | _ => none }
def quotientFollowsRow : OpenClaim := { program := "ytiabbjolepnjkaagreat", sum := "66bfd23028f849d2c667a37f1cc52c29e9c431200b4d9f1ea84492c4b46db2fc", func := "roundtable/roundtablelaw52.QuotientFollows", spec := "quotientFollows", unfollowed := true, recurses := true, plainKeys := false, apart := false }
def QuotientFollowsSaid : Prop := quotientFollowsRow.holds Tryz.pinned (OpenSpec.ofChange quotientFollowsSpec)

/-- ITS FALSE NEIGHBOUR: 'it returns false'. Refute it at one input. -/
def quotientFollowsWrong : ChangeSpec := { name := "quotientFollows", fn := fun _ => fun
  | [d1, d2, d3] => { results := [.lit (.bool false)], args := [d1, d2, d3] }
  | _ => none }
def QuotientFollowsWrongFalsely : Prop := quotientFollowsRow.holds Tryz.pinned (OpenSpec.ofChange quotientFollowsWrong)

/-- 'roundtablelaw52.QuotientSeparates': WHATEVER THE INPUT: true; the input reads as it did. -/
def quotientSeparatesSpec : ChangeSpec := { name := "quotientSeparates", fn := fun _ => fun
  | [d1, d2, d3] => { results := [.lit (.bool true)], args := [d1, d2, d3] }
  | _ => none }
def quotientSeparatesRow : OpenClaim := { program := "ytiabbjolepnjkaagreat", sum := "66bfd23028f849d2c667a37f1cc52c29e9c431200b4d9f1ea84492c4b46db2fc", func := "roundtable/roundtablelaw52.QuotientSeparates", spec := "quotientSeparates", unfollowed := true, recurses := true, plainKeys := false, apart := false }
def QuotientSeparatesSaid : Prop := quotientSeparatesRow.holds Tryz.pinned (OpenSpec.ofChange quotientSeparatesSpec)

/-- ITS FALSE NEIGHBOUR: 'it returns false'. Refute it at one input. -/
def quotientSeparatesWrong : ChangeSpec := { name := "quotientSeparates", fn := fun _ => fun
  | [d1, d2, d3] => { results := [.lit (.bool false)], args := [d1, d2, d3] }
  | _ => none }
def QuotientSeparatesWrongFalsely : Prop := quotientSeparatesRow.holds Tryz.pinned (OpenSpec.ofChange quotientSeparatesWrong)

/-- 'roundtablelaw53.MessageSymbols': WHATEVER THE INPUT: true; the input reads as it did. -/
def messageSymbolsSpec : ChangeSpec := { name := "messageSymbols", fn := fun _ => fun
  | [d1, d2, d3] => { results := [.lit (.bool true)], args := [d1, d2, d3] }
  | _ => none }
def messageSymbolsRow : OpenClaim := { program := "ytiabbjolepnjkaagreat", sum := "66bfd23028f849d2c667a37f1cc52c29e9c431200b4d9f1ea84492c4b46db2fc", func := "roundtable/roundtablelaw53.MessageSymbols", spec := "messageSymbols", unfollowed := true, recurses := true, plainKeys := false, apart := false }
def MessageSymbolsSaid : Prop := messageSymbolsRow.holds Tryz.pinned (OpenSpec.ofChange messageSymbolsSpec)

/-- ITS FALSE NEIGHBOUR: 'it returns false'. Refute it at one input. -/
def messageSymbolsWrong : ChangeSpec := { name := "messageSymbols", fn := fun _ => fun
  | [d1, d2, d3] => { results := [.lit (.bool false)], args := [d1, d2, d3] }
  | _ => none }
def MessageSymbolsWrongFalsely : Prop := messageSymbolsRow.holds Tryz.pinned (OpenSpec.ofChange messageSymbolsWrong)

/-- 'roundtablelaw53.MessageCounts': WHATEVER THE INPUT: true; the input reads as it did. -/
def messageCountsSpec : ChangeSpec := { name := "messageCounts", fn := fun _ => fun
  | [d1, d2] => { results := [.lit (.bool true)], args := [d1, d2] }
  | _ => none }
def messageCountsRow : OpenClaim := { program := "ytiabbjolepnjkaagreat", sum := "66bfd23028f849d2c667a37f1cc52c29e9c431200b4d9f1ea84492c4b46db2fc", func := "roundtable/roundtablelaw53.MessageCounts", spec := "messageCounts", unfollowed := true, recurses := true, plainKeys := false, apart := false }
def MessageCountsSaid : Prop := messageCountsRow.holds Tryz.pinned (OpenSpec.ofChange messageCountsSpec)

/-- ITS FALSE NEIGHBOUR: 'it returns false'. Refute it at one input. -/
def messageCountsWrong : ChangeSpec := { name := "messageCounts", fn := fun _ => fun
  | [d1, d2] => { results := [.lit (.bool false)], args := [d1, d2] }
  | _ => none }
def MessageCountsWrongFalsely : Prop := messageCountsRow.holds Tryz.pinned (OpenSpec.ofChange messageCountsWrong)

/-- 'roundtablelaw53.MessageVerifies': WHATEVER THE INPUT: true; the input reads as it did. -/
def messageVerifiesSpec : ChangeSpec := { name := "messageVerifies", fn := fun _ => fun
  | [d1, d2, d3] => { results := [.lit (.bool true)], args := [d1, d2, d3] }
  | _ => none }
def messageVerifiesRow : OpenClaim := { program := "ytiabbjolepnjkaagreat", sum := "66bfd23028f849d2c667a37f1cc52c29e9c431200b4d9f1ea84492c4b46db2fc", func := "roundtable/roundtablelaw53.MessageVerifies", spec := "messageVerifies", unfollowed := true, recurses := true, plainKeys := false, apart := false }
def MessageVerifiesSaid : Prop := messageVerifiesRow.holds Tryz.pinned (OpenSpec.ofChange messageVerifiesSpec)

/-- ITS FALSE NEIGHBOUR: 'it returns false'. Refute it at one input. -/
def messageVerifiesWrong : ChangeSpec := { name := "messageVerifies", fn := fun _ => fun
  | [d1, d2, d3] => { results := [.lit (.bool false)], args := [d1, d2, d3] }
  | _ => none }
def MessageVerifiesWrongFalsely : Prop := messageVerifiesRow.holds Tryz.pinned (OpenSpec.ofChange messageVerifiesWrong)

/-- 'roundtablelaw52.QuotientCoarsest': WHATEVER THE INPUT: true; the input reads as it did. -/
def quotientCoarsestSpec : ChangeSpec := { name := "quotientCoarsest", fn := fun _ => fun
  | [d1, d2, d3] => { results := [.lit (.bool true)], args := [d1, d2, d3] }
  | _ => none }
def quotientCoarsestRow : OpenClaim := { program := "ytiabbjolepnjkaagreat", sum := "66bfd23028f849d2c667a37f1cc52c29e9c431200b4d9f1ea84492c4b46db2fc", func := "roundtable/roundtablelaw52.QuotientCoarsest", spec := "quotientCoarsest", unfollowed := true, recurses := true, plainKeys := false, apart := false }
def QuotientCoarsestSaid : Prop := quotientCoarsestRow.holds Tryz.pinned (OpenSpec.ofChange quotientCoarsestSpec)

/-- ITS FALSE NEIGHBOUR: 'it returns false'. Refute it at one input. -/
def quotientCoarsestWrong : ChangeSpec := { name := "quotientCoarsest", fn := fun _ => fun
  | [d1, d2, d3] => { results := [.lit (.bool false)], args := [d1, d2, d3] }
  | _ => none }
def QuotientCoarsestWrongFalsely : Prop := quotientCoarsestRow.holds Tryz.pinned (OpenSpec.ofChange quotientCoarsestWrong)

/-- 'roundtablelaw52.QuotientForgets': WHATEVER THE INPUT: true; the input reads as it did. -/
def quotientForgetsSpec : ChangeSpec := { name := "quotientForgets", fn := fun _ => fun
  | [d1, d2] => { results := [.lit (.bool true)], args := [d1, d2] }
  | _ => none }
def quotientForgetsRow : OpenClaim := { program := "ytiabbjolepnjkaagreat", sum := "66bfd23028f849d2c667a37f1cc52c29e9c431200b4d9f1ea84492c4b46db2fc", func := "roundtable/roundtablelaw52.QuotientForgets", spec := "quotientForgets", unfollowed := true, recurses := true, plainKeys := false, apart := false }
def QuotientForgetsSaid : Prop := quotientForgetsRow.holds Tryz.pinned (OpenSpec.ofChange quotientForgetsSpec)

/-- ITS FALSE NEIGHBOUR: 'it returns false'. Refute it at one input. -/
def quotientForgetsWrong : ChangeSpec := { name := "quotientForgets", fn := fun _ => fun
  | [d1, d2] => { results := [.lit (.bool false)], args := [d1, d2] }
  | _ => none }
def QuotientForgetsWrongFalsely : Prop := quotientForgetsRow.holds Tryz.pinned (OpenSpec.ofChange quotientForgetsWrong)

/-- 'roundtablelaw53.MessageFits': WHATEVER THE INPUT: true; the input reads as it did. -/
def messageFitsSpec : ChangeSpec := { name := "messageFits", fn := fun _ => fun
  | [d1, d2, d3] => { results := [.lit (.bool true)], args := [d1, d2, d3] }
  | _ => none }
def messageFitsRow : OpenClaim := { program := "ytiabbjolepnjkaagreat", sum := "66bfd23028f849d2c667a37f1cc52c29e9c431200b4d9f1ea84492c4b46db2fc", func := "roundtable/roundtablelaw53.MessageFits", spec := "messageFits", unfollowed := true, recurses := true, plainKeys := false, apart := false }
def MessageFitsSaid : Prop := messageFitsRow.holds Tryz.pinned (OpenSpec.ofChange messageFitsSpec)

/-- ITS FALSE NEIGHBOUR: 'it returns false'. Refute it at one input. -/
def messageFitsWrong : ChangeSpec := { name := "messageFits", fn := fun _ => fun
  | [d1, d2, d3] => { results := [.lit (.bool false)], args := [d1, d2, d3] }
  | _ => none }
def MessageFitsWrongFalsely : Prop := messageFitsRow.holds Tryz.pinned (OpenSpec.ofChange messageFitsWrong)

/-- 'roundtablelaw53.MessageDetermines': WHATEVER THE INPUT: true; the input reads as it did. -/
def messageDeterminesSpec : ChangeSpec := { name := "messageDetermines", fn := fun _ => fun
  | [d1, d2, d3] => { results := [.lit (.bool true)], args := [d1, d2, d3] }
  | _ => none }
def messageDeterminesRow : OpenClaim := { program := "ytiabbjolepnjkaagreat", sum := "66bfd23028f849d2c667a37f1cc52c29e9c431200b4d9f1ea84492c4b46db2fc", func := "roundtable/roundtablelaw53.MessageDetermines", spec := "messageDetermines", unfollowed := true, recurses := true, plainKeys := false, apart := false }
def MessageDeterminesSaid : Prop := messageDeterminesRow.holds Tryz.pinned (OpenSpec.ofChange messageDeterminesSpec)

/-- ITS FALSE NEIGHBOUR: 'it returns false'. Refute it at one input. -/
def messageDeterminesWrong : ChangeSpec := { name := "messageDetermines", fn := fun _ => fun
  | [d1, d2, d3] => { results := [.lit (.bool false)], args := [d1, d2, d3] }
  | _ => none }
def MessageDeterminesWrongFalsely : Prop := messageDeterminesRow.holds Tryz.pinned (OpenSpec.ofChange messageDeterminesWrong)

/-- 'roundtablelaw53.MessageSums': WHATEVER THE INPUT: true; the input reads as it did. -/
def messageSumsSpec : ChangeSpec := { name := "messageSums", fn := fun _ => fun
  | [d1, d2] => { results := [.lit (.bool true)], args := [d1, d2] }
  | _ => none }
def messageSumsRow : OpenClaim := { program := "ytiabbjolepnjkaagreat", sum := "66bfd23028f849d2c667a37f1cc52c29e9c431200b4d9f1ea84492c4b46db2fc", func := "roundtable/roundtablelaw53.MessageSums", spec := "messageSums", unfollowed := true, recurses := true, plainKeys := false, apart := false }
def MessageSumsSaid : Prop := messageSumsRow.holds Tryz.pinned (OpenSpec.ofChange messageSumsSpec)

/-- ITS FALSE NEIGHBOUR: 'it returns false'. Refute it at one input. -/
def messageSumsWrong : ChangeSpec := { name := "messageSums", fn := fun _ => fun
  | [d1, d2] => { results := [.lit (.bool false)], args := [d1, d2] }
  | _ => none }
def MessageSumsWrongFalsely : Prop := messageSumsRow.holds Tryz.pinned (OpenSpec.ofChange messageSumsWrong)

/- THE SECOND FORM. 'bulk': how many values and letters a reading holds, each counted each time it is reached (what is shared counts as often as it is met; a slice's spare places count too). A statement '..UptoSaid' is the law's where the arguments, and the package variables that the reading takes, are together of bulk at most 1048576: NARROWER than '..Said'. Prove '..Said' where nothing that the law and all that it calls make is longer than what came in: it says more and counts as full. Else prove '..UptoSaid'. A law counts once. -/
mutual
def uptoBulk {H : Type} : DataW H → Nat
  | .lit (.string bytes) => bytes.length + 1
  | .lit _ => 1
  | .nil => 1
  | .ptr d => uptoBulk d + 1
  | .slice elems spare => uptoBulkAll elems + uptoBulkAll spare + 1
  | .agg parts => uptoBulkAll parts + 1
  | .iface _ d => uptoBulk d + 1
  | .map entries => uptoBulkEntries entries + 1
  | .held _ => 1
def uptoBulkAll {H : Type} : List (DataW H) → Nat
  | [] => 0
  | d :: r => uptoBulk d + uptoBulkAll r
def uptoBulkEntries {H : Type} : List (Lit × DataW H) → Nat
  | [] => 0
  | x :: r => uptoBulkEntry x + uptoBulkEntries r
def uptoBulkEntry {H : Type} : Lit × DataW H → Nat
  | (.string bytes, d) => bytes.length + uptoBulk d + 1
  | (_, d) => uptoBulk d + 1
 end
def uptoSmall : (H : Type) → List (DataW H) → Bool := fun _ ds => decide (uptoBulkAll ds ≤ 1048576)
def OpenSpec.upto (s : _root_.Go.ChangeSpec) : _root_.Go.OpenSpec := { _root_.Go.OpenSpec.ofChange s with cond := some uptoSmall }

/-- 'roundtablelaw52.QuotientVerifies', WHERE WHAT IT READS IS OF BULK AT MOST 1048576: true; the input reads as it did. -/
def quotientVerifiesUptoRow : OpenClaim := { program := "ytiabbjolepnjkaagreat", sum := "66bfd23028f849d2c667a37f1cc52c29e9c431200b4d9f1ea84492c4b46db2fc", func := "roundtable/roundtablelaw52.QuotientVerifies", spec := "quotientVerifies", unfollowed := true, recurses := true, plainKeys := false, apart := false, narrowed := true }
def QuotientVerifiesUptoSaid : Prop := quotientVerifiesUptoRow.holds Tryz.pinned (OpenSpec.upto quotientVerifiesSpec)

/-- 'roundtablelaw52.QuotientDistinguishes', WHERE WHAT IT READS IS OF BULK AT MOST 1048576: true; the input reads as it did. -/
def quotientDistinguishesUptoRow : OpenClaim := { program := "ytiabbjolepnjkaagreat", sum := "66bfd23028f849d2c667a37f1cc52c29e9c431200b4d9f1ea84492c4b46db2fc", func := "roundtable/roundtablelaw52.QuotientDistinguishes", spec := "quotientDistinguishes", unfollowed := true, recurses := true, plainKeys := false, apart := false, narrowed := true }
def QuotientDistinguishesUptoSaid : Prop := quotientDistinguishesUptoRow.holds Tryz.pinned (OpenSpec.upto quotientDistinguishesSpec)

/-- 'roundtablelaw52.QuotientFollows', WHERE WHAT IT READS IS OF BULK AT MOST 1048576: true; the input reads as it did. -/
def quotientFollowsUptoRow : OpenClaim := { program := "ytiabbjolepnjkaagreat", sum := "66bfd23028f849d2c667a37f1cc52c29e9c431200b4d9f1ea84492c4b46db2fc", func := "roundtable/roundtablelaw52.QuotientFollows", spec := "quotientFollows", unfollowed := true, recurses := true, plainKeys := false, apart := false, narrowed := true }
def QuotientFollowsUptoSaid : Prop := quotientFollowsUptoRow.holds Tryz.pinned (OpenSpec.upto quotientFollowsSpec)

/-- 'roundtablelaw52.QuotientSeparates', WHERE WHAT IT READS IS OF BULK AT MOST 1048576: true; the input reads as it did. -/
def quotientSeparatesUptoRow : OpenClaim := { program := "ytiabbjolepnjkaagreat", sum := "66bfd23028f849d2c667a37f1cc52c29e9c431200b4d9f1ea84492c4b46db2fc", func := "roundtable/roundtablelaw52.QuotientSeparates", spec := "quotientSeparates", unfollowed := true, recurses := true, plainKeys := false, apart := false, narrowed := true }
def QuotientSeparatesUptoSaid : Prop := quotientSeparatesUptoRow.holds Tryz.pinned (OpenSpec.upto quotientSeparatesSpec)

/-- 'roundtablelaw53.MessageSymbols', WHERE WHAT IT READS IS OF BULK AT MOST 1048576: true; the input reads as it did. -/
def messageSymbolsUptoRow : OpenClaim := { program := "ytiabbjolepnjkaagreat", sum := "66bfd23028f849d2c667a37f1cc52c29e9c431200b4d9f1ea84492c4b46db2fc", func := "roundtable/roundtablelaw53.MessageSymbols", spec := "messageSymbols", unfollowed := true, recurses := true, plainKeys := false, apart := false, narrowed := true }
def MessageSymbolsUptoSaid : Prop := messageSymbolsUptoRow.holds Tryz.pinned (OpenSpec.upto messageSymbolsSpec)

/-- 'roundtablelaw53.MessageCounts', WHERE WHAT IT READS IS OF BULK AT MOST 1048576: true; the input reads as it did. -/
def messageCountsUptoRow : OpenClaim := { program := "ytiabbjolepnjkaagreat", sum := "66bfd23028f849d2c667a37f1cc52c29e9c431200b4d9f1ea84492c4b46db2fc", func := "roundtable/roundtablelaw53.MessageCounts", spec := "messageCounts", unfollowed := true, recurses := true, plainKeys := false, apart := false, narrowed := true }
def MessageCountsUptoSaid : Prop := messageCountsUptoRow.holds Tryz.pinned (OpenSpec.upto messageCountsSpec)

/-- 'roundtablelaw53.MessageVerifies', WHERE WHAT IT READS IS OF BULK AT MOST 1048576: true; the input reads as it did. -/
def messageVerifiesUptoRow : OpenClaim := { program := "ytiabbjolepnjkaagreat", sum := "66bfd23028f849d2c667a37f1cc52c29e9c431200b4d9f1ea84492c4b46db2fc", func := "roundtable/roundtablelaw53.MessageVerifies", spec := "messageVerifies", unfollowed := true, recurses := true, plainKeys := false, apart := false, narrowed := true }
def MessageVerifiesUptoSaid : Prop := messageVerifiesUptoRow.holds Tryz.pinned (OpenSpec.upto messageVerifiesSpec)

/-- 'roundtablelaw52.QuotientCoarsest', WHERE WHAT IT READS IS OF BULK AT MOST 1048576: true; the input reads as it did. -/
def quotientCoarsestUptoRow : OpenClaim := { program := "ytiabbjolepnjkaagreat", sum := "66bfd23028f849d2c667a37f1cc52c29e9c431200b4d9f1ea84492c4b46db2fc", func := "roundtable/roundtablelaw52.QuotientCoarsest", spec := "quotientCoarsest", unfollowed := true, recurses := true, plainKeys := false, apart := false, narrowed := true }
def QuotientCoarsestUptoSaid : Prop := quotientCoarsestUptoRow.holds Tryz.pinned (OpenSpec.upto quotientCoarsestSpec)

/-- 'roundtablelaw52.QuotientForgets', WHERE WHAT IT READS IS OF BULK AT MOST 1048576: true; the input reads as it did. -/
def quotientForgetsUptoRow : OpenClaim := { program := "ytiabbjolepnjkaagreat", sum := "66bfd23028f849d2c667a37f1cc52c29e9c431200b4d9f1ea84492c4b46db2fc", func := "roundtable/roundtablelaw52.QuotientForgets", spec := "quotientForgets", unfollowed := true, recurses := true, plainKeys := false, apart := false, narrowed := true }
def QuotientForgetsUptoSaid : Prop := quotientForgetsUptoRow.holds Tryz.pinned (OpenSpec.upto quotientForgetsSpec)

/-- 'roundtablelaw53.MessageFits', WHERE WHAT IT READS IS OF BULK AT MOST 1048576: true; the input reads as it did. -/
def messageFitsUptoRow : OpenClaim := { program := "ytiabbjolepnjkaagreat", sum := "66bfd23028f849d2c667a37f1cc52c29e9c431200b4d9f1ea84492c4b46db2fc", func := "roundtable/roundtablelaw53.MessageFits", spec := "messageFits", unfollowed := true, recurses := true, plainKeys := false, apart := false, narrowed := true }
def MessageFitsUptoSaid : Prop := messageFitsUptoRow.holds Tryz.pinned (OpenSpec.upto messageFitsSpec)

/-- 'roundtablelaw53.MessageDetermines', WHERE WHAT IT READS IS OF BULK AT MOST 1048576: true; the input reads as it did. -/
def messageDeterminesUptoRow : OpenClaim := { program := "ytiabbjolepnjkaagreat", sum := "66bfd23028f849d2c667a37f1cc52c29e9c431200b4d9f1ea84492c4b46db2fc", func := "roundtable/roundtablelaw53.MessageDetermines", spec := "messageDetermines", unfollowed := true, recurses := true, plainKeys := false, apart := false, narrowed := true }
def MessageDeterminesUptoSaid : Prop := messageDeterminesUptoRow.holds Tryz.pinned (OpenSpec.upto messageDeterminesSpec)

/-- 'roundtablelaw53.MessageSums', WHERE WHAT IT READS IS OF BULK AT MOST 1048576: true; the input reads as it did. -/
def messageSumsUptoRow : OpenClaim := { program := "ytiabbjolepnjkaagreat", sum := "66bfd23028f849d2c667a37f1cc52c29e9c431200b4d9f1ea84492c4b46db2fc", func := "roundtable/roundtablelaw53.MessageSums", spec := "messageSums", unfollowed := true, recurses := true, plainKeys := false, apart := false, narrowed := true }
def MessageSumsUptoSaid : Prop := messageSumsUptoRow.holds Tryz.pinned (OpenSpec.upto messageSumsSpec)

end Rows
end Go.Proofs.YtiabbjolepnjkaaGreat
