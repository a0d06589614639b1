/-
  No cell of these rows narrows 'for every input' (looked for: loops, veiled, ifaces, maps, wideKeys, modest, calm, conditions, laid).
  DERIVED. THE GIVEN ROWS OF THIS SEAT. 6 by the template 'for every input the law returns true; each argument reads behind the call as it read before'; 0 by the template 'total and deterministic' (their statements: YtbomoiecojdicaaTotals.lean).
  GIVEN WITH THE SEED: the statements are not yours to turn. If you find one false, say at which input.
  Laid BY PROGRAM, IN A SANDBOX (cutbox-rows.mjs): the forced cells as the released guide's own fill.sh prints them over the translation cfdcdd3a7cc969bd… (all of the seat's roots in one cut). By AI agents, Wed Nov 11 2026. No macro, syntax, notation, axiom, sorry.
-/
import Derived.Test.YtbomoiecojdicaaChecked
import GoSem.Claim
import GoSem.ClaimJoined
import GoSem.ClaimMapViews
import Derived.JoinedTies
import Derived.KernelRfl
namespace Go.Proofs.Ytbomoiecojdicaa
/- THE CELL 'sum', in the pinned program and in every row, IS THE sha256 OF THE DUMP (.gsa) THAT YtbomoiecojdicaaProg.lean LOADS. Nothing in Lean hashes anything: it is a label: what it is worth is what the hold of that sum in a sandbox is worth. -/
noncomputable def Try.pinned : Pinned := { name := "ytbomoiecojdicaa", sum := "cfdcdd3a7cc969bd6b785406cddc6d58c2c666f8de9ee5715e645226d6a138ea", checked := Try.checked }
namespace Rows
def none {H : Type} : Left H := { results := [], args := [] }

/-- 'innkeeperlaw34.ClockMatchesReference': WHATEVER THE INPUT: true; the input reads as it did. -/
def clockMatchesReferenceSpec : ChangeSpec := { name := "clockMatchesReference", fn := fun _ => fun
  | [d1, d2, d3] => { results := [.lit (.bool true)], args := [d1, d2, d3] }
  | _ => none }
def clockMatchesReferenceRow : OpenClaim := { program := "ytbomoiecojdicaa", sum := "cfdcdd3a7cc969bd6b785406cddc6d58c2c666f8de9ee5715e645226d6a138ea", func := "innkeeper/innkeeperlaw34.ClockMatchesReference", spec := "clockMatchesReference", unfollowed := true, recurses := true, apart := false }
def ClockMatchesReferenceSaid : Prop := clockMatchesReferenceRow.holds Try.pinned (OpenSpec.ofChange clockMatchesReferenceSpec)

/-- ITS FALSE NEIGHBOUR: 'it returns false'. Refute it at one input. -/
def clockMatchesReferenceWrong : ChangeSpec := { name := "clockMatchesReference", fn := fun _ => fun
  | [d1, d2, d3] => { results := [.lit (.bool false)], args := [d1, d2, d3] }
  | _ => none }
def ClockMatchesReferenceWrongFalsely : Prop := clockMatchesReferenceRow.holds Try.pinned (OpenSpec.ofChange clockMatchesReferenceWrong)

/-- 'innkeeperlaw34.ClockTrue': WHATEVER THE INPUT: true; the input reads as it did. -/
def clockTrueSpec : ChangeSpec := { name := "clockTrue", fn := fun _ => fun
  | [d1, d2, d3] => { results := [.lit (.bool true)], args := [d1, d2, d3] }
  | _ => none }
def clockTrueRow : OpenClaim := { program := "ytbomoiecojdicaa", sum := "cfdcdd3a7cc969bd6b785406cddc6d58c2c666f8de9ee5715e645226d6a138ea", func := "innkeeper/innkeeperlaw34.ClockTrue", spec := "clockTrue", unfollowed := true, recurses := true, apart := false }
def ClockTrueSaid : Prop := clockTrueRow.holds Try.pinned (OpenSpec.ofChange clockTrueSpec)

/-- ITS FALSE NEIGHBOUR: 'it returns false'. Refute it at one input. -/
def clockTrueWrong : ChangeSpec := { name := "clockTrue", fn := fun _ => fun
  | [d1, d2, d3] => { results := [.lit (.bool false)], args := [d1, d2, d3] }
  | _ => none }
def ClockTrueWrongFalsely : Prop := clockTrueRow.holds Try.pinned (OpenSpec.ofChange clockTrueWrong)

/-- 'innkeeperlaw34.ClockSurely': WHATEVER THE INPUT: true; the input reads as it did. -/
def clockSurelySpec : ChangeSpec := { name := "clockSurely", fn := fun _ => fun
  | [d1, d2, d3] => { results := [.lit (.bool true)], args := [d1, d2, d3] }
  | _ => none }
def clockSurelyRow : OpenClaim := { program := "ytbomoiecojdicaa", sum := "cfdcdd3a7cc969bd6b785406cddc6d58c2c666f8de9ee5715e645226d6a138ea", func := "innkeeper/innkeeperlaw34.ClockSurely", spec := "clockSurely", unfollowed := true, recurses := true, apart := false }
def ClockSurelySaid : Prop := clockSurelyRow.holds Try.pinned (OpenSpec.ofChange clockSurelySpec)

/-- ITS FALSE NEIGHBOUR: 'it returns false'. Refute it at one input. -/
def clockSurelyWrong : ChangeSpec := { name := "clockSurely", fn := fun _ => fun
  | [d1, d2, d3] => { results := [.lit (.bool false)], args := [d1, d2, d3] }
  | _ => none }
def ClockSurelyWrongFalsely : Prop := clockSurelyRow.holds Try.pinned (OpenSpec.ofChange clockSurelyWrong)

/-- 'innkeeperlaw34.ClockWider': WHATEVER THE INPUT: true; the input reads as it did. -/
def clockWiderSpec : ChangeSpec := { name := "clockWider", fn := fun _ => fun
  | [d1, d2, d3, d4] => { results := [.lit (.bool true)], args := [d1, d2, d3, d4] }
  | _ => none }
def clockWiderRow : OpenClaim := { program := "ytbomoiecojdicaa", sum := "cfdcdd3a7cc969bd6b785406cddc6d58c2c666f8de9ee5715e645226d6a138ea", func := "innkeeper/innkeeperlaw34.ClockWider", spec := "clockWider", unfollowed := true, recurses := true, apart := false }
def ClockWiderSaid : Prop := clockWiderRow.holds Try.pinned (OpenSpec.ofChange clockWiderSpec)

/-- ITS FALSE NEIGHBOUR: 'it returns false'. Refute it at one input. -/
def clockWiderWrong : ChangeSpec := { name := "clockWider", fn := fun _ => fun
  | [d1, d2, d3, d4] => { results := [.lit (.bool false)], args := [d1, d2, d3, d4] }
  | _ => none }
def ClockWiderWrongFalsely : Prop := clockWiderRow.holds Try.pinned (OpenSpec.ofChange clockWiderWrong)

/-- 'innkeeperlaw34.ClockSides': WHATEVER THE INPUT: true; the input reads as it did. -/
def clockSidesSpec : ChangeSpec := { name := "clockSides", fn := fun _ => fun
  | [d1, d2, d3] => { results := [.lit (.bool true)], args := [d1, d2, d3] }
  | _ => none }
def clockSidesRow : OpenClaim := { program := "ytbomoiecojdicaa", sum := "cfdcdd3a7cc969bd6b785406cddc6d58c2c666f8de9ee5715e645226d6a138ea", func := "innkeeper/innkeeperlaw34.ClockSides", spec := "clockSides", unfollowed := true, recurses := true, apart := false }
def ClockSidesSaid : Prop := clockSidesRow.holds Try.pinned (OpenSpec.ofChange clockSidesSpec)

/-- ITS FALSE NEIGHBOUR: 'it returns false'. Refute it at one input. -/
def clockSidesWrong : ChangeSpec := { name := "clockSides", fn := fun _ => fun
  | [d1, d2, d3] => { results := [.lit (.bool false)], args := [d1, d2, d3] }
  | _ => none }
def ClockSidesWrongFalsely : Prop := clockSidesRow.holds Try.pinned (OpenSpec.ofChange clockSidesWrong)

/-- 'innkeeperlaw34.ClockTwo': WHATEVER THE INPUT: true; the input reads as it did. -/
def clockTwoSpec : ChangeSpec := { name := "clockTwo", fn := fun _ => fun
  | [d1, d2, d3, d4, d5, d6] => { results := [.lit (.bool true)], args := [d1, d2, d3, d4, d5, d6] }
  | _ => none }
def clockTwoRow : OpenClaim := { program := "ytbomoiecojdicaa", sum := "cfdcdd3a7cc969bd6b785406cddc6d58c2c666f8de9ee5715e645226d6a138ea", func := "innkeeper/innkeeperlaw34.ClockTwo", spec := "clockTwo", unfollowed := true, recurses := true, apart := false }
def ClockTwoSaid : Prop := clockTwoRow.holds Try.pinned (OpenSpec.ofChange clockTwoSpec)

/-- ITS FALSE NEIGHBOUR: 'it returns false'. Refute it at one input. -/
def clockTwoWrong : ChangeSpec := { name := "clockTwo", fn := fun _ => fun
  | [d1, d2, d3, d4, d5, d6] => { results := [.lit (.bool false)], args := [d1, d2, d3, d4, d5, d6] }
  | _ => none }
def ClockTwoWrongFalsely : Prop := clockTwoRow.holds Try.pinned (OpenSpec.ofChange clockTwoWrong)

/- THE SECOND FORM. 'bulk': how many values and letters a reading holds, each counted each time it is reached (what is shared counts as often as it is met; a slice's spare places count too). A statement '..UptoSaid' is the law's where the arguments, and the package variables that the reading takes, are together of bulk at most 1048576: NARROWER than '..Said'. Prove '..Said' where nothing that the law and all that it calls make is longer than what came in: it says more and counts as full. Else prove '..UptoSaid'. A law counts once. -/
mutual
def uptoBulk {H : Type} : DataW H → Nat
  | .lit (.string bytes) => bytes.length + 1
  | .lit _ => 1
  | .nil => 1
  | .ptr d => uptoBulk d + 1
  | .slice elems spare => uptoBulkAll elems + uptoBulkAll spare + 1
  | .agg parts => uptoBulkAll parts + 1
  | .iface _ d => uptoBulk d + 1
  | .map entries => uptoBulkEntries entries + 1
  | .held _ => 1
def uptoBulkAll {H : Type} : List (DataW H) → Nat
  | [] => 0
  | d :: r => uptoBulk d + uptoBulkAll r
def uptoBulkEntries {H : Type} : List (Lit × DataW H) → Nat
  | [] => 0
  | x :: r => uptoBulkEntry x + uptoBulkEntries r
def uptoBulkEntry {H : Type} : Lit × DataW H → Nat
  | (.string bytes, d) => bytes.length + uptoBulk d + 1
  | (_, d) => uptoBulk d + 1
 end
def uptoSmall : (H : Type) → List (DataW H) → Bool := fun _ ds => decide (uptoBulkAll ds ≤ 1048576)
def OpenSpec.upto (s : _root_.Go.ChangeSpec) : _root_.Go.OpenSpec := { _root_.Go.OpenSpec.ofChange s with cond := some uptoSmall }

/-- 'innkeeperlaw34.ClockMatchesReference', WHERE WHAT IT READS IS OF BULK AT MOST 1048576: true; the input reads as it did. -/
def clockMatchesReferenceUptoRow : OpenClaim := { program := "ytbomoiecojdicaa", sum := "cfdcdd3a7cc969bd6b785406cddc6d58c2c666f8de9ee5715e645226d6a138ea", func := "innkeeper/innkeeperlaw34.ClockMatchesReference", spec := "clockMatchesReference", unfollowed := true, recurses := true, apart := false, narrowed := true }
def ClockMatchesReferenceUptoSaid : Prop := clockMatchesReferenceUptoRow.holds Try.pinned (OpenSpec.upto clockMatchesReferenceSpec)

/-- 'innkeeperlaw34.ClockTrue', WHERE WHAT IT READS IS OF BULK AT MOST 1048576: true; the input reads as it did. -/
def clockTrueUptoRow : OpenClaim := { program := "ytbomoiecojdicaa", sum := "cfdcdd3a7cc969bd6b785406cddc6d58c2c666f8de9ee5715e645226d6a138ea", func := "innkeeper/innkeeperlaw34.ClockTrue", spec := "clockTrue", unfollowed := true, recurses := true, apart := false, narrowed := true }
def ClockTrueUptoSaid : Prop := clockTrueUptoRow.holds Try.pinned (OpenSpec.upto clockTrueSpec)

/-- 'innkeeperlaw34.ClockSurely', WHERE WHAT IT READS IS OF BULK AT MOST 1048576: true; the input reads as it did. -/
def clockSurelyUptoRow : OpenClaim := { program := "ytbomoiecojdicaa", sum := "cfdcdd3a7cc969bd6b785406cddc6d58c2c666f8de9ee5715e645226d6a138ea", func := "innkeeper/innkeeperlaw34.ClockSurely", spec := "clockSurely", unfollowed := true, recurses := true, apart := false, narrowed := true }
def ClockSurelyUptoSaid : Prop := clockSurelyUptoRow.holds Try.pinned (OpenSpec.upto clockSurelySpec)

/-- 'innkeeperlaw34.ClockWider', WHERE WHAT IT READS IS OF BULK AT MOST 1048576: true; the input reads as it did. -/
def clockWiderUptoRow : OpenClaim := { program := "ytbomoiecojdicaa", sum := "cfdcdd3a7cc969bd6b785406cddc6d58c2c666f8de9ee5715e645226d6a138ea", func := "innkeeper/innkeeperlaw34.ClockWider", spec := "clockWider", unfollowed := true, recurses := true, apart := false, narrowed := true }
def ClockWiderUptoSaid : Prop := clockWiderUptoRow.holds Try.pinned (OpenSpec.upto clockWiderSpec)

/-- 'innkeeperlaw34.ClockSides', WHERE WHAT IT READS IS OF BULK AT MOST 1048576: true; the input reads as it did. -/
def clockSidesUptoRow : OpenClaim := { program := "ytbomoiecojdicaa", sum := "cfdcdd3a7cc969bd6b785406cddc6d58c2c666f8de9ee5715e645226d6a138ea", func := "innkeeper/innkeeperlaw34.ClockSides", spec := "clockSides", unfollowed := true, recurses := true, apart := false, narrowed := true }
def ClockSidesUptoSaid : Prop := clockSidesUptoRow.holds Try.pinned (OpenSpec.upto clockSidesSpec)

/-- 'innkeeperlaw34.ClockTwo', WHERE WHAT IT READS IS OF BULK AT MOST 1048576: true; the input reads as it did. -/
def clockTwoUptoRow : OpenClaim := { program := "ytbomoiecojdicaa", sum := "cfdcdd3a7cc969bd6b785406cddc6d58c2c666f8de9ee5715e645226d6a138ea", func := "innkeeper/innkeeperlaw34.ClockTwo", spec := "clockTwo", unfollowed := true, recurses := true, apart := false, narrowed := true }
def ClockTwoUptoSaid : Prop := clockTwoUptoRow.holds Try.pinned (OpenSpec.upto clockTwoSpec)

end Rows
end Go.Proofs.Ytbomoiecojdicaa
