/-
  NARROWER THAN 'FOR EVERY INPUT', by the rows' own cells (each row's printed sentence says how): CardNewest: laid · CardFurther: laid · CardLists: laid · CardMade: laid · CardChanged: laid · LockPower: laid · LockRevokes: laid · LockCourse: laid.
  DERIVED. THE GIVEN ROWS OF THIS SEAT. 8 by the template 'for every input the law returns true; each argument reads behind the call as it read before'; 0 by the template 'total and deterministic' (their statements: YtoehobaigfmnpaaDoorTotals.lean).
  GIVEN WITH THE SEED: the statements are not yours to turn. If you find one false, say at which input.
  Laid BY PROGRAM, IN A SANDBOX (cutbox-rows.mjs): the forced cells as the released guide's own fill.sh prints them over the translation 135ea55aba8bb4f9… (all of the seat's roots in one cut). By AI agents, Wed Nov 11 2026. No macro, syntax, notation, axiom, sorry.
-/
import Derived.Test.YtoehobaigfmnpaaDoorChecked
import GoSem.Claim
import GoSem.ClaimJoined
import GoSem.ClaimMapViews
import Derived.JoinedTies
import Derived.KernelRfl
namespace Go.Proofs.YtoehobaigfmnpaaDoor
/- THE CELL 'sum', in the pinned program and in every row, IS THE sha256 OF THE DUMP (.gsa) THAT YtoehobaigfmnpaaDoorProg.lean LOADS. Nothing in Lean hashes anything: it is a label: what it is worth is what the hold of that sum in a sandbox is worth. -/
noncomputable def Tryd.pinned : Pinned := { name := "ytoehobaigfmnpaadoor", sum := "135ea55aba8bb4f9bc46a92d52107e672e6afc9958eff55aa63ccab2fd1be850", checked := Tryd.checked }
namespace Rows
def none {H : Type} : Left H := { results := [], args := [] }

/- WHAT THE LISTED PACKAGE-LEVEL VARIABLES READ AS WHEN THE CALL BEGINS. Each datum BY PROGRAM (the guide's laid-datum.mjs) off the statement by which the dump's own 'gosem.cut.vars' lays the variable. In a bare row this is a premise. The card (YtoehobaigfmnpaaDoorCards.lean) ties it to the program's text. -/
def laid_math_bits_deBruijn32tab {H : Type} : DataW H := .agg [.lit (.int .u8 0), .lit (.int .u8 1), .lit (.int .u8 28), .lit (.int .u8 2), .lit (.int .u8 29), .lit (.int .u8 14), .lit (.int .u8 24), .lit (.int .u8 3), .lit (.int .u8 30), .lit (.int .u8 22), .lit (.int .u8 20), .lit (.int .u8 15), .lit (.int .u8 25), .lit (.int .u8 17), .lit (.int .u8 4), .lit (.int .u8 8), .lit (.int .u8 31), .lit (.int .u8 27), .lit (.int .u8 13), .lit (.int .u8 23), .lit (.int .u8 21), .lit (.int .u8 19), .lit (.int .u8 16), .lit (.int .u8 7), .lit (.int .u8 26), .lit (.int .u8 12), .lit (.int .u8 18), .lit (.int .u8 6), .lit (.int .u8 11), .lit (.int .u8 5), .lit (.int .u8 10), .lit (.int .u8 9)]
def laid_math_bits_deBruijn64tab {H : Type} : DataW H := .agg [.lit (.int .u8 0), .lit (.int .u8 1), .lit (.int .u8 56), .lit (.int .u8 2), .lit (.int .u8 57), .lit (.int .u8 49), .lit (.int .u8 28), .lit (.int .u8 3), .lit (.int .u8 61), .lit (.int .u8 58), .lit (.int .u8 42), .lit (.int .u8 50), .lit (.int .u8 38), .lit (.int .u8 29), .lit (.int .u8 17), .lit (.int .u8 4), .lit (.int .u8 62), .lit (.int .u8 47), .lit (.int .u8 59), .lit (.int .u8 36), .lit (.int .u8 45), .lit (.int .u8 43), .lit (.int .u8 51), .lit (.int .u8 22), .lit (.int .u8 53), .lit (.int .u8 39), .lit (.int .u8 33), .lit (.int .u8 30), .lit (.int .u8 24), .lit (.int .u8 18), .lit (.int .u8 12), .lit (.int .u8 5), .lit (.int .u8 63), .lit (.int .u8 55), .lit (.int .u8 48), .lit (.int .u8 27), .lit (.int .u8 60), .lit (.int .u8 41), .lit (.int .u8 37), .lit (.int .u8 16), .lit (.int .u8 46), .lit (.int .u8 35), .lit (.int .u8 44), .lit (.int .u8 21), .lit (.int .u8 52), .lit (.int .u8 32), .lit (.int .u8 23), .lit (.int .u8 11), .lit (.int .u8 54), .lit (.int .u8 26), .lit (.int .u8 40), .lit (.int .u8 15), .lit (.int .u8 34), .lit (.int .u8 20), .lit (.int .u8 31), .lit (.int .u8 10), .lit (.int .u8 25), .lit (.int .u8 14), .lit (.int .u8 19), .lit (.int .u8 9), .lit (.int .u8 13), .lit (.int .u8 8), .lit (.int .u8 7), .lit (.int .u8 6)]
def laid_internal_strconv_uint64pow10 {H : Type} : DataW H := .agg [.lit (.int .u64 1), .lit (.int .u64 10), .lit (.int .u64 100), .lit (.int .u64 1000), .lit (.int .u64 10000), .lit (.int .u64 100000), .lit (.int .u64 1000000), .lit (.int .u64 10000000), .lit (.int .u64 100000000), .lit (.int .u64 1000000000), .lit (.int .u64 10000000000), .lit (.int .u64 100000000000), .lit (.int .u64 1000000000000), .lit (.int .u64 10000000000000), .lit (.int .u64 100000000000000), .lit (.int .u64 1000000000000000), .lit (.int .u64 10000000000000000), .lit (.int .u64 100000000000000000), .lit (.int .u64 1000000000000000000), .lit (.int .u64 10000000000000000000)]

/-- 'innkeeperlaw35.CardNewest': WHATEVER THE INPUT: true; the input reads as it did. -/
def cardNewestSpec : ChangeSpec := { name := "cardNewest", fn := fun _ => fun
  | [d1, d2] => { results := [.lit (.bool true)], args := [d1, d2] }
  | _ => none }
def cardNewestRow : OpenClaim := { program := "ytoehobaigfmnpaadoor", sum := "135ea55aba8bb4f9bc46a92d52107e672e6afc9958eff55aa63ccab2fd1be850", func := "innkeeper/innkeeperlaw35.CardNewest", spec := "cardNewest", unfollowed := true, recurses := true, named := ["internal/strconv.uint64pow10", "math/bits.deBruijn32tab", "math/bits.deBruijn64tab"], apart := false, laid := [("math/bits.deBruijn32tab", laid_math_bits_deBruijn32tab), ("math/bits.deBruijn64tab", laid_math_bits_deBruijn64tab), ("internal/strconv.uint64pow10", laid_internal_strconv_uint64pow10)] }
def CardNewestSaid : Prop := cardNewestRow.holds Tryd.pinned (OpenSpec.ofChange cardNewestSpec)

/-- ITS FALSE NEIGHBOUR: 'it returns false'. Refute it at one input. -/
def cardNewestWrong : ChangeSpec := { name := "cardNewest", fn := fun _ => fun
  | [d1, d2] => { results := [.lit (.bool false)], args := [d1, d2] }
  | _ => none }
def CardNewestWrongFalsely : Prop := cardNewestRow.holds Tryd.pinned (OpenSpec.ofChange cardNewestWrong)

/-- 'innkeeperlaw35.CardFurther': WHATEVER THE INPUT: true; the input reads as it did. -/
def cardFurtherSpec : ChangeSpec := { name := "cardFurther", fn := fun _ => fun
  | [d1, d2, d3, d4] => { results := [.lit (.bool true)], args := [d1, d2, d3, d4] }
  | _ => none }
def cardFurtherRow : OpenClaim := { program := "ytoehobaigfmnpaadoor", sum := "135ea55aba8bb4f9bc46a92d52107e672e6afc9958eff55aa63ccab2fd1be850", func := "innkeeper/innkeeperlaw35.CardFurther", spec := "cardFurther", unfollowed := true, recurses := true, named := ["internal/strconv.uint64pow10", "math/bits.deBruijn32tab", "math/bits.deBruijn64tab"], apart := false, laid := [("math/bits.deBruijn32tab", laid_math_bits_deBruijn32tab), ("math/bits.deBruijn64tab", laid_math_bits_deBruijn64tab), ("internal/strconv.uint64pow10", laid_internal_strconv_uint64pow10)] }
def CardFurtherSaid : Prop := cardFurtherRow.holds Tryd.pinned (OpenSpec.ofChange cardFurtherSpec)

/-- ITS FALSE NEIGHBOUR: 'it returns false'. Refute it at one input. -/
def cardFurtherWrong : ChangeSpec := { name := "cardFurther", fn := fun _ => fun
  | [d1, d2, d3, d4] => { results := [.lit (.bool false)], args := [d1, d2, d3, d4] }
  | _ => none }
def CardFurtherWrongFalsely : Prop := cardFurtherRow.holds Tryd.pinned (OpenSpec.ofChange cardFurtherWrong)

/-- 'innkeeperlaw35.CardLists': WHATEVER THE INPUT: true; the input reads as it did. -/
def cardListsSpec : ChangeSpec := { name := "cardLists", fn := fun _ => fun
  | [d1, d2, d3] => { results := [.lit (.bool true)], args := [d1, d2, d3] }
  | _ => none }
def cardListsRow : OpenClaim := { program := "ytoehobaigfmnpaadoor", sum := "135ea55aba8bb4f9bc46a92d52107e672e6afc9958eff55aa63ccab2fd1be850", func := "innkeeper/innkeeperlaw35.CardLists", spec := "cardLists", unfollowed := true, recurses := true, named := ["internal/strconv.uint64pow10", "math/bits.deBruijn32tab", "math/bits.deBruijn64tab"], apart := false, laid := [("math/bits.deBruijn32tab", laid_math_bits_deBruijn32tab), ("math/bits.deBruijn64tab", laid_math_bits_deBruijn64tab), ("internal/strconv.uint64pow10", laid_internal_strconv_uint64pow10)] }
def CardListsSaid : Prop := cardListsRow.holds Tryd.pinned (OpenSpec.ofChange cardListsSpec)

/-- ITS FALSE NEIGHBOUR: 'it returns false'. Refute it at one input. -/
def cardListsWrong : ChangeSpec := { name := "cardLists", fn := fun _ => fun
  | [d1, d2, d3] => { results := [.lit (.bool false)], args := [d1, d2, d3] }
  | _ => none }
def CardListsWrongFalsely : Prop := cardListsRow.holds Tryd.pinned (OpenSpec.ofChange cardListsWrong)

/-- 'innkeeperlaw35.CardMade': WHATEVER THE INPUT: true; the input reads as it did. -/
def cardMadeSpec : ChangeSpec := { name := "cardMade", fn := fun _ => fun
  | [d1, d2, d3, d4] => { results := [.lit (.bool true)], args := [d1, d2, d3, d4] }
  | _ => none }
def cardMadeRow : OpenClaim := { program := "ytoehobaigfmnpaadoor", sum := "135ea55aba8bb4f9bc46a92d52107e672e6afc9958eff55aa63ccab2fd1be850", func := "innkeeper/innkeeperlaw35.CardMade", spec := "cardMade", unfollowed := true, recurses := true, named := ["internal/strconv.uint64pow10", "math/bits.deBruijn32tab", "math/bits.deBruijn64tab"], apart := false, laid := [("math/bits.deBruijn32tab", laid_math_bits_deBruijn32tab), ("math/bits.deBruijn64tab", laid_math_bits_deBruijn64tab), ("internal/strconv.uint64pow10", laid_internal_strconv_uint64pow10)] }
def CardMadeSaid : Prop := cardMadeRow.holds Tryd.pinned (OpenSpec.ofChange cardMadeSpec)

/-- ITS FALSE NEIGHBOUR: 'it returns false'. Refute it at one input. -/
def cardMadeWrong : ChangeSpec := { name := "cardMade", fn := fun _ => fun
  | [d1, d2, d3, d4] => { results := [.lit (.bool false)], args := [d1, d2, d3, d4] }
  | _ => none }
def CardMadeWrongFalsely : Prop := cardMadeRow.holds Tryd.pinned (OpenSpec.ofChange cardMadeWrong)

/-- 'innkeeperlaw35.CardChanged': WHATEVER THE INPUT: true; the input reads as it did. -/
def cardChangedSpec : ChangeSpec := { name := "cardChanged", fn := fun _ => fun
  | [d1, d2, d3, d4, d5] => { results := [.lit (.bool true)], args := [d1, d2, d3, d4, d5] }
  | _ => none }
def cardChangedRow : OpenClaim := { program := "ytoehobaigfmnpaadoor", sum := "135ea55aba8bb4f9bc46a92d52107e672e6afc9958eff55aa63ccab2fd1be850", func := "innkeeper/innkeeperlaw35.CardChanged", spec := "cardChanged", unfollowed := true, recurses := true, named := ["internal/strconv.uint64pow10", "math/bits.deBruijn32tab", "math/bits.deBruijn64tab"], apart := false, laid := [("math/bits.deBruijn32tab", laid_math_bits_deBruijn32tab), ("math/bits.deBruijn64tab", laid_math_bits_deBruijn64tab), ("internal/strconv.uint64pow10", laid_internal_strconv_uint64pow10)] }
def CardChangedSaid : Prop := cardChangedRow.holds Tryd.pinned (OpenSpec.ofChange cardChangedSpec)

/-- ITS FALSE NEIGHBOUR: 'it returns false'. Refute it at one input. -/
def cardChangedWrong : ChangeSpec := { name := "cardChanged", fn := fun _ => fun
  | [d1, d2, d3, d4, d5] => { results := [.lit (.bool false)], args := [d1, d2, d3, d4, d5] }
  | _ => none }
def CardChangedWrongFalsely : Prop := cardChangedRow.holds Tryd.pinned (OpenSpec.ofChange cardChangedWrong)

/-- 'innkeeperlaw37.LockPower': WHATEVER THE INPUT: true; the input reads as it did. -/
def lockPowerSpec : ChangeSpec := { name := "lockPower", fn := fun _ => fun
  | [d1, d2, d3, d4] => { results := [.lit (.bool true)], args := [d1, d2, d3, d4] }
  | _ => none }
def lockPowerRow : OpenClaim := { program := "ytoehobaigfmnpaadoor", sum := "135ea55aba8bb4f9bc46a92d52107e672e6afc9958eff55aa63ccab2fd1be850", func := "innkeeper/innkeeperlaw37.LockPower", spec := "lockPower", inPlace := ["slices.overlaps[int]"], unfollowed := true, recurses := true, named := ["internal/strconv.uint64pow10", "math/bits.deBruijn32tab", "math/bits.deBruijn64tab"], apart := false, laid := [("math/bits.deBruijn32tab", laid_math_bits_deBruijn32tab), ("math/bits.deBruijn64tab", laid_math_bits_deBruijn64tab), ("internal/strconv.uint64pow10", laid_internal_strconv_uint64pow10)] }
def LockPowerSaid : Prop := lockPowerRow.holds Tryd.pinned (OpenSpec.ofChange lockPowerSpec)

/-- ITS FALSE NEIGHBOUR: 'it returns false'. Refute it at one input. -/
def lockPowerWrong : ChangeSpec := { name := "lockPower", fn := fun _ => fun
  | [d1, d2, d3, d4] => { results := [.lit (.bool false)], args := [d1, d2, d3, d4] }
  | _ => none }
def LockPowerWrongFalsely : Prop := lockPowerRow.holds Tryd.pinned (OpenSpec.ofChange lockPowerWrong)

/-- 'innkeeperlaw37.LockRevokes': WHATEVER THE INPUT: true; the input reads as it did. -/
def lockRevokesSpec : ChangeSpec := { name := "lockRevokes", fn := fun _ => fun
  | [d1, d2, d3, d4, d5] => { results := [.lit (.bool true)], args := [d1, d2, d3, d4, d5] }
  | _ => none }
def lockRevokesRow : OpenClaim := { program := "ytoehobaigfmnpaadoor", sum := "135ea55aba8bb4f9bc46a92d52107e672e6afc9958eff55aa63ccab2fd1be850", func := "innkeeper/innkeeperlaw37.LockRevokes", spec := "lockRevokes", inPlace := ["slices.overlaps[int]"], unfollowed := true, recurses := true, named := ["internal/strconv.uint64pow10", "math/bits.deBruijn32tab", "math/bits.deBruijn64tab"], apart := false, laid := [("math/bits.deBruijn32tab", laid_math_bits_deBruijn32tab), ("math/bits.deBruijn64tab", laid_math_bits_deBruijn64tab), ("internal/strconv.uint64pow10", laid_internal_strconv_uint64pow10)] }
def LockRevokesSaid : Prop := lockRevokesRow.holds Tryd.pinned (OpenSpec.ofChange lockRevokesSpec)

/-- ITS FALSE NEIGHBOUR: 'it returns false'. Refute it at one input. -/
def lockRevokesWrong : ChangeSpec := { name := "lockRevokes", fn := fun _ => fun
  | [d1, d2, d3, d4, d5] => { results := [.lit (.bool false)], args := [d1, d2, d3, d4, d5] }
  | _ => none }
def LockRevokesWrongFalsely : Prop := lockRevokesRow.holds Tryd.pinned (OpenSpec.ofChange lockRevokesWrong)

/-- 'innkeeperlaw37.LockCourse': WHATEVER THE INPUT: true; the input reads as it did. -/
def lockCourseSpec : ChangeSpec := { name := "lockCourse", fn := fun _ => fun
  | [d1, d2] => { results := [.lit (.bool true)], args := [d1, d2] }
  | _ => none }
def lockCourseRow : OpenClaim := { program := "ytoehobaigfmnpaadoor", sum := "135ea55aba8bb4f9bc46a92d52107e672e6afc9958eff55aa63ccab2fd1be850", func := "innkeeper/innkeeperlaw37.LockCourse", spec := "lockCourse", inPlace := ["slices.overlaps[int]"], unfollowed := true, recurses := true, named := ["internal/strconv.uint64pow10", "math/bits.deBruijn32tab", "math/bits.deBruijn64tab"], apart := false, laid := [("math/bits.deBruijn32tab", laid_math_bits_deBruijn32tab), ("math/bits.deBruijn64tab", laid_math_bits_deBruijn64tab), ("internal/strconv.uint64pow10", laid_internal_strconv_uint64pow10)] }
def LockCourseSaid : Prop := lockCourseRow.holds Tryd.pinned (OpenSpec.ofChange lockCourseSpec)

/-- ITS FALSE NEIGHBOUR: 'it returns false'. Refute it at one input. -/
def lockCourseWrong : ChangeSpec := { name := "lockCourse", fn := fun _ => fun
  | [d1, d2] => { results := [.lit (.bool false)], args := [d1, d2] }
  | _ => none }
def LockCourseWrongFalsely : Prop := lockCourseRow.holds Tryd.pinned (OpenSpec.ofChange lockCourseWrong)

/- THE SECOND FORM. 'bulk': how many values and letters a reading holds, each counted each time it is reached (what is shared counts as often as it is met; a slice's spare places count too). A statement '..UptoSaid' is the law's where the arguments, and the package variables that the reading takes, are together of bulk at most 1048576: NARROWER than '..Said'. Prove '..Said' where nothing that the law and all that it calls make is longer than what came in: it says more and counts as full. Else prove '..UptoSaid'. A law counts once. -/
mutual
def uptoBulk {H : Type} : DataW H → Nat
  | .lit (.string bytes) => bytes.length + 1
  | .lit _ => 1
  | .nil => 1
  | .ptr d => uptoBulk d + 1
  | .slice elems spare => uptoBulkAll elems + uptoBulkAll spare + 1
  | .agg parts => uptoBulkAll parts + 1
  | .iface _ d => uptoBulk d + 1
  | .map entries => uptoBulkEntries entries + 1
  | .held _ => 1
def uptoBulkAll {H : Type} : List (DataW H) → Nat
  | [] => 0
  | d :: r => uptoBulk d + uptoBulkAll r
def uptoBulkEntries {H : Type} : List (Lit × DataW H) → Nat
  | [] => 0
  | x :: r => uptoBulkEntry x + uptoBulkEntries r
def uptoBulkEntry {H : Type} : Lit × DataW H → Nat
  | (.string bytes, d) => bytes.length + uptoBulk d + 1
  | (_, d) => uptoBulk d + 1
 end
def uptoSmall : (H : Type) → List (DataW H) → Bool := fun _ ds => decide (uptoBulkAll ds ≤ 1048576)
def OpenSpec.upto (s : _root_.Go.ChangeSpec) : _root_.Go.OpenSpec := { _root_.Go.OpenSpec.ofChange s with cond := some uptoSmall }

/-- 'innkeeperlaw35.CardNewest', WHERE WHAT IT READS IS OF BULK AT MOST 1048576: true; the input reads as it did. -/
def cardNewestUptoRow : OpenClaim := { program := "ytoehobaigfmnpaadoor", sum := "135ea55aba8bb4f9bc46a92d52107e672e6afc9958eff55aa63ccab2fd1be850", func := "innkeeper/innkeeperlaw35.CardNewest", spec := "cardNewest", unfollowed := true, recurses := true, named := ["internal/strconv.uint64pow10", "math/bits.deBruijn32tab", "math/bits.deBruijn64tab"], apart := false, laid := [("math/bits.deBruijn32tab", laid_math_bits_deBruijn32tab), ("math/bits.deBruijn64tab", laid_math_bits_deBruijn64tab), ("internal/strconv.uint64pow10", laid_internal_strconv_uint64pow10)], narrowed := true }
def CardNewestUptoSaid : Prop := cardNewestUptoRow.holds Tryd.pinned (OpenSpec.upto cardNewestSpec)

/-- 'innkeeperlaw35.CardFurther', WHERE WHAT IT READS IS OF BULK AT MOST 1048576: true; the input reads as it did. -/
def cardFurtherUptoRow : OpenClaim := { program := "ytoehobaigfmnpaadoor", sum := "135ea55aba8bb4f9bc46a92d52107e672e6afc9958eff55aa63ccab2fd1be850", func := "innkeeper/innkeeperlaw35.CardFurther", spec := "cardFurther", unfollowed := true, recurses := true, named := ["internal/strconv.uint64pow10", "math/bits.deBruijn32tab", "math/bits.deBruijn64tab"], apart := false, laid := [("math/bits.deBruijn32tab", laid_math_bits_deBruijn32tab), ("math/bits.deBruijn64tab", laid_math_bits_deBruijn64tab), ("internal/strconv.uint64pow10", laid_internal_strconv_uint64pow10)], narrowed := true }
def CardFurtherUptoSaid : Prop := cardFurtherUptoRow.holds Tryd.pinned (OpenSpec.upto cardFurtherSpec)

/-- 'innkeeperlaw35.CardLists', WHERE WHAT IT READS IS OF BULK AT MOST 1048576: true; the input reads as it did. -/
def cardListsUptoRow : OpenClaim := { program := "ytoehobaigfmnpaadoor", sum := "135ea55aba8bb4f9bc46a92d52107e672e6afc9958eff55aa63ccab2fd1be850", func := "innkeeper/innkeeperlaw35.CardLists", spec := "cardLists", unfollowed := true, recurses := true, named := ["internal/strconv.uint64pow10", "math/bits.deBruijn32tab", "math/bits.deBruijn64tab"], apart := false, laid := [("math/bits.deBruijn32tab", laid_math_bits_deBruijn32tab), ("math/bits.deBruijn64tab", laid_math_bits_deBruijn64tab), ("internal/strconv.uint64pow10", laid_internal_strconv_uint64pow10)], narrowed := true }
def CardListsUptoSaid : Prop := cardListsUptoRow.holds Tryd.pinned (OpenSpec.upto cardListsSpec)

/-- 'innkeeperlaw35.CardMade', WHERE WHAT IT READS IS OF BULK AT MOST 1048576: true; the input reads as it did. -/
def cardMadeUptoRow : OpenClaim := { program := "ytoehobaigfmnpaadoor", sum := "135ea55aba8bb4f9bc46a92d52107e672e6afc9958eff55aa63ccab2fd1be850", func := "innkeeper/innkeeperlaw35.CardMade", spec := "cardMade", unfollowed := true, recurses := true, named := ["internal/strconv.uint64pow10", "math/bits.deBruijn32tab", "math/bits.deBruijn64tab"], apart := false, laid := [("math/bits.deBruijn32tab", laid_math_bits_deBruijn32tab), ("math/bits.deBruijn64tab", laid_math_bits_deBruijn64tab), ("internal/strconv.uint64pow10", laid_internal_strconv_uint64pow10)], narrowed := true }
def CardMadeUptoSaid : Prop := cardMadeUptoRow.holds Tryd.pinned (OpenSpec.upto cardMadeSpec)

/-- 'innkeeperlaw35.CardChanged', WHERE WHAT IT READS IS OF BULK AT MOST 1048576: true; the input reads as it did. -/
def cardChangedUptoRow : OpenClaim := { program := "ytoehobaigfmnpaadoor", sum := "135ea55aba8bb4f9bc46a92d52107e672e6afc9958eff55aa63ccab2fd1be850", func := "innkeeper/innkeeperlaw35.CardChanged", spec := "cardChanged", unfollowed := true, recurses := true, named := ["internal/strconv.uint64pow10", "math/bits.deBruijn32tab", "math/bits.deBruijn64tab"], apart := false, laid := [("math/bits.deBruijn32tab", laid_math_bits_deBruijn32tab), ("math/bits.deBruijn64tab", laid_math_bits_deBruijn64tab), ("internal/strconv.uint64pow10", laid_internal_strconv_uint64pow10)], narrowed := true }
def CardChangedUptoSaid : Prop := cardChangedUptoRow.holds Tryd.pinned (OpenSpec.upto cardChangedSpec)

/-- 'innkeeperlaw37.LockPower', WHERE WHAT IT READS IS OF BULK AT MOST 1048576: true; the input reads as it did. -/
def lockPowerUptoRow : OpenClaim := { program := "ytoehobaigfmnpaadoor", sum := "135ea55aba8bb4f9bc46a92d52107e672e6afc9958eff55aa63ccab2fd1be850", func := "innkeeper/innkeeperlaw37.LockPower", spec := "lockPower", inPlace := ["slices.overlaps[int]"], unfollowed := true, recurses := true, named := ["internal/strconv.uint64pow10", "math/bits.deBruijn32tab", "math/bits.deBruijn64tab"], apart := false, laid := [("math/bits.deBruijn32tab", laid_math_bits_deBruijn32tab), ("math/bits.deBruijn64tab", laid_math_bits_deBruijn64tab), ("internal/strconv.uint64pow10", laid_internal_strconv_uint64pow10)], narrowed := true }
def LockPowerUptoSaid : Prop := lockPowerUptoRow.holds Tryd.pinned (OpenSpec.upto lockPowerSpec)

/-- 'innkeeperlaw37.LockRevokes', WHERE WHAT IT READS IS OF BULK AT MOST 1048576: true; the input reads as it did. -/
def lockRevokesUptoRow : OpenClaim := { program := "ytoehobaigfmnpaadoor", sum := "135ea55aba8bb4f9bc46a92d52107e672e6afc9958eff55aa63ccab2fd1be850", func := "innkeeper/innkeeperlaw37.LockRevokes", spec := "lockRevokes", inPlace := ["slices.overlaps[int]"], unfollowed := true, recurses := true, named := ["internal/strconv.uint64pow10", "math/bits.deBruijn32tab", "math/bits.deBruijn64tab"], apart := false, laid := [("math/bits.deBruijn32tab", laid_math_bits_deBruijn32tab), ("math/bits.deBruijn64tab", laid_math_bits_deBruijn64tab), ("internal/strconv.uint64pow10", laid_internal_strconv_uint64pow10)], narrowed := true }
def LockRevokesUptoSaid : Prop := lockRevokesUptoRow.holds Tryd.pinned (OpenSpec.upto lockRevokesSpec)

/-- 'innkeeperlaw37.LockCourse', WHERE WHAT IT READS IS OF BULK AT MOST 1048576: true; the input reads as it did. -/
def lockCourseUptoRow : OpenClaim := { program := "ytoehobaigfmnpaadoor", sum := "135ea55aba8bb4f9bc46a92d52107e672e6afc9958eff55aa63ccab2fd1be850", func := "innkeeper/innkeeperlaw37.LockCourse", spec := "lockCourse", inPlace := ["slices.overlaps[int]"], unfollowed := true, recurses := true, named := ["internal/strconv.uint64pow10", "math/bits.deBruijn32tab", "math/bits.deBruijn64tab"], apart := false, laid := [("math/bits.deBruijn32tab", laid_math_bits_deBruijn32tab), ("math/bits.deBruijn64tab", laid_math_bits_deBruijn64tab), ("internal/strconv.uint64pow10", laid_internal_strconv_uint64pow10)], narrowed := true }
def LockCourseUptoSaid : Prop := lockCourseUptoRow.holds Tryd.pinned (OpenSpec.upto lockCourseSpec)

end Rows
end Go.Proofs.YtoehobaigfmnpaaDoor
