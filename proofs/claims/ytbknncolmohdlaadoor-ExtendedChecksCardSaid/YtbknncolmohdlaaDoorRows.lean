/-
  NARROWER THAN 'FOR EVERY INPUT', by the rows' own cells (each row's printed sentence says how): ExtendedLimits: laid · ExtendedReaches: laid · ExtendedRuns: laid · ExtendedHolds: laid · ExtendedStates: laid · ExtendedOverlaps: laid · ExtendedLeaves: laid · ExtendedChecks: loops, laid.
  DERIVED. THE GIVEN ROWS OF THIS SEAT. 8 by the template 'for every input the law returns true; each argument reads behind the call as it read before'; 0 by the template 'total and deterministic' (their statements: YtbknncolmohdlaaDoorTotals.lean).
  GIVEN WITH THE SEED: the statements are not yours to turn. If you find one false, say at which input.
  Laid BY PROGRAM, IN A SANDBOX (cutbox-rows.mjs): the forced cells as the released guide's own fill.sh prints them over the translation b456ac508f4b7e49… (all of the seat's roots in one cut). By AI agents, Wed Nov 11 2026. No macro, syntax, notation, axiom, sorry.
-/
import Derived.Test.YtbknncolmohdlaaDoorChecked
import GoSem.Claim
import GoSem.ClaimJoined
import GoSem.ClaimMapViews
import Derived.JoinedTies
import Derived.KernelRfl
namespace Go.Proofs.YtbknncolmohdlaaDoor
/- THE CELL 'sum', in the pinned program and in every row, IS THE sha256 OF THE DUMP (.gsa) THAT YtbknncolmohdlaaDoorProg.lean LOADS. Nothing in Lean hashes anything: it is a label: what it is worth is what the hold of that sum in a sandbox is worth. -/
noncomputable def Tryd.pinned : Pinned := { name := "ytbknncolmohdlaadoor", sum := "b456ac508f4b7e49f43ce8eb667956f08ec9b8c2e417ca654999f97899ac8ef2", checked := Tryd.checked }
namespace Rows
def none {H : Type} : Left H := { results := [], args := [] }

/- WHAT THE LISTED PACKAGE-LEVEL VARIABLES READ AS WHEN THE CALL BEGINS. Each datum BY PROGRAM (the guide's laid-datum.mjs) off the statement by which the dump's own 'gosem.cut.vars' lays the variable. In a bare row this is a premise. The card (YtbknncolmohdlaaDoorCards.lean) ties it to the program's text. -/
def laid_math_bits_deBruijn32tab {H : Type} : DataW H := .agg [.lit (.int .u8 0), .lit (.int .u8 1), .lit (.int .u8 28), .lit (.int .u8 2), .lit (.int .u8 29), .lit (.int .u8 14), .lit (.int .u8 24), .lit (.int .u8 3), .lit (.int .u8 30), .lit (.int .u8 22), .lit (.int .u8 20), .lit (.int .u8 15), .lit (.int .u8 25), .lit (.int .u8 17), .lit (.int .u8 4), .lit (.int .u8 8), .lit (.int .u8 31), .lit (.int .u8 27), .lit (.int .u8 13), .lit (.int .u8 23), .lit (.int .u8 21), .lit (.int .u8 19), .lit (.int .u8 16), .lit (.int .u8 7), .lit (.int .u8 26), .lit (.int .u8 12), .lit (.int .u8 18), .lit (.int .u8 6), .lit (.int .u8 11), .lit (.int .u8 5), .lit (.int .u8 10), .lit (.int .u8 9)]
def laid_math_bits_deBruijn64tab {H : Type} : DataW H := .agg [.lit (.int .u8 0), .lit (.int .u8 1), .lit (.int .u8 56), .lit (.int .u8 2), .lit (.int .u8 57), .lit (.int .u8 49), .lit (.int .u8 28), .lit (.int .u8 3), .lit (.int .u8 61), .lit (.int .u8 58), .lit (.int .u8 42), .lit (.int .u8 50), .lit (.int .u8 38), .lit (.int .u8 29), .lit (.int .u8 17), .lit (.int .u8 4), .lit (.int .u8 62), .lit (.int .u8 47), .lit (.int .u8 59), .lit (.int .u8 36), .lit (.int .u8 45), .lit (.int .u8 43), .lit (.int .u8 51), .lit (.int .u8 22), .lit (.int .u8 53), .lit (.int .u8 39), .lit (.int .u8 33), .lit (.int .u8 30), .lit (.int .u8 24), .lit (.int .u8 18), .lit (.int .u8 12), .lit (.int .u8 5), .lit (.int .u8 63), .lit (.int .u8 55), .lit (.int .u8 48), .lit (.int .u8 27), .lit (.int .u8 60), .lit (.int .u8 41), .lit (.int .u8 37), .lit (.int .u8 16), .lit (.int .u8 46), .lit (.int .u8 35), .lit (.int .u8 44), .lit (.int .u8 21), .lit (.int .u8 52), .lit (.int .u8 32), .lit (.int .u8 23), .lit (.int .u8 11), .lit (.int .u8 54), .lit (.int .u8 26), .lit (.int .u8 40), .lit (.int .u8 15), .lit (.int .u8 34), .lit (.int .u8 20), .lit (.int .u8 31), .lit (.int .u8 10), .lit (.int .u8 25), .lit (.int .u8 14), .lit (.int .u8 19), .lit (.int .u8 9), .lit (.int .u8 13), .lit (.int .u8 8), .lit (.int .u8 7), .lit (.int .u8 6)]
def laid_internal_strconv_uint64pow10 {H : Type} : DataW H := .agg [.lit (.int .u64 1), .lit (.int .u64 10), .lit (.int .u64 100), .lit (.int .u64 1000), .lit (.int .u64 10000), .lit (.int .u64 100000), .lit (.int .u64 1000000), .lit (.int .u64 10000000), .lit (.int .u64 100000000), .lit (.int .u64 1000000000), .lit (.int .u64 10000000000), .lit (.int .u64 100000000000), .lit (.int .u64 1000000000000), .lit (.int .u64 10000000000000), .lit (.int .u64 100000000000000), .lit (.int .u64 1000000000000000), .lit (.int .u64 10000000000000000), .lit (.int .u64 100000000000000000), .lit (.int .u64 1000000000000000000), .lit (.int .u64 10000000000000000000)]

/-- 'overseerlaw18.ExtendedLimits': WHATEVER THE INPUT: true; the input reads as it did. -/
def extendedLimitsSpec : ChangeSpec := { name := "extendedLimits", fn := fun _ => fun
  | [d] => { results := [.lit (.bool true)], args := [d] }
  | _ => none }
def extendedLimitsRow : OpenClaim := { program := "ytbknncolmohdlaadoor", sum := "b456ac508f4b7e49f43ce8eb667956f08ec9b8c2e417ca654999f97899ac8ef2", func := "overseer/overseerlaw18.ExtendedLimits", spec := "extendedLimits", unfollowed := true, recurses := true, named := ["internal/strconv.uint64pow10", "math/bits.deBruijn32tab", "math/bits.deBruijn64tab"], apart := false, laid := [("math/bits.deBruijn32tab", laid_math_bits_deBruijn32tab), ("math/bits.deBruijn64tab", laid_math_bits_deBruijn64tab), ("internal/strconv.uint64pow10", laid_internal_strconv_uint64pow10)] }
def ExtendedLimitsSaid : Prop := extendedLimitsRow.holds Tryd.pinned (OpenSpec.ofChange extendedLimitsSpec)

/-- ITS FALSE NEIGHBOUR: 'it returns false'. Refute it at one input. -/
def extendedLimitsWrong : ChangeSpec := { name := "extendedLimits", fn := fun _ => fun
  | [d] => { results := [.lit (.bool false)], args := [d] }
  | _ => none }
def ExtendedLimitsWrongFalsely : Prop := extendedLimitsRow.holds Tryd.pinned (OpenSpec.ofChange extendedLimitsWrong)

/-- 'overseerlaw18.ExtendedReaches': WHATEVER THE INPUT: true; the input reads as it did. -/
def extendedReachesSpec : ChangeSpec := { name := "extendedReaches", fn := fun _ => fun
  | [d] => { results := [.lit (.bool true)], args := [d] }
  | _ => none }
def extendedReachesRow : OpenClaim := { program := "ytbknncolmohdlaadoor", sum := "b456ac508f4b7e49f43ce8eb667956f08ec9b8c2e417ca654999f97899ac8ef2", func := "overseer/overseerlaw18.ExtendedReaches", spec := "extendedReaches", unfollowed := true, recurses := true, named := ["internal/strconv.uint64pow10", "math/bits.deBruijn32tab", "math/bits.deBruijn64tab"], apart := false, laid := [("math/bits.deBruijn32tab", laid_math_bits_deBruijn32tab), ("math/bits.deBruijn64tab", laid_math_bits_deBruijn64tab), ("internal/strconv.uint64pow10", laid_internal_strconv_uint64pow10)] }
def ExtendedReachesSaid : Prop := extendedReachesRow.holds Tryd.pinned (OpenSpec.ofChange extendedReachesSpec)

/-- ITS FALSE NEIGHBOUR: 'it returns false'. Refute it at one input. -/
def extendedReachesWrong : ChangeSpec := { name := "extendedReaches", fn := fun _ => fun
  | [d] => { results := [.lit (.bool false)], args := [d] }
  | _ => none }
def ExtendedReachesWrongFalsely : Prop := extendedReachesRow.holds Tryd.pinned (OpenSpec.ofChange extendedReachesWrong)

/-- 'overseerlaw18.ExtendedRuns': WHATEVER THE INPUT: true; the input reads as it did. -/
def extendedRunsSpec : ChangeSpec := { name := "extendedRuns", fn := fun _ => fun
  | [d1, d2] => { results := [.lit (.bool true)], args := [d1, d2] }
  | _ => none }
def extendedRunsRow : OpenClaim := { program := "ytbknncolmohdlaadoor", sum := "b456ac508f4b7e49f43ce8eb667956f08ec9b8c2e417ca654999f97899ac8ef2", func := "overseer/overseerlaw18.ExtendedRuns", spec := "extendedRuns", unfollowed := true, recurses := true, named := ["internal/strconv.uint64pow10", "math/bits.deBruijn32tab", "math/bits.deBruijn64tab"], apart := false, laid := [("math/bits.deBruijn32tab", laid_math_bits_deBruijn32tab), ("math/bits.deBruijn64tab", laid_math_bits_deBruijn64tab), ("internal/strconv.uint64pow10", laid_internal_strconv_uint64pow10)] }
def ExtendedRunsSaid : Prop := extendedRunsRow.holds Tryd.pinned (OpenSpec.ofChange extendedRunsSpec)

/-- ITS FALSE NEIGHBOUR: 'it returns false'. Refute it at one input. -/
def extendedRunsWrong : ChangeSpec := { name := "extendedRuns", fn := fun _ => fun
  | [d1, d2] => { results := [.lit (.bool false)], args := [d1, d2] }
  | _ => none }
def ExtendedRunsWrongFalsely : Prop := extendedRunsRow.holds Tryd.pinned (OpenSpec.ofChange extendedRunsWrong)

/-- 'overseerlaw18.ExtendedHolds': WHATEVER THE INPUT: true; the input reads as it did. -/
def extendedHoldsSpec : ChangeSpec := { name := "extendedHolds", fn := fun _ => fun
  | [d] => { results := [.lit (.bool true)], args := [d] }
  | _ => none }
def extendedHoldsRow : OpenClaim := { program := "ytbknncolmohdlaadoor", sum := "b456ac508f4b7e49f43ce8eb667956f08ec9b8c2e417ca654999f97899ac8ef2", func := "overseer/overseerlaw18.ExtendedHolds", spec := "extendedHolds", unfollowed := true, recurses := true, named := ["internal/strconv.uint64pow10", "math/bits.deBruijn32tab", "math/bits.deBruijn64tab"], apart := false, laid := [("math/bits.deBruijn32tab", laid_math_bits_deBruijn32tab), ("math/bits.deBruijn64tab", laid_math_bits_deBruijn64tab), ("internal/strconv.uint64pow10", laid_internal_strconv_uint64pow10)] }
def ExtendedHoldsSaid : Prop := extendedHoldsRow.holds Tryd.pinned (OpenSpec.ofChange extendedHoldsSpec)

/-- ITS FALSE NEIGHBOUR: 'it returns false'. Refute it at one input. -/
def extendedHoldsWrong : ChangeSpec := { name := "extendedHolds", fn := fun _ => fun
  | [d] => { results := [.lit (.bool false)], args := [d] }
  | _ => none }
def ExtendedHoldsWrongFalsely : Prop := extendedHoldsRow.holds Tryd.pinned (OpenSpec.ofChange extendedHoldsWrong)

/-- 'overseerlaw18.ExtendedStates': WHATEVER THE INPUT: true; the input reads as it did. -/
def extendedStatesSpec : ChangeSpec := { name := "extendedStates", fn := fun _ => fun
  | [d1, d2, d3] => { results := [.lit (.bool true)], args := [d1, d2, d3] }
  | _ => none }
def extendedStatesRow : OpenClaim := { program := "ytbknncolmohdlaadoor", sum := "b456ac508f4b7e49f43ce8eb667956f08ec9b8c2e417ca654999f97899ac8ef2", func := "overseer/overseerlaw18.ExtendedStates", spec := "extendedStates", unfollowed := true, recurses := true, named := ["internal/strconv.uint64pow10", "math/bits.deBruijn32tab", "math/bits.deBruijn64tab"], apart := false, laid := [("math/bits.deBruijn32tab", laid_math_bits_deBruijn32tab), ("math/bits.deBruijn64tab", laid_math_bits_deBruijn64tab), ("internal/strconv.uint64pow10", laid_internal_strconv_uint64pow10)] }
def ExtendedStatesSaid : Prop := extendedStatesRow.holds Tryd.pinned (OpenSpec.ofChange extendedStatesSpec)

/-- ITS FALSE NEIGHBOUR: 'it returns false'. Refute it at one input. -/
def extendedStatesWrong : ChangeSpec := { name := "extendedStates", fn := fun _ => fun
  | [d1, d2, d3] => { results := [.lit (.bool false)], args := [d1, d2, d3] }
  | _ => none }
def ExtendedStatesWrongFalsely : Prop := extendedStatesRow.holds Tryd.pinned (OpenSpec.ofChange extendedStatesWrong)

/-- 'overseerlaw18.ExtendedOverlaps': WHATEVER THE INPUT: true; the input reads as it did. -/
def extendedOverlapsSpec : ChangeSpec := { name := "extendedOverlaps", fn := fun _ => fun
  | [d1, d2, d3] => { results := [.lit (.bool true)], args := [d1, d2, d3] }
  | _ => none }
def extendedOverlapsRow : OpenClaim := { program := "ytbknncolmohdlaadoor", sum := "b456ac508f4b7e49f43ce8eb667956f08ec9b8c2e417ca654999f97899ac8ef2", func := "overseer/overseerlaw18.ExtendedOverlaps", spec := "extendedOverlaps", unfollowed := true, recurses := true, named := ["internal/strconv.uint64pow10", "math/bits.deBruijn32tab", "math/bits.deBruijn64tab"], apart := false, laid := [("math/bits.deBruijn32tab", laid_math_bits_deBruijn32tab), ("math/bits.deBruijn64tab", laid_math_bits_deBruijn64tab), ("internal/strconv.uint64pow10", laid_internal_strconv_uint64pow10)] }
def ExtendedOverlapsSaid : Prop := extendedOverlapsRow.holds Tryd.pinned (OpenSpec.ofChange extendedOverlapsSpec)

/-- ITS FALSE NEIGHBOUR: 'it returns false'. Refute it at one input. -/
def extendedOverlapsWrong : ChangeSpec := { name := "extendedOverlaps", fn := fun _ => fun
  | [d1, d2, d3] => { results := [.lit (.bool false)], args := [d1, d2, d3] }
  | _ => none }
def ExtendedOverlapsWrongFalsely : Prop := extendedOverlapsRow.holds Tryd.pinned (OpenSpec.ofChange extendedOverlapsWrong)

/-- 'overseerlaw18.ExtendedLeaves': WHATEVER THE INPUT: true; the input reads as it did. -/
def extendedLeavesSpec : ChangeSpec := { name := "extendedLeaves", fn := fun _ => fun
  | [d] => { results := [.lit (.bool true)], args := [d] }
  | _ => none }
def extendedLeavesRow : OpenClaim := { program := "ytbknncolmohdlaadoor", sum := "b456ac508f4b7e49f43ce8eb667956f08ec9b8c2e417ca654999f97899ac8ef2", func := "overseer/overseerlaw18.ExtendedLeaves", spec := "extendedLeaves", unfollowed := true, recurses := true, named := ["internal/strconv.uint64pow10", "math/bits.deBruijn32tab", "math/bits.deBruijn64tab"], apart := false, laid := [("math/bits.deBruijn32tab", laid_math_bits_deBruijn32tab), ("math/bits.deBruijn64tab", laid_math_bits_deBruijn64tab), ("internal/strconv.uint64pow10", laid_internal_strconv_uint64pow10)] }
def ExtendedLeavesSaid : Prop := extendedLeavesRow.holds Tryd.pinned (OpenSpec.ofChange extendedLeavesSpec)

/-- ITS FALSE NEIGHBOUR: 'it returns false'. Refute it at one input. -/
def extendedLeavesWrong : ChangeSpec := { name := "extendedLeaves", fn := fun _ => fun
  | [d] => { results := [.lit (.bool false)], args := [d] }
  | _ => none }
def ExtendedLeavesWrongFalsely : Prop := extendedLeavesRow.holds Tryd.pinned (OpenSpec.ofChange extendedLeavesWrong)

/-- 'overseerlaw18.ExtendedChecks': WHATEVER THE INPUT: true; the input reads as it did. -/
def extendedChecksSpec : ChangeSpec := { name := "extendedChecks", fn := fun _ => fun
  | [d] => { results := [.lit (.bool true)], args := [d] }
  | _ => none }
def extendedChecksRow : OpenClaim := { program := "ytbknncolmohdlaadoor", sum := "b456ac508f4b7e49f43ce8eb667956f08ec9b8c2e417ca654999f97899ac8ef2", func := "overseer/overseerlaw18.ExtendedChecks", spec := "extendedChecks", unfollowed := true, recurses := true, named := ["internal/strconv.uint64pow10", "math/bits.deBruijn32tab", "math/bits.deBruijn64tab"], loops := true, apart := false, laid := [("math/bits.deBruijn32tab", laid_math_bits_deBruijn32tab), ("math/bits.deBruijn64tab", laid_math_bits_deBruijn64tab), ("internal/strconv.uint64pow10", laid_internal_strconv_uint64pow10)] }
def ExtendedChecksSaid : Prop := extendedChecksRow.holds Tryd.pinned (OpenSpec.ofChange extendedChecksSpec)

/-- ITS FALSE NEIGHBOUR: 'it returns false'. Refute it at one input. -/
def extendedChecksWrong : ChangeSpec := { name := "extendedChecks", fn := fun _ => fun
  | [d] => { results := [.lit (.bool false)], args := [d] }
  | _ => none }
def ExtendedChecksWrongFalsely : Prop := extendedChecksRow.holds Tryd.pinned (OpenSpec.ofChange extendedChecksWrong)

/- THE SECOND FORM. 'bulk': how many values and letters a reading holds, each counted each time it is reached (what is shared counts as often as it is met; a slice's spare places count too). A statement '..UptoSaid' is the law's where the arguments, and the package variables that the reading takes, are together of bulk at most 1048576: NARROWER than '..Said'. Prove '..Said' where nothing that the law and all that it calls make is longer than what came in: it says more and counts as full. Else prove '..UptoSaid'. A law counts once. -/
mutual
def uptoBulk {H : Type} : DataW H → Nat
  | .lit (.string bytes) => bytes.length + 1
  | .lit _ => 1
  | .nil => 1
  | .ptr d => uptoBulk d + 1
  | .slice elems spare => uptoBulkAll elems + uptoBulkAll spare + 1
  | .agg parts => uptoBulkAll parts + 1
  | .iface _ d => uptoBulk d + 1
  | .map entries => uptoBulkEntries entries + 1
  | .held _ => 1
def uptoBulkAll {H : Type} : List (DataW H) → Nat
  | [] => 0
  | d :: r => uptoBulk d + uptoBulkAll r
def uptoBulkEntries {H : Type} : List (Lit × DataW H) → Nat
  | [] => 0
  | x :: r => uptoBulkEntry x + uptoBulkEntries r
def uptoBulkEntry {H : Type} : Lit × DataW H → Nat
  | (.string bytes, d) => bytes.length + uptoBulk d + 1
  | (_, d) => uptoBulk d + 1
 end
def uptoSmall : (H : Type) → List (DataW H) → Bool := fun _ ds => decide (uptoBulkAll ds ≤ 1048576)
def OpenSpec.upto (s : _root_.Go.ChangeSpec) : _root_.Go.OpenSpec := { _root_.Go.OpenSpec.ofChange s with cond := some uptoSmall }

/-- 'overseerlaw18.ExtendedLimits', WHERE WHAT IT READS IS OF BULK AT MOST 1048576: true; the input reads as it did. -/
def extendedLimitsUptoRow : OpenClaim := { program := "ytbknncolmohdlaadoor", sum := "b456ac508f4b7e49f43ce8eb667956f08ec9b8c2e417ca654999f97899ac8ef2", func := "overseer/overseerlaw18.ExtendedLimits", spec := "extendedLimits", unfollowed := true, recurses := true, named := ["internal/strconv.uint64pow10", "math/bits.deBruijn32tab", "math/bits.deBruijn64tab"], apart := false, laid := [("math/bits.deBruijn32tab", laid_math_bits_deBruijn32tab), ("math/bits.deBruijn64tab", laid_math_bits_deBruijn64tab), ("internal/strconv.uint64pow10", laid_internal_strconv_uint64pow10)], narrowed := true }
def ExtendedLimitsUptoSaid : Prop := extendedLimitsUptoRow.holds Tryd.pinned (OpenSpec.upto extendedLimitsSpec)

/-- 'overseerlaw18.ExtendedReaches', WHERE WHAT IT READS IS OF BULK AT MOST 1048576: true; the input reads as it did. -/
def extendedReachesUptoRow : OpenClaim := { program := "ytbknncolmohdlaadoor", sum := "b456ac508f4b7e49f43ce8eb667956f08ec9b8c2e417ca654999f97899ac8ef2", func := "overseer/overseerlaw18.ExtendedReaches", spec := "extendedReaches", unfollowed := true, recurses := true, named := ["internal/strconv.uint64pow10", "math/bits.deBruijn32tab", "math/bits.deBruijn64tab"], apart := false, laid := [("math/bits.deBruijn32tab", laid_math_bits_deBruijn32tab), ("math/bits.deBruijn64tab", laid_math_bits_deBruijn64tab), ("internal/strconv.uint64pow10", laid_internal_strconv_uint64pow10)], narrowed := true }
def ExtendedReachesUptoSaid : Prop := extendedReachesUptoRow.holds Tryd.pinned (OpenSpec.upto extendedReachesSpec)

/-- 'overseerlaw18.ExtendedRuns', WHERE WHAT IT READS IS OF BULK AT MOST 1048576: true; the input reads as it did. -/
def extendedRunsUptoRow : OpenClaim := { program := "ytbknncolmohdlaadoor", sum := "b456ac508f4b7e49f43ce8eb667956f08ec9b8c2e417ca654999f97899ac8ef2", func := "overseer/overseerlaw18.ExtendedRuns", spec := "extendedRuns", unfollowed := true, recurses := true, named := ["internal/strconv.uint64pow10", "math/bits.deBruijn32tab", "math/bits.deBruijn64tab"], apart := false, laid := [("math/bits.deBruijn32tab", laid_math_bits_deBruijn32tab), ("math/bits.deBruijn64tab", laid_math_bits_deBruijn64tab), ("internal/strconv.uint64pow10", laid_internal_strconv_uint64pow10)], narrowed := true }
def ExtendedRunsUptoSaid : Prop := extendedRunsUptoRow.holds Tryd.pinned (OpenSpec.upto extendedRunsSpec)

/-- 'overseerlaw18.ExtendedHolds', WHERE WHAT IT READS IS OF BULK AT MOST 1048576: true; the input reads as it did. -/
def extendedHoldsUptoRow : OpenClaim := { program := "ytbknncolmohdlaadoor", sum := "b456ac508f4b7e49f43ce8eb667956f08ec9b8c2e417ca654999f97899ac8ef2", func := "overseer/overseerlaw18.ExtendedHolds", spec := "extendedHolds", unfollowed := true, recurses := true, named := ["internal/strconv.uint64pow10", "math/bits.deBruijn32tab", "math/bits.deBruijn64tab"], apart := false, laid := [("math/bits.deBruijn32tab", laid_math_bits_deBruijn32tab), ("math/bits.deBruijn64tab", laid_math_bits_deBruijn64tab), ("internal/strconv.uint64pow10", laid_internal_strconv_uint64pow10)], narrowed := true }
def ExtendedHoldsUptoSaid : Prop := extendedHoldsUptoRow.holds Tryd.pinned (OpenSpec.upto extendedHoldsSpec)

/-- 'overseerlaw18.ExtendedStates', WHERE WHAT IT READS IS OF BULK AT MOST 1048576: true; the input reads as it did. -/
def extendedStatesUptoRow : OpenClaim := { program := "ytbknncolmohdlaadoor", sum := "b456ac508f4b7e49f43ce8eb667956f08ec9b8c2e417ca654999f97899ac8ef2", func := "overseer/overseerlaw18.ExtendedStates", spec := "extendedStates", unfollowed := true, recurses := true, named := ["internal/strconv.uint64pow10", "math/bits.deBruijn32tab", "math/bits.deBruijn64tab"], apart := false, laid := [("math/bits.deBruijn32tab", laid_math_bits_deBruijn32tab), ("math/bits.deBruijn64tab", laid_math_bits_deBruijn64tab), ("internal/strconv.uint64pow10", laid_internal_strconv_uint64pow10)], narrowed := true }
def ExtendedStatesUptoSaid : Prop := extendedStatesUptoRow.holds Tryd.pinned (OpenSpec.upto extendedStatesSpec)

/-- 'overseerlaw18.ExtendedOverlaps', WHERE WHAT IT READS IS OF BULK AT MOST 1048576: true; the input reads as it did. -/
def extendedOverlapsUptoRow : OpenClaim := { program := "ytbknncolmohdlaadoor", sum := "b456ac508f4b7e49f43ce8eb667956f08ec9b8c2e417ca654999f97899ac8ef2", func := "overseer/overseerlaw18.ExtendedOverlaps", spec := "extendedOverlaps", unfollowed := true, recurses := true, named := ["internal/strconv.uint64pow10", "math/bits.deBruijn32tab", "math/bits.deBruijn64tab"], apart := false, laid := [("math/bits.deBruijn32tab", laid_math_bits_deBruijn32tab), ("math/bits.deBruijn64tab", laid_math_bits_deBruijn64tab), ("internal/strconv.uint64pow10", laid_internal_strconv_uint64pow10)], narrowed := true }
def ExtendedOverlapsUptoSaid : Prop := extendedOverlapsUptoRow.holds Tryd.pinned (OpenSpec.upto extendedOverlapsSpec)

/-- 'overseerlaw18.ExtendedLeaves', WHERE WHAT IT READS IS OF BULK AT MOST 1048576: true; the input reads as it did. -/
def extendedLeavesUptoRow : OpenClaim := { program := "ytbknncolmohdlaadoor", sum := "b456ac508f4b7e49f43ce8eb667956f08ec9b8c2e417ca654999f97899ac8ef2", func := "overseer/overseerlaw18.ExtendedLeaves", spec := "extendedLeaves", unfollowed := true, recurses := true, named := ["internal/strconv.uint64pow10", "math/bits.deBruijn32tab", "math/bits.deBruijn64tab"], apart := false, laid := [("math/bits.deBruijn32tab", laid_math_bits_deBruijn32tab), ("math/bits.deBruijn64tab", laid_math_bits_deBruijn64tab), ("internal/strconv.uint64pow10", laid_internal_strconv_uint64pow10)], narrowed := true }
def ExtendedLeavesUptoSaid : Prop := extendedLeavesUptoRow.holds Tryd.pinned (OpenSpec.upto extendedLeavesSpec)

/-- 'overseerlaw18.ExtendedChecks', WHERE WHAT IT READS IS OF BULK AT MOST 1048576: true; the input reads as it did. -/
def extendedChecksUptoRow : OpenClaim := { program := "ytbknncolmohdlaadoor", sum := "b456ac508f4b7e49f43ce8eb667956f08ec9b8c2e417ca654999f97899ac8ef2", func := "overseer/overseerlaw18.ExtendedChecks", spec := "extendedChecks", unfollowed := true, recurses := true, named := ["internal/strconv.uint64pow10", "math/bits.deBruijn32tab", "math/bits.deBruijn64tab"], loops := true, apart := false, laid := [("math/bits.deBruijn32tab", laid_math_bits_deBruijn32tab), ("math/bits.deBruijn64tab", laid_math_bits_deBruijn64tab), ("internal/strconv.uint64pow10", laid_internal_strconv_uint64pow10)], narrowed := true }
def ExtendedChecksUptoSaid : Prop := extendedChecksUptoRow.holds Tryd.pinned (OpenSpec.upto extendedChecksSpec)

end Rows
end Go.Proofs.YtbknncolmohdlaaDoor
