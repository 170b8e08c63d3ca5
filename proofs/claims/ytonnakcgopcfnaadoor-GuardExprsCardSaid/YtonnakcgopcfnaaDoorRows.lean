/-
  NARROWER THAN 'FOR EVERY INPUT', by the rows' own cells (each row's printed sentence says how): GuardBoxes: laid · GuardSimplifies: laid · GuardCovers: laid · GuardChecks: loops, laid · GuardCompares: laid · GuardExprs: laid · GuardRefuses: laid · GuardWeakest: laid · FlattenFinds: laid · FlattenFrom: laid · FlattenUnfolds: laid · FlattenRuns: laid.
  DERIVED. THE GIVEN ROWS OF THIS SEAT. 12 by the template 'for every input the law returns true; each argument reads behind the call as it read before'; 0 by the template 'total and deterministic' (their statements: YtonnakcgopcfnaaDoorTotals.lean).
  GIVEN WITH THE SEED: the statements are not yours to turn. If you find one false, say at which input.
  Laid BY PROGRAM, IN A SANDBOX (cutbox-rows.mjs): the forced cells as the released guide's own fill.sh prints them over the translation b61bef270e57a3f1… (all of the seat's roots in one cut). By AI agents, Wed Nov 11 2026. No macro, syntax, notation, axiom, sorry.
-/
import Derived.Test.YtonnakcgopcfnaaDoorChecked
import GoSem.Claim
import GoSem.ClaimJoined
import GoSem.ClaimMapViews
import Derived.JoinedTies
import Derived.KernelRfl
namespace Go.Proofs.YtonnakcgopcfnaaDoor
/- THE CELL 'sum', in the pinned program and in every row, IS THE sha256 OF THE DUMP (.gsa) THAT YtonnakcgopcfnaaDoorProg.lean LOADS. Nothing in Lean hashes anything: it is a label: what it is worth is what the hold of that sum in a sandbox is worth. -/
noncomputable def Tryd.pinned : Pinned := { name := "ytonnakcgopcfnaadoor", sum := "b61bef270e57a3f1e6e270996b6ca9de33282e883a02a0d92860e9871db46e2c", checked := Tryd.checked }
namespace Rows
def none {H : Type} : Left H := { results := [], args := [] }

/- WHAT THE LISTED PACKAGE-LEVEL VARIABLES READ AS WHEN THE CALL BEGINS. Each datum BY PROGRAM (the guide's laid-datum.mjs) off the statement by which the dump's own 'gosem.cut.vars' lays the variable. In a bare row this is a premise. The card (YtonnakcgopcfnaaDoorCards.lean) ties it to the program's text. -/
def laid_math_bits_deBruijn32tab {H : Type} : DataW H := .agg [.lit (.int .u8 0), .lit (.int .u8 1), .lit (.int .u8 28), .lit (.int .u8 2), .lit (.int .u8 29), .lit (.int .u8 14), .lit (.int .u8 24), .lit (.int .u8 3), .lit (.int .u8 30), .lit (.int .u8 22), .lit (.int .u8 20), .lit (.int .u8 15), .lit (.int .u8 25), .lit (.int .u8 17), .lit (.int .u8 4), .lit (.int .u8 8), .lit (.int .u8 31), .lit (.int .u8 27), .lit (.int .u8 13), .lit (.int .u8 23), .lit (.int .u8 21), .lit (.int .u8 19), .lit (.int .u8 16), .lit (.int .u8 7), .lit (.int .u8 26), .lit (.int .u8 12), .lit (.int .u8 18), .lit (.int .u8 6), .lit (.int .u8 11), .lit (.int .u8 5), .lit (.int .u8 10), .lit (.int .u8 9)]
def laid_math_bits_deBruijn64tab {H : Type} : DataW H := .agg [.lit (.int .u8 0), .lit (.int .u8 1), .lit (.int .u8 56), .lit (.int .u8 2), .lit (.int .u8 57), .lit (.int .u8 49), .lit (.int .u8 28), .lit (.int .u8 3), .lit (.int .u8 61), .lit (.int .u8 58), .lit (.int .u8 42), .lit (.int .u8 50), .lit (.int .u8 38), .lit (.int .u8 29), .lit (.int .u8 17), .lit (.int .u8 4), .lit (.int .u8 62), .lit (.int .u8 47), .lit (.int .u8 59), .lit (.int .u8 36), .lit (.int .u8 45), .lit (.int .u8 43), .lit (.int .u8 51), .lit (.int .u8 22), .lit (.int .u8 53), .lit (.int .u8 39), .lit (.int .u8 33), .lit (.int .u8 30), .lit (.int .u8 24), .lit (.int .u8 18), .lit (.int .u8 12), .lit (.int .u8 5), .lit (.int .u8 63), .lit (.int .u8 55), .lit (.int .u8 48), .lit (.int .u8 27), .lit (.int .u8 60), .lit (.int .u8 41), .lit (.int .u8 37), .lit (.int .u8 16), .lit (.int .u8 46), .lit (.int .u8 35), .lit (.int .u8 44), .lit (.int .u8 21), .lit (.int .u8 52), .lit (.int .u8 32), .lit (.int .u8 23), .lit (.int .u8 11), .lit (.int .u8 54), .lit (.int .u8 26), .lit (.int .u8 40), .lit (.int .u8 15), .lit (.int .u8 34), .lit (.int .u8 20), .lit (.int .u8 31), .lit (.int .u8 10), .lit (.int .u8 25), .lit (.int .u8 14), .lit (.int .u8 19), .lit (.int .u8 9), .lit (.int .u8 13), .lit (.int .u8 8), .lit (.int .u8 7), .lit (.int .u8 6)]
def laid_internal_strconv_uint64pow10 {H : Type} : DataW H := .agg [.lit (.int .u64 1), .lit (.int .u64 10), .lit (.int .u64 100), .lit (.int .u64 1000), .lit (.int .u64 10000), .lit (.int .u64 100000), .lit (.int .u64 1000000), .lit (.int .u64 10000000), .lit (.int .u64 100000000), .lit (.int .u64 1000000000), .lit (.int .u64 10000000000), .lit (.int .u64 100000000000), .lit (.int .u64 1000000000000), .lit (.int .u64 10000000000000), .lit (.int .u64 100000000000000), .lit (.int .u64 1000000000000000), .lit (.int .u64 10000000000000000), .lit (.int .u64 100000000000000000), .lit (.int .u64 1000000000000000000), .lit (.int .u64 10000000000000000000)]

/-- 'overseerlaw15.GuardBoxes': WHATEVER THE INPUT: true; the input reads as it did. -/
def guardBoxesSpec : ChangeSpec := { name := "guardBoxes", fn := fun _ => fun
  | [d1, d2, d3] => { results := [.lit (.bool true)], args := [d1, d2, d3] }
  | _ => none }
def guardBoxesRow : OpenClaim := { program := "ytonnakcgopcfnaadoor", sum := "b61bef270e57a3f1e6e270996b6ca9de33282e883a02a0d92860e9871db46e2c", func := "overseer/overseerlaw15.GuardBoxes", spec := "guardBoxes", inPlace := ["internal/abi.NoEscape"], unfollowed := true, recurses := true, named := ["internal/strconv.uint64pow10", "math/bits.deBruijn32tab", "math/bits.deBruijn64tab"], apart := false, laid := [("math/bits.deBruijn32tab", laid_math_bits_deBruijn32tab), ("math/bits.deBruijn64tab", laid_math_bits_deBruijn64tab), ("internal/strconv.uint64pow10", laid_internal_strconv_uint64pow10)] }
def GuardBoxesSaid : Prop := guardBoxesRow.holds Tryd.pinned (OpenSpec.ofChange guardBoxesSpec)

/-- ITS FALSE NEIGHBOUR: 'it returns false'. Refute it at one input. -/
def guardBoxesWrong : ChangeSpec := { name := "guardBoxes", fn := fun _ => fun
  | [d1, d2, d3] => { results := [.lit (.bool false)], args := [d1, d2, d3] }
  | _ => none }
def GuardBoxesWrongFalsely : Prop := guardBoxesRow.holds Tryd.pinned (OpenSpec.ofChange guardBoxesWrong)

/-- 'overseerlaw15.GuardSimplifies': WHATEVER THE INPUT: true; the input reads as it did. -/
def guardSimplifiesSpec : ChangeSpec := { name := "guardSimplifies", fn := fun _ => fun
  | [d1, d2, d3] => { results := [.lit (.bool true)], args := [d1, d2, d3] }
  | _ => none }
def guardSimplifiesRow : OpenClaim := { program := "ytonnakcgopcfnaadoor", sum := "b61bef270e57a3f1e6e270996b6ca9de33282e883a02a0d92860e9871db46e2c", func := "overseer/overseerlaw15.GuardSimplifies", spec := "guardSimplifies", inPlace := ["internal/abi.NoEscape"], unfollowed := true, recurses := true, named := ["internal/strconv.uint64pow10", "math/bits.deBruijn32tab", "math/bits.deBruijn64tab"], apart := false, laid := [("math/bits.deBruijn32tab", laid_math_bits_deBruijn32tab), ("math/bits.deBruijn64tab", laid_math_bits_deBruijn64tab), ("internal/strconv.uint64pow10", laid_internal_strconv_uint64pow10)] }
def GuardSimplifiesSaid : Prop := guardSimplifiesRow.holds Tryd.pinned (OpenSpec.ofChange guardSimplifiesSpec)

/-- ITS FALSE NEIGHBOUR: 'it returns false'. Refute it at one input. -/
def guardSimplifiesWrong : ChangeSpec := { name := "guardSimplifies", fn := fun _ => fun
  | [d1, d2, d3] => { results := [.lit (.bool false)], args := [d1, d2, d3] }
  | _ => none }
def GuardSimplifiesWrongFalsely : Prop := guardSimplifiesRow.holds Tryd.pinned (OpenSpec.ofChange guardSimplifiesWrong)

/-- 'overseerlaw15.GuardCovers': WHATEVER THE INPUT: true; the input reads as it did. -/
def guardCoversSpec : ChangeSpec := { name := "guardCovers", fn := fun _ => fun
  | [d1, d2, d3] => { results := [.lit (.bool true)], args := [d1, d2, d3] }
  | _ => none }
def guardCoversRow : OpenClaim := { program := "ytonnakcgopcfnaadoor", sum := "b61bef270e57a3f1e6e270996b6ca9de33282e883a02a0d92860e9871db46e2c", func := "overseer/overseerlaw15.GuardCovers", spec := "guardCovers", inPlace := ["internal/abi.NoEscape"], unfollowed := true, recurses := true, named := ["internal/strconv.uint64pow10", "math/bits.deBruijn32tab", "math/bits.deBruijn64tab"], apart := false, laid := [("math/bits.deBruijn32tab", laid_math_bits_deBruijn32tab), ("math/bits.deBruijn64tab", laid_math_bits_deBruijn64tab), ("internal/strconv.uint64pow10", laid_internal_strconv_uint64pow10)] }
def GuardCoversSaid : Prop := guardCoversRow.holds Tryd.pinned (OpenSpec.ofChange guardCoversSpec)

/-- ITS FALSE NEIGHBOUR: 'it returns false'. Refute it at one input. -/
def guardCoversWrong : ChangeSpec := { name := "guardCovers", fn := fun _ => fun
  | [d1, d2, d3] => { results := [.lit (.bool false)], args := [d1, d2, d3] }
  | _ => none }
def GuardCoversWrongFalsely : Prop := guardCoversRow.holds Tryd.pinned (OpenSpec.ofChange guardCoversWrong)

/-- 'overseerlaw15.GuardChecks': WHATEVER THE INPUT: true; the input reads as it did. -/
def guardChecksSpec : ChangeSpec := { name := "guardChecks", fn := fun _ => fun
  | [d] => { results := [.lit (.bool true)], args := [d] }
  | _ => none }
def guardChecksRow : OpenClaim := { program := "ytonnakcgopcfnaadoor", sum := "b61bef270e57a3f1e6e270996b6ca9de33282e883a02a0d92860e9871db46e2c", func := "overseer/overseerlaw15.GuardChecks", spec := "guardChecks", inPlace := ["internal/abi.NoEscape"], unfollowed := true, recurses := true, named := ["internal/strconv.uint64pow10", "math/bits.deBruijn32tab", "math/bits.deBruijn64tab"], loops := true, apart := false, laid := [("math/bits.deBruijn32tab", laid_math_bits_deBruijn32tab), ("math/bits.deBruijn64tab", laid_math_bits_deBruijn64tab), ("internal/strconv.uint64pow10", laid_internal_strconv_uint64pow10)] }
def GuardChecksSaid : Prop := guardChecksRow.holds Tryd.pinned (OpenSpec.ofChange guardChecksSpec)

/-- ITS FALSE NEIGHBOUR: 'it returns false'. Refute it at one input. -/
def guardChecksWrong : ChangeSpec := { name := "guardChecks", fn := fun _ => fun
  | [d] => { results := [.lit (.bool false)], args := [d] }
  | _ => none }
def GuardChecksWrongFalsely : Prop := guardChecksRow.holds Tryd.pinned (OpenSpec.ofChange guardChecksWrong)

/-- 'overseerlaw15.GuardCompares': WHATEVER THE INPUT: true; the input reads as it did. -/
def guardComparesSpec : ChangeSpec := { name := "guardCompares", fn := fun _ => fun
  | [d1, d2, d3] => { results := [.lit (.bool true)], args := [d1, d2, d3] }
  | _ => none }
def guardComparesRow : OpenClaim := { program := "ytonnakcgopcfnaadoor", sum := "b61bef270e57a3f1e6e270996b6ca9de33282e883a02a0d92860e9871db46e2c", func := "overseer/overseerlaw15.GuardCompares", spec := "guardCompares", inPlace := ["internal/abi.NoEscape"], unfollowed := true, recurses := true, named := ["internal/strconv.uint64pow10", "math/bits.deBruijn32tab", "math/bits.deBruijn64tab"], apart := false, laid := [("math/bits.deBruijn32tab", laid_math_bits_deBruijn32tab), ("math/bits.deBruijn64tab", laid_math_bits_deBruijn64tab), ("internal/strconv.uint64pow10", laid_internal_strconv_uint64pow10)] }
def GuardComparesSaid : Prop := guardComparesRow.holds Tryd.pinned (OpenSpec.ofChange guardComparesSpec)

/-- ITS FALSE NEIGHBOUR: 'it returns false'. Refute it at one input. -/
def guardComparesWrong : ChangeSpec := { name := "guardCompares", fn := fun _ => fun
  | [d1, d2, d3] => { results := [.lit (.bool false)], args := [d1, d2, d3] }
  | _ => none }
def GuardComparesWrongFalsely : Prop := guardComparesRow.holds Tryd.pinned (OpenSpec.ofChange guardComparesWrong)

/-- 'overseerlaw15.GuardExprs': WHATEVER THE INPUT: true; the input reads as it did. -/
def guardExprsSpec : ChangeSpec := { name := "guardExprs", fn := fun _ => fun
  | [d1, d2] => { results := [.lit (.bool true)], args := [d1, d2] }
  | _ => none }
def guardExprsRow : OpenClaim := { program := "ytonnakcgopcfnaadoor", sum := "b61bef270e57a3f1e6e270996b6ca9de33282e883a02a0d92860e9871db46e2c", func := "overseer/overseerlaw15.GuardExprs", spec := "guardExprs", inPlace := ["internal/abi.NoEscape"], unfollowed := true, recurses := true, named := ["internal/strconv.uint64pow10", "math/bits.deBruijn32tab", "math/bits.deBruijn64tab"], apart := false, laid := [("math/bits.deBruijn32tab", laid_math_bits_deBruijn32tab), ("math/bits.deBruijn64tab", laid_math_bits_deBruijn64tab), ("internal/strconv.uint64pow10", laid_internal_strconv_uint64pow10)] }
def GuardExprsSaid : Prop := guardExprsRow.holds Tryd.pinned (OpenSpec.ofChange guardExprsSpec)

/-- ITS FALSE NEIGHBOUR: 'it returns false'. Refute it at one input. -/
def guardExprsWrong : ChangeSpec := { name := "guardExprs", fn := fun _ => fun
  | [d1, d2] => { results := [.lit (.bool false)], args := [d1, d2] }
  | _ => none }
def GuardExprsWrongFalsely : Prop := guardExprsRow.holds Tryd.pinned (OpenSpec.ofChange guardExprsWrong)

/-- 'overseerlaw15.GuardRefuses': WHATEVER THE INPUT: true; the input reads as it did. -/
def guardRefusesSpec : ChangeSpec := { name := "guardRefuses", fn := fun _ => fun
  | [d1, d2, d3] => { results := [.lit (.bool true)], args := [d1, d2, d3] }
  | _ => none }
def guardRefusesRow : OpenClaim := { program := "ytonnakcgopcfnaadoor", sum := "b61bef270e57a3f1e6e270996b6ca9de33282e883a02a0d92860e9871db46e2c", func := "overseer/overseerlaw15.GuardRefuses", spec := "guardRefuses", inPlace := ["internal/abi.NoEscape"], unfollowed := true, recurses := true, named := ["internal/strconv.uint64pow10", "math/bits.deBruijn32tab", "math/bits.deBruijn64tab"], apart := false, laid := [("math/bits.deBruijn32tab", laid_math_bits_deBruijn32tab), ("math/bits.deBruijn64tab", laid_math_bits_deBruijn64tab), ("internal/strconv.uint64pow10", laid_internal_strconv_uint64pow10)] }
def GuardRefusesSaid : Prop := guardRefusesRow.holds Tryd.pinned (OpenSpec.ofChange guardRefusesSpec)

/-- ITS FALSE NEIGHBOUR: 'it returns false'. Refute it at one input. -/
def guardRefusesWrong : ChangeSpec := { name := "guardRefuses", fn := fun _ => fun
  | [d1, d2, d3] => { results := [.lit (.bool false)], args := [d1, d2, d3] }
  | _ => none }
def GuardRefusesWrongFalsely : Prop := guardRefusesRow.holds Tryd.pinned (OpenSpec.ofChange guardRefusesWrong)

/-- 'overseerlaw15.GuardWeakest': WHATEVER THE INPUT: true; the input reads as it did. -/
def guardWeakestSpec : ChangeSpec := { name := "guardWeakest", fn := fun _ => fun
  | [d1, d2, d3] => { results := [.lit (.bool true)], args := [d1, d2, d3] }
  | _ => none }
def guardWeakestRow : OpenClaim := { program := "ytonnakcgopcfnaadoor", sum := "b61bef270e57a3f1e6e270996b6ca9de33282e883a02a0d92860e9871db46e2c", func := "overseer/overseerlaw15.GuardWeakest", spec := "guardWeakest", inPlace := ["internal/abi.NoEscape"], unfollowed := true, recurses := true, named := ["internal/strconv.uint64pow10", "math/bits.deBruijn32tab", "math/bits.deBruijn64tab"], apart := false, laid := [("math/bits.deBruijn32tab", laid_math_bits_deBruijn32tab), ("math/bits.deBruijn64tab", laid_math_bits_deBruijn64tab), ("internal/strconv.uint64pow10", laid_internal_strconv_uint64pow10)] }
def GuardWeakestSaid : Prop := guardWeakestRow.holds Tryd.pinned (OpenSpec.ofChange guardWeakestSpec)

/-- ITS FALSE NEIGHBOUR: 'it returns false'. Refute it at one input. -/
def guardWeakestWrong : ChangeSpec := { name := "guardWeakest", fn := fun _ => fun
  | [d1, d2, d3] => { results := [.lit (.bool false)], args := [d1, d2, d3] }
  | _ => none }
def GuardWeakestWrongFalsely : Prop := guardWeakestRow.holds Tryd.pinned (OpenSpec.ofChange guardWeakestWrong)

/-- 'overseerlaw19.FlattenFinds': WHATEVER THE INPUT: true; the input reads as it did. -/
def flattenFindsSpec : ChangeSpec := { name := "flattenFinds", fn := fun _ => fun
  | [d1, d2, d3] => { results := [.lit (.bool true)], args := [d1, d2, d3] }
  | _ => none }
def flattenFindsRow : OpenClaim := { program := "ytonnakcgopcfnaadoor", sum := "b61bef270e57a3f1e6e270996b6ca9de33282e883a02a0d92860e9871db46e2c", func := "overseer/overseerlaw19.FlattenFinds", spec := "flattenFinds", inPlace := ["internal/abi.NoEscape"], unfollowed := true, recurses := true, named := ["internal/strconv.uint64pow10", "math/bits.deBruijn32tab", "math/bits.deBruijn64tab"], apart := false, laid := [("math/bits.deBruijn32tab", laid_math_bits_deBruijn32tab), ("math/bits.deBruijn64tab", laid_math_bits_deBruijn64tab), ("internal/strconv.uint64pow10", laid_internal_strconv_uint64pow10)] }
def FlattenFindsSaid : Prop := flattenFindsRow.holds Tryd.pinned (OpenSpec.ofChange flattenFindsSpec)

/-- ITS FALSE NEIGHBOUR: 'it returns false'. Refute it at one input. -/
def flattenFindsWrong : ChangeSpec := { name := "flattenFinds", fn := fun _ => fun
  | [d1, d2, d3] => { results := [.lit (.bool false)], args := [d1, d2, d3] }
  | _ => none }
def FlattenFindsWrongFalsely : Prop := flattenFindsRow.holds Tryd.pinned (OpenSpec.ofChange flattenFindsWrong)

/-- 'overseerlaw19.FlattenFrom': WHATEVER THE INPUT: true; the input reads as it did. -/
def flattenFromSpec : ChangeSpec := { name := "flattenFrom", fn := fun _ => fun
  | [d] => { results := [.lit (.bool true)], args := [d] }
  | _ => none }
def flattenFromRow : OpenClaim := { program := "ytonnakcgopcfnaadoor", sum := "b61bef270e57a3f1e6e270996b6ca9de33282e883a02a0d92860e9871db46e2c", func := "overseer/overseerlaw19.FlattenFrom", spec := "flattenFrom", inPlace := ["internal/abi.NoEscape"], unfollowed := true, recurses := true, named := ["internal/strconv.uint64pow10", "math/bits.deBruijn32tab", "math/bits.deBruijn64tab"], apart := false, laid := [("math/bits.deBruijn32tab", laid_math_bits_deBruijn32tab), ("math/bits.deBruijn64tab", laid_math_bits_deBruijn64tab), ("internal/strconv.uint64pow10", laid_internal_strconv_uint64pow10)] }
def FlattenFromSaid : Prop := flattenFromRow.holds Tryd.pinned (OpenSpec.ofChange flattenFromSpec)

/-- ITS FALSE NEIGHBOUR: 'it returns false'. Refute it at one input. -/
def flattenFromWrong : ChangeSpec := { name := "flattenFrom", fn := fun _ => fun
  | [d] => { results := [.lit (.bool false)], args := [d] }
  | _ => none }
def FlattenFromWrongFalsely : Prop := flattenFromRow.holds Tryd.pinned (OpenSpec.ofChange flattenFromWrong)

/-- 'overseerlaw19.FlattenUnfolds': WHATEVER THE INPUT: true; the input reads as it did. -/
def flattenUnfoldsSpec : ChangeSpec := { name := "flattenUnfolds", fn := fun _ => fun
  | [d] => { results := [.lit (.bool true)], args := [d] }
  | _ => none }
def flattenUnfoldsRow : OpenClaim := { program := "ytonnakcgopcfnaadoor", sum := "b61bef270e57a3f1e6e270996b6ca9de33282e883a02a0d92860e9871db46e2c", func := "overseer/overseerlaw19.FlattenUnfolds", spec := "flattenUnfolds", inPlace := ["internal/abi.NoEscape"], unfollowed := true, recurses := true, named := ["internal/strconv.uint64pow10", "math/bits.deBruijn32tab", "math/bits.deBruijn64tab"], apart := false, laid := [("math/bits.deBruijn32tab", laid_math_bits_deBruijn32tab), ("math/bits.deBruijn64tab", laid_math_bits_deBruijn64tab), ("internal/strconv.uint64pow10", laid_internal_strconv_uint64pow10)] }
def FlattenUnfoldsSaid : Prop := flattenUnfoldsRow.holds Tryd.pinned (OpenSpec.ofChange flattenUnfoldsSpec)

/-- ITS FALSE NEIGHBOUR: 'it returns false'. Refute it at one input. -/
def flattenUnfoldsWrong : ChangeSpec := { name := "flattenUnfolds", fn := fun _ => fun
  | [d] => { results := [.lit (.bool false)], args := [d] }
  | _ => none }
def FlattenUnfoldsWrongFalsely : Prop := flattenUnfoldsRow.holds Tryd.pinned (OpenSpec.ofChange flattenUnfoldsWrong)

/-- 'overseerlaw19.FlattenRuns': WHATEVER THE INPUT: true; the input reads as it did. -/
def flattenRunsSpec : ChangeSpec := { name := "flattenRuns", fn := fun _ => fun
  | [d1, d2] => { results := [.lit (.bool true)], args := [d1, d2] }
  | _ => none }
def flattenRunsRow : OpenClaim := { program := "ytonnakcgopcfnaadoor", sum := "b61bef270e57a3f1e6e270996b6ca9de33282e883a02a0d92860e9871db46e2c", func := "overseer/overseerlaw19.FlattenRuns", spec := "flattenRuns", inPlace := ["internal/abi.NoEscape"], unfollowed := true, recurses := true, named := ["internal/strconv.uint64pow10", "math/bits.deBruijn32tab", "math/bits.deBruijn64tab"], apart := false, laid := [("math/bits.deBruijn32tab", laid_math_bits_deBruijn32tab), ("math/bits.deBruijn64tab", laid_math_bits_deBruijn64tab), ("internal/strconv.uint64pow10", laid_internal_strconv_uint64pow10)] }
def FlattenRunsSaid : Prop := flattenRunsRow.holds Tryd.pinned (OpenSpec.ofChange flattenRunsSpec)

/-- ITS FALSE NEIGHBOUR: 'it returns false'. Refute it at one input. -/
def flattenRunsWrong : ChangeSpec := { name := "flattenRuns", fn := fun _ => fun
  | [d1, d2] => { results := [.lit (.bool false)], args := [d1, d2] }
  | _ => none }
def FlattenRunsWrongFalsely : Prop := flattenRunsRow.holds Tryd.pinned (OpenSpec.ofChange flattenRunsWrong)

/- THE SECOND FORM. 'bulk': how many values and letters a reading holds, each counted each time it is reached (what is shared counts as often as it is met; a slice's spare places count too). A statement '..UptoSaid' is the law's where the arguments, and the package variables that the reading takes, are together of bulk at most 1048576: NARROWER than '..Said'. Prove '..Said' where nothing that the law and all that it calls make is longer than what came in: it says more and counts as full. Else prove '..UptoSaid'. A law counts once. -/
mutual
def uptoBulk {H : Type} : DataW H → Nat
  | .lit (.string bytes) => bytes.length + 1
  | .lit _ => 1
  | .nil => 1
  | .ptr d => uptoBulk d + 1
  | .slice elems spare => uptoBulkAll elems + uptoBulkAll spare + 1
  | .agg parts => uptoBulkAll parts + 1
  | .iface _ d => uptoBulk d + 1
  | .map entries => uptoBulkEntries entries + 1
  | .held _ => 1
def uptoBulkAll {H : Type} : List (DataW H) → Nat
  | [] => 0
  | d :: r => uptoBulk d + uptoBulkAll r
def uptoBulkEntries {H : Type} : List (Lit × DataW H) → Nat
  | [] => 0
  | x :: r => uptoBulkEntry x + uptoBulkEntries r
def uptoBulkEntry {H : Type} : Lit × DataW H → Nat
  | (.string bytes, d) => bytes.length + uptoBulk d + 1
  | (_, d) => uptoBulk d + 1
 end
def uptoSmall : (H : Type) → List (DataW H) → Bool := fun _ ds => decide (uptoBulkAll ds ≤ 1048576)
def OpenSpec.upto (s : _root_.Go.ChangeSpec) : _root_.Go.OpenSpec := { _root_.Go.OpenSpec.ofChange s with cond := some uptoSmall }

/-- 'overseerlaw15.GuardBoxes', WHERE WHAT IT READS IS OF BULK AT MOST 1048576: true; the input reads as it did. -/
def guardBoxesUptoRow : OpenClaim := { program := "ytonnakcgopcfnaadoor", sum := "b61bef270e57a3f1e6e270996b6ca9de33282e883a02a0d92860e9871db46e2c", func := "overseer/overseerlaw15.GuardBoxes", spec := "guardBoxes", inPlace := ["internal/abi.NoEscape"], unfollowed := true, recurses := true, named := ["internal/strconv.uint64pow10", "math/bits.deBruijn32tab", "math/bits.deBruijn64tab"], apart := false, laid := [("math/bits.deBruijn32tab", laid_math_bits_deBruijn32tab), ("math/bits.deBruijn64tab", laid_math_bits_deBruijn64tab), ("internal/strconv.uint64pow10", laid_internal_strconv_uint64pow10)], narrowed := true }
def GuardBoxesUptoSaid : Prop := guardBoxesUptoRow.holds Tryd.pinned (OpenSpec.upto guardBoxesSpec)

/-- 'overseerlaw15.GuardSimplifies', WHERE WHAT IT READS IS OF BULK AT MOST 1048576: true; the input reads as it did. -/
def guardSimplifiesUptoRow : OpenClaim := { program := "ytonnakcgopcfnaadoor", sum := "b61bef270e57a3f1e6e270996b6ca9de33282e883a02a0d92860e9871db46e2c", func := "overseer/overseerlaw15.GuardSimplifies", spec := "guardSimplifies", inPlace := ["internal/abi.NoEscape"], unfollowed := true, recurses := true, named := ["internal/strconv.uint64pow10", "math/bits.deBruijn32tab", "math/bits.deBruijn64tab"], apart := false, laid := [("math/bits.deBruijn32tab", laid_math_bits_deBruijn32tab), ("math/bits.deBruijn64tab", laid_math_bits_deBruijn64tab), ("internal/strconv.uint64pow10", laid_internal_strconv_uint64pow10)], narrowed := true }
def GuardSimplifiesUptoSaid : Prop := guardSimplifiesUptoRow.holds Tryd.pinned (OpenSpec.upto guardSimplifiesSpec)

/-- 'overseerlaw15.GuardCovers', WHERE WHAT IT READS IS OF BULK AT MOST 1048576: true; the input reads as it did. -/
def guardCoversUptoRow : OpenClaim := { program := "ytonnakcgopcfnaadoor", sum := "b61bef270e57a3f1e6e270996b6ca9de33282e883a02a0d92860e9871db46e2c", func := "overseer/overseerlaw15.GuardCovers", spec := "guardCovers", inPlace := ["internal/abi.NoEscape"], unfollowed := true, recurses := true, named := ["internal/strconv.uint64pow10", "math/bits.deBruijn32tab", "math/bits.deBruijn64tab"], apart := false, laid := [("math/bits.deBruijn32tab", laid_math_bits_deBruijn32tab), ("math/bits.deBruijn64tab", laid_math_bits_deBruijn64tab), ("internal/strconv.uint64pow10", laid_internal_strconv_uint64pow10)], narrowed := true }
def GuardCoversUptoSaid : Prop := guardCoversUptoRow.holds Tryd.pinned (OpenSpec.upto guardCoversSpec)

/-- 'overseerlaw15.GuardChecks', WHERE WHAT IT READS IS OF BULK AT MOST 1048576: true; the input reads as it did. -/
def guardChecksUptoRow : OpenClaim := { program := "ytonnakcgopcfnaadoor", sum := "b61bef270e57a3f1e6e270996b6ca9de33282e883a02a0d92860e9871db46e2c", func := "overseer/overseerlaw15.GuardChecks", spec := "guardChecks", inPlace := ["internal/abi.NoEscape"], unfollowed := true, recurses := true, named := ["internal/strconv.uint64pow10", "math/bits.deBruijn32tab", "math/bits.deBruijn64tab"], loops := true, apart := false, laid := [("math/bits.deBruijn32tab", laid_math_bits_deBruijn32tab), ("math/bits.deBruijn64tab", laid_math_bits_deBruijn64tab), ("internal/strconv.uint64pow10", laid_internal_strconv_uint64pow10)], narrowed := true }
def GuardChecksUptoSaid : Prop := guardChecksUptoRow.holds Tryd.pinned (OpenSpec.upto guardChecksSpec)

/-- 'overseerlaw15.GuardCompares', WHERE WHAT IT READS IS OF BULK AT MOST 1048576: true; the input reads as it did. -/
def guardComparesUptoRow : OpenClaim := { program := "ytonnakcgopcfnaadoor", sum := "b61bef270e57a3f1e6e270996b6ca9de33282e883a02a0d92860e9871db46e2c", func := "overseer/overseerlaw15.GuardCompares", spec := "guardCompares", inPlace := ["internal/abi.NoEscape"], unfollowed := true, recurses := true, named := ["internal/strconv.uint64pow10", "math/bits.deBruijn32tab", "math/bits.deBruijn64tab"], apart := false, laid := [("math/bits.deBruijn32tab", laid_math_bits_deBruijn32tab), ("math/bits.deBruijn64tab", laid_math_bits_deBruijn64tab), ("internal/strconv.uint64pow10", laid_internal_strconv_uint64pow10)], narrowed := true }
def GuardComparesUptoSaid : Prop := guardComparesUptoRow.holds Tryd.pinned (OpenSpec.upto guardComparesSpec)

/-- 'overseerlaw15.GuardExprs', WHERE WHAT IT READS IS OF BULK AT MOST 1048576: true; the input reads as it did. -/
def guardExprsUptoRow : OpenClaim := { program := "ytonnakcgopcfnaadoor", sum := "b61bef270e57a3f1e6e270996b6ca9de33282e883a02a0d92860e9871db46e2c", func := "overseer/overseerlaw15.GuardExprs", spec := "guardExprs", inPlace := ["internal/abi.NoEscape"], unfollowed := true, recurses := true, named := ["internal/strconv.uint64pow10", "math/bits.deBruijn32tab", "math/bits.deBruijn64tab"], apart := false, laid := [("math/bits.deBruijn32tab", laid_math_bits_deBruijn32tab), ("math/bits.deBruijn64tab", laid_math_bits_deBruijn64tab), ("internal/strconv.uint64pow10", laid_internal_strconv_uint64pow10)], narrowed := true }
def GuardExprsUptoSaid : Prop := guardExprsUptoRow.holds Tryd.pinned (OpenSpec.upto guardExprsSpec)

/-- 'overseerlaw15.GuardRefuses', WHERE WHAT IT READS IS OF BULK AT MOST 1048576: true; the input reads as it did. -/
def guardRefusesUptoRow : OpenClaim := { program := "ytonnakcgopcfnaadoor", sum := "b61bef270e57a3f1e6e270996b6ca9de33282e883a02a0d92860e9871db46e2c", func := "overseer/overseerlaw15.GuardRefuses", spec := "guardRefuses", inPlace := ["internal/abi.NoEscape"], unfollowed := true, recurses := true, named := ["internal/strconv.uint64pow10", "math/bits.deBruijn32tab", "math/bits.deBruijn64tab"], apart := false, laid := [("math/bits.deBruijn32tab", laid_math_bits_deBruijn32tab), ("math/bits.deBruijn64tab", laid_math_bits_deBruijn64tab), ("internal/strconv.uint64pow10", laid_internal_strconv_uint64pow10)], narrowed := true }
def GuardRefusesUptoSaid : Prop := guardRefusesUptoRow.holds Tryd.pinned (OpenSpec.upto guardRefusesSpec)

/-- 'overseerlaw15.GuardWeakest', WHERE WHAT IT READS IS OF BULK AT MOST 1048576: true; the input reads as it did. -/
def guardWeakestUptoRow : OpenClaim := { program := "ytonnakcgopcfnaadoor", sum := "b61bef270e57a3f1e6e270996b6ca9de33282e883a02a0d92860e9871db46e2c", func := "overseer/overseerlaw15.GuardWeakest", spec := "guardWeakest", inPlace := ["internal/abi.NoEscape"], unfollowed := true, recurses := true, named := ["internal/strconv.uint64pow10", "math/bits.deBruijn32tab", "math/bits.deBruijn64tab"], apart := false, laid := [("math/bits.deBruijn32tab", laid_math_bits_deBruijn32tab), ("math/bits.deBruijn64tab", laid_math_bits_deBruijn64tab), ("internal/strconv.uint64pow10", laid_internal_strconv_uint64pow10)], narrowed := true }
def GuardWeakestUptoSaid : Prop := guardWeakestUptoRow.holds Tryd.pinned (OpenSpec.upto guardWeakestSpec)

/-- 'overseerlaw19.FlattenFinds', WHERE WHAT IT READS IS OF BULK AT MOST 1048576: true; the input reads as it did. -/
def flattenFindsUptoRow : OpenClaim := { program := "ytonnakcgopcfnaadoor", sum := "b61bef270e57a3f1e6e270996b6ca9de33282e883a02a0d92860e9871db46e2c", func := "overseer/overseerlaw19.FlattenFinds", spec := "flattenFinds", inPlace := ["internal/abi.NoEscape"], unfollowed := true, recurses := true, named := ["internal/strconv.uint64pow10", "math/bits.deBruijn32tab", "math/bits.deBruijn64tab"], apart := false, laid := [("math/bits.deBruijn32tab", laid_math_bits_deBruijn32tab), ("math/bits.deBruijn64tab", laid_math_bits_deBruijn64tab), ("internal/strconv.uint64pow10", laid_internal_strconv_uint64pow10)], narrowed := true }
def FlattenFindsUptoSaid : Prop := flattenFindsUptoRow.holds Tryd.pinned (OpenSpec.upto flattenFindsSpec)

/-- 'overseerlaw19.FlattenFrom', WHERE WHAT IT READS IS OF BULK AT MOST 1048576: true; the input reads as it did. -/
def flattenFromUptoRow : OpenClaim := { program := "ytonnakcgopcfnaadoor", sum := "b61bef270e57a3f1e6e270996b6ca9de33282e883a02a0d92860e9871db46e2c", func := "overseer/overseerlaw19.FlattenFrom", spec := "flattenFrom", inPlace := ["internal/abi.NoEscape"], unfollowed := true, recurses := true, named := ["internal/strconv.uint64pow10", "math/bits.deBruijn32tab", "math/bits.deBruijn64tab"], apart := false, laid := [("math/bits.deBruijn32tab", laid_math_bits_deBruijn32tab), ("math/bits.deBruijn64tab", laid_math_bits_deBruijn64tab), ("internal/strconv.uint64pow10", laid_internal_strconv_uint64pow10)], narrowed := true }
def FlattenFromUptoSaid : Prop := flattenFromUptoRow.holds Tryd.pinned (OpenSpec.upto flattenFromSpec)

/-- 'overseerlaw19.FlattenUnfolds', WHERE WHAT IT READS IS OF BULK AT MOST 1048576: true; the input reads as it did. -/
def flattenUnfoldsUptoRow : OpenClaim := { program := "ytonnakcgopcfnaadoor", sum := "b61bef270e57a3f1e6e270996b6ca9de33282e883a02a0d92860e9871db46e2c", func := "overseer/overseerlaw19.FlattenUnfolds", spec := "flattenUnfolds", inPlace := ["internal/abi.NoEscape"], unfollowed := true, recurses := true, named := ["internal/strconv.uint64pow10", "math/bits.deBruijn32tab", "math/bits.deBruijn64tab"], apart := false, laid := [("math/bits.deBruijn32tab", laid_math_bits_deBruijn32tab), ("math/bits.deBruijn64tab", laid_math_bits_deBruijn64tab), ("internal/strconv.uint64pow10", laid_internal_strconv_uint64pow10)], narrowed := true }
def FlattenUnfoldsUptoSaid : Prop := flattenUnfoldsUptoRow.holds Tryd.pinned (OpenSpec.upto flattenUnfoldsSpec)

/-- 'overseerlaw19.FlattenRuns', WHERE WHAT IT READS IS OF BULK AT MOST 1048576: true; the input reads as it did. -/
def flattenRunsUptoRow : OpenClaim := { program := "ytonnakcgopcfnaadoor", sum := "b61bef270e57a3f1e6e270996b6ca9de33282e883a02a0d92860e9871db46e2c", func := "overseer/overseerlaw19.FlattenRuns", spec := "flattenRuns", inPlace := ["internal/abi.NoEscape"], unfollowed := true, recurses := true, named := ["internal/strconv.uint64pow10", "math/bits.deBruijn32tab", "math/bits.deBruijn64tab"], apart := false, laid := [("math/bits.deBruijn32tab", laid_math_bits_deBruijn32tab), ("math/bits.deBruijn64tab", laid_math_bits_deBruijn64tab), ("internal/strconv.uint64pow10", laid_internal_strconv_uint64pow10)], narrowed := true }
def FlattenRunsUptoSaid : Prop := flattenRunsUptoRow.holds Tryd.pinned (OpenSpec.upto flattenRunsSpec)

end Rows
end Go.Proofs.YtonnakcgopcfnaaDoor
