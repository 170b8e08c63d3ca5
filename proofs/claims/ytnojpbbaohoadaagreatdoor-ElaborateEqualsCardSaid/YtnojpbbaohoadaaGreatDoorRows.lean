/-
  NARROWER THAN 'FOR EVERY INPUT', by the rows' own cells (each row's printed sentence says how): ElaborateChecks: laid · ElaborateWords: laid · ElaborateLimits: laid · ElaborateCells: laid · ElaborateRenames: laid · ElaborateMachines: laid · ElaborateEquals: laid · ElaborateFinds: laid.
  DERIVED. THE GIVEN ROWS OF THIS SEAT. 8 by the template 'for every input the law returns true; each argument reads behind the call as it read before'; 0 by the template 'total and deterministic' (their statements: YtnojpbbaohoadaaGreatDoorTotals.lean).
  GIVEN WITH THE SEED: the statements are not yours to turn. If you find one false, say at which input.
  Laid BY PROGRAM, IN A SANDBOX (cutbox-rows.mjs): the forced cells as the released guide's own fill.sh prints them over the translation b047c5db8bf0f179… (all of the seat's roots in one cut). By AI agents, Wed Nov 11 2026. No macro, syntax, notation, axiom, sorry.
-/
import Derived.Test.YtnojpbbaohoadaaGreatDoorChecked
import GoSem.Claim
import GoSem.ClaimJoined
import GoSem.ClaimMapViews
import Derived.JoinedTies
import Derived.KernelRfl
namespace Go.Proofs.YtnojpbbaohoadaaGreatDoor
/- THE CELL 'sum', in the pinned program and in every row, IS THE sha256 OF THE DUMP (.gsa) THAT YtnojpbbaohoadaaGreatDoorProg.lean LOADS. Nothing in Lean hashes anything: it is a label: what it is worth is what the hold of that sum in a sandbox is worth. -/
noncomputable def Tryz.pinned : Pinned := { name := "ytnojpbbaohoadaagreatdoor", sum := "b047c5db8bf0f179dc05cdf10546c5e5c17de299d2ecd4a93e07d0cf3c434789", checked := Tryz.checked }
namespace Rows
def none {H : Type} : Left H := { results := [], args := [] }

/- WHAT THE LISTED PACKAGE-LEVEL VARIABLES READ AS WHEN THE CALL BEGINS. Each datum BY PROGRAM (the guide's laid-datum.mjs) off the statement by which the dump's own 'gosem.cut.vars' lays the variable. In a bare row this is a premise. The card (YtnojpbbaohoadaaGreatDoorCards.lean) ties it to the program's text. -/
def laid_math_bits_deBruijn32tab {H : Type} : DataW H := .agg [.lit (.int .u8 0), .lit (.int .u8 1), .lit (.int .u8 28), .lit (.int .u8 2), .lit (.int .u8 29), .lit (.int .u8 14), .lit (.int .u8 24), .lit (.int .u8 3), .lit (.int .u8 30), .lit (.int .u8 22), .lit (.int .u8 20), .lit (.int .u8 15), .lit (.int .u8 25), .lit (.int .u8 17), .lit (.int .u8 4), .lit (.int .u8 8), .lit (.int .u8 31), .lit (.int .u8 27), .lit (.int .u8 13), .lit (.int .u8 23), .lit (.int .u8 21), .lit (.int .u8 19), .lit (.int .u8 16), .lit (.int .u8 7), .lit (.int .u8 26), .lit (.int .u8 12), .lit (.int .u8 18), .lit (.int .u8 6), .lit (.int .u8 11), .lit (.int .u8 5), .lit (.int .u8 10), .lit (.int .u8 9)]
def laid_math_bits_deBruijn64tab {H : Type} : DataW H := .agg [.lit (.int .u8 0), .lit (.int .u8 1), .lit (.int .u8 56), .lit (.int .u8 2), .lit (.int .u8 57), .lit (.int .u8 49), .lit (.int .u8 28), .lit (.int .u8 3), .lit (.int .u8 61), .lit (.int .u8 58), .lit (.int .u8 42), .lit (.int .u8 50), .lit (.int .u8 38), .lit (.int .u8 29), .lit (.int .u8 17), .lit (.int .u8 4), .lit (.int .u8 62), .lit (.int .u8 47), .lit (.int .u8 59), .lit (.int .u8 36), .lit (.int .u8 45), .lit (.int .u8 43), .lit (.int .u8 51), .lit (.int .u8 22), .lit (.int .u8 53), .lit (.int .u8 39), .lit (.int .u8 33), .lit (.int .u8 30), .lit (.int .u8 24), .lit (.int .u8 18), .lit (.int .u8 12), .lit (.int .u8 5), .lit (.int .u8 63), .lit (.int .u8 55), .lit (.int .u8 48), .lit (.int .u8 27), .lit (.int .u8 60), .lit (.int .u8 41), .lit (.int .u8 37), .lit (.int .u8 16), .lit (.int .u8 46), .lit (.int .u8 35), .lit (.int .u8 44), .lit (.int .u8 21), .lit (.int .u8 52), .lit (.int .u8 32), .lit (.int .u8 23), .lit (.int .u8 11), .lit (.int .u8 54), .lit (.int .u8 26), .lit (.int .u8 40), .lit (.int .u8 15), .lit (.int .u8 34), .lit (.int .u8 20), .lit (.int .u8 31), .lit (.int .u8 10), .lit (.int .u8 25), .lit (.int .u8 14), .lit (.int .u8 19), .lit (.int .u8 9), .lit (.int .u8 13), .lit (.int .u8 8), .lit (.int .u8 7), .lit (.int .u8 6)]
def laid_internal_strconv_uint64pow10 {H : Type} : DataW H := .agg [.lit (.int .u64 1), .lit (.int .u64 10), .lit (.int .u64 100), .lit (.int .u64 1000), .lit (.int .u64 10000), .lit (.int .u64 100000), .lit (.int .u64 1000000), .lit (.int .u64 10000000), .lit (.int .u64 100000000), .lit (.int .u64 1000000000), .lit (.int .u64 10000000000), .lit (.int .u64 100000000000), .lit (.int .u64 1000000000000), .lit (.int .u64 10000000000000), .lit (.int .u64 100000000000000), .lit (.int .u64 1000000000000000), .lit (.int .u64 10000000000000000), .lit (.int .u64 100000000000000000), .lit (.int .u64 1000000000000000000), .lit (.int .u64 10000000000000000000)]

/-- 'overseerlaw22.ElaborateChecks': WHATEVER THE INPUT: true; the input reads as it did. -/
def elaborateChecksSpec : ChangeSpec := { name := "elaborateChecks", fn := fun _ => fun
  | [d1, d2] => { results := [.lit (.bool true)], args := [d1, d2] }
  | _ => none }
def elaborateChecksRow : OpenClaim := { program := "ytnojpbbaohoadaagreatdoor", sum := "b047c5db8bf0f179dc05cdf10546c5e5c17de299d2ecd4a93e07d0cf3c434789", func := "overseer/overseerlaw22.ElaborateChecks", spec := "elaborateChecks", inPlace := ["internal/abi.NoEscape"], unfollowed := true, recurses := true, named := ["internal/strconv.uint64pow10", "math/bits.deBruijn32tab", "math/bits.deBruijn64tab"], apart := false, laid := [("math/bits.deBruijn32tab", laid_math_bits_deBruijn32tab), ("math/bits.deBruijn64tab", laid_math_bits_deBruijn64tab), ("internal/strconv.uint64pow10", laid_internal_strconv_uint64pow10)] }
def ElaborateChecksSaid : Prop := elaborateChecksRow.holds Tryz.pinned (OpenSpec.ofChange elaborateChecksSpec)

/-- ITS FALSE NEIGHBOUR: 'it returns false'. Refute it at one input. -/
def elaborateChecksWrong : ChangeSpec := { name := "elaborateChecks", fn := fun _ => fun
  | [d1, d2] => { results := [.lit (.bool false)], args := [d1, d2] }
  | _ => none }
def ElaborateChecksWrongFalsely : Prop := elaborateChecksRow.holds Tryz.pinned (OpenSpec.ofChange elaborateChecksWrong)

/-- 'overseerlaw22.ElaborateWords': WHATEVER THE INPUT: true; the input reads as it did. -/
def elaborateWordsSpec : ChangeSpec := { name := "elaborateWords", fn := fun _ => fun
  | [d1, d2, d3] => { results := [.lit (.bool true)], args := [d1, d2, d3] }
  | _ => none }
def elaborateWordsRow : OpenClaim := { program := "ytnojpbbaohoadaagreatdoor", sum := "b047c5db8bf0f179dc05cdf10546c5e5c17de299d2ecd4a93e07d0cf3c434789", func := "overseer/overseerlaw22.ElaborateWords", spec := "elaborateWords", inPlace := ["internal/abi.NoEscape"], unfollowed := true, recurses := true, named := ["internal/strconv.uint64pow10", "math/bits.deBruijn32tab", "math/bits.deBruijn64tab"], apart := false, laid := [("math/bits.deBruijn32tab", laid_math_bits_deBruijn32tab), ("math/bits.deBruijn64tab", laid_math_bits_deBruijn64tab), ("internal/strconv.uint64pow10", laid_internal_strconv_uint64pow10)] }
def ElaborateWordsSaid : Prop := elaborateWordsRow.holds Tryz.pinned (OpenSpec.ofChange elaborateWordsSpec)

/-- ITS FALSE NEIGHBOUR: 'it returns false'. Refute it at one input. -/
def elaborateWordsWrong : ChangeSpec := { name := "elaborateWords", fn := fun _ => fun
  | [d1, d2, d3] => { results := [.lit (.bool false)], args := [d1, d2, d3] }
  | _ => none }
def ElaborateWordsWrongFalsely : Prop := elaborateWordsRow.holds Tryz.pinned (OpenSpec.ofChange elaborateWordsWrong)

/-- 'overseerlaw22.ElaborateLimits': WHATEVER THE INPUT: true; the input reads as it did. -/
def elaborateLimitsSpec : ChangeSpec := { name := "elaborateLimits", fn := fun _ => fun
  | [d1, d2] => { results := [.lit (.bool true)], args := [d1, d2] }
  | _ => none }
def elaborateLimitsRow : OpenClaim := { program := "ytnojpbbaohoadaagreatdoor", sum := "b047c5db8bf0f179dc05cdf10546c5e5c17de299d2ecd4a93e07d0cf3c434789", func := "overseer/overseerlaw22.ElaborateLimits", spec := "elaborateLimits", inPlace := ["internal/abi.NoEscape"], unfollowed := true, recurses := true, named := ["internal/strconv.uint64pow10", "math/bits.deBruijn32tab", "math/bits.deBruijn64tab"], apart := false, laid := [("math/bits.deBruijn32tab", laid_math_bits_deBruijn32tab), ("math/bits.deBruijn64tab", laid_math_bits_deBruijn64tab), ("internal/strconv.uint64pow10", laid_internal_strconv_uint64pow10)] }
def ElaborateLimitsSaid : Prop := elaborateLimitsRow.holds Tryz.pinned (OpenSpec.ofChange elaborateLimitsSpec)

/-- ITS FALSE NEIGHBOUR: 'it returns false'. Refute it at one input. -/
def elaborateLimitsWrong : ChangeSpec := { name := "elaborateLimits", fn := fun _ => fun
  | [d1, d2] => { results := [.lit (.bool false)], args := [d1, d2] }
  | _ => none }
def ElaborateLimitsWrongFalsely : Prop := elaborateLimitsRow.holds Tryz.pinned (OpenSpec.ofChange elaborateLimitsWrong)

/-- 'overseerlaw22.ElaborateCells': WHATEVER THE INPUT: true; the input reads as it did. -/
def elaborateCellsSpec : ChangeSpec := { name := "elaborateCells", fn := fun _ => fun
  | [d] => { results := [.lit (.bool true)], args := [d] }
  | _ => none }
def elaborateCellsRow : OpenClaim := { program := "ytnojpbbaohoadaagreatdoor", sum := "b047c5db8bf0f179dc05cdf10546c5e5c17de299d2ecd4a93e07d0cf3c434789", func := "overseer/overseerlaw22.ElaborateCells", spec := "elaborateCells", inPlace := ["internal/abi.NoEscape"], unfollowed := true, recurses := true, named := ["internal/strconv.uint64pow10", "math/bits.deBruijn32tab", "math/bits.deBruijn64tab"], apart := false, laid := [("math/bits.deBruijn32tab", laid_math_bits_deBruijn32tab), ("math/bits.deBruijn64tab", laid_math_bits_deBruijn64tab), ("internal/strconv.uint64pow10", laid_internal_strconv_uint64pow10)] }
def ElaborateCellsSaid : Prop := elaborateCellsRow.holds Tryz.pinned (OpenSpec.ofChange elaborateCellsSpec)

/-- ITS FALSE NEIGHBOUR: 'it returns false'. Refute it at one input. -/
def elaborateCellsWrong : ChangeSpec := { name := "elaborateCells", fn := fun _ => fun
  | [d] => { results := [.lit (.bool false)], args := [d] }
  | _ => none }
def ElaborateCellsWrongFalsely : Prop := elaborateCellsRow.holds Tryz.pinned (OpenSpec.ofChange elaborateCellsWrong)

/-- 'overseerlaw22.ElaborateRenames': WHATEVER THE INPUT: true; the input reads as it did. -/
def elaborateRenamesSpec : ChangeSpec := { name := "elaborateRenames", fn := fun _ => fun
  | [d1, d2] => { results := [.lit (.bool true)], args := [d1, d2] }
  | _ => none }
def elaborateRenamesRow : OpenClaim := { program := "ytnojpbbaohoadaagreatdoor", sum := "b047c5db8bf0f179dc05cdf10546c5e5c17de299d2ecd4a93e07d0cf3c434789", func := "overseer/overseerlaw22.ElaborateRenames", spec := "elaborateRenames", inPlace := ["internal/abi.NoEscape"], unfollowed := true, recurses := true, named := ["internal/strconv.uint64pow10", "math/bits.deBruijn32tab", "math/bits.deBruijn64tab"], apart := false, laid := [("math/bits.deBruijn32tab", laid_math_bits_deBruijn32tab), ("math/bits.deBruijn64tab", laid_math_bits_deBruijn64tab), ("internal/strconv.uint64pow10", laid_internal_strconv_uint64pow10)] }
def ElaborateRenamesSaid : Prop := elaborateRenamesRow.holds Tryz.pinned (OpenSpec.ofChange elaborateRenamesSpec)

/-- ITS FALSE NEIGHBOUR: 'it returns false'. Refute it at one input. -/
def elaborateRenamesWrong : ChangeSpec := { name := "elaborateRenames", fn := fun _ => fun
  | [d1, d2] => { results := [.lit (.bool false)], args := [d1, d2] }
  | _ => none }
def ElaborateRenamesWrongFalsely : Prop := elaborateRenamesRow.holds Tryz.pinned (OpenSpec.ofChange elaborateRenamesWrong)

/-- 'overseerlaw22.ElaborateMachines': WHATEVER THE INPUT: true; the input reads as it did. -/
def elaborateMachinesSpec : ChangeSpec := { name := "elaborateMachines", fn := fun _ => fun
  | [d1, d2, d3] => { results := [.lit (.bool true)], args := [d1, d2, d3] }
  | _ => none }
def elaborateMachinesRow : OpenClaim := { program := "ytnojpbbaohoadaagreatdoor", sum := "b047c5db8bf0f179dc05cdf10546c5e5c17de299d2ecd4a93e07d0cf3c434789", func := "overseer/overseerlaw22.ElaborateMachines", spec := "elaborateMachines", inPlace := ["internal/abi.NoEscape"], unfollowed := true, recurses := true, named := ["internal/strconv.uint64pow10", "math/bits.deBruijn32tab", "math/bits.deBruijn64tab"], apart := false, laid := [("math/bits.deBruijn32tab", laid_math_bits_deBruijn32tab), ("math/bits.deBruijn64tab", laid_math_bits_deBruijn64tab), ("internal/strconv.uint64pow10", laid_internal_strconv_uint64pow10)] }
def ElaborateMachinesSaid : Prop := elaborateMachinesRow.holds Tryz.pinned (OpenSpec.ofChange elaborateMachinesSpec)

/-- ITS FALSE NEIGHBOUR: 'it returns false'. Refute it at one input. -/
def elaborateMachinesWrong : ChangeSpec := { name := "elaborateMachines", fn := fun _ => fun
  | [d1, d2, d3] => { results := [.lit (.bool false)], args := [d1, d2, d3] }
  | _ => none }
def ElaborateMachinesWrongFalsely : Prop := elaborateMachinesRow.holds Tryz.pinned (OpenSpec.ofChange elaborateMachinesWrong)

/-- 'overseerlaw22.ElaborateEquals': WHATEVER THE INPUT: true; the input reads as it did. -/
def elaborateEqualsSpec : ChangeSpec := { name := "elaborateEquals", fn := fun _ => fun
  | [d1, d2] => { results := [.lit (.bool true)], args := [d1, d2] }
  | _ => none }
def elaborateEqualsRow : OpenClaim := { program := "ytnojpbbaohoadaagreatdoor", sum := "b047c5db8bf0f179dc05cdf10546c5e5c17de299d2ecd4a93e07d0cf3c434789", func := "overseer/overseerlaw22.ElaborateEquals", spec := "elaborateEquals", inPlace := ["internal/abi.NoEscape"], unfollowed := true, recurses := true, named := ["internal/strconv.uint64pow10", "math/bits.deBruijn32tab", "math/bits.deBruijn64tab"], apart := false, laid := [("math/bits.deBruijn32tab", laid_math_bits_deBruijn32tab), ("math/bits.deBruijn64tab", laid_math_bits_deBruijn64tab), ("internal/strconv.uint64pow10", laid_internal_strconv_uint64pow10)] }
def ElaborateEqualsSaid : Prop := elaborateEqualsRow.holds Tryz.pinned (OpenSpec.ofChange elaborateEqualsSpec)

/-- ITS FALSE NEIGHBOUR: 'it returns false'. Refute it at one input. -/
def elaborateEqualsWrong : ChangeSpec := { name := "elaborateEquals", fn := fun _ => fun
  | [d1, d2] => { results := [.lit (.bool false)], args := [d1, d2] }
  | _ => none }
def ElaborateEqualsWrongFalsely : Prop := elaborateEqualsRow.holds Tryz.pinned (OpenSpec.ofChange elaborateEqualsWrong)

/-- 'overseerlaw22.ElaborateFinds': WHATEVER THE INPUT: true; the input reads as it did. -/
def elaborateFindsSpec : ChangeSpec := { name := "elaborateFinds", fn := fun _ => fun
  | [d1, d2, d3] => { results := [.lit (.bool true)], args := [d1, d2, d3] }
  | _ => none }
def elaborateFindsRow : OpenClaim := { program := "ytnojpbbaohoadaagreatdoor", sum := "b047c5db8bf0f179dc05cdf10546c5e5c17de299d2ecd4a93e07d0cf3c434789", func := "overseer/overseerlaw22.ElaborateFinds", spec := "elaborateFinds", inPlace := ["internal/abi.NoEscape"], unfollowed := true, recurses := true, named := ["internal/strconv.uint64pow10", "math/bits.deBruijn32tab", "math/bits.deBruijn64tab"], apart := false, laid := [("math/bits.deBruijn32tab", laid_math_bits_deBruijn32tab), ("math/bits.deBruijn64tab", laid_math_bits_deBruijn64tab), ("internal/strconv.uint64pow10", laid_internal_strconv_uint64pow10)] }
def ElaborateFindsSaid : Prop := elaborateFindsRow.holds Tryz.pinned (OpenSpec.ofChange elaborateFindsSpec)

/-- ITS FALSE NEIGHBOUR: 'it returns false'. Refute it at one input. -/
def elaborateFindsWrong : ChangeSpec := { name := "elaborateFinds", fn := fun _ => fun
  | [d1, d2, d3] => { results := [.lit (.bool false)], args := [d1, d2, d3] }
  | _ => none }
def ElaborateFindsWrongFalsely : Prop := elaborateFindsRow.holds Tryz.pinned (OpenSpec.ofChange elaborateFindsWrong)

/- THE SECOND FORM. 'bulk': how many values and letters a reading holds, each counted each time it is reached (what is shared counts as often as it is met; a slice's spare places count too). A statement '..UptoSaid' is the law's where the arguments, and the package variables that the reading takes, are together of bulk at most 1048576: NARROWER than '..Said'. Prove '..Said' where nothing that the law and all that it calls make is longer than what came in: it says more and counts as full. Else prove '..UptoSaid'. A law counts once. -/
mutual
def uptoBulk {H : Type} : DataW H → Nat
  | .lit (.string bytes) => bytes.length + 1
  | .lit _ => 1
  | .nil => 1
  | .ptr d => uptoBulk d + 1
  | .slice elems spare => uptoBulkAll elems + uptoBulkAll spare + 1
  | .agg parts => uptoBulkAll parts + 1
  | .iface _ d => uptoBulk d + 1
  | .map entries => uptoBulkEntries entries + 1
  | .held _ => 1
def uptoBulkAll {H : Type} : List (DataW H) → Nat
  | [] => 0
  | d :: r => uptoBulk d + uptoBulkAll r
def uptoBulkEntries {H : Type} : List (Lit × DataW H) → Nat
  | [] => 0
  | x :: r => uptoBulkEntry x + uptoBulkEntries r
def uptoBulkEntry {H : Type} : Lit × DataW H → Nat
  | (.string bytes, d) => bytes.length + uptoBulk d + 1
  | (_, d) => uptoBulk d + 1
 end
def uptoSmall : (H : Type) → List (DataW H) → Bool := fun _ ds => decide (uptoBulkAll ds ≤ 1048576)
def OpenSpec.upto (s : _root_.Go.ChangeSpec) : _root_.Go.OpenSpec := { _root_.Go.OpenSpec.ofChange s with cond := some uptoSmall }

/-- 'overseerlaw22.ElaborateChecks', WHERE WHAT IT READS IS OF BULK AT MOST 1048576: true; the input reads as it did. -/
def elaborateChecksUptoRow : OpenClaim := { program := "ytnojpbbaohoadaagreatdoor", sum := "b047c5db8bf0f179dc05cdf10546c5e5c17de299d2ecd4a93e07d0cf3c434789", func := "overseer/overseerlaw22.ElaborateChecks", spec := "elaborateChecks", inPlace := ["internal/abi.NoEscape"], unfollowed := true, recurses := true, named := ["internal/strconv.uint64pow10", "math/bits.deBruijn32tab", "math/bits.deBruijn64tab"], apart := false, laid := [("math/bits.deBruijn32tab", laid_math_bits_deBruijn32tab), ("math/bits.deBruijn64tab", laid_math_bits_deBruijn64tab), ("internal/strconv.uint64pow10", laid_internal_strconv_uint64pow10)], narrowed := true }
def ElaborateChecksUptoSaid : Prop := elaborateChecksUptoRow.holds Tryz.pinned (OpenSpec.upto elaborateChecksSpec)

/-- 'overseerlaw22.ElaborateWords', WHERE WHAT IT READS IS OF BULK AT MOST 1048576: true; the input reads as it did. -/
def elaborateWordsUptoRow : OpenClaim := { program := "ytnojpbbaohoadaagreatdoor", sum := "b047c5db8bf0f179dc05cdf10546c5e5c17de299d2ecd4a93e07d0cf3c434789", func := "overseer/overseerlaw22.ElaborateWords", spec := "elaborateWords", inPlace := ["internal/abi.NoEscape"], unfollowed := true, recurses := true, named := ["internal/strconv.uint64pow10", "math/bits.deBruijn32tab", "math/bits.deBruijn64tab"], apart := false, laid := [("math/bits.deBruijn32tab", laid_math_bits_deBruijn32tab), ("math/bits.deBruijn64tab", laid_math_bits_deBruijn64tab), ("internal/strconv.uint64pow10", laid_internal_strconv_uint64pow10)], narrowed := true }
def ElaborateWordsUptoSaid : Prop := elaborateWordsUptoRow.holds Tryz.pinned (OpenSpec.upto elaborateWordsSpec)

/-- 'overseerlaw22.ElaborateLimits', WHERE WHAT IT READS IS OF BULK AT MOST 1048576: true; the input reads as it did. -/
def elaborateLimitsUptoRow : OpenClaim := { program := "ytnojpbbaohoadaagreatdoor", sum := "b047c5db8bf0f179dc05cdf10546c5e5c17de299d2ecd4a93e07d0cf3c434789", func := "overseer/overseerlaw22.ElaborateLimits", spec := "elaborateLimits", inPlace := ["internal/abi.NoEscape"], unfollowed := true, recurses := true, named := ["internal/strconv.uint64pow10", "math/bits.deBruijn32tab", "math/bits.deBruijn64tab"], apart := false, laid := [("math/bits.deBruijn32tab", laid_math_bits_deBruijn32tab), ("math/bits.deBruijn64tab", laid_math_bits_deBruijn64tab), ("internal/strconv.uint64pow10", laid_internal_strconv_uint64pow10)], narrowed := true }
def ElaborateLimitsUptoSaid : Prop := elaborateLimitsUptoRow.holds Tryz.pinned (OpenSpec.upto elaborateLimitsSpec)

/-- 'overseerlaw22.ElaborateCells', WHERE WHAT IT READS IS OF BULK AT MOST 1048576: true; the input reads as it did. -/
def elaborateCellsUptoRow : OpenClaim := { program := "ytnojpbbaohoadaagreatdoor", sum := "b047c5db8bf0f179dc05cdf10546c5e5c17de299d2ecd4a93e07d0cf3c434789", func := "overseer/overseerlaw22.ElaborateCells", spec := "elaborateCells", inPlace := ["internal/abi.NoEscape"], unfollowed := true, recurses := true, named := ["internal/strconv.uint64pow10", "math/bits.deBruijn32tab", "math/bits.deBruijn64tab"], apart := false, laid := [("math/bits.deBruijn32tab", laid_math_bits_deBruijn32tab), ("math/bits.deBruijn64tab", laid_math_bits_deBruijn64tab), ("internal/strconv.uint64pow10", laid_internal_strconv_uint64pow10)], narrowed := true }
def ElaborateCellsUptoSaid : Prop := elaborateCellsUptoRow.holds Tryz.pinned (OpenSpec.upto elaborateCellsSpec)

/-- 'overseerlaw22.ElaborateRenames', WHERE WHAT IT READS IS OF BULK AT MOST 1048576: true; the input reads as it did. -/
def elaborateRenamesUptoRow : OpenClaim := { program := "ytnojpbbaohoadaagreatdoor", sum := "b047c5db8bf0f179dc05cdf10546c5e5c17de299d2ecd4a93e07d0cf3c434789", func := "overseer/overseerlaw22.ElaborateRenames", spec := "elaborateRenames", inPlace := ["internal/abi.NoEscape"], unfollowed := true, recurses := true, named := ["internal/strconv.uint64pow10", "math/bits.deBruijn32tab", "math/bits.deBruijn64tab"], apart := false, laid := [("math/bits.deBruijn32tab", laid_math_bits_deBruijn32tab), ("math/bits.deBruijn64tab", laid_math_bits_deBruijn64tab), ("internal/strconv.uint64pow10", laid_internal_strconv_uint64pow10)], narrowed := true }
def ElaborateRenamesUptoSaid : Prop := elaborateRenamesUptoRow.holds Tryz.pinned (OpenSpec.upto elaborateRenamesSpec)

/-- 'overseerlaw22.ElaborateMachines', WHERE WHAT IT READS IS OF BULK AT MOST 1048576: true; the input reads as it did. -/
def elaborateMachinesUptoRow : OpenClaim := { program := "ytnojpbbaohoadaagreatdoor", sum := "b047c5db8bf0f179dc05cdf10546c5e5c17de299d2ecd4a93e07d0cf3c434789", func := "overseer/overseerlaw22.ElaborateMachines", spec := "elaborateMachines", inPlace := ["internal/abi.NoEscape"], unfollowed := true, recurses := true, named := ["internal/strconv.uint64pow10", "math/bits.deBruijn32tab", "math/bits.deBruijn64tab"], apart := false, laid := [("math/bits.deBruijn32tab", laid_math_bits_deBruijn32tab), ("math/bits.deBruijn64tab", laid_math_bits_deBruijn64tab), ("internal/strconv.uint64pow10", laid_internal_strconv_uint64pow10)], narrowed := true }
def ElaborateMachinesUptoSaid : Prop := elaborateMachinesUptoRow.holds Tryz.pinned (OpenSpec.upto elaborateMachinesSpec)

/-- 'overseerlaw22.ElaborateEquals', WHERE WHAT IT READS IS OF BULK AT MOST 1048576: true; the input reads as it did. -/
def elaborateEqualsUptoRow : OpenClaim := { program := "ytnojpbbaohoadaagreatdoor", sum := "b047c5db8bf0f179dc05cdf10546c5e5c17de299d2ecd4a93e07d0cf3c434789", func := "overseer/overseerlaw22.ElaborateEquals", spec := "elaborateEquals", inPlace := ["internal/abi.NoEscape"], unfollowed := true, recurses := true, named := ["internal/strconv.uint64pow10", "math/bits.deBruijn32tab", "math/bits.deBruijn64tab"], apart := false, laid := [("math/bits.deBruijn32tab", laid_math_bits_deBruijn32tab), ("math/bits.deBruijn64tab", laid_math_bits_deBruijn64tab), ("internal/strconv.uint64pow10", laid_internal_strconv_uint64pow10)], narrowed := true }
def ElaborateEqualsUptoSaid : Prop := elaborateEqualsUptoRow.holds Tryz.pinned (OpenSpec.upto elaborateEqualsSpec)

/-- 'overseerlaw22.ElaborateFinds', WHERE WHAT IT READS IS OF BULK AT MOST 1048576: true; the input reads as it did. -/
def elaborateFindsUptoRow : OpenClaim := { program := "ytnojpbbaohoadaagreatdoor", sum := "b047c5db8bf0f179dc05cdf10546c5e5c17de299d2ecd4a93e07d0cf3c434789", func := "overseer/overseerlaw22.ElaborateFinds", spec := "elaborateFinds", inPlace := ["internal/abi.NoEscape"], unfollowed := true, recurses := true, named := ["internal/strconv.uint64pow10", "math/bits.deBruijn32tab", "math/bits.deBruijn64tab"], apart := false, laid := [("math/bits.deBruijn32tab", laid_math_bits_deBruijn32tab), ("math/bits.deBruijn64tab", laid_math_bits_deBruijn64tab), ("internal/strconv.uint64pow10", laid_internal_strconv_uint64pow10)], narrowed := true }
def ElaborateFindsUptoSaid : Prop := elaborateFindsUptoRow.holds Tryz.pinned (OpenSpec.upto elaborateFindsSpec)

end Rows
end Go.Proofs.YtnojpbbaohoadaaGreatDoor
