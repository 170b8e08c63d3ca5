/-
  NARROWER THAN 'FOR EVERY INPUT', by the rows' own cells (each row's printed sentence says how): ObserverpropertyExtends: laid · ObserverpropertyAll: laid · ObserverpropertyClasses: laid · ObserverpropertyConsistent: laid · ObserverpropertyObserver: laid · ObserverpropertyRefutes: laid · ObserverpropertyWords: laid · ObserverpropertyChecks: laid.
  DERIVED. THE GIVEN ROWS OF THIS SEAT. 8 by the template 'for every input the law returns true; each argument reads behind the call as it read before'; 0 by the template 'total and deterministic' (their statements: YtmhllkmceipdcaaGreatDoorTotals.lean).
  GIVEN WITH THE SEED: the statements are not yours to turn. If you find one false, say at which input.
  Laid BY PROGRAM, IN A SANDBOX (cutbox-rows.mjs): the forced cells as the released guide's own fill.sh prints them over the translation dee4b6589a405e7d… (all of the seat's roots in one cut). By AI agents, Wed Nov 11 2026. No macro, syntax, notation, axiom, sorry.
-/
import Derived.Test.YtmhllkmceipdcaaGreatDoorChecked
import GoSem.Claim
import GoSem.ClaimJoined
import GoSem.ClaimMapViews
import Derived.JoinedTies
import Derived.KernelRfl
namespace Go.Proofs.YtmhllkmceipdcaaGreatDoor
/- THE CELL 'sum', in the pinned program and in every row, IS THE sha256 OF THE DUMP (.gsa) THAT YtmhllkmceipdcaaGreatDoorProg.lean LOADS. Nothing in Lean hashes anything: it is a label: what it is worth is what the hold of that sum in a sandbox is worth. -/
noncomputable def Tryz.pinned : Pinned := { name := "ytmhllkmceipdcaagreatdoor", sum := "dee4b6589a405e7dba8b1881eb7d6227773277c4b788f4a438c4744d8036b4fa", checked := Tryz.checked }
namespace Rows
def none {H : Type} : Left H := { results := [], args := [] }

/- WHAT THE LISTED PACKAGE-LEVEL VARIABLES READ AS WHEN THE CALL BEGINS. Each datum BY PROGRAM (the guide's laid-datum.mjs) off the statement by which the dump's own 'gosem.cut.vars' lays the variable. In a bare row this is a premise. The card (YtmhllkmceipdcaaGreatDoorCards.lean) ties it to the program's text. -/
def laid_math_bits_deBruijn32tab {H : Type} : DataW H := .agg [.lit (.int .u8 0), .lit (.int .u8 1), .lit (.int .u8 28), .lit (.int .u8 2), .lit (.int .u8 29), .lit (.int .u8 14), .lit (.int .u8 24), .lit (.int .u8 3), .lit (.int .u8 30), .lit (.int .u8 22), .lit (.int .u8 20), .lit (.int .u8 15), .lit (.int .u8 25), .lit (.int .u8 17), .lit (.int .u8 4), .lit (.int .u8 8), .lit (.int .u8 31), .lit (.int .u8 27), .lit (.int .u8 13), .lit (.int .u8 23), .lit (.int .u8 21), .lit (.int .u8 19), .lit (.int .u8 16), .lit (.int .u8 7), .lit (.int .u8 26), .lit (.int .u8 12), .lit (.int .u8 18), .lit (.int .u8 6), .lit (.int .u8 11), .lit (.int .u8 5), .lit (.int .u8 10), .lit (.int .u8 9)]
def laid_math_bits_deBruijn64tab {H : Type} : DataW H := .agg [.lit (.int .u8 0), .lit (.int .u8 1), .lit (.int .u8 56), .lit (.int .u8 2), .lit (.int .u8 57), .lit (.int .u8 49), .lit (.int .u8 28), .lit (.int .u8 3), .lit (.int .u8 61), .lit (.int .u8 58), .lit (.int .u8 42), .lit (.int .u8 50), .lit (.int .u8 38), .lit (.int .u8 29), .lit (.int .u8 17), .lit (.int .u8 4), .lit (.int .u8 62), .lit (.int .u8 47), .lit (.int .u8 59), .lit (.int .u8 36), .lit (.int .u8 45), .lit (.int .u8 43), .lit (.int .u8 51), .lit (.int .u8 22), .lit (.int .u8 53), .lit (.int .u8 39), .lit (.int .u8 33), .lit (.int .u8 30), .lit (.int .u8 24), .lit (.int .u8 18), .lit (.int .u8 12), .lit (.int .u8 5), .lit (.int .u8 63), .lit (.int .u8 55), .lit (.int .u8 48), .lit (.int .u8 27), .lit (.int .u8 60), .lit (.int .u8 41), .lit (.int .u8 37), .lit (.int .u8 16), .lit (.int .u8 46), .lit (.int .u8 35), .lit (.int .u8 44), .lit (.int .u8 21), .lit (.int .u8 52), .lit (.int .u8 32), .lit (.int .u8 23), .lit (.int .u8 11), .lit (.int .u8 54), .lit (.int .u8 26), .lit (.int .u8 40), .lit (.int .u8 15), .lit (.int .u8 34), .lit (.int .u8 20), .lit (.int .u8 31), .lit (.int .u8 10), .lit (.int .u8 25), .lit (.int .u8 14), .lit (.int .u8 19), .lit (.int .u8 9), .lit (.int .u8 13), .lit (.int .u8 8), .lit (.int .u8 7), .lit (.int .u8 6)]
def laid_internal_strconv_uint64pow10 {H : Type} : DataW H := .agg [.lit (.int .u64 1), .lit (.int .u64 10), .lit (.int .u64 100), .lit (.int .u64 1000), .lit (.int .u64 10000), .lit (.int .u64 100000), .lit (.int .u64 1000000), .lit (.int .u64 10000000), .lit (.int .u64 100000000), .lit (.int .u64 1000000000), .lit (.int .u64 10000000000), .lit (.int .u64 100000000000), .lit (.int .u64 1000000000000), .lit (.int .u64 10000000000000), .lit (.int .u64 100000000000000), .lit (.int .u64 1000000000000000), .lit (.int .u64 10000000000000000), .lit (.int .u64 100000000000000000), .lit (.int .u64 1000000000000000000), .lit (.int .u64 10000000000000000000)]

/-- 'overseerlaw35.ObserverpropertyExtends': WHATEVER THE INPUT: true; the input reads as it did. -/
def observerpropertyExtendsSpec : ChangeSpec := { name := "observerpropertyExtends", fn := fun _ => fun
  | [d1, d2] => { results := [.lit (.bool true)], args := [d1, d2] }
  | _ => none }
def observerpropertyExtendsRow : OpenClaim := { program := "ytmhllkmceipdcaagreatdoor", sum := "dee4b6589a405e7dba8b1881eb7d6227773277c4b788f4a438c4744d8036b4fa", func := "overseer/overseerlaw35.ObserverpropertyExtends", spec := "observerpropertyExtends", inPlace := ["internal/abi.NoEscape"], unfollowed := true, recurses := true, named := ["internal/strconv.uint64pow10", "math/bits.deBruijn32tab", "math/bits.deBruijn64tab"], apart := false, laid := [("math/bits.deBruijn32tab", laid_math_bits_deBruijn32tab), ("math/bits.deBruijn64tab", laid_math_bits_deBruijn64tab), ("internal/strconv.uint64pow10", laid_internal_strconv_uint64pow10)] }
def ObserverpropertyExtendsSaid : Prop := observerpropertyExtendsRow.holds Tryz.pinned (OpenSpec.ofChange observerpropertyExtendsSpec)

/-- ITS FALSE NEIGHBOUR: 'it returns false'. Refute it at one input. -/
def observerpropertyExtendsWrong : ChangeSpec := { name := "observerpropertyExtends", fn := fun _ => fun
  | [d1, d2] => { results := [.lit (.bool false)], args := [d1, d2] }
  | _ => none }
def ObserverpropertyExtendsWrongFalsely : Prop := observerpropertyExtendsRow.holds Tryz.pinned (OpenSpec.ofChange observerpropertyExtendsWrong)

/-- 'overseerlaw35.ObserverpropertyAll': WHATEVER THE INPUT: true; the input reads as it did. -/
def observerpropertyAllSpec : ChangeSpec := { name := "observerpropertyAll", fn := fun _ => fun
  | [d1, d2] => { results := [.lit (.bool true)], args := [d1, d2] }
  | _ => none }
def observerpropertyAllRow : OpenClaim := { program := "ytmhllkmceipdcaagreatdoor", sum := "dee4b6589a405e7dba8b1881eb7d6227773277c4b788f4a438c4744d8036b4fa", func := "overseer/overseerlaw35.ObserverpropertyAll", spec := "observerpropertyAll", inPlace := ["internal/abi.NoEscape"], unfollowed := true, recurses := true, named := ["internal/strconv.uint64pow10", "math/bits.deBruijn32tab", "math/bits.deBruijn64tab"], apart := false, laid := [("math/bits.deBruijn32tab", laid_math_bits_deBruijn32tab), ("math/bits.deBruijn64tab", laid_math_bits_deBruijn64tab), ("internal/strconv.uint64pow10", laid_internal_strconv_uint64pow10)] }
def ObserverpropertyAllSaid : Prop := observerpropertyAllRow.holds Tryz.pinned (OpenSpec.ofChange observerpropertyAllSpec)

/-- ITS FALSE NEIGHBOUR: 'it returns false'. Refute it at one input. -/
def observerpropertyAllWrong : ChangeSpec := { name := "observerpropertyAll", fn := fun _ => fun
  | [d1, d2] => { results := [.lit (.bool false)], args := [d1, d2] }
  | _ => none }
def ObserverpropertyAllWrongFalsely : Prop := observerpropertyAllRow.holds Tryz.pinned (OpenSpec.ofChange observerpropertyAllWrong)

/-- 'overseerlaw35.ObserverpropertyClasses': WHATEVER THE INPUT: true; the input reads as it did. -/
def observerpropertyClassesSpec : ChangeSpec := { name := "observerpropertyClasses", fn := fun _ => fun
  | [d1, d2] => { results := [.lit (.bool true)], args := [d1, d2] }
  | _ => none }
def observerpropertyClassesRow : OpenClaim := { program := "ytmhllkmceipdcaagreatdoor", sum := "dee4b6589a405e7dba8b1881eb7d6227773277c4b788f4a438c4744d8036b4fa", func := "overseer/overseerlaw35.ObserverpropertyClasses", spec := "observerpropertyClasses", inPlace := ["internal/abi.NoEscape"], unfollowed := true, recurses := true, named := ["internal/strconv.uint64pow10", "math/bits.deBruijn32tab", "math/bits.deBruijn64tab"], apart := false, laid := [("math/bits.deBruijn32tab", laid_math_bits_deBruijn32tab), ("math/bits.deBruijn64tab", laid_math_bits_deBruijn64tab), ("internal/strconv.uint64pow10", laid_internal_strconv_uint64pow10)] }
def ObserverpropertyClassesSaid : Prop := observerpropertyClassesRow.holds Tryz.pinned (OpenSpec.ofChange observerpropertyClassesSpec)

/-- ITS FALSE NEIGHBOUR: 'it returns false'. Refute it at one input. -/
def observerpropertyClassesWrong : ChangeSpec := { name := "observerpropertyClasses", fn := fun _ => fun
  | [d1, d2] => { results := [.lit (.bool false)], args := [d1, d2] }
  | _ => none }
def ObserverpropertyClassesWrongFalsely : Prop := observerpropertyClassesRow.holds Tryz.pinned (OpenSpec.ofChange observerpropertyClassesWrong)

/-- 'overseerlaw35.ObserverpropertyConsistent': WHATEVER THE INPUT: true; the input reads as it did. -/
def observerpropertyConsistentSpec : ChangeSpec := { name := "observerpropertyConsistent", fn := fun _ => fun
  | [d1, d2] => { results := [.lit (.bool true)], args := [d1, d2] }
  | _ => none }
def observerpropertyConsistentRow : OpenClaim := { program := "ytmhllkmceipdcaagreatdoor", sum := "dee4b6589a405e7dba8b1881eb7d6227773277c4b788f4a438c4744d8036b4fa", func := "overseer/overseerlaw35.ObserverpropertyConsistent", spec := "observerpropertyConsistent", inPlace := ["internal/abi.NoEscape"], unfollowed := true, recurses := true, named := ["internal/strconv.uint64pow10", "math/bits.deBruijn32tab", "math/bits.deBruijn64tab"], apart := false, laid := [("math/bits.deBruijn32tab", laid_math_bits_deBruijn32tab), ("math/bits.deBruijn64tab", laid_math_bits_deBruijn64tab), ("internal/strconv.uint64pow10", laid_internal_strconv_uint64pow10)] }
def ObserverpropertyConsistentSaid : Prop := observerpropertyConsistentRow.holds Tryz.pinned (OpenSpec.ofChange observerpropertyConsistentSpec)

/-- ITS FALSE NEIGHBOUR: 'it returns false'. Refute it at one input. -/
def observerpropertyConsistentWrong : ChangeSpec := { name := "observerpropertyConsistent", fn := fun _ => fun
  | [d1, d2] => { results := [.lit (.bool false)], args := [d1, d2] }
  | _ => none }
def ObserverpropertyConsistentWrongFalsely : Prop := observerpropertyConsistentRow.holds Tryz.pinned (OpenSpec.ofChange observerpropertyConsistentWrong)

/-- 'overseerlaw35.ObserverpropertyObserver': WHATEVER THE INPUT: true; the input reads as it did. -/
def observerpropertyObserverSpec : ChangeSpec := { name := "observerpropertyObserver", fn := fun _ => fun
  | [d1, d2] => { results := [.lit (.bool true)], args := [d1, d2] }
  | _ => none }
def observerpropertyObserverRow : OpenClaim := { program := "ytmhllkmceipdcaagreatdoor", sum := "dee4b6589a405e7dba8b1881eb7d6227773277c4b788f4a438c4744d8036b4fa", func := "overseer/overseerlaw35.ObserverpropertyObserver", spec := "observerpropertyObserver", inPlace := ["internal/abi.NoEscape"], unfollowed := true, recurses := true, named := ["internal/strconv.uint64pow10", "math/bits.deBruijn32tab", "math/bits.deBruijn64tab"], apart := false, laid := [("math/bits.deBruijn32tab", laid_math_bits_deBruijn32tab), ("math/bits.deBruijn64tab", laid_math_bits_deBruijn64tab), ("internal/strconv.uint64pow10", laid_internal_strconv_uint64pow10)] }
def ObserverpropertyObserverSaid : Prop := observerpropertyObserverRow.holds Tryz.pinned (OpenSpec.ofChange observerpropertyObserverSpec)

/-- ITS FALSE NEIGHBOUR: 'it returns false'. Refute it at one input. -/
def observerpropertyObserverWrong : ChangeSpec := { name := "observerpropertyObserver", fn := fun _ => fun
  | [d1, d2] => { results := [.lit (.bool false)], args := [d1, d2] }
  | _ => none }
def ObserverpropertyObserverWrongFalsely : Prop := observerpropertyObserverRow.holds Tryz.pinned (OpenSpec.ofChange observerpropertyObserverWrong)

/-- 'overseerlaw35.ObserverpropertyRefutes': WHATEVER THE INPUT: true; the input reads as it did. -/
def observerpropertyRefutesSpec : ChangeSpec := { name := "observerpropertyRefutes", fn := fun _ => fun
  | [d1, d2, d3] => { results := [.lit (.bool true)], args := [d1, d2, d3] }
  | _ => none }
def observerpropertyRefutesRow : OpenClaim := { program := "ytmhllkmceipdcaagreatdoor", sum := "dee4b6589a405e7dba8b1881eb7d6227773277c4b788f4a438c4744d8036b4fa", func := "overseer/overseerlaw35.ObserverpropertyRefutes", spec := "observerpropertyRefutes", inPlace := ["internal/abi.NoEscape"], unfollowed := true, recurses := true, named := ["internal/strconv.uint64pow10", "math/bits.deBruijn32tab", "math/bits.deBruijn64tab"], apart := false, laid := [("math/bits.deBruijn32tab", laid_math_bits_deBruijn32tab), ("math/bits.deBruijn64tab", laid_math_bits_deBruijn64tab), ("internal/strconv.uint64pow10", laid_internal_strconv_uint64pow10)] }
def ObserverpropertyRefutesSaid : Prop := observerpropertyRefutesRow.holds Tryz.pinned (OpenSpec.ofChange observerpropertyRefutesSpec)

/-- ITS FALSE NEIGHBOUR: 'it returns false'. Refute it at one input. -/
def observerpropertyRefutesWrong : ChangeSpec := { name := "observerpropertyRefutes", fn := fun _ => fun
  | [d1, d2, d3] => { results := [.lit (.bool false)], args := [d1, d2, d3] }
  | _ => none }
def ObserverpropertyRefutesWrongFalsely : Prop := observerpropertyRefutesRow.holds Tryz.pinned (OpenSpec.ofChange observerpropertyRefutesWrong)

/-- 'overseerlaw35.ObserverpropertyWords': WHATEVER THE INPUT: true; the input reads as it did. -/
def observerpropertyWordsSpec : ChangeSpec := { name := "observerpropertyWords", fn := fun _ => fun
  | [d1, d2, d3] => { results := [.lit (.bool true)], args := [d1, d2, d3] }
  | _ => none }
def observerpropertyWordsRow : OpenClaim := { program := "ytmhllkmceipdcaagreatdoor", sum := "dee4b6589a405e7dba8b1881eb7d6227773277c4b788f4a438c4744d8036b4fa", func := "overseer/overseerlaw35.ObserverpropertyWords", spec := "observerpropertyWords", inPlace := ["internal/abi.NoEscape"], unfollowed := true, recurses := true, named := ["internal/strconv.uint64pow10", "math/bits.deBruijn32tab", "math/bits.deBruijn64tab"], apart := false, laid := [("math/bits.deBruijn32tab", laid_math_bits_deBruijn32tab), ("math/bits.deBruijn64tab", laid_math_bits_deBruijn64tab), ("internal/strconv.uint64pow10", laid_internal_strconv_uint64pow10)] }
def ObserverpropertyWordsSaid : Prop := observerpropertyWordsRow.holds Tryz.pinned (OpenSpec.ofChange observerpropertyWordsSpec)

/-- ITS FALSE NEIGHBOUR: 'it returns false'. Refute it at one input. -/
def observerpropertyWordsWrong : ChangeSpec := { name := "observerpropertyWords", fn := fun _ => fun
  | [d1, d2, d3] => { results := [.lit (.bool false)], args := [d1, d2, d3] }
  | _ => none }
def ObserverpropertyWordsWrongFalsely : Prop := observerpropertyWordsRow.holds Tryz.pinned (OpenSpec.ofChange observerpropertyWordsWrong)

/-- 'overseerlaw35.ObserverpropertyChecks': WHATEVER THE INPUT: true; the input reads as it did. -/
def observerpropertyChecksSpec : ChangeSpec := { name := "observerpropertyChecks", fn := fun _ => fun
  | [d1, d2, d3] => { results := [.lit (.bool true)], args := [d1, d2, d3] }
  | _ => none }
def observerpropertyChecksRow : OpenClaim := { program := "ytmhllkmceipdcaagreatdoor", sum := "dee4b6589a405e7dba8b1881eb7d6227773277c4b788f4a438c4744d8036b4fa", func := "overseer/overseerlaw35.ObserverpropertyChecks", spec := "observerpropertyChecks", inPlace := ["internal/abi.NoEscape"], unfollowed := true, recurses := true, named := ["internal/strconv.uint64pow10", "math/bits.deBruijn32tab", "math/bits.deBruijn64tab"], apart := false, laid := [("math/bits.deBruijn32tab", laid_math_bits_deBruijn32tab), ("math/bits.deBruijn64tab", laid_math_bits_deBruijn64tab), ("internal/strconv.uint64pow10", laid_internal_strconv_uint64pow10)] }
def ObserverpropertyChecksSaid : Prop := observerpropertyChecksRow.holds Tryz.pinned (OpenSpec.ofChange observerpropertyChecksSpec)

/-- ITS FALSE NEIGHBOUR: 'it returns false'. Refute it at one input. -/
def observerpropertyChecksWrong : ChangeSpec := { name := "observerpropertyChecks", fn := fun _ => fun
  | [d1, d2, d3] => { results := [.lit (.bool false)], args := [d1, d2, d3] }
  | _ => none }
def ObserverpropertyChecksWrongFalsely : Prop := observerpropertyChecksRow.holds Tryz.pinned (OpenSpec.ofChange observerpropertyChecksWrong)

/- THE SECOND FORM. 'bulk': how many values and letters a reading holds, each counted each time it is reached (what is shared counts as often as it is met; a slice's spare places count too). A statement '..UptoSaid' is the law's where the arguments, and the package variables that the reading takes, are together of bulk at most 1048576: NARROWER than '..Said'. Prove '..Said' where nothing that the law and all that it calls make is longer than what came in: it says more and counts as full. Else prove '..UptoSaid'. A law counts once. -/
mutual
def uptoBulk {H : Type} : DataW H → Nat
  | .lit (.string bytes) => bytes.length + 1
  | .lit _ => 1
  | .nil => 1
  | .ptr d => uptoBulk d + 1
  | .slice elems spare => uptoBulkAll elems + uptoBulkAll spare + 1
  | .agg parts => uptoBulkAll parts + 1
  | .iface _ d => uptoBulk d + 1
  | .map entries => uptoBulkEntries entries + 1
  | .held _ => 1
def uptoBulkAll {H : Type} : List (DataW H) → Nat
  | [] => 0
  | d :: r => uptoBulk d + uptoBulkAll r
def uptoBulkEntries {H : Type} : List (Lit × DataW H) → Nat
  | [] => 0
  | x :: r => uptoBulkEntry x + uptoBulkEntries r
def uptoBulkEntry {H : Type} : Lit × DataW H → Nat
  | (.string bytes, d) => bytes.length + uptoBulk d + 1
  | (_, d) => uptoBulk d + 1
 end
def uptoSmall : (H : Type) → List (DataW H) → Bool := fun _ ds => decide (uptoBulkAll ds ≤ 1048576)
def OpenSpec.upto (s : _root_.Go.ChangeSpec) : _root_.Go.OpenSpec := { _root_.Go.OpenSpec.ofChange s with cond := some uptoSmall }

/-- 'overseerlaw35.ObserverpropertyExtends', WHERE WHAT IT READS IS OF BULK AT MOST 1048576: true; the input reads as it did. -/
def observerpropertyExtendsUptoRow : OpenClaim := { program := "ytmhllkmceipdcaagreatdoor", sum := "dee4b6589a405e7dba8b1881eb7d6227773277c4b788f4a438c4744d8036b4fa", func := "overseer/overseerlaw35.ObserverpropertyExtends", spec := "observerpropertyExtends", inPlace := ["internal/abi.NoEscape"], unfollowed := true, recurses := true, named := ["internal/strconv.uint64pow10", "math/bits.deBruijn32tab", "math/bits.deBruijn64tab"], apart := false, laid := [("math/bits.deBruijn32tab", laid_math_bits_deBruijn32tab), ("math/bits.deBruijn64tab", laid_math_bits_deBruijn64tab), ("internal/strconv.uint64pow10", laid_internal_strconv_uint64pow10)], narrowed := true }
def ObserverpropertyExtendsUptoSaid : Prop := observerpropertyExtendsUptoRow.holds Tryz.pinned (OpenSpec.upto observerpropertyExtendsSpec)

/-- 'overseerlaw35.ObserverpropertyAll', WHERE WHAT IT READS IS OF BULK AT MOST 1048576: true; the input reads as it did. -/
def observerpropertyAllUptoRow : OpenClaim := { program := "ytmhllkmceipdcaagreatdoor", sum := "dee4b6589a405e7dba8b1881eb7d6227773277c4b788f4a438c4744d8036b4fa", func := "overseer/overseerlaw35.ObserverpropertyAll", spec := "observerpropertyAll", inPlace := ["internal/abi.NoEscape"], unfollowed := true, recurses := true, named := ["internal/strconv.uint64pow10", "math/bits.deBruijn32tab", "math/bits.deBruijn64tab"], apart := false, laid := [("math/bits.deBruijn32tab", laid_math_bits_deBruijn32tab), ("math/bits.deBruijn64tab", laid_math_bits_deBruijn64tab), ("internal/strconv.uint64pow10", laid_internal_strconv_uint64pow10)], narrowed := true }
def ObserverpropertyAllUptoSaid : Prop := observerpropertyAllUptoRow.holds Tryz.pinned (OpenSpec.upto observerpropertyAllSpec)

/-- 'overseerlaw35.ObserverpropertyClasses', WHERE WHAT IT READS IS OF BULK AT MOST 1048576: true; the input reads as it did. -/
def observerpropertyClassesUptoRow : OpenClaim := { program := "ytmhllkmceipdcaagreatdoor", sum := "dee4b6589a405e7dba8b1881eb7d6227773277c4b788f4a438c4744d8036b4fa", func := "overseer/overseerlaw35.ObserverpropertyClasses", spec := "observerpropertyClasses", inPlace := ["internal/abi.NoEscape"], unfollowed := true, recurses := true, named := ["internal/strconv.uint64pow10", "math/bits.deBruijn32tab", "math/bits.deBruijn64tab"], apart := false, laid := [("math/bits.deBruijn32tab", laid_math_bits_deBruijn32tab), ("math/bits.deBruijn64tab", laid_math_bits_deBruijn64tab), ("internal/strconv.uint64pow10", laid_internal_strconv_uint64pow10)], narrowed := true }
def ObserverpropertyClassesUptoSaid : Prop := observerpropertyClassesUptoRow.holds Tryz.pinned (OpenSpec.upto observerpropertyClassesSpec)

/-- 'overseerlaw35.ObserverpropertyConsistent', WHERE WHAT IT READS IS OF BULK AT MOST 1048576: true; the input reads as it did. -/
def observerpropertyConsistentUptoRow : OpenClaim := { program := "ytmhllkmceipdcaagreatdoor", sum := "dee4b6589a405e7dba8b1881eb7d6227773277c4b788f4a438c4744d8036b4fa", func := "overseer/overseerlaw35.ObserverpropertyConsistent", spec := "observerpropertyConsistent", inPlace := ["internal/abi.NoEscape"], unfollowed := true, recurses := true, named := ["internal/strconv.uint64pow10", "math/bits.deBruijn32tab", "math/bits.deBruijn64tab"], apart := false, laid := [("math/bits.deBruijn32tab", laid_math_bits_deBruijn32tab), ("math/bits.deBruijn64tab", laid_math_bits_deBruijn64tab), ("internal/strconv.uint64pow10", laid_internal_strconv_uint64pow10)], narrowed := true }
def ObserverpropertyConsistentUptoSaid : Prop := observerpropertyConsistentUptoRow.holds Tryz.pinned (OpenSpec.upto observerpropertyConsistentSpec)

/-- 'overseerlaw35.ObserverpropertyObserver', WHERE WHAT IT READS IS OF BULK AT MOST 1048576: true; the input reads as it did. -/
def observerpropertyObserverUptoRow : OpenClaim := { program := "ytmhllkmceipdcaagreatdoor", sum := "dee4b6589a405e7dba8b1881eb7d6227773277c4b788f4a438c4744d8036b4fa", func := "overseer/overseerlaw35.ObserverpropertyObserver", spec := "observerpropertyObserver", inPlace := ["internal/abi.NoEscape"], unfollowed := true, recurses := true, named := ["internal/strconv.uint64pow10", "math/bits.deBruijn32tab", "math/bits.deBruijn64tab"], apart := false, laid := [("math/bits.deBruijn32tab", laid_math_bits_deBruijn32tab), ("math/bits.deBruijn64tab", laid_math_bits_deBruijn64tab), ("internal/strconv.uint64pow10", laid_internal_strconv_uint64pow10)], narrowed := true }
def ObserverpropertyObserverUptoSaid : Prop := observerpropertyObserverUptoRow.holds Tryz.pinned (OpenSpec.upto observerpropertyObserverSpec)

/-- 'overseerlaw35.ObserverpropertyRefutes', WHERE WHAT IT READS IS OF BULK AT MOST 1048576: true; the input reads as it did. -/
def observerpropertyRefutesUptoRow : OpenClaim := { program := "ytmhllkmceipdcaagreatdoor", sum := "dee4b6589a405e7dba8b1881eb7d6227773277c4b788f4a438c4744d8036b4fa", func := "overseer/overseerlaw35.ObserverpropertyRefutes", spec := "observerpropertyRefutes", inPlace := ["internal/abi.NoEscape"], unfollowed := true, recurses := true, named := ["internal/strconv.uint64pow10", "math/bits.deBruijn32tab", "math/bits.deBruijn64tab"], apart := false, laid := [("math/bits.deBruijn32tab", laid_math_bits_deBruijn32tab), ("math/bits.deBruijn64tab", laid_math_bits_deBruijn64tab), ("internal/strconv.uint64pow10", laid_internal_strconv_uint64pow10)], narrowed := true }
def ObserverpropertyRefutesUptoSaid : Prop := observerpropertyRefutesUptoRow.holds Tryz.pinned (OpenSpec.upto observerpropertyRefutesSpec)

/-- 'overseerlaw35.ObserverpropertyWords', WHERE WHAT IT READS IS OF BULK AT MOST 1048576: true; the input reads as it did. -/
def observerpropertyWordsUptoRow : OpenClaim := { program := "ytmhllkmceipdcaagreatdoor", sum := "dee4b6589a405e7dba8b1881eb7d6227773277c4b788f4a438c4744d8036b4fa", func := "overseer/overseerlaw35.ObserverpropertyWords", spec := "observerpropertyWords", inPlace := ["internal/abi.NoEscape"], unfollowed := true, recurses := true, named := ["internal/strconv.uint64pow10", "math/bits.deBruijn32tab", "math/bits.deBruijn64tab"], apart := false, laid := [("math/bits.deBruijn32tab", laid_math_bits_deBruijn32tab), ("math/bits.deBruijn64tab", laid_math_bits_deBruijn64tab), ("internal/strconv.uint64pow10", laid_internal_strconv_uint64pow10)], narrowed := true }
def ObserverpropertyWordsUptoSaid : Prop := observerpropertyWordsUptoRow.holds Tryz.pinned (OpenSpec.upto observerpropertyWordsSpec)

/-- 'overseerlaw35.ObserverpropertyChecks', WHERE WHAT IT READS IS OF BULK AT MOST 1048576: true; the input reads as it did. -/
def observerpropertyChecksUptoRow : OpenClaim := { program := "ytmhllkmceipdcaagreatdoor", sum := "dee4b6589a405e7dba8b1881eb7d6227773277c4b788f4a438c4744d8036b4fa", func := "overseer/overseerlaw35.ObserverpropertyChecks", spec := "observerpropertyChecks", inPlace := ["internal/abi.NoEscape"], unfollowed := true, recurses := true, named := ["internal/strconv.uint64pow10", "math/bits.deBruijn32tab", "math/bits.deBruijn64tab"], apart := false, laid := [("math/bits.deBruijn32tab", laid_math_bits_deBruijn32tab), ("math/bits.deBruijn64tab", laid_math_bits_deBruijn64tab), ("internal/strconv.uint64pow10", laid_internal_strconv_uint64pow10)], narrowed := true }
def ObserverpropertyChecksUptoSaid : Prop := observerpropertyChecksUptoRow.holds Tryz.pinned (OpenSpec.upto observerpropertyChecksSpec)

end Rows
end Go.Proofs.YtmhllkmceipdcaaGreatDoor
