/-
  NARROWER THAN 'FOR EVERY INPUT', by the rows' own cells (each row's printed sentence says how): ObservabilityMore: laid · ObservabilityWorks: laid · ObservabilityVerifies: laid · ObservabilityRefuses: laid · FlattenProduct: laid · ObservabilityImplements: laid · ObservabilityLoops: laid · ObservabilityPermits: laid · ObservabilityDecides: laid.
  DERIVED. THE GIVEN ROWS OF THIS SEAT. 9 by the template 'for every input the law returns true; each argument reads behind the call as it read before'; 0 by the template 'total and deterministic' (their statements: YtlcekmemdnjjbaaGreatDoorTotals.lean).
  GIVEN WITH THE SEED: the statements are not yours to turn. If you find one false, say at which input.
  Laid BY PROGRAM, IN A SANDBOX (cutbox-rows.mjs): the forced cells as the released guide's own fill.sh prints them over the translation e1fbb41279ccc1f0… (all of the seat's roots in one cut). By AI agents, Wed Nov 11 2026. No macro, syntax, notation, axiom, sorry.
-/
import Derived.Test.YtlcekmemdnjjbaaGreatDoorChecked
import GoSem.Claim
import GoSem.ClaimJoined
import GoSem.ClaimMapViews
import Derived.JoinedTies
import Derived.KernelRfl
namespace Go.Proofs.YtlcekmemdnjjbaaGreatDoor
/- THE CELL 'sum', in the pinned program and in every row, IS THE sha256 OF THE DUMP (.gsa) THAT YtlcekmemdnjjbaaGreatDoorProg.lean LOADS. Nothing in Lean hashes anything: it is a label: what it is worth is what the hold of that sum in a sandbox is worth. -/
noncomputable def Tryz.pinned : Pinned := { name := "ytlcekmemdnjjbaagreatdoor", sum := "e1fbb41279ccc1f08b28b60416df5452bad3bad5d55f4b5aefd70209ec706443", checked := Tryz.checked }
namespace Rows
def none {H : Type} : Left H := { results := [], args := [] }

/- WHAT THE LISTED PACKAGE-LEVEL VARIABLES READ AS WHEN THE CALL BEGINS. Each datum BY PROGRAM (the guide's laid-datum.mjs) off the statement by which the dump's own 'gosem.cut.vars' lays the variable. In a bare row this is a premise. The card (YtlcekmemdnjjbaaGreatDoorCards.lean) ties it to the program's text. -/
def laid_math_bits_deBruijn32tab {H : Type} : DataW H := .agg [.lit (.int .u8 0), .lit (.int .u8 1), .lit (.int .u8 28), .lit (.int .u8 2), .lit (.int .u8 29), .lit (.int .u8 14), .lit (.int .u8 24), .lit (.int .u8 3), .lit (.int .u8 30), .lit (.int .u8 22), .lit (.int .u8 20), .lit (.int .u8 15), .lit (.int .u8 25), .lit (.int .u8 17), .lit (.int .u8 4), .lit (.int .u8 8), .lit (.int .u8 31), .lit (.int .u8 27), .lit (.int .u8 13), .lit (.int .u8 23), .lit (.int .u8 21), .lit (.int .u8 19), .lit (.int .u8 16), .lit (.int .u8 7), .lit (.int .u8 26), .lit (.int .u8 12), .lit (.int .u8 18), .lit (.int .u8 6), .lit (.int .u8 11), .lit (.int .u8 5), .lit (.int .u8 10), .lit (.int .u8 9)]
def laid_math_bits_deBruijn64tab {H : Type} : DataW H := .agg [.lit (.int .u8 0), .lit (.int .u8 1), .lit (.int .u8 56), .lit (.int .u8 2), .lit (.int .u8 57), .lit (.int .u8 49), .lit (.int .u8 28), .lit (.int .u8 3), .lit (.int .u8 61), .lit (.int .u8 58), .lit (.int .u8 42), .lit (.int .u8 50), .lit (.int .u8 38), .lit (.int .u8 29), .lit (.int .u8 17), .lit (.int .u8 4), .lit (.int .u8 62), .lit (.int .u8 47), .lit (.int .u8 59), .lit (.int .u8 36), .lit (.int .u8 45), .lit (.int .u8 43), .lit (.int .u8 51), .lit (.int .u8 22), .lit (.int .u8 53), .lit (.int .u8 39), .lit (.int .u8 33), .lit (.int .u8 30), .lit (.int .u8 24), .lit (.int .u8 18), .lit (.int .u8 12), .lit (.int .u8 5), .lit (.int .u8 63), .lit (.int .u8 55), .lit (.int .u8 48), .lit (.int .u8 27), .lit (.int .u8 60), .lit (.int .u8 41), .lit (.int .u8 37), .lit (.int .u8 16), .lit (.int .u8 46), .lit (.int .u8 35), .lit (.int .u8 44), .lit (.int .u8 21), .lit (.int .u8 52), .lit (.int .u8 32), .lit (.int .u8 23), .lit (.int .u8 11), .lit (.int .u8 54), .lit (.int .u8 26), .lit (.int .u8 40), .lit (.int .u8 15), .lit (.int .u8 34), .lit (.int .u8 20), .lit (.int .u8 31), .lit (.int .u8 10), .lit (.int .u8 25), .lit (.int .u8 14), .lit (.int .u8 19), .lit (.int .u8 9), .lit (.int .u8 13), .lit (.int .u8 8), .lit (.int .u8 7), .lit (.int .u8 6)]
def laid_internal_strconv_uint64pow10 {H : Type} : DataW H := .agg [.lit (.int .u64 1), .lit (.int .u64 10), .lit (.int .u64 100), .lit (.int .u64 1000), .lit (.int .u64 10000), .lit (.int .u64 100000), .lit (.int .u64 1000000), .lit (.int .u64 10000000), .lit (.int .u64 100000000), .lit (.int .u64 1000000000), .lit (.int .u64 10000000000), .lit (.int .u64 100000000000), .lit (.int .u64 1000000000000), .lit (.int .u64 10000000000000), .lit (.int .u64 100000000000000), .lit (.int .u64 1000000000000000), .lit (.int .u64 10000000000000000), .lit (.int .u64 100000000000000000), .lit (.int .u64 1000000000000000000), .lit (.int .u64 10000000000000000000)]

/-- 'overseerlaw37.ObservabilityMore': WHATEVER THE INPUT: true; the input reads as it did. -/
def observabilityMoreSpec : ChangeSpec := { name := "observabilityMore", fn := fun _ => fun
  | [d1, d2, d3] => { results := [.lit (.bool true)], args := [d1, d2, d3] }
  | _ => none }
def observabilityMoreRow : OpenClaim := { program := "ytlcekmemdnjjbaagreatdoor", sum := "e1fbb41279ccc1f08b28b60416df5452bad3bad5d55f4b5aefd70209ec706443", func := "overseer/overseerlaw37.ObservabilityMore", spec := "observabilityMore", inPlace := ["internal/abi.NoEscape"], unfollowed := true, recurses := true, named := ["internal/strconv.uint64pow10", "math/bits.deBruijn32tab", "math/bits.deBruijn64tab"], plainKeys := false, apart := false, laid := [("math/bits.deBruijn32tab", laid_math_bits_deBruijn32tab), ("math/bits.deBruijn64tab", laid_math_bits_deBruijn64tab), ("internal/strconv.uint64pow10", laid_internal_strconv_uint64pow10)] }
def ObservabilityMoreSaid : Prop := observabilityMoreRow.holds Tryz.pinned (OpenSpec.ofChange observabilityMoreSpec)

/-- ITS FALSE NEIGHBOUR: 'it returns false'. Refute it at one input. -/
def observabilityMoreWrong : ChangeSpec := { name := "observabilityMore", fn := fun _ => fun
  | [d1, d2, d3] => { results := [.lit (.bool false)], args := [d1, d2, d3] }
  | _ => none }
def ObservabilityMoreWrongFalsely : Prop := observabilityMoreRow.holds Tryz.pinned (OpenSpec.ofChange observabilityMoreWrong)

/-- 'overseerlaw37.ObservabilityWorks': WHATEVER THE INPUT: true; the input reads as it did. -/
def observabilityWorksSpec : ChangeSpec := { name := "observabilityWorks", fn := fun _ => fun
  | [d1, d2] => { results := [.lit (.bool true)], args := [d1, d2] }
  | _ => none }
def observabilityWorksRow : OpenClaim := { program := "ytlcekmemdnjjbaagreatdoor", sum := "e1fbb41279ccc1f08b28b60416df5452bad3bad5d55f4b5aefd70209ec706443", func := "overseer/overseerlaw37.ObservabilityWorks", spec := "observabilityWorks", inPlace := ["internal/abi.NoEscape"], unfollowed := true, recurses := true, named := ["internal/strconv.uint64pow10", "math/bits.deBruijn32tab", "math/bits.deBruijn64tab"], plainKeys := false, apart := false, laid := [("math/bits.deBruijn32tab", laid_math_bits_deBruijn32tab), ("math/bits.deBruijn64tab", laid_math_bits_deBruijn64tab), ("internal/strconv.uint64pow10", laid_internal_strconv_uint64pow10)] }
def ObservabilityWorksSaid : Prop := observabilityWorksRow.holds Tryz.pinned (OpenSpec.ofChange observabilityWorksSpec)

/-- ITS FALSE NEIGHBOUR: 'it returns false'. Refute it at one input. -/
def observabilityWorksWrong : ChangeSpec := { name := "observabilityWorks", fn := fun _ => fun
  | [d1, d2] => { results := [.lit (.bool false)], args := [d1, d2] }
  | _ => none }
def ObservabilityWorksWrongFalsely : Prop := observabilityWorksRow.holds Tryz.pinned (OpenSpec.ofChange observabilityWorksWrong)

/-- 'overseerlaw37.ObservabilityVerifies': WHATEVER THE INPUT: true; the input reads as it did. -/
def observabilityVerifiesSpec : ChangeSpec := { name := "observabilityVerifies", fn := fun _ => fun
  | [d1, d2] => { results := [.lit (.bool true)], args := [d1, d2] }
  | _ => none }
def observabilityVerifiesRow : OpenClaim := { program := "ytlcekmemdnjjbaagreatdoor", sum := "e1fbb41279ccc1f08b28b60416df5452bad3bad5d55f4b5aefd70209ec706443", func := "overseer/overseerlaw37.ObservabilityVerifies", spec := "observabilityVerifies", inPlace := ["internal/abi.NoEscape"], unfollowed := true, recurses := true, named := ["internal/strconv.uint64pow10", "math/bits.deBruijn32tab", "math/bits.deBruijn64tab"], plainKeys := false, apart := false, laid := [("math/bits.deBruijn32tab", laid_math_bits_deBruijn32tab), ("math/bits.deBruijn64tab", laid_math_bits_deBruijn64tab), ("internal/strconv.uint64pow10", laid_internal_strconv_uint64pow10)] }
def ObservabilityVerifiesSaid : Prop := observabilityVerifiesRow.holds Tryz.pinned (OpenSpec.ofChange observabilityVerifiesSpec)

/-- ITS FALSE NEIGHBOUR: 'it returns false'. Refute it at one input. -/
def observabilityVerifiesWrong : ChangeSpec := { name := "observabilityVerifies", fn := fun _ => fun
  | [d1, d2] => { results := [.lit (.bool false)], args := [d1, d2] }
  | _ => none }
def ObservabilityVerifiesWrongFalsely : Prop := observabilityVerifiesRow.holds Tryz.pinned (OpenSpec.ofChange observabilityVerifiesWrong)

/-- 'overseerlaw37.ObservabilityRefuses': WHATEVER THE INPUT: true; the input reads as it did. -/
def observabilityRefusesSpec : ChangeSpec := { name := "observabilityRefuses", fn := fun _ => fun
  | [d] => { results := [.lit (.bool true)], args := [d] }
  | _ => none }
def observabilityRefusesRow : OpenClaim := { program := "ytlcekmemdnjjbaagreatdoor", sum := "e1fbb41279ccc1f08b28b60416df5452bad3bad5d55f4b5aefd70209ec706443", func := "overseer/overseerlaw37.ObservabilityRefuses", spec := "observabilityRefuses", inPlace := ["internal/abi.NoEscape"], unfollowed := true, recurses := true, named := ["internal/strconv.uint64pow10", "math/bits.deBruijn32tab", "math/bits.deBruijn64tab"], plainKeys := false, apart := false, laid := [("math/bits.deBruijn32tab", laid_math_bits_deBruijn32tab), ("math/bits.deBruijn64tab", laid_math_bits_deBruijn64tab), ("internal/strconv.uint64pow10", laid_internal_strconv_uint64pow10)] }
def ObservabilityRefusesSaid : Prop := observabilityRefusesRow.holds Tryz.pinned (OpenSpec.ofChange observabilityRefusesSpec)

/-- ITS FALSE NEIGHBOUR: 'it returns false'. Refute it at one input. -/
def observabilityRefusesWrong : ChangeSpec := { name := "observabilityRefuses", fn := fun _ => fun
  | [d] => { results := [.lit (.bool false)], args := [d] }
  | _ => none }
def ObservabilityRefusesWrongFalsely : Prop := observabilityRefusesRow.holds Tryz.pinned (OpenSpec.ofChange observabilityRefusesWrong)

/-- 'overseerlaw19.FlattenProduct': WHATEVER THE INPUT: true; the input reads as it did. -/
def flattenProductSpec : ChangeSpec := { name := "flattenProduct", fn := fun _ => fun
  | [d1, d2, d3] => { results := [.lit (.bool true)], args := [d1, d2, d3] }
  | _ => none }
def flattenProductRow : OpenClaim := { program := "ytlcekmemdnjjbaagreatdoor", sum := "e1fbb41279ccc1f08b28b60416df5452bad3bad5d55f4b5aefd70209ec706443", func := "overseer/overseerlaw19.FlattenProduct", spec := "flattenProduct", inPlace := ["internal/abi.NoEscape"], unfollowed := true, recurses := true, named := ["internal/strconv.uint64pow10", "math/bits.deBruijn32tab", "math/bits.deBruijn64tab"], plainKeys := false, apart := false, laid := [("math/bits.deBruijn32tab", laid_math_bits_deBruijn32tab), ("math/bits.deBruijn64tab", laid_math_bits_deBruijn64tab), ("internal/strconv.uint64pow10", laid_internal_strconv_uint64pow10)] }
def FlattenProductSaid : Prop := flattenProductRow.holds Tryz.pinned (OpenSpec.ofChange flattenProductSpec)

/-- ITS FALSE NEIGHBOUR: 'it returns false'. Refute it at one input. -/
def flattenProductWrong : ChangeSpec := { name := "flattenProduct", fn := fun _ => fun
  | [d1, d2, d3] => { results := [.lit (.bool false)], args := [d1, d2, d3] }
  | _ => none }
def FlattenProductWrongFalsely : Prop := flattenProductRow.holds Tryz.pinned (OpenSpec.ofChange flattenProductWrong)

/-- 'overseerlaw37.ObservabilityImplements': WHATEVER THE INPUT: true; the input reads as it did. -/
def observabilityImplementsSpec : ChangeSpec := { name := "observabilityImplements", fn := fun _ => fun
  | [d] => { results := [.lit (.bool true)], args := [d] }
  | _ => none }
def observabilityImplementsRow : OpenClaim := { program := "ytlcekmemdnjjbaagreatdoor", sum := "e1fbb41279ccc1f08b28b60416df5452bad3bad5d55f4b5aefd70209ec706443", func := "overseer/overseerlaw37.ObservabilityImplements", spec := "observabilityImplements", inPlace := ["internal/abi.NoEscape"], unfollowed := true, recurses := true, named := ["internal/strconv.uint64pow10", "math/bits.deBruijn32tab", "math/bits.deBruijn64tab"], plainKeys := false, apart := false, laid := [("math/bits.deBruijn32tab", laid_math_bits_deBruijn32tab), ("math/bits.deBruijn64tab", laid_math_bits_deBruijn64tab), ("internal/strconv.uint64pow10", laid_internal_strconv_uint64pow10)] }
def ObservabilityImplementsSaid : Prop := observabilityImplementsRow.holds Tryz.pinned (OpenSpec.ofChange observabilityImplementsSpec)

/-- ITS FALSE NEIGHBOUR: 'it returns false'. Refute it at one input. -/
def observabilityImplementsWrong : ChangeSpec := { name := "observabilityImplements", fn := fun _ => fun
  | [d] => { results := [.lit (.bool false)], args := [d] }
  | _ => none }
def ObservabilityImplementsWrongFalsely : Prop := observabilityImplementsRow.holds Tryz.pinned (OpenSpec.ofChange observabilityImplementsWrong)

/-- 'overseerlaw37.ObservabilityLoops': WHATEVER THE INPUT: true; the input reads as it did. -/
def observabilityLoopsSpec : ChangeSpec := { name := "observabilityLoops", fn := fun _ => fun
  | [d] => { results := [.lit (.bool true)], args := [d] }
  | _ => none }
def observabilityLoopsRow : OpenClaim := { program := "ytlcekmemdnjjbaagreatdoor", sum := "e1fbb41279ccc1f08b28b60416df5452bad3bad5d55f4b5aefd70209ec706443", func := "overseer/overseerlaw37.ObservabilityLoops", spec := "observabilityLoops", inPlace := ["internal/abi.NoEscape"], unfollowed := true, recurses := true, named := ["internal/strconv.uint64pow10", "math/bits.deBruijn32tab", "math/bits.deBruijn64tab"], plainKeys := false, apart := false, laid := [("math/bits.deBruijn32tab", laid_math_bits_deBruijn32tab), ("math/bits.deBruijn64tab", laid_math_bits_deBruijn64tab), ("internal/strconv.uint64pow10", laid_internal_strconv_uint64pow10)] }
def ObservabilityLoopsSaid : Prop := observabilityLoopsRow.holds Tryz.pinned (OpenSpec.ofChange observabilityLoopsSpec)

/-- ITS FALSE NEIGHBOUR: 'it returns false'. Refute it at one input. -/
def observabilityLoopsWrong : ChangeSpec := { name := "observabilityLoops", fn := fun _ => fun
  | [d] => { results := [.lit (.bool false)], args := [d] }
  | _ => none }
def ObservabilityLoopsWrongFalsely : Prop := observabilityLoopsRow.holds Tryz.pinned (OpenSpec.ofChange observabilityLoopsWrong)

/-- 'overseerlaw37.ObservabilityPermits': WHATEVER THE INPUT: true; the input reads as it did. -/
def observabilityPermitsSpec : ChangeSpec := { name := "observabilityPermits", fn := fun _ => fun
  | [d1, d2] => { results := [.lit (.bool true)], args := [d1, d2] }
  | _ => none }
def observabilityPermitsRow : OpenClaim := { program := "ytlcekmemdnjjbaagreatdoor", sum := "e1fbb41279ccc1f08b28b60416df5452bad3bad5d55f4b5aefd70209ec706443", func := "overseer/overseerlaw37.ObservabilityPermits", spec := "observabilityPermits", inPlace := ["internal/abi.NoEscape"], unfollowed := true, recurses := true, named := ["internal/strconv.uint64pow10", "math/bits.deBruijn32tab", "math/bits.deBruijn64tab"], plainKeys := false, apart := false, laid := [("math/bits.deBruijn32tab", laid_math_bits_deBruijn32tab), ("math/bits.deBruijn64tab", laid_math_bits_deBruijn64tab), ("internal/strconv.uint64pow10", laid_internal_strconv_uint64pow10)] }
def ObservabilityPermitsSaid : Prop := observabilityPermitsRow.holds Tryz.pinned (OpenSpec.ofChange observabilityPermitsSpec)

/-- ITS FALSE NEIGHBOUR: 'it returns false'. Refute it at one input. -/
def observabilityPermitsWrong : ChangeSpec := { name := "observabilityPermits", fn := fun _ => fun
  | [d1, d2] => { results := [.lit (.bool false)], args := [d1, d2] }
  | _ => none }
def ObservabilityPermitsWrongFalsely : Prop := observabilityPermitsRow.holds Tryz.pinned (OpenSpec.ofChange observabilityPermitsWrong)

/-- 'overseerlaw37.ObservabilityDecides': WHATEVER THE INPUT: true; the input reads as it did. -/
def observabilityDecidesSpec : ChangeSpec := { name := "observabilityDecides", fn := fun _ => fun
  | [d] => { results := [.lit (.bool true)], args := [d] }
  | _ => none }
def observabilityDecidesRow : OpenClaim := { program := "ytlcekmemdnjjbaagreatdoor", sum := "e1fbb41279ccc1f08b28b60416df5452bad3bad5d55f4b5aefd70209ec706443", func := "overseer/overseerlaw37.ObservabilityDecides", spec := "observabilityDecides", inPlace := ["internal/abi.NoEscape"], unfollowed := true, recurses := true, named := ["internal/strconv.uint64pow10", "math/bits.deBruijn32tab", "math/bits.deBruijn64tab"], plainKeys := false, apart := false, laid := [("math/bits.deBruijn32tab", laid_math_bits_deBruijn32tab), ("math/bits.deBruijn64tab", laid_math_bits_deBruijn64tab), ("internal/strconv.uint64pow10", laid_internal_strconv_uint64pow10)] }
def ObservabilityDecidesSaid : Prop := observabilityDecidesRow.holds Tryz.pinned (OpenSpec.ofChange observabilityDecidesSpec)

/-- ITS FALSE NEIGHBOUR: 'it returns false'. Refute it at one input. -/
def observabilityDecidesWrong : ChangeSpec := { name := "observabilityDecides", fn := fun _ => fun
  | [d] => { results := [.lit (.bool false)], args := [d] }
  | _ => none }
def ObservabilityDecidesWrongFalsely : Prop := observabilityDecidesRow.holds Tryz.pinned (OpenSpec.ofChange observabilityDecidesWrong)

/- THE SECOND FORM. 'bulk': how many values and letters a reading holds, each counted each time it is reached (what is shared counts as often as it is met; a slice's spare places count too). A statement '..UptoSaid' is the law's where the arguments, and the package variables that the reading takes, are together of bulk at most 1048576: NARROWER than '..Said'. Prove '..Said' where nothing that the law and all that it calls make is longer than what came in: it says more and counts as full. Else prove '..UptoSaid'. A law counts once. -/
mutual
def uptoBulk {H : Type} : DataW H → Nat
  | .lit (.string bytes) => bytes.length + 1
  | .lit _ => 1
  | .nil => 1
  | .ptr d => uptoBulk d + 1
  | .slice elems spare => uptoBulkAll elems + uptoBulkAll spare + 1
  | .agg parts => uptoBulkAll parts + 1
  | .iface _ d => uptoBulk d + 1
  | .map entries => uptoBulkEntries entries + 1
  | .held _ => 1
def uptoBulkAll {H : Type} : List (DataW H) → Nat
  | [] => 0
  | d :: r => uptoBulk d + uptoBulkAll r
def uptoBulkEntries {H : Type} : List (Lit × DataW H) → Nat
  | [] => 0
  | x :: r => uptoBulkEntry x + uptoBulkEntries r
def uptoBulkEntry {H : Type} : Lit × DataW H → Nat
  | (.string bytes, d) => bytes.length + uptoBulk d + 1
  | (_, d) => uptoBulk d + 1
 end
def uptoSmall : (H : Type) → List (DataW H) → Bool := fun _ ds => decide (uptoBulkAll ds ≤ 1048576)
def OpenSpec.upto (s : _root_.Go.ChangeSpec) : _root_.Go.OpenSpec := { _root_.Go.OpenSpec.ofChange s with cond := some uptoSmall }

/-- 'overseerlaw37.ObservabilityMore', WHERE WHAT IT READS IS OF BULK AT MOST 1048576: true; the input reads as it did. -/
def observabilityMoreUptoRow : OpenClaim := { program := "ytlcekmemdnjjbaagreatdoor", sum := "e1fbb41279ccc1f08b28b60416df5452bad3bad5d55f4b5aefd70209ec706443", func := "overseer/overseerlaw37.ObservabilityMore", spec := "observabilityMore", inPlace := ["internal/abi.NoEscape"], unfollowed := true, recurses := true, named := ["internal/strconv.uint64pow10", "math/bits.deBruijn32tab", "math/bits.deBruijn64tab"], plainKeys := false, apart := false, laid := [("math/bits.deBruijn32tab", laid_math_bits_deBruijn32tab), ("math/bits.deBruijn64tab", laid_math_bits_deBruijn64tab), ("internal/strconv.uint64pow10", laid_internal_strconv_uint64pow10)], narrowed := true }
def ObservabilityMoreUptoSaid : Prop := observabilityMoreUptoRow.holds Tryz.pinned (OpenSpec.upto observabilityMoreSpec)

/-- 'overseerlaw37.ObservabilityWorks', WHERE WHAT IT READS IS OF BULK AT MOST 1048576: true; the input reads as it did. -/
def observabilityWorksUptoRow : OpenClaim := { program := "ytlcekmemdnjjbaagreatdoor", sum := "e1fbb41279ccc1f08b28b60416df5452bad3bad5d55f4b5aefd70209ec706443", func := "overseer/overseerlaw37.ObservabilityWorks", spec := "observabilityWorks", inPlace := ["internal/abi.NoEscape"], unfollowed := true, recurses := true, named := ["internal/strconv.uint64pow10", "math/bits.deBruijn32tab", "math/bits.deBruijn64tab"], plainKeys := false, apart := false, laid := [("math/bits.deBruijn32tab", laid_math_bits_deBruijn32tab), ("math/bits.deBruijn64tab", laid_math_bits_deBruijn64tab), ("internal/strconv.uint64pow10", laid_internal_strconv_uint64pow10)], narrowed := true }
def ObservabilityWorksUptoSaid : Prop := observabilityWorksUptoRow.holds Tryz.pinned (OpenSpec.upto observabilityWorksSpec)

/-- 'overseerlaw37.ObservabilityVerifies', WHERE WHAT IT READS IS OF BULK AT MOST 1048576: true; the input reads as it did. -/
def observabilityVerifiesUptoRow : OpenClaim := { program := "ytlcekmemdnjjbaagreatdoor", sum := "e1fbb41279ccc1f08b28b60416df5452bad3bad5d55f4b5aefd70209ec706443", func := "overseer/overseerlaw37.ObservabilityVerifies", spec := "observabilityVerifies", inPlace := ["internal/abi.NoEscape"], unfollowed := true, recurses := true, named := ["internal/strconv.uint64pow10", "math/bits.deBruijn32tab", "math/bits.deBruijn64tab"], plainKeys := false, apart := false, laid := [("math/bits.deBruijn32tab", laid_math_bits_deBruijn32tab), ("math/bits.deBruijn64tab", laid_math_bits_deBruijn64tab), ("internal/strconv.uint64pow10", laid_internal_strconv_uint64pow10)], narrowed := true }
def ObservabilityVerifiesUptoSaid : Prop := observabilityVerifiesUptoRow.holds Tryz.pinned (OpenSpec.upto observabilityVerifiesSpec)

/-- 'overseerlaw37.ObservabilityRefuses', WHERE WHAT IT READS IS OF BULK AT MOST 1048576: true; the input reads as it did. -/
def observabilityRefusesUptoRow : OpenClaim := { program := "ytlcekmemdnjjbaagreatdoor", sum := "e1fbb41279ccc1f08b28b60416df5452bad3bad5d55f4b5aefd70209ec706443", func := "overseer/overseerlaw37.ObservabilityRefuses", spec := "observabilityRefuses", inPlace := ["internal/abi.NoEscape"], unfollowed := true, recurses := true, named := ["internal/strconv.uint64pow10", "math/bits.deBruijn32tab", "math/bits.deBruijn64tab"], plainKeys := false, apart := false, laid := [("math/bits.deBruijn32tab", laid_math_bits_deBruijn32tab), ("math/bits.deBruijn64tab", laid_math_bits_deBruijn64tab), ("internal/strconv.uint64pow10", laid_internal_strconv_uint64pow10)], narrowed := true }
def ObservabilityRefusesUptoSaid : Prop := observabilityRefusesUptoRow.holds Tryz.pinned (OpenSpec.upto observabilityRefusesSpec)

/-- 'overseerlaw19.FlattenProduct', WHERE WHAT IT READS IS OF BULK AT MOST 1048576: true; the input reads as it did. -/
def flattenProductUptoRow : OpenClaim := { program := "ytlcekmemdnjjbaagreatdoor", sum := "e1fbb41279ccc1f08b28b60416df5452bad3bad5d55f4b5aefd70209ec706443", func := "overseer/overseerlaw19.FlattenProduct", spec := "flattenProduct", inPlace := ["internal/abi.NoEscape"], unfollowed := true, recurses := true, named := ["internal/strconv.uint64pow10", "math/bits.deBruijn32tab", "math/bits.deBruijn64tab"], plainKeys := false, apart := false, laid := [("math/bits.deBruijn32tab", laid_math_bits_deBruijn32tab), ("math/bits.deBruijn64tab", laid_math_bits_deBruijn64tab), ("internal/strconv.uint64pow10", laid_internal_strconv_uint64pow10)], narrowed := true }
def FlattenProductUptoSaid : Prop := flattenProductUptoRow.holds Tryz.pinned (OpenSpec.upto flattenProductSpec)

/-- 'overseerlaw37.ObservabilityImplements', WHERE WHAT IT READS IS OF BULK AT MOST 1048576: true; the input reads as it did. -/
def observabilityImplementsUptoRow : OpenClaim := { program := "ytlcekmemdnjjbaagreatdoor", sum := "e1fbb41279ccc1f08b28b60416df5452bad3bad5d55f4b5aefd70209ec706443", func := "overseer/overseerlaw37.ObservabilityImplements", spec := "observabilityImplements", inPlace := ["internal/abi.NoEscape"], unfollowed := true, recurses := true, named := ["internal/strconv.uint64pow10", "math/bits.deBruijn32tab", "math/bits.deBruijn64tab"], plainKeys := false, apart := false, laid := [("math/bits.deBruijn32tab", laid_math_bits_deBruijn32tab), ("math/bits.deBruijn64tab", laid_math_bits_deBruijn64tab), ("internal/strconv.uint64pow10", laid_internal_strconv_uint64pow10)], narrowed := true }
def ObservabilityImplementsUptoSaid : Prop := observabilityImplementsUptoRow.holds Tryz.pinned (OpenSpec.upto observabilityImplementsSpec)

/-- 'overseerlaw37.ObservabilityLoops', WHERE WHAT IT READS IS OF BULK AT MOST 1048576: true; the input reads as it did. -/
def observabilityLoopsUptoRow : OpenClaim := { program := "ytlcekmemdnjjbaagreatdoor", sum := "e1fbb41279ccc1f08b28b60416df5452bad3bad5d55f4b5aefd70209ec706443", func := "overseer/overseerlaw37.ObservabilityLoops", spec := "observabilityLoops", inPlace := ["internal/abi.NoEscape"], unfollowed := true, recurses := true, named := ["internal/strconv.uint64pow10", "math/bits.deBruijn32tab", "math/bits.deBruijn64tab"], plainKeys := false, apart := false, laid := [("math/bits.deBruijn32tab", laid_math_bits_deBruijn32tab), ("math/bits.deBruijn64tab", laid_math_bits_deBruijn64tab), ("internal/strconv.uint64pow10", laid_internal_strconv_uint64pow10)], narrowed := true }
def ObservabilityLoopsUptoSaid : Prop := observabilityLoopsUptoRow.holds Tryz.pinned (OpenSpec.upto observabilityLoopsSpec)

/-- 'overseerlaw37.ObservabilityPermits', WHERE WHAT IT READS IS OF BULK AT MOST 1048576: true; the input reads as it did. -/
def observabilityPermitsUptoRow : OpenClaim := { program := "ytlcekmemdnjjbaagreatdoor", sum := "e1fbb41279ccc1f08b28b60416df5452bad3bad5d55f4b5aefd70209ec706443", func := "overseer/overseerlaw37.ObservabilityPermits", spec := "observabilityPermits", inPlace := ["internal/abi.NoEscape"], unfollowed := true, recurses := true, named := ["internal/strconv.uint64pow10", "math/bits.deBruijn32tab", "math/bits.deBruijn64tab"], plainKeys := false, apart := false, laid := [("math/bits.deBruijn32tab", laid_math_bits_deBruijn32tab), ("math/bits.deBruijn64tab", laid_math_bits_deBruijn64tab), ("internal/strconv.uint64pow10", laid_internal_strconv_uint64pow10)], narrowed := true }
def ObservabilityPermitsUptoSaid : Prop := observabilityPermitsUptoRow.holds Tryz.pinned (OpenSpec.upto observabilityPermitsSpec)

/-- 'overseerlaw37.ObservabilityDecides', WHERE WHAT IT READS IS OF BULK AT MOST 1048576: true; the input reads as it did. -/
def observabilityDecidesUptoRow : OpenClaim := { program := "ytlcekmemdnjjbaagreatdoor", sum := "e1fbb41279ccc1f08b28b60416df5452bad3bad5d55f4b5aefd70209ec706443", func := "overseer/overseerlaw37.ObservabilityDecides", spec := "observabilityDecides", inPlace := ["internal/abi.NoEscape"], unfollowed := true, recurses := true, named := ["internal/strconv.uint64pow10", "math/bits.deBruijn32tab", "math/bits.deBruijn64tab"], plainKeys := false, apart := false, laid := [("math/bits.deBruijn32tab", laid_math_bits_deBruijn32tab), ("math/bits.deBruijn64tab", laid_math_bits_deBruijn64tab), ("internal/strconv.uint64pow10", laid_internal_strconv_uint64pow10)], narrowed := true }
def ObservabilityDecidesUptoSaid : Prop := observabilityDecidesUptoRow.holds Tryz.pinned (OpenSpec.upto observabilityDecidesSpec)

end Rows
end Go.Proofs.YtlcekmemdnjjbaaGreatDoor
