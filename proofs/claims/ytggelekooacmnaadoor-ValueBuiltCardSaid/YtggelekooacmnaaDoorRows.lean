/-
  NARROWER THAN 'FOR EVERY INPUT', by the rows' own cells (each row's printed sentence says how): TypesDeep: laid · TypesSizes: laid · TypesWidths: laid · TypesTexts: laid · TypesRaw: loops, laid · TypesBuilt: laid · ValueOrder: laid · ValueRaw: loops, laid · ValueBuilt: laid.
  DERIVED. THE GIVEN ROWS OF THIS SEAT. 9 by the template 'for every input the law returns true; each argument reads behind the call as it read before'; 0 by the template 'total and deterministic' (their statements: YtggelekooacmnaaDoorTotals.lean).
  GIVEN WITH THE SEED: the statements are not yours to turn. If you find one false, say at which input.
  Laid BY PROGRAM, IN A SANDBOX (cutbox-rows.mjs): the forced cells as the released guide's own fill.sh prints them over the translation fe4b98a2701dea06… (all of the seat's roots in one cut). By AI agents, Wed Nov 11 2026. No macro, syntax, notation, axiom, sorry.
-/
import Derived.Test.YtggelekooacmnaaDoorChecked
import GoSem.Claim
import GoSem.ClaimJoined
import GoSem.ClaimMapViews
import Derived.JoinedTies
import Derived.KernelRfl
namespace Go.Proofs.YtggelekooacmnaaDoor
/- THE CELL 'sum', in the pinned program and in every row, IS THE sha256 OF THE DUMP (.gsa) THAT YtggelekooacmnaaDoorProg.lean LOADS. Nothing in Lean hashes anything: it is a label: what it is worth is what the hold of that sum in a sandbox is worth. -/
noncomputable def Tryd.pinned : Pinned := { name := "ytggelekooacmnaadoor", sum := "fe4b98a2701dea063d18005d8ca64ee19d7b532e4d520c2acf62d9340346b126", checked := Tryd.checked }
namespace Rows
def none {H : Type} : Left H := { results := [], args := [] }

/- WHAT THE LISTED PACKAGE-LEVEL VARIABLES READ AS WHEN THE CALL BEGINS. Each datum BY PROGRAM (the guide's laid-datum.mjs) off the statement by which the dump's own 'gosem.cut.vars' lays the variable. In a bare row this is a premise. The card (YtggelekooacmnaaDoorCards.lean) ties it to the program's text. -/
def laid_math_bits_deBruijn32tab {H : Type} : DataW H := .agg [.lit (.int .u8 0), .lit (.int .u8 1), .lit (.int .u8 28), .lit (.int .u8 2), .lit (.int .u8 29), .lit (.int .u8 14), .lit (.int .u8 24), .lit (.int .u8 3), .lit (.int .u8 30), .lit (.int .u8 22), .lit (.int .u8 20), .lit (.int .u8 15), .lit (.int .u8 25), .lit (.int .u8 17), .lit (.int .u8 4), .lit (.int .u8 8), .lit (.int .u8 31), .lit (.int .u8 27), .lit (.int .u8 13), .lit (.int .u8 23), .lit (.int .u8 21), .lit (.int .u8 19), .lit (.int .u8 16), .lit (.int .u8 7), .lit (.int .u8 26), .lit (.int .u8 12), .lit (.int .u8 18), .lit (.int .u8 6), .lit (.int .u8 11), .lit (.int .u8 5), .lit (.int .u8 10), .lit (.int .u8 9)]
def laid_math_bits_deBruijn64tab {H : Type} : DataW H := .agg [.lit (.int .u8 0), .lit (.int .u8 1), .lit (.int .u8 56), .lit (.int .u8 2), .lit (.int .u8 57), .lit (.int .u8 49), .lit (.int .u8 28), .lit (.int .u8 3), .lit (.int .u8 61), .lit (.int .u8 58), .lit (.int .u8 42), .lit (.int .u8 50), .lit (.int .u8 38), .lit (.int .u8 29), .lit (.int .u8 17), .lit (.int .u8 4), .lit (.int .u8 62), .lit (.int .u8 47), .lit (.int .u8 59), .lit (.int .u8 36), .lit (.int .u8 45), .lit (.int .u8 43), .lit (.int .u8 51), .lit (.int .u8 22), .lit (.int .u8 53), .lit (.int .u8 39), .lit (.int .u8 33), .lit (.int .u8 30), .lit (.int .u8 24), .lit (.int .u8 18), .lit (.int .u8 12), .lit (.int .u8 5), .lit (.int .u8 63), .lit (.int .u8 55), .lit (.int .u8 48), .lit (.int .u8 27), .lit (.int .u8 60), .lit (.int .u8 41), .lit (.int .u8 37), .lit (.int .u8 16), .lit (.int .u8 46), .lit (.int .u8 35), .lit (.int .u8 44), .lit (.int .u8 21), .lit (.int .u8 52), .lit (.int .u8 32), .lit (.int .u8 23), .lit (.int .u8 11), .lit (.int .u8 54), .lit (.int .u8 26), .lit (.int .u8 40), .lit (.int .u8 15), .lit (.int .u8 34), .lit (.int .u8 20), .lit (.int .u8 31), .lit (.int .u8 10), .lit (.int .u8 25), .lit (.int .u8 14), .lit (.int .u8 19), .lit (.int .u8 9), .lit (.int .u8 13), .lit (.int .u8 8), .lit (.int .u8 7), .lit (.int .u8 6)]
def laid_internal_strconv_uint64pow10 {H : Type} : DataW H := .agg [.lit (.int .u64 1), .lit (.int .u64 10), .lit (.int .u64 100), .lit (.int .u64 1000), .lit (.int .u64 10000), .lit (.int .u64 100000), .lit (.int .u64 1000000), .lit (.int .u64 10000000), .lit (.int .u64 100000000), .lit (.int .u64 1000000000), .lit (.int .u64 10000000000), .lit (.int .u64 100000000000), .lit (.int .u64 1000000000000), .lit (.int .u64 10000000000000), .lit (.int .u64 100000000000000), .lit (.int .u64 1000000000000000), .lit (.int .u64 10000000000000000), .lit (.int .u64 100000000000000000), .lit (.int .u64 1000000000000000000), .lit (.int .u64 10000000000000000000)]

/-- 'exactppllaw06.TypesDeep': WHATEVER THE INPUT: true; the input reads as it did. -/
def typesDeepSpec : ChangeSpec := { name := "typesDeep", fn := fun _ => fun
  | [d1, d2] => { results := [.lit (.bool true)], args := [d1, d2] }
  | _ => none }
def typesDeepRow : OpenClaim := { program := "ytggelekooacmnaadoor", sum := "fe4b98a2701dea063d18005d8ca64ee19d7b532e4d520c2acf62d9340346b126", func := "exactppl/exactppllaw06.TypesDeep", spec := "typesDeep", inPlace := ["internal/abi.NoEscape", "internal/bytealg.MakeNoZero"], recurses := true, named := ["internal/strconv.uint64pow10", "math/bits.deBruijn32tab", "math/bits.deBruijn64tab"], apart := false, laid := [("math/bits.deBruijn32tab", laid_math_bits_deBruijn32tab), ("math/bits.deBruijn64tab", laid_math_bits_deBruijn64tab), ("internal/strconv.uint64pow10", laid_internal_strconv_uint64pow10)] }
def TypesDeepSaid : Prop := typesDeepRow.holds Tryd.pinned (OpenSpec.ofChange typesDeepSpec)

/-- ITS FALSE NEIGHBOUR: 'it returns false'. Refute it at one input. -/
def typesDeepWrong : ChangeSpec := { name := "typesDeep", fn := fun _ => fun
  | [d1, d2] => { results := [.lit (.bool false)], args := [d1, d2] }
  | _ => none }
def TypesDeepWrongFalsely : Prop := typesDeepRow.holds Tryd.pinned (OpenSpec.ofChange typesDeepWrong)

/-- 'exactppllaw06.TypesSizes': WHATEVER THE INPUT: true; the input reads as it did. -/
def typesSizesSpec : ChangeSpec := { name := "typesSizes", fn := fun _ => fun
  | [d] => { results := [.lit (.bool true)], args := [d] }
  | _ => none }
def typesSizesRow : OpenClaim := { program := "ytggelekooacmnaadoor", sum := "fe4b98a2701dea063d18005d8ca64ee19d7b532e4d520c2acf62d9340346b126", func := "exactppl/exactppllaw06.TypesSizes", spec := "typesSizes", inPlace := ["internal/abi.NoEscape", "internal/bytealg.MakeNoZero"], recurses := true, named := ["internal/strconv.uint64pow10", "math/bits.deBruijn32tab", "math/bits.deBruijn64tab"], apart := false, laid := [("math/bits.deBruijn32tab", laid_math_bits_deBruijn32tab), ("math/bits.deBruijn64tab", laid_math_bits_deBruijn64tab), ("internal/strconv.uint64pow10", laid_internal_strconv_uint64pow10)] }
def TypesSizesSaid : Prop := typesSizesRow.holds Tryd.pinned (OpenSpec.ofChange typesSizesSpec)

/-- ITS FALSE NEIGHBOUR: 'it returns false'. Refute it at one input. -/
def typesSizesWrong : ChangeSpec := { name := "typesSizes", fn := fun _ => fun
  | [d] => { results := [.lit (.bool false)], args := [d] }
  | _ => none }
def TypesSizesWrongFalsely : Prop := typesSizesRow.holds Tryd.pinned (OpenSpec.ofChange typesSizesWrong)

/-- 'exactppllaw06.TypesWidths': WHATEVER THE INPUT: true; the input reads as it did. -/
def typesWidthsSpec : ChangeSpec := { name := "typesWidths", fn := fun _ => fun
  | [d] => { results := [.lit (.bool true)], args := [d] }
  | _ => none }
def typesWidthsRow : OpenClaim := { program := "ytggelekooacmnaadoor", sum := "fe4b98a2701dea063d18005d8ca64ee19d7b532e4d520c2acf62d9340346b126", func := "exactppl/exactppllaw06.TypesWidths", spec := "typesWidths", inPlace := ["internal/abi.NoEscape", "internal/bytealg.MakeNoZero"], recurses := true, named := ["internal/strconv.uint64pow10", "math/bits.deBruijn32tab", "math/bits.deBruijn64tab"], apart := false, laid := [("math/bits.deBruijn32tab", laid_math_bits_deBruijn32tab), ("math/bits.deBruijn64tab", laid_math_bits_deBruijn64tab), ("internal/strconv.uint64pow10", laid_internal_strconv_uint64pow10)] }
def TypesWidthsSaid : Prop := typesWidthsRow.holds Tryd.pinned (OpenSpec.ofChange typesWidthsSpec)

/-- ITS FALSE NEIGHBOUR: 'it returns false'. Refute it at one input. -/
def typesWidthsWrong : ChangeSpec := { name := "typesWidths", fn := fun _ => fun
  | [d] => { results := [.lit (.bool false)], args := [d] }
  | _ => none }
def TypesWidthsWrongFalsely : Prop := typesWidthsRow.holds Tryd.pinned (OpenSpec.ofChange typesWidthsWrong)

/-- 'exactppllaw06.TypesTexts': WHATEVER THE INPUT: true; the input reads as it did. -/
def typesTextsSpec : ChangeSpec := { name := "typesTexts", fn := fun _ => fun
  | [d] => { results := [.lit (.bool true)], args := [d] }
  | _ => none }
def typesTextsRow : OpenClaim := { program := "ytggelekooacmnaadoor", sum := "fe4b98a2701dea063d18005d8ca64ee19d7b532e4d520c2acf62d9340346b126", func := "exactppl/exactppllaw06.TypesTexts", spec := "typesTexts", inPlace := ["internal/abi.NoEscape", "internal/bytealg.MakeNoZero"], unfollowed := true, recurses := true, named := ["internal/strconv.uint64pow10", "math/bits.deBruijn32tab", "math/bits.deBruijn64tab"], apart := false, laid := [("math/bits.deBruijn32tab", laid_math_bits_deBruijn32tab), ("math/bits.deBruijn64tab", laid_math_bits_deBruijn64tab), ("internal/strconv.uint64pow10", laid_internal_strconv_uint64pow10)] }
def TypesTextsSaid : Prop := typesTextsRow.holds Tryd.pinned (OpenSpec.ofChange typesTextsSpec)

/-- ITS FALSE NEIGHBOUR: 'it returns false'. Refute it at one input. -/
def typesTextsWrong : ChangeSpec := { name := "typesTexts", fn := fun _ => fun
  | [d] => { results := [.lit (.bool false)], args := [d] }
  | _ => none }
def TypesTextsWrongFalsely : Prop := typesTextsRow.holds Tryd.pinned (OpenSpec.ofChange typesTextsWrong)

/-- 'exactppllaw06.TypesRaw': WHATEVER THE INPUT: true; the input reads as it did. -/
def typesRawSpec : ChangeSpec := { name := "typesRaw", fn := fun _ => fun
  | [d1, d2] => { results := [.lit (.bool true)], args := [d1, d2] }
  | _ => none }
def typesRawRow : OpenClaim := { program := "ytggelekooacmnaadoor", sum := "fe4b98a2701dea063d18005d8ca64ee19d7b532e4d520c2acf62d9340346b126", func := "exactppl/exactppllaw06.TypesRaw", spec := "typesRaw", inPlace := ["internal/abi.NoEscape", "internal/bytealg.MakeNoZero"], unfollowed := true, recurses := true, named := ["internal/strconv.uint64pow10", "math/bits.deBruijn32tab", "math/bits.deBruijn64tab"], loops := true, apart := false, laid := [("math/bits.deBruijn32tab", laid_math_bits_deBruijn32tab), ("math/bits.deBruijn64tab", laid_math_bits_deBruijn64tab), ("internal/strconv.uint64pow10", laid_internal_strconv_uint64pow10)] }
def TypesRawSaid : Prop := typesRawRow.holds Tryd.pinned (OpenSpec.ofChange typesRawSpec)

/-- ITS FALSE NEIGHBOUR: 'it returns false'. Refute it at one input. -/
def typesRawWrong : ChangeSpec := { name := "typesRaw", fn := fun _ => fun
  | [d1, d2] => { results := [.lit (.bool false)], args := [d1, d2] }
  | _ => none }
def TypesRawWrongFalsely : Prop := typesRawRow.holds Tryd.pinned (OpenSpec.ofChange typesRawWrong)

/-- 'exactppllaw06.TypesBuilt': WHATEVER THE INPUT: true; the input reads as it did. -/
def typesBuiltSpec : ChangeSpec := { name := "typesBuilt", fn := fun _ => fun
  | [d] => { results := [.lit (.bool true)], args := [d] }
  | _ => none }
def typesBuiltRow : OpenClaim := { program := "ytggelekooacmnaadoor", sum := "fe4b98a2701dea063d18005d8ca64ee19d7b532e4d520c2acf62d9340346b126", func := "exactppl/exactppllaw06.TypesBuilt", spec := "typesBuilt", inPlace := ["internal/abi.NoEscape", "internal/bytealg.MakeNoZero"], unfollowed := true, recurses := true, named := ["internal/strconv.uint64pow10", "math/bits.deBruijn32tab", "math/bits.deBruijn64tab"], apart := false, laid := [("math/bits.deBruijn32tab", laid_math_bits_deBruijn32tab), ("math/bits.deBruijn64tab", laid_math_bits_deBruijn64tab), ("internal/strconv.uint64pow10", laid_internal_strconv_uint64pow10)] }
def TypesBuiltSaid : Prop := typesBuiltRow.holds Tryd.pinned (OpenSpec.ofChange typesBuiltSpec)

/-- ITS FALSE NEIGHBOUR: 'it returns false'. Refute it at one input. -/
def typesBuiltWrong : ChangeSpec := { name := "typesBuilt", fn := fun _ => fun
  | [d] => { results := [.lit (.bool false)], args := [d] }
  | _ => none }
def TypesBuiltWrongFalsely : Prop := typesBuiltRow.holds Tryd.pinned (OpenSpec.ofChange typesBuiltWrong)

/-- 'exactppllaw07.ValueOrder': WHATEVER THE INPUT: true; the input reads as it did. -/
def valueOrderSpec : ChangeSpec := { name := "valueOrder", fn := fun _ => fun
  | [d] => { results := [.lit (.bool true)], args := [d] }
  | _ => none }
def valueOrderRow : OpenClaim := { program := "ytggelekooacmnaadoor", sum := "fe4b98a2701dea063d18005d8ca64ee19d7b532e4d520c2acf62d9340346b126", func := "exactppl/exactppllaw07.ValueOrder", spec := "valueOrder", inPlace := ["internal/abi.NoEscape", "internal/bytealg.MakeNoZero"], recurses := true, named := ["internal/strconv.uint64pow10", "math/bits.deBruijn32tab", "math/bits.deBruijn64tab"], apart := false, laid := [("math/bits.deBruijn32tab", laid_math_bits_deBruijn32tab), ("math/bits.deBruijn64tab", laid_math_bits_deBruijn64tab), ("internal/strconv.uint64pow10", laid_internal_strconv_uint64pow10)] }
def ValueOrderSaid : Prop := valueOrderRow.holds Tryd.pinned (OpenSpec.ofChange valueOrderSpec)

/-- ITS FALSE NEIGHBOUR: 'it returns false'. Refute it at one input. -/
def valueOrderWrong : ChangeSpec := { name := "valueOrder", fn := fun _ => fun
  | [d] => { results := [.lit (.bool false)], args := [d] }
  | _ => none }
def ValueOrderWrongFalsely : Prop := valueOrderRow.holds Tryd.pinned (OpenSpec.ofChange valueOrderWrong)

/-- 'exactppllaw07.ValueRaw': WHATEVER THE INPUT: true; the input reads as it did. -/
def valueRawSpec : ChangeSpec := { name := "valueRaw", fn := fun _ => fun
  | [d1, d2, d3, d4] => { results := [.lit (.bool true)], args := [d1, d2, d3, d4] }
  | _ => none }
def valueRawRow : OpenClaim := { program := "ytggelekooacmnaadoor", sum := "fe4b98a2701dea063d18005d8ca64ee19d7b532e4d520c2acf62d9340346b126", func := "exactppl/exactppllaw07.ValueRaw", spec := "valueRaw", inPlace := ["internal/abi.NoEscape", "internal/bytealg.MakeNoZero"], recurses := true, named := ["internal/strconv.uint64pow10", "math/bits.deBruijn32tab", "math/bits.deBruijn64tab"], loops := true, apart := false, laid := [("math/bits.deBruijn32tab", laid_math_bits_deBruijn32tab), ("math/bits.deBruijn64tab", laid_math_bits_deBruijn64tab), ("internal/strconv.uint64pow10", laid_internal_strconv_uint64pow10)] }
def ValueRawSaid : Prop := valueRawRow.holds Tryd.pinned (OpenSpec.ofChange valueRawSpec)

/-- ITS FALSE NEIGHBOUR: 'it returns false'. Refute it at one input. -/
def valueRawWrong : ChangeSpec := { name := "valueRaw", fn := fun _ => fun
  | [d1, d2, d3, d4] => { results := [.lit (.bool false)], args := [d1, d2, d3, d4] }
  | _ => none }
def ValueRawWrongFalsely : Prop := valueRawRow.holds Tryd.pinned (OpenSpec.ofChange valueRawWrong)

/-- 'exactppllaw07.ValueBuilt': WHATEVER THE INPUT: true; the input reads as it did. -/
def valueBuiltSpec : ChangeSpec := { name := "valueBuilt", fn := fun _ => fun
  | [d] => { results := [.lit (.bool true)], args := [d] }
  | _ => none }
def valueBuiltRow : OpenClaim := { program := "ytggelekooacmnaadoor", sum := "fe4b98a2701dea063d18005d8ca64ee19d7b532e4d520c2acf62d9340346b126", func := "exactppl/exactppllaw07.ValueBuilt", spec := "valueBuilt", inPlace := ["internal/abi.NoEscape", "internal/bytealg.MakeNoZero"], recurses := true, named := ["internal/strconv.uint64pow10", "math/bits.deBruijn32tab", "math/bits.deBruijn64tab"], apart := false, laid := [("math/bits.deBruijn32tab", laid_math_bits_deBruijn32tab), ("math/bits.deBruijn64tab", laid_math_bits_deBruijn64tab), ("internal/strconv.uint64pow10", laid_internal_strconv_uint64pow10)] }
def ValueBuiltSaid : Prop := valueBuiltRow.holds Tryd.pinned (OpenSpec.ofChange valueBuiltSpec)

/-- ITS FALSE NEIGHBOUR: 'it returns false'. Refute it at one input. -/
def valueBuiltWrong : ChangeSpec := { name := "valueBuilt", fn := fun _ => fun
  | [d] => { results := [.lit (.bool false)], args := [d] }
  | _ => none }
def ValueBuiltWrongFalsely : Prop := valueBuiltRow.holds Tryd.pinned (OpenSpec.ofChange valueBuiltWrong)

/- THE SECOND FORM. 'bulk': how many values and letters a reading holds, each counted each time it is reached (what is shared counts as often as it is met; a slice's spare places count too). A statement '..UptoSaid' is the law's where the arguments, and the package variables that the reading takes, are together of bulk at most 1048576: NARROWER than '..Said'. Prove '..Said' where nothing that the law and all that it calls make is longer than what came in: it says more and counts as full. Else prove '..UptoSaid'. A law counts once. -/
mutual
def uptoBulk {H : Type} : DataW H → Nat
  | .lit (.string bytes) => bytes.length + 1
  | .lit _ => 1
  | .nil => 1
  | .ptr d => uptoBulk d + 1
  | .slice elems spare => uptoBulkAll elems + uptoBulkAll spare + 1
  | .agg parts => uptoBulkAll parts + 1
  | .iface _ d => uptoBulk d + 1
  | .map entries => uptoBulkEntries entries + 1
  | .held _ => 1
def uptoBulkAll {H : Type} : List (DataW H) → Nat
  | [] => 0
  | d :: r => uptoBulk d + uptoBulkAll r
def uptoBulkEntries {H : Type} : List (Lit × DataW H) → Nat
  | [] => 0
  | x :: r => uptoBulkEntry x + uptoBulkEntries r
def uptoBulkEntry {H : Type} : Lit × DataW H → Nat
  | (.string bytes, d) => bytes.length + uptoBulk d + 1
  | (_, d) => uptoBulk d + 1
 end
def uptoSmall : (H : Type) → List (DataW H) → Bool := fun _ ds => decide (uptoBulkAll ds ≤ 1048576)
def OpenSpec.upto (s : _root_.Go.ChangeSpec) : _root_.Go.OpenSpec := { _root_.Go.OpenSpec.ofChange s with cond := some uptoSmall }

/-- 'exactppllaw06.TypesDeep', WHERE WHAT IT READS IS OF BULK AT MOST 1048576: true; the input reads as it did. -/
def typesDeepUptoRow : OpenClaim := { program := "ytggelekooacmnaadoor", sum := "fe4b98a2701dea063d18005d8ca64ee19d7b532e4d520c2acf62d9340346b126", func := "exactppl/exactppllaw06.TypesDeep", spec := "typesDeep", inPlace := ["internal/abi.NoEscape", "internal/bytealg.MakeNoZero"], recurses := true, named := ["internal/strconv.uint64pow10", "math/bits.deBruijn32tab", "math/bits.deBruijn64tab"], apart := false, laid := [("math/bits.deBruijn32tab", laid_math_bits_deBruijn32tab), ("math/bits.deBruijn64tab", laid_math_bits_deBruijn64tab), ("internal/strconv.uint64pow10", laid_internal_strconv_uint64pow10)], narrowed := true }
def TypesDeepUptoSaid : Prop := typesDeepUptoRow.holds Tryd.pinned (OpenSpec.upto typesDeepSpec)

/-- 'exactppllaw06.TypesSizes', WHERE WHAT IT READS IS OF BULK AT MOST 1048576: true; the input reads as it did. -/
def typesSizesUptoRow : OpenClaim := { program := "ytggelekooacmnaadoor", sum := "fe4b98a2701dea063d18005d8ca64ee19d7b532e4d520c2acf62d9340346b126", func := "exactppl/exactppllaw06.TypesSizes", spec := "typesSizes", inPlace := ["internal/abi.NoEscape", "internal/bytealg.MakeNoZero"], recurses := true, named := ["internal/strconv.uint64pow10", "math/bits.deBruijn32tab", "math/bits.deBruijn64tab"], apart := false, laid := [("math/bits.deBruijn32tab", laid_math_bits_deBruijn32tab), ("math/bits.deBruijn64tab", laid_math_bits_deBruijn64tab), ("internal/strconv.uint64pow10", laid_internal_strconv_uint64pow10)], narrowed := true }
def TypesSizesUptoSaid : Prop := typesSizesUptoRow.holds Tryd.pinned (OpenSpec.upto typesSizesSpec)

/-- 'exactppllaw06.TypesWidths', WHERE WHAT IT READS IS OF BULK AT MOST 1048576: true; the input reads as it did. -/
def typesWidthsUptoRow : OpenClaim := { program := "ytggelekooacmnaadoor", sum := "fe4b98a2701dea063d18005d8ca64ee19d7b532e4d520c2acf62d9340346b126", func := "exactppl/exactppllaw06.TypesWidths", spec := "typesWidths", inPlace := ["internal/abi.NoEscape", "internal/bytealg.MakeNoZero"], recurses := true, named := ["internal/strconv.uint64pow10", "math/bits.deBruijn32tab", "math/bits.deBruijn64tab"], apart := false, laid := [("math/bits.deBruijn32tab", laid_math_bits_deBruijn32tab), ("math/bits.deBruijn64tab", laid_math_bits_deBruijn64tab), ("internal/strconv.uint64pow10", laid_internal_strconv_uint64pow10)], narrowed := true }
def TypesWidthsUptoSaid : Prop := typesWidthsUptoRow.holds Tryd.pinned (OpenSpec.upto typesWidthsSpec)

/-- 'exactppllaw06.TypesTexts', WHERE WHAT IT READS IS OF BULK AT MOST 1048576: true; the input reads as it did. -/
def typesTextsUptoRow : OpenClaim := { program := "ytggelekooacmnaadoor", sum := "fe4b98a2701dea063d18005d8ca64ee19d7b532e4d520c2acf62d9340346b126", func := "exactppl/exactppllaw06.TypesTexts", spec := "typesTexts", inPlace := ["internal/abi.NoEscape", "internal/bytealg.MakeNoZero"], unfollowed := true, recurses := true, named := ["internal/strconv.uint64pow10", "math/bits.deBruijn32tab", "math/bits.deBruijn64tab"], apart := false, laid := [("math/bits.deBruijn32tab", laid_math_bits_deBruijn32tab), ("math/bits.deBruijn64tab", laid_math_bits_deBruijn64tab), ("internal/strconv.uint64pow10", laid_internal_strconv_uint64pow10)], narrowed := true }
def TypesTextsUptoSaid : Prop := typesTextsUptoRow.holds Tryd.pinned (OpenSpec.upto typesTextsSpec)

/-- 'exactppllaw06.TypesRaw', WHERE WHAT IT READS IS OF BULK AT MOST 1048576: true; the input reads as it did. -/
def typesRawUptoRow : OpenClaim := { program := "ytggelekooacmnaadoor", sum := "fe4b98a2701dea063d18005d8ca64ee19d7b532e4d520c2acf62d9340346b126", func := "exactppl/exactppllaw06.TypesRaw", spec := "typesRaw", inPlace := ["internal/abi.NoEscape", "internal/bytealg.MakeNoZero"], unfollowed := true, recurses := true, named := ["internal/strconv.uint64pow10", "math/bits.deBruijn32tab", "math/bits.deBruijn64tab"], loops := true, apart := false, laid := [("math/bits.deBruijn32tab", laid_math_bits_deBruijn32tab), ("math/bits.deBruijn64tab", laid_math_bits_deBruijn64tab), ("internal/strconv.uint64pow10", laid_internal_strconv_uint64pow10)], narrowed := true }
def TypesRawUptoSaid : Prop := typesRawUptoRow.holds Tryd.pinned (OpenSpec.upto typesRawSpec)

/-- 'exactppllaw06.TypesBuilt', WHERE WHAT IT READS IS OF BULK AT MOST 1048576: true; the input reads as it did. -/
def typesBuiltUptoRow : OpenClaim := { program := "ytggelekooacmnaadoor", sum := "fe4b98a2701dea063d18005d8ca64ee19d7b532e4d520c2acf62d9340346b126", func := "exactppl/exactppllaw06.TypesBuilt", spec := "typesBuilt", inPlace := ["internal/abi.NoEscape", "internal/bytealg.MakeNoZero"], unfollowed := true, recurses := true, named := ["internal/strconv.uint64pow10", "math/bits.deBruijn32tab", "math/bits.deBruijn64tab"], apart := false, laid := [("math/bits.deBruijn32tab", laid_math_bits_deBruijn32tab), ("math/bits.deBruijn64tab", laid_math_bits_deBruijn64tab), ("internal/strconv.uint64pow10", laid_internal_strconv_uint64pow10)], narrowed := true }
def TypesBuiltUptoSaid : Prop := typesBuiltUptoRow.holds Tryd.pinned (OpenSpec.upto typesBuiltSpec)

/-- 'exactppllaw07.ValueOrder', WHERE WHAT IT READS IS OF BULK AT MOST 1048576: true; the input reads as it did. -/
def valueOrderUptoRow : OpenClaim := { program := "ytggelekooacmnaadoor", sum := "fe4b98a2701dea063d18005d8ca64ee19d7b532e4d520c2acf62d9340346b126", func := "exactppl/exactppllaw07.ValueOrder", spec := "valueOrder", inPlace := ["internal/abi.NoEscape", "internal/bytealg.MakeNoZero"], recurses := true, named := ["internal/strconv.uint64pow10", "math/bits.deBruijn32tab", "math/bits.deBruijn64tab"], apart := false, laid := [("math/bits.deBruijn32tab", laid_math_bits_deBruijn32tab), ("math/bits.deBruijn64tab", laid_math_bits_deBruijn64tab), ("internal/strconv.uint64pow10", laid_internal_strconv_uint64pow10)], narrowed := true }
def ValueOrderUptoSaid : Prop := valueOrderUptoRow.holds Tryd.pinned (OpenSpec.upto valueOrderSpec)

/-- 'exactppllaw07.ValueRaw', WHERE WHAT IT READS IS OF BULK AT MOST 1048576: true; the input reads as it did. -/
def valueRawUptoRow : OpenClaim := { program := "ytggelekooacmnaadoor", sum := "fe4b98a2701dea063d18005d8ca64ee19d7b532e4d520c2acf62d9340346b126", func := "exactppl/exactppllaw07.ValueRaw", spec := "valueRaw", inPlace := ["internal/abi.NoEscape", "internal/bytealg.MakeNoZero"], recurses := true, named := ["internal/strconv.uint64pow10", "math/bits.deBruijn32tab", "math/bits.deBruijn64tab"], loops := true, apart := false, laid := [("math/bits.deBruijn32tab", laid_math_bits_deBruijn32tab), ("math/bits.deBruijn64tab", laid_math_bits_deBruijn64tab), ("internal/strconv.uint64pow10", laid_internal_strconv_uint64pow10)], narrowed := true }
def ValueRawUptoSaid : Prop := valueRawUptoRow.holds Tryd.pinned (OpenSpec.upto valueRawSpec)

/-- 'exactppllaw07.ValueBuilt', WHERE WHAT IT READS IS OF BULK AT MOST 1048576: true; the input reads as it did. -/
def valueBuiltUptoRow : OpenClaim := { program := "ytggelekooacmnaadoor", sum := "fe4b98a2701dea063d18005d8ca64ee19d7b532e4d520c2acf62d9340346b126", func := "exactppl/exactppllaw07.ValueBuilt", spec := "valueBuilt", inPlace := ["internal/abi.NoEscape", "internal/bytealg.MakeNoZero"], recurses := true, named := ["internal/strconv.uint64pow10", "math/bits.deBruijn32tab", "math/bits.deBruijn64tab"], apart := false, laid := [("math/bits.deBruijn32tab", laid_math_bits_deBruijn32tab), ("math/bits.deBruijn64tab", laid_math_bits_deBruijn64tab), ("internal/strconv.uint64pow10", laid_internal_strconv_uint64pow10)], narrowed := true }
def ValueBuiltUptoSaid : Prop := valueBuiltUptoRow.holds Tryd.pinned (OpenSpec.upto valueBuiltSpec)

end Rows
end Go.Proofs.YtggelekooacmnaaDoor
