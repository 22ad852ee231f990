/-
  NARROWER THAN 'FOR EVERY INPUT', by the rows' own cells (each row's printed sentence says how): DiagramReduces: laid · DiagramAny: laid · DiagramSettles: laid · DiagramEvals: laid · DiagramLeaves: laid · DiagramRestricts: laid · DiagramBranches: laid · DiagramUnique: laid · DiagramLists: laid · DiagramFixes: laid · DiagramExpands: laid.
  DERIVED. THE GIVEN ROWS OF THIS SEAT. 11 by the template 'for every input the law returns true; each argument reads behind the call as it read before'; 0 by the template 'total and deterministic' (their statements: YtopbjginpmdebaaDoorTotals.lean).
  GIVEN WITH THE SEED: the statements are not yours to turn. If you find one false, say at which input.
  Laid BY PROGRAM, IN A SANDBOX (cutbox-rows.mjs): the forced cells as the released guide's own fill.sh prints them over the translation bcfeda2fdc2bb3e7… (all of the seat's roots in one cut). By AI agents, Wed Nov 11 2026. No macro, syntax, notation, axiom, sorry.
-/
import Derived.Test.YtopbjginpmdebaaDoorChecked
import GoSem.Claim
import GoSem.ClaimJoined
import GoSem.ClaimMapViews
import Derived.JoinedTies
import Derived.KernelRfl
namespace Go.Proofs.YtopbjginpmdebaaDoor
/- THE CELL 'sum', in the pinned program and in every row, IS THE sha256 OF THE DUMP (.gsa) THAT YtopbjginpmdebaaDoorProg.lean LOADS. Nothing in Lean hashes anything: it is a label: what it is worth is what the hold of that sum in a sandbox is worth. -/
noncomputable def Tryd.pinned : Pinned := { name := "ytopbjginpmdebaadoor", sum := "bcfeda2fdc2bb3e777345500de49ad1b03f51901080fac7e0d8171adb0ee7a26", checked := Tryd.checked }
namespace Rows
def none {H : Type} : Left H := { results := [], args := [] }

/- WHAT THE LISTED PACKAGE-LEVEL VARIABLES READ AS WHEN THE CALL BEGINS. Each datum BY PROGRAM (the guide's laid-datum.mjs) off the statement by which the dump's own 'gosem.cut.vars' lays the variable. In a bare row this is a premise. The card (YtopbjginpmdebaaDoorCards.lean) ties it to the program's text. -/
def laid_math_bits_deBruijn32tab {H : Type} : DataW H := .agg [.lit (.int .u8 0), .lit (.int .u8 1), .lit (.int .u8 28), .lit (.int .u8 2), .lit (.int .u8 29), .lit (.int .u8 14), .lit (.int .u8 24), .lit (.int .u8 3), .lit (.int .u8 30), .lit (.int .u8 22), .lit (.int .u8 20), .lit (.int .u8 15), .lit (.int .u8 25), .lit (.int .u8 17), .lit (.int .u8 4), .lit (.int .u8 8), .lit (.int .u8 31), .lit (.int .u8 27), .lit (.int .u8 13), .lit (.int .u8 23), .lit (.int .u8 21), .lit (.int .u8 19), .lit (.int .u8 16), .lit (.int .u8 7), .lit (.int .u8 26), .lit (.int .u8 12), .lit (.int .u8 18), .lit (.int .u8 6), .lit (.int .u8 11), .lit (.int .u8 5), .lit (.int .u8 10), .lit (.int .u8 9)]
def laid_math_bits_deBruijn64tab {H : Type} : DataW H := .agg [.lit (.int .u8 0), .lit (.int .u8 1), .lit (.int .u8 56), .lit (.int .u8 2), .lit (.int .u8 57), .lit (.int .u8 49), .lit (.int .u8 28), .lit (.int .u8 3), .lit (.int .u8 61), .lit (.int .u8 58), .lit (.int .u8 42), .lit (.int .u8 50), .lit (.int .u8 38), .lit (.int .u8 29), .lit (.int .u8 17), .lit (.int .u8 4), .lit (.int .u8 62), .lit (.int .u8 47), .lit (.int .u8 59), .lit (.int .u8 36), .lit (.int .u8 45), .lit (.int .u8 43), .lit (.int .u8 51), .lit (.int .u8 22), .lit (.int .u8 53), .lit (.int .u8 39), .lit (.int .u8 33), .lit (.int .u8 30), .lit (.int .u8 24), .lit (.int .u8 18), .lit (.int .u8 12), .lit (.int .u8 5), .lit (.int .u8 63), .lit (.int .u8 55), .lit (.int .u8 48), .lit (.int .u8 27), .lit (.int .u8 60), .lit (.int .u8 41), .lit (.int .u8 37), .lit (.int .u8 16), .lit (.int .u8 46), .lit (.int .u8 35), .lit (.int .u8 44), .lit (.int .u8 21), .lit (.int .u8 52), .lit (.int .u8 32), .lit (.int .u8 23), .lit (.int .u8 11), .lit (.int .u8 54), .lit (.int .u8 26), .lit (.int .u8 40), .lit (.int .u8 15), .lit (.int .u8 34), .lit (.int .u8 20), .lit (.int .u8 31), .lit (.int .u8 10), .lit (.int .u8 25), .lit (.int .u8 14), .lit (.int .u8 19), .lit (.int .u8 9), .lit (.int .u8 13), .lit (.int .u8 8), .lit (.int .u8 7), .lit (.int .u8 6)]
def laid_internal_strconv_uint64pow10 {H : Type} : DataW H := .agg [.lit (.int .u64 1), .lit (.int .u64 10), .lit (.int .u64 100), .lit (.int .u64 1000), .lit (.int .u64 10000), .lit (.int .u64 100000), .lit (.int .u64 1000000), .lit (.int .u64 10000000), .lit (.int .u64 100000000), .lit (.int .u64 1000000000), .lit (.int .u64 10000000000), .lit (.int .u64 100000000000), .lit (.int .u64 1000000000000), .lit (.int .u64 10000000000000), .lit (.int .u64 100000000000000), .lit (.int .u64 1000000000000000), .lit (.int .u64 10000000000000000), .lit (.int .u64 100000000000000000), .lit (.int .u64 1000000000000000000), .lit (.int .u64 10000000000000000000)]

/-- 'exactppllaw19.DiagramReduces': WHATEVER THE INPUT: true; the input reads as it did. -/
def diagramReducesSpec : ChangeSpec := { name := "diagramReduces", fn := fun _ => fun
  | [d] => { results := [.lit (.bool true)], args := [d] }
  | _ => none }
def diagramReducesRow : OpenClaim := { program := "ytopbjginpmdebaadoor", sum := "bcfeda2fdc2bb3e777345500de49ad1b03f51901080fac7e0d8171adb0ee7a26", func := "exactppl/exactppllaw19.DiagramReduces", spec := "diagramReduces", unfollowed := true, recurses := true, named := ["internal/strconv.uint64pow10", "math/bits.deBruijn32tab", "math/bits.deBruijn64tab"], apart := false, laid := [("math/bits.deBruijn32tab", laid_math_bits_deBruijn32tab), ("math/bits.deBruijn64tab", laid_math_bits_deBruijn64tab), ("internal/strconv.uint64pow10", laid_internal_strconv_uint64pow10)] }
def DiagramReducesSaid : Prop := diagramReducesRow.holds Tryd.pinned (OpenSpec.ofChange diagramReducesSpec)

/-- ITS FALSE NEIGHBOUR: 'it returns false'. Refute it at one input. -/
def diagramReducesWrong : ChangeSpec := { name := "diagramReduces", fn := fun _ => fun
  | [d] => { results := [.lit (.bool false)], args := [d] }
  | _ => none }
def DiagramReducesWrongFalsely : Prop := diagramReducesRow.holds Tryd.pinned (OpenSpec.ofChange diagramReducesWrong)

/-- 'exactppllaw19.DiagramAny': WHATEVER THE INPUT: true; the input reads as it did. -/
def diagramAnySpec : ChangeSpec := { name := "diagramAny", fn := fun _ => fun
  | [d] => { results := [.lit (.bool true)], args := [d] }
  | _ => none }
def diagramAnyRow : OpenClaim := { program := "ytopbjginpmdebaadoor", sum := "bcfeda2fdc2bb3e777345500de49ad1b03f51901080fac7e0d8171adb0ee7a26", func := "exactppl/exactppllaw19.DiagramAny", spec := "diagramAny", unfollowed := true, recurses := true, named := ["internal/strconv.uint64pow10", "math/bits.deBruijn32tab", "math/bits.deBruijn64tab"], apart := false, laid := [("math/bits.deBruijn32tab", laid_math_bits_deBruijn32tab), ("math/bits.deBruijn64tab", laid_math_bits_deBruijn64tab), ("internal/strconv.uint64pow10", laid_internal_strconv_uint64pow10)] }
def DiagramAnySaid : Prop := diagramAnyRow.holds Tryd.pinned (OpenSpec.ofChange diagramAnySpec)

/-- ITS FALSE NEIGHBOUR: 'it returns false'. Refute it at one input. -/
def diagramAnyWrong : ChangeSpec := { name := "diagramAny", fn := fun _ => fun
  | [d] => { results := [.lit (.bool false)], args := [d] }
  | _ => none }
def DiagramAnyWrongFalsely : Prop := diagramAnyRow.holds Tryd.pinned (OpenSpec.ofChange diagramAnyWrong)

/-- 'exactppllaw19.DiagramSettles': WHATEVER THE INPUT: true; the input reads as it did. -/
def diagramSettlesSpec : ChangeSpec := { name := "diagramSettles", fn := fun _ => fun
  | [d] => { results := [.lit (.bool true)], args := [d] }
  | _ => none }
def diagramSettlesRow : OpenClaim := { program := "ytopbjginpmdebaadoor", sum := "bcfeda2fdc2bb3e777345500de49ad1b03f51901080fac7e0d8171adb0ee7a26", func := "exactppl/exactppllaw19.DiagramSettles", spec := "diagramSettles", unfollowed := true, recurses := true, named := ["internal/strconv.uint64pow10", "math/bits.deBruijn32tab", "math/bits.deBruijn64tab"], apart := false, laid := [("math/bits.deBruijn32tab", laid_math_bits_deBruijn32tab), ("math/bits.deBruijn64tab", laid_math_bits_deBruijn64tab), ("internal/strconv.uint64pow10", laid_internal_strconv_uint64pow10)] }
def DiagramSettlesSaid : Prop := diagramSettlesRow.holds Tryd.pinned (OpenSpec.ofChange diagramSettlesSpec)

/-- ITS FALSE NEIGHBOUR: 'it returns false'. Refute it at one input. -/
def diagramSettlesWrong : ChangeSpec := { name := "diagramSettles", fn := fun _ => fun
  | [d] => { results := [.lit (.bool false)], args := [d] }
  | _ => none }
def DiagramSettlesWrongFalsely : Prop := diagramSettlesRow.holds Tryd.pinned (OpenSpec.ofChange diagramSettlesWrong)

/-- 'exactppllaw19.DiagramEvals': WHATEVER THE INPUT: true; the input reads as it did. -/
def diagramEvalsSpec : ChangeSpec := { name := "diagramEvals", fn := fun _ => fun
  | [d1, d2] => { results := [.lit (.bool true)], args := [d1, d2] }
  | _ => none }
def diagramEvalsRow : OpenClaim := { program := "ytopbjginpmdebaadoor", sum := "bcfeda2fdc2bb3e777345500de49ad1b03f51901080fac7e0d8171adb0ee7a26", func := "exactppl/exactppllaw19.DiagramEvals", spec := "diagramEvals", unfollowed := true, recurses := true, named := ["internal/strconv.uint64pow10", "math/bits.deBruijn32tab", "math/bits.deBruijn64tab"], apart := false, laid := [("math/bits.deBruijn32tab", laid_math_bits_deBruijn32tab), ("math/bits.deBruijn64tab", laid_math_bits_deBruijn64tab), ("internal/strconv.uint64pow10", laid_internal_strconv_uint64pow10)] }
def DiagramEvalsSaid : Prop := diagramEvalsRow.holds Tryd.pinned (OpenSpec.ofChange diagramEvalsSpec)

/-- ITS FALSE NEIGHBOUR: 'it returns false'. Refute it at one input. -/
def diagramEvalsWrong : ChangeSpec := { name := "diagramEvals", fn := fun _ => fun
  | [d1, d2] => { results := [.lit (.bool false)], args := [d1, d2] }
  | _ => none }
def DiagramEvalsWrongFalsely : Prop := diagramEvalsRow.holds Tryd.pinned (OpenSpec.ofChange diagramEvalsWrong)

/-- 'exactppllaw19.DiagramLeaves': WHATEVER THE INPUT: true; the input reads as it did. -/
def diagramLeavesSpec : ChangeSpec := { name := "diagramLeaves", fn := fun _ => fun
  | [d] => { results := [.lit (.bool true)], args := [d] }
  | _ => none }
def diagramLeavesRow : OpenClaim := { program := "ytopbjginpmdebaadoor", sum := "bcfeda2fdc2bb3e777345500de49ad1b03f51901080fac7e0d8171adb0ee7a26", func := "exactppl/exactppllaw19.DiagramLeaves", spec := "diagramLeaves", unfollowed := true, recurses := true, named := ["internal/strconv.uint64pow10", "math/bits.deBruijn32tab", "math/bits.deBruijn64tab"], apart := false, laid := [("math/bits.deBruijn32tab", laid_math_bits_deBruijn32tab), ("math/bits.deBruijn64tab", laid_math_bits_deBruijn64tab), ("internal/strconv.uint64pow10", laid_internal_strconv_uint64pow10)] }
def DiagramLeavesSaid : Prop := diagramLeavesRow.holds Tryd.pinned (OpenSpec.ofChange diagramLeavesSpec)

/-- ITS FALSE NEIGHBOUR: 'it returns false'. Refute it at one input. -/
def diagramLeavesWrong : ChangeSpec := { name := "diagramLeaves", fn := fun _ => fun
  | [d] => { results := [.lit (.bool false)], args := [d] }
  | _ => none }
def DiagramLeavesWrongFalsely : Prop := diagramLeavesRow.holds Tryd.pinned (OpenSpec.ofChange diagramLeavesWrong)

/-- 'exactppllaw19.DiagramRestricts': WHATEVER THE INPUT: true; the input reads as it did. -/
def diagramRestrictsSpec : ChangeSpec := { name := "diagramRestricts", fn := fun _ => fun
  | [d1, d2, d3] => { results := [.lit (.bool true)], args := [d1, d2, d3] }
  | _ => none }
def diagramRestrictsRow : OpenClaim := { program := "ytopbjginpmdebaadoor", sum := "bcfeda2fdc2bb3e777345500de49ad1b03f51901080fac7e0d8171adb0ee7a26", func := "exactppl/exactppllaw19.DiagramRestricts", spec := "diagramRestricts", unfollowed := true, recurses := true, named := ["internal/strconv.uint64pow10", "math/bits.deBruijn32tab", "math/bits.deBruijn64tab"], apart := false, laid := [("math/bits.deBruijn32tab", laid_math_bits_deBruijn32tab), ("math/bits.deBruijn64tab", laid_math_bits_deBruijn64tab), ("internal/strconv.uint64pow10", laid_internal_strconv_uint64pow10)] }
def DiagramRestrictsSaid : Prop := diagramRestrictsRow.holds Tryd.pinned (OpenSpec.ofChange diagramRestrictsSpec)

/-- ITS FALSE NEIGHBOUR: 'it returns false'. Refute it at one input. -/
def diagramRestrictsWrong : ChangeSpec := { name := "diagramRestricts", fn := fun _ => fun
  | [d1, d2, d3] => { results := [.lit (.bool false)], args := [d1, d2, d3] }
  | _ => none }
def DiagramRestrictsWrongFalsely : Prop := diagramRestrictsRow.holds Tryd.pinned (OpenSpec.ofChange diagramRestrictsWrong)

/-- 'exactppllaw19.DiagramBranches': WHATEVER THE INPUT: true; the input reads as it did. -/
def diagramBranchesSpec : ChangeSpec := { name := "diagramBranches", fn := fun _ => fun
  | [d1, d2] => { results := [.lit (.bool true)], args := [d1, d2] }
  | _ => none }
def diagramBranchesRow : OpenClaim := { program := "ytopbjginpmdebaadoor", sum := "bcfeda2fdc2bb3e777345500de49ad1b03f51901080fac7e0d8171adb0ee7a26", func := "exactppl/exactppllaw19.DiagramBranches", spec := "diagramBranches", unfollowed := true, recurses := true, named := ["internal/strconv.uint64pow10", "math/bits.deBruijn32tab", "math/bits.deBruijn64tab"], apart := false, laid := [("math/bits.deBruijn32tab", laid_math_bits_deBruijn32tab), ("math/bits.deBruijn64tab", laid_math_bits_deBruijn64tab), ("internal/strconv.uint64pow10", laid_internal_strconv_uint64pow10)] }
def DiagramBranchesSaid : Prop := diagramBranchesRow.holds Tryd.pinned (OpenSpec.ofChange diagramBranchesSpec)

/-- ITS FALSE NEIGHBOUR: 'it returns false'. Refute it at one input. -/
def diagramBranchesWrong : ChangeSpec := { name := "diagramBranches", fn := fun _ => fun
  | [d1, d2] => { results := [.lit (.bool false)], args := [d1, d2] }
  | _ => none }
def DiagramBranchesWrongFalsely : Prop := diagramBranchesRow.holds Tryd.pinned (OpenSpec.ofChange diagramBranchesWrong)

/-- 'exactppllaw19.DiagramUnique': WHATEVER THE INPUT: true; the input reads as it did. -/
def diagramUniqueSpec : ChangeSpec := { name := "diagramUnique", fn := fun _ => fun
  | [d] => { results := [.lit (.bool true)], args := [d] }
  | _ => none }
def diagramUniqueRow : OpenClaim := { program := "ytopbjginpmdebaadoor", sum := "bcfeda2fdc2bb3e777345500de49ad1b03f51901080fac7e0d8171adb0ee7a26", func := "exactppl/exactppllaw19.DiagramUnique", spec := "diagramUnique", unfollowed := true, recurses := true, named := ["internal/strconv.uint64pow10", "math/bits.deBruijn32tab", "math/bits.deBruijn64tab"], apart := false, laid := [("math/bits.deBruijn32tab", laid_math_bits_deBruijn32tab), ("math/bits.deBruijn64tab", laid_math_bits_deBruijn64tab), ("internal/strconv.uint64pow10", laid_internal_strconv_uint64pow10)] }
def DiagramUniqueSaid : Prop := diagramUniqueRow.holds Tryd.pinned (OpenSpec.ofChange diagramUniqueSpec)

/-- ITS FALSE NEIGHBOUR: 'it returns false'. Refute it at one input. -/
def diagramUniqueWrong : ChangeSpec := { name := "diagramUnique", fn := fun _ => fun
  | [d] => { results := [.lit (.bool false)], args := [d] }
  | _ => none }
def DiagramUniqueWrongFalsely : Prop := diagramUniqueRow.holds Tryd.pinned (OpenSpec.ofChange diagramUniqueWrong)

/-- 'exactppllaw19.DiagramLists': WHATEVER THE INPUT: true; the input reads as it did. -/
def diagramListsSpec : ChangeSpec := { name := "diagramLists", fn := fun _ => fun
  | [d] => { results := [.lit (.bool true)], args := [d] }
  | _ => none }
def diagramListsRow : OpenClaim := { program := "ytopbjginpmdebaadoor", sum := "bcfeda2fdc2bb3e777345500de49ad1b03f51901080fac7e0d8171adb0ee7a26", func := "exactppl/exactppllaw19.DiagramLists", spec := "diagramLists", unfollowed := true, recurses := true, named := ["internal/strconv.uint64pow10", "math/bits.deBruijn32tab", "math/bits.deBruijn64tab"], apart := false, laid := [("math/bits.deBruijn32tab", laid_math_bits_deBruijn32tab), ("math/bits.deBruijn64tab", laid_math_bits_deBruijn64tab), ("internal/strconv.uint64pow10", laid_internal_strconv_uint64pow10)] }
def DiagramListsSaid : Prop := diagramListsRow.holds Tryd.pinned (OpenSpec.ofChange diagramListsSpec)

/-- ITS FALSE NEIGHBOUR: 'it returns false'. Refute it at one input. -/
def diagramListsWrong : ChangeSpec := { name := "diagramLists", fn := fun _ => fun
  | [d] => { results := [.lit (.bool false)], args := [d] }
  | _ => none }
def DiagramListsWrongFalsely : Prop := diagramListsRow.holds Tryd.pinned (OpenSpec.ofChange diagramListsWrong)

/-- 'exactppllaw19.DiagramFixes': WHATEVER THE INPUT: true; the input reads as it did. -/
def diagramFixesSpec : ChangeSpec := { name := "diagramFixes", fn := fun _ => fun
  | [d] => { results := [.lit (.bool true)], args := [d] }
  | _ => none }
def diagramFixesRow : OpenClaim := { program := "ytopbjginpmdebaadoor", sum := "bcfeda2fdc2bb3e777345500de49ad1b03f51901080fac7e0d8171adb0ee7a26", func := "exactppl/exactppllaw19.DiagramFixes", spec := "diagramFixes", unfollowed := true, recurses := true, named := ["internal/strconv.uint64pow10", "math/bits.deBruijn32tab", "math/bits.deBruijn64tab"], apart := false, laid := [("math/bits.deBruijn32tab", laid_math_bits_deBruijn32tab), ("math/bits.deBruijn64tab", laid_math_bits_deBruijn64tab), ("internal/strconv.uint64pow10", laid_internal_strconv_uint64pow10)] }
def DiagramFixesSaid : Prop := diagramFixesRow.holds Tryd.pinned (OpenSpec.ofChange diagramFixesSpec)

/-- ITS FALSE NEIGHBOUR: 'it returns false'. Refute it at one input. -/
def diagramFixesWrong : ChangeSpec := { name := "diagramFixes", fn := fun _ => fun
  | [d] => { results := [.lit (.bool false)], args := [d] }
  | _ => none }
def DiagramFixesWrongFalsely : Prop := diagramFixesRow.holds Tryd.pinned (OpenSpec.ofChange diagramFixesWrong)

/-- 'exactppllaw19.DiagramExpands': WHATEVER THE INPUT: true; the input reads as it did. -/
def diagramExpandsSpec : ChangeSpec := { name := "diagramExpands", fn := fun _ => fun
  | [d] => { results := [.lit (.bool true)], args := [d] }
  | _ => none }
def diagramExpandsRow : OpenClaim := { program := "ytopbjginpmdebaadoor", sum := "bcfeda2fdc2bb3e777345500de49ad1b03f51901080fac7e0d8171adb0ee7a26", func := "exactppl/exactppllaw19.DiagramExpands", spec := "diagramExpands", unfollowed := true, recurses := true, named := ["internal/strconv.uint64pow10", "math/bits.deBruijn32tab", "math/bits.deBruijn64tab"], apart := false, laid := [("math/bits.deBruijn32tab", laid_math_bits_deBruijn32tab), ("math/bits.deBruijn64tab", laid_math_bits_deBruijn64tab), ("internal/strconv.uint64pow10", laid_internal_strconv_uint64pow10)] }
def DiagramExpandsSaid : Prop := diagramExpandsRow.holds Tryd.pinned (OpenSpec.ofChange diagramExpandsSpec)

/-- ITS FALSE NEIGHBOUR: 'it returns false'. Refute it at one input. -/
def diagramExpandsWrong : ChangeSpec := { name := "diagramExpands", fn := fun _ => fun
  | [d] => { results := [.lit (.bool false)], args := [d] }
  | _ => none }
def DiagramExpandsWrongFalsely : Prop := diagramExpandsRow.holds Tryd.pinned (OpenSpec.ofChange diagramExpandsWrong)

/- THE SECOND FORM. 'bulk': how many values and letters a reading holds, each counted each time it is reached (what is shared counts as often as it is met; a slice's spare places count too). A statement '..UptoSaid' is the law's where the arguments, and the package variables that the reading takes, are together of bulk at most 1048576: NARROWER than '..Said'. Prove '..Said' where nothing that the law and all that it calls make is longer than what came in: it says more and counts as full. Else prove '..UptoSaid'. A law counts once. -/
mutual
def uptoBulk {H : Type} : DataW H → Nat
  | .lit (.string bytes) => bytes.length + 1
  | .lit _ => 1
  | .nil => 1
  | .ptr d => uptoBulk d + 1
  | .slice elems spare => uptoBulkAll elems + uptoBulkAll spare + 1
  | .agg parts => uptoBulkAll parts + 1
  | .iface _ d => uptoBulk d + 1
  | .map entries => uptoBulkEntries entries + 1
  | .held _ => 1
def uptoBulkAll {H : Type} : List (DataW H) → Nat
  | [] => 0
  | d :: r => uptoBulk d + uptoBulkAll r
def uptoBulkEntries {H : Type} : List (Lit × DataW H) → Nat
  | [] => 0
  | x :: r => uptoBulkEntry x + uptoBulkEntries r
def uptoBulkEntry {H : Type} : Lit × DataW H → Nat
  | (.string bytes, d) => bytes.length + uptoBulk d + 1
  | (_, d) => uptoBulk d + 1
 end
def uptoSmall : (H : Type) → List (DataW H) → Bool := fun _ ds => decide (uptoBulkAll ds ≤ 1048576)
def OpenSpec.upto (s : _root_.Go.ChangeSpec) : _root_.Go.OpenSpec := { _root_.Go.OpenSpec.ofChange s with cond := some uptoSmall }

/-- 'exactppllaw19.DiagramReduces', WHERE WHAT IT READS IS OF BULK AT MOST 1048576: true; the input reads as it did. -/
def diagramReducesUptoRow : OpenClaim := { program := "ytopbjginpmdebaadoor", sum := "bcfeda2fdc2bb3e777345500de49ad1b03f51901080fac7e0d8171adb0ee7a26", func := "exactppl/exactppllaw19.DiagramReduces", spec := "diagramReduces", unfollowed := true, recurses := true, named := ["internal/strconv.uint64pow10", "math/bits.deBruijn32tab", "math/bits.deBruijn64tab"], apart := false, laid := [("math/bits.deBruijn32tab", laid_math_bits_deBruijn32tab), ("math/bits.deBruijn64tab", laid_math_bits_deBruijn64tab), ("internal/strconv.uint64pow10", laid_internal_strconv_uint64pow10)], narrowed := true }
def DiagramReducesUptoSaid : Prop := diagramReducesUptoRow.holds Tryd.pinned (OpenSpec.upto diagramReducesSpec)

/-- 'exactppllaw19.DiagramAny', WHERE WHAT IT READS IS OF BULK AT MOST 1048576: true; the input reads as it did. -/
def diagramAnyUptoRow : OpenClaim := { program := "ytopbjginpmdebaadoor", sum := "bcfeda2fdc2bb3e777345500de49ad1b03f51901080fac7e0d8171adb0ee7a26", func := "exactppl/exactppllaw19.DiagramAny", spec := "diagramAny", unfollowed := true, recurses := true, named := ["internal/strconv.uint64pow10", "math/bits.deBruijn32tab", "math/bits.deBruijn64tab"], apart := false, laid := [("math/bits.deBruijn32tab", laid_math_bits_deBruijn32tab), ("math/bits.deBruijn64tab", laid_math_bits_deBruijn64tab), ("internal/strconv.uint64pow10", laid_internal_strconv_uint64pow10)], narrowed := true }
def DiagramAnyUptoSaid : Prop := diagramAnyUptoRow.holds Tryd.pinned (OpenSpec.upto diagramAnySpec)

/-- 'exactppllaw19.DiagramSettles', WHERE WHAT IT READS IS OF BULK AT MOST 1048576: true; the input reads as it did. -/
def diagramSettlesUptoRow : OpenClaim := { program := "ytopbjginpmdebaadoor", sum := "bcfeda2fdc2bb3e777345500de49ad1b03f51901080fac7e0d8171adb0ee7a26", func := "exactppl/exactppllaw19.DiagramSettles", spec := "diagramSettles", unfollowed := true, recurses := true, named := ["internal/strconv.uint64pow10", "math/bits.deBruijn32tab", "math/bits.deBruijn64tab"], apart := false, laid := [("math/bits.deBruijn32tab", laid_math_bits_deBruijn32tab), ("math/bits.deBruijn64tab", laid_math_bits_deBruijn64tab), ("internal/strconv.uint64pow10", laid_internal_strconv_uint64pow10)], narrowed := true }
def DiagramSettlesUptoSaid : Prop := diagramSettlesUptoRow.holds Tryd.pinned (OpenSpec.upto diagramSettlesSpec)

/-- 'exactppllaw19.DiagramEvals', WHERE WHAT IT READS IS OF BULK AT MOST 1048576: true; the input reads as it did. -/
def diagramEvalsUptoRow : OpenClaim := { program := "ytopbjginpmdebaadoor", sum := "bcfeda2fdc2bb3e777345500de49ad1b03f51901080fac7e0d8171adb0ee7a26", func := "exactppl/exactppllaw19.DiagramEvals", spec := "diagramEvals", unfollowed := true, recurses := true, named := ["internal/strconv.uint64pow10", "math/bits.deBruijn32tab", "math/bits.deBruijn64tab"], apart := false, laid := [("math/bits.deBruijn32tab", laid_math_bits_deBruijn32tab), ("math/bits.deBruijn64tab", laid_math_bits_deBruijn64tab), ("internal/strconv.uint64pow10", laid_internal_strconv_uint64pow10)], narrowed := true }
def DiagramEvalsUptoSaid : Prop := diagramEvalsUptoRow.holds Tryd.pinned (OpenSpec.upto diagramEvalsSpec)

/-- 'exactppllaw19.DiagramLeaves', WHERE WHAT IT READS IS OF BULK AT MOST 1048576: true; the input reads as it did. -/
def diagramLeavesUptoRow : OpenClaim := { program := "ytopbjginpmdebaadoor", sum := "bcfeda2fdc2bb3e777345500de49ad1b03f51901080fac7e0d8171adb0ee7a26", func := "exactppl/exactppllaw19.DiagramLeaves", spec := "diagramLeaves", unfollowed := true, recurses := true, named := ["internal/strconv.uint64pow10", "math/bits.deBruijn32tab", "math/bits.deBruijn64tab"], apart := false, laid := [("math/bits.deBruijn32tab", laid_math_bits_deBruijn32tab), ("math/bits.deBruijn64tab", laid_math_bits_deBruijn64tab), ("internal/strconv.uint64pow10", laid_internal_strconv_uint64pow10)], narrowed := true }
def DiagramLeavesUptoSaid : Prop := diagramLeavesUptoRow.holds Tryd.pinned (OpenSpec.upto diagramLeavesSpec)

/-- 'exactppllaw19.DiagramRestricts', WHERE WHAT IT READS IS OF BULK AT MOST 1048576: true; the input reads as it did. -/
def diagramRestrictsUptoRow : OpenClaim := { program := "ytopbjginpmdebaadoor", sum := "bcfeda2fdc2bb3e777345500de49ad1b03f51901080fac7e0d8171adb0ee7a26", func := "exactppl/exactppllaw19.DiagramRestricts", spec := "diagramRestricts", unfollowed := true, recurses := true, named := ["internal/strconv.uint64pow10", "math/bits.deBruijn32tab", "math/bits.deBruijn64tab"], apart := false, laid := [("math/bits.deBruijn32tab", laid_math_bits_deBruijn32tab), ("math/bits.deBruijn64tab", laid_math_bits_deBruijn64tab), ("internal/strconv.uint64pow10", laid_internal_strconv_uint64pow10)], narrowed := true }
def DiagramRestrictsUptoSaid : Prop := diagramRestrictsUptoRow.holds Tryd.pinned (OpenSpec.upto diagramRestrictsSpec)

/-- 'exactppllaw19.DiagramBranches', WHERE WHAT IT READS IS OF BULK AT MOST 1048576: true; the input reads as it did. -/
def diagramBranchesUptoRow : OpenClaim := { program := "ytopbjginpmdebaadoor", sum := "bcfeda2fdc2bb3e777345500de49ad1b03f51901080fac7e0d8171adb0ee7a26", func := "exactppl/exactppllaw19.DiagramBranches", spec := "diagramBranches", unfollowed := true, recurses := true, named := ["internal/strconv.uint64pow10", "math/bits.deBruijn32tab", "math/bits.deBruijn64tab"], apart := false, laid := [("math/bits.deBruijn32tab", laid_math_bits_deBruijn32tab), ("math/bits.deBruijn64tab", laid_math_bits_deBruijn64tab), ("internal/strconv.uint64pow10", laid_internal_strconv_uint64pow10)], narrowed := true }
def DiagramBranchesUptoSaid : Prop := diagramBranchesUptoRow.holds Tryd.pinned (OpenSpec.upto diagramBranchesSpec)

/-- 'exactppllaw19.DiagramUnique', WHERE WHAT IT READS IS OF BULK AT MOST 1048576: true; the input reads as it did. -/
def diagramUniqueUptoRow : OpenClaim := { program := "ytopbjginpmdebaadoor", sum := "bcfeda2fdc2bb3e777345500de49ad1b03f51901080fac7e0d8171adb0ee7a26", func := "exactppl/exactppllaw19.DiagramUnique", spec := "diagramUnique", unfollowed := true, recurses := true, named := ["internal/strconv.uint64pow10", "math/bits.deBruijn32tab", "math/bits.deBruijn64tab"], apart := false, laid := [("math/bits.deBruijn32tab", laid_math_bits_deBruijn32tab), ("math/bits.deBruijn64tab", laid_math_bits_deBruijn64tab), ("internal/strconv.uint64pow10", laid_internal_strconv_uint64pow10)], narrowed := true }
def DiagramUniqueUptoSaid : Prop := diagramUniqueUptoRow.holds Tryd.pinned (OpenSpec.upto diagramUniqueSpec)

/-- 'exactppllaw19.DiagramLists', WHERE WHAT IT READS IS OF BULK AT MOST 1048576: true; the input reads as it did. -/
def diagramListsUptoRow : OpenClaim := { program := "ytopbjginpmdebaadoor", sum := "bcfeda2fdc2bb3e777345500de49ad1b03f51901080fac7e0d8171adb0ee7a26", func := "exactppl/exactppllaw19.DiagramLists", spec := "diagramLists", unfollowed := true, recurses := true, named := ["internal/strconv.uint64pow10", "math/bits.deBruijn32tab", "math/bits.deBruijn64tab"], apart := false, laid := [("math/bits.deBruijn32tab", laid_math_bits_deBruijn32tab), ("math/bits.deBruijn64tab", laid_math_bits_deBruijn64tab), ("internal/strconv.uint64pow10", laid_internal_strconv_uint64pow10)], narrowed := true }
def DiagramListsUptoSaid : Prop := diagramListsUptoRow.holds Tryd.pinned (OpenSpec.upto diagramListsSpec)

/-- 'exactppllaw19.DiagramFixes', WHERE WHAT IT READS IS OF BULK AT MOST 1048576: true; the input reads as it did. -/
def diagramFixesUptoRow : OpenClaim := { program := "ytopbjginpmdebaadoor", sum := "bcfeda2fdc2bb3e777345500de49ad1b03f51901080fac7e0d8171adb0ee7a26", func := "exactppl/exactppllaw19.DiagramFixes", spec := "diagramFixes", unfollowed := true, recurses := true, named := ["internal/strconv.uint64pow10", "math/bits.deBruijn32tab", "math/bits.deBruijn64tab"], apart := false, laid := [("math/bits.deBruijn32tab", laid_math_bits_deBruijn32tab), ("math/bits.deBruijn64tab", laid_math_bits_deBruijn64tab), ("internal/strconv.uint64pow10", laid_internal_strconv_uint64pow10)], narrowed := true }
def DiagramFixesUptoSaid : Prop := diagramFixesUptoRow.holds Tryd.pinned (OpenSpec.upto diagramFixesSpec)

/-- 'exactppllaw19.DiagramExpands', WHERE WHAT IT READS IS OF BULK AT MOST 1048576: true; the input reads as it did. -/
def diagramExpandsUptoRow : OpenClaim := { program := "ytopbjginpmdebaadoor", sum := "bcfeda2fdc2bb3e777345500de49ad1b03f51901080fac7e0d8171adb0ee7a26", func := "exactppl/exactppllaw19.DiagramExpands", spec := "diagramExpands", unfollowed := true, recurses := true, named := ["internal/strconv.uint64pow10", "math/bits.deBruijn32tab", "math/bits.deBruijn64tab"], apart := false, laid := [("math/bits.deBruijn32tab", laid_math_bits_deBruijn32tab), ("math/bits.deBruijn64tab", laid_math_bits_deBruijn64tab), ("internal/strconv.uint64pow10", laid_internal_strconv_uint64pow10)], narrowed := true }
def DiagramExpandsUptoSaid : Prop := diagramExpandsUptoRow.holds Tryd.pinned (OpenSpec.upto diagramExpandsSpec)

end Rows
end Go.Proofs.YtopbjginpmdebaaDoor
