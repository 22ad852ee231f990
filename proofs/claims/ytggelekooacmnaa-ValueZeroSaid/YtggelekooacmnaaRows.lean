/-
  No cell of these rows narrows 'for every input' (looked for: loops, veiled, ifaces, maps, wideKeys, modest, calm, conditions, laid).
  DERIVED. THE GIVEN ROWS OF THIS SEAT. 3 by the template 'for every input the law returns true; each argument reads behind the call as it read before'; 0 by the template 'total and deterministic' (their statements: YtggelekooacmnaaTotals.lean).
  GIVEN WITH THE SEED: the statements are not yours to turn. If you find one false, say at which input.
  Laid BY PROGRAM, IN A SANDBOX (cutbox-rows.mjs): the forced cells as the released guide's own fill.sh prints them over the translation 675d944201b7af9f… (all of the seat's roots in one cut). By AI agents, Wed Nov 11 2026. No macro, syntax, notation, axiom, sorry.
-/
import Derived.Test.YtggelekooacmnaaChecked
import GoSem.Claim
import GoSem.ClaimJoined
import GoSem.ClaimMapViews
import Derived.JoinedTies
import Derived.KernelRfl
namespace Go.Proofs.Ytggelekooacmnaa
/- THE CELL 'sum', in the pinned program and in every row, IS THE sha256 OF THE DUMP (.gsa) THAT YtggelekooacmnaaProg.lean LOADS. Nothing in Lean hashes anything: it is a label: what it is worth is what the hold of that sum in a sandbox is worth. -/
noncomputable def Try.pinned : Pinned := { name := "ytggelekooacmnaa", sum := "675d944201b7af9f1a4b13f0ec931088b916d057c9d56fd2b0bb78428bcc4cb8", checked := Try.checked }
namespace Rows
def none {H : Type} : Left H := { results := [], args := [] }

/-- 'exactppllaw07.ValueBack': WHATEVER THE INPUT: true; the input reads as it did. -/
def valueBackSpec : ChangeSpec := { name := "valueBack", fn := fun _ => fun
  | [d] => { results := [.lit (.bool true)], args := [d] }
  | _ => none }
def valueBackRow : OpenClaim := { program := "ytggelekooacmnaa", sum := "675d944201b7af9f1a4b13f0ec931088b916d057c9d56fd2b0bb78428bcc4cb8", func := "exactppl/exactppllaw07.ValueBack", spec := "valueBack", recurses := true, apart := false }
def ValueBackSaid : Prop := valueBackRow.holds Try.pinned (OpenSpec.ofChange valueBackSpec)

/-- ITS FALSE NEIGHBOUR: 'it returns false'. Refute it at one input. -/
def valueBackWrong : ChangeSpec := { name := "valueBack", fn := fun _ => fun
  | [d] => { results := [.lit (.bool false)], args := [d] }
  | _ => none }
def ValueBackWrongFalsely : Prop := valueBackRow.holds Try.pinned (OpenSpec.ofChange valueBackWrong)

/-- 'exactppllaw07.ValueZero': WHATEVER THE INPUT: true; the input reads as it did. -/
def valueZeroSpec : ChangeSpec := { name := "valueZero", fn := fun _ => fun
  | [d] => { results := [.lit (.bool true)], args := [d] }
  | _ => none }
def valueZeroRow : OpenClaim := { program := "ytggelekooacmnaa", sum := "675d944201b7af9f1a4b13f0ec931088b916d057c9d56fd2b0bb78428bcc4cb8", func := "exactppl/exactppllaw07.ValueZero", spec := "valueZero", recurses := true, apart := false }
def ValueZeroSaid : Prop := valueZeroRow.holds Try.pinned (OpenSpec.ofChange valueZeroSpec)

/-- ITS FALSE NEIGHBOUR: 'it returns false'. Refute it at one input. -/
def valueZeroWrong : ChangeSpec := { name := "valueZero", fn := fun _ => fun
  | [d] => { results := [.lit (.bool false)], args := [d] }
  | _ => none }
def ValueZeroWrongFalsely : Prop := valueZeroRow.holds Try.pinned (OpenSpec.ofChange valueZeroWrong)

/-- 'exactppllaw07.ValueAll': WHATEVER THE INPUT: true; the input reads as it did. -/
def valueAllSpec : ChangeSpec := { name := "valueAll", fn := fun _ => fun
  | [d] => { results := [.lit (.bool true)], args := [d] }
  | _ => none }
def valueAllRow : OpenClaim := { program := "ytggelekooacmnaa", sum := "675d944201b7af9f1a4b13f0ec931088b916d057c9d56fd2b0bb78428bcc4cb8", func := "exactppl/exactppllaw07.ValueAll", spec := "valueAll", unfollowed := true, recurses := true, apart := false }
def ValueAllSaid : Prop := valueAllRow.holds Try.pinned (OpenSpec.ofChange valueAllSpec)

/-- ITS FALSE NEIGHBOUR: 'it returns false'. Refute it at one input. -/
def valueAllWrong : ChangeSpec := { name := "valueAll", fn := fun _ => fun
  | [d] => { results := [.lit (.bool false)], args := [d] }
  | _ => none }
def ValueAllWrongFalsely : Prop := valueAllRow.holds Try.pinned (OpenSpec.ofChange valueAllWrong)

/- THE SECOND FORM. 'bulk': how many values and letters a reading holds, each counted each time it is reached (what is shared counts as often as it is met; a slice's spare places count too). A statement '..UptoSaid' is the law's where the arguments, and the package variables that the reading takes, are together of bulk at most 1048576: NARROWER than '..Said'. Prove '..Said' where nothing that the law and all that it calls make is longer than what came in: it says more and counts as full. Else prove '..UptoSaid'. A law counts once. -/
mutual
def uptoBulk {H : Type} : DataW H → Nat
  | .lit (.string bytes) => bytes.length + 1
  | .lit _ => 1
  | .nil => 1
  | .ptr d => uptoBulk d + 1
  | .slice elems spare => uptoBulkAll elems + uptoBulkAll spare + 1
  | .agg parts => uptoBulkAll parts + 1
  | .iface _ d => uptoBulk d + 1
  | .map entries => uptoBulkEntries entries + 1
  | .held _ => 1
def uptoBulkAll {H : Type} : List (DataW H) → Nat
  | [] => 0
  | d :: r => uptoBulk d + uptoBulkAll r
def uptoBulkEntries {H : Type} : List (Lit × DataW H) → Nat
  | [] => 0
  | x :: r => uptoBulkEntry x + uptoBulkEntries r
def uptoBulkEntry {H : Type} : Lit × DataW H → Nat
  | (.string bytes, d) => bytes.length + uptoBulk d + 1
  | (_, d) => uptoBulk d + 1
 end
def uptoSmall : (H : Type) → List (DataW H) → Bool := fun _ ds => decide (uptoBulkAll ds ≤ 1048576)
def OpenSpec.upto (s : _root_.Go.ChangeSpec) : _root_.Go.OpenSpec := { _root_.Go.OpenSpec.ofChange s with cond := some uptoSmall }

/-- 'exactppllaw07.ValueBack', WHERE WHAT IT READS IS OF BULK AT MOST 1048576: true; the input reads as it did. -/
def valueBackUptoRow : OpenClaim := { program := "ytggelekooacmnaa", sum := "675d944201b7af9f1a4b13f0ec931088b916d057c9d56fd2b0bb78428bcc4cb8", func := "exactppl/exactppllaw07.ValueBack", spec := "valueBack", recurses := true, apart := false, narrowed := true }
def ValueBackUptoSaid : Prop := valueBackUptoRow.holds Try.pinned (OpenSpec.upto valueBackSpec)

/-- 'exactppllaw07.ValueZero', WHERE WHAT IT READS IS OF BULK AT MOST 1048576: true; the input reads as it did. -/
def valueZeroUptoRow : OpenClaim := { program := "ytggelekooacmnaa", sum := "675d944201b7af9f1a4b13f0ec931088b916d057c9d56fd2b0bb78428bcc4cb8", func := "exactppl/exactppllaw07.ValueZero", spec := "valueZero", recurses := true, apart := false, narrowed := true }
def ValueZeroUptoSaid : Prop := valueZeroUptoRow.holds Try.pinned (OpenSpec.upto valueZeroSpec)

/-- 'exactppllaw07.ValueAll', WHERE WHAT IT READS IS OF BULK AT MOST 1048576: true; the input reads as it did. -/
def valueAllUptoRow : OpenClaim := { program := "ytggelekooacmnaa", sum := "675d944201b7af9f1a4b13f0ec931088b916d057c9d56fd2b0bb78428bcc4cb8", func := "exactppl/exactppllaw07.ValueAll", spec := "valueAll", unfollowed := true, recurses := true, apart := false, narrowed := true }
def ValueAllUptoSaid : Prop := valueAllUptoRow.holds Try.pinned (OpenSpec.upto valueAllSpec)

end Rows
end Go.Proofs.Ytggelekooacmnaa
