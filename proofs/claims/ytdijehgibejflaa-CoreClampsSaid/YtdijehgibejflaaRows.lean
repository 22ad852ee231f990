/-
  NARROWER THAN 'FOR EVERY INPUT', by the rows' own cells (each row's printed sentence says how): CoreForms: loops.
  DERIVED. THE GIVEN ROWS OF THIS SEAT. 3 by the template 'for every input the law returns true; each argument reads behind the call as it read before'; 0 by the template 'total and deterministic' (their statements: YtdijehgibejflaaTotals.lean).
  GIVEN WITH THE SEED: the statements are not yours to turn. If you find one false, say at which input.
  Laid BY PROGRAM, IN A SANDBOX (cutbox-rows.mjs): the forced cells as the released guide's own fill.sh prints them over the translation 553c33fdbaacfe1b… (all of the seat's roots in one cut). By AI agents, Wed Nov 11 2026. No macro, syntax, notation, axiom, sorry.
-/
import Derived.Test.YtdijehgibejflaaChecked
import GoSem.Claim
import GoSem.ClaimJoined
import GoSem.ClaimMapViews
import Derived.JoinedTies
import Derived.KernelRfl
namespace Go.Proofs.Ytdijehgibejflaa
/- THE CELL 'sum', in the pinned program and in every row, IS THE sha256 OF THE DUMP (.gsa) THAT YtdijehgibejflaaProg.lean LOADS. Nothing in Lean hashes anything: it is a label: what it is worth is what the hold of that sum in a sandbox is worth. -/
noncomputable def Try.pinned : Pinned := { name := "ytdijehgibejflaa", sum := "553c33fdbaacfe1b825b1fef2ca254d49e72f860f00651881db0c38614ad7c6d", checked := Try.checked }
namespace Rows
def none {H : Type} : Left H := { results := [], args := [] }

/-- 'exactppllaw13.CoreClamps': WHATEVER THE INPUT: true; the input reads as it did. -/
def coreClampsSpec : ChangeSpec := { name := "coreClamps", fn := fun _ => fun
  | [d1, d2, d3, d4] => { results := [.lit (.bool true)], args := [d1, d2, d3, d4] }
  | _ => none }
def coreClampsRow : OpenClaim := { program := "ytdijehgibejflaa", sum := "553c33fdbaacfe1b825b1fef2ca254d49e72f860f00651881db0c38614ad7c6d", func := "exactppl/exactppllaw13.CoreClamps", spec := "coreClamps", unfollowed := true, recurses := true, apart := false }
def CoreClampsSaid : Prop := coreClampsRow.holds Try.pinned (OpenSpec.ofChange coreClampsSpec)

/-- ITS FALSE NEIGHBOUR: 'it returns false'. Refute it at one input. -/
def coreClampsWrong : ChangeSpec := { name := "coreClamps", fn := fun _ => fun
  | [d1, d2, d3, d4] => { results := [.lit (.bool false)], args := [d1, d2, d3, d4] }
  | _ => none }
def CoreClampsWrongFalsely : Prop := coreClampsRow.holds Try.pinned (OpenSpec.ofChange coreClampsWrong)

/-- 'exactppllaw13.CoreForms': WHATEVER THE INPUT: true; the input reads as it did. -/
def coreFormsSpec : ChangeSpec := { name := "coreForms", fn := fun _ => fun
  | [d1, d2, d3] => { results := [.lit (.bool true)], args := [d1, d2, d3] }
  | _ => none }
def coreFormsRow : OpenClaim := { program := "ytdijehgibejflaa", sum := "553c33fdbaacfe1b825b1fef2ca254d49e72f860f00651881db0c38614ad7c6d", func := "exactppl/exactppllaw13.CoreForms", spec := "coreForms", unfollowed := true, recurses := true, loops := true, apart := false }
def CoreFormsSaid : Prop := coreFormsRow.holds Try.pinned (OpenSpec.ofChange coreFormsSpec)

/-- ITS FALSE NEIGHBOUR: 'it returns false'. Refute it at one input. -/
def coreFormsWrong : ChangeSpec := { name := "coreForms", fn := fun _ => fun
  | [d1, d2, d3] => { results := [.lit (.bool false)], args := [d1, d2, d3] }
  | _ => none }
def CoreFormsWrongFalsely : Prop := coreFormsRow.holds Try.pinned (OpenSpec.ofChange coreFormsWrong)

/-- 'exactppllaw13.CoreReads': WHATEVER THE INPUT: true; the input reads as it did. -/
def coreReadsSpec : ChangeSpec := { name := "coreReads", fn := fun _ => fun
  | [d] => { results := [.lit (.bool true)], args := [d] }
  | _ => none }
def coreReadsRow : OpenClaim := { program := "ytdijehgibejflaa", sum := "553c33fdbaacfe1b825b1fef2ca254d49e72f860f00651881db0c38614ad7c6d", func := "exactppl/exactppllaw13.CoreReads", spec := "coreReads", unfollowed := true, recurses := true, apart := false }
def CoreReadsSaid : Prop := coreReadsRow.holds Try.pinned (OpenSpec.ofChange coreReadsSpec)

/-- ITS FALSE NEIGHBOUR: 'it returns false'. Refute it at one input. -/
def coreReadsWrong : ChangeSpec := { name := "coreReads", fn := fun _ => fun
  | [d] => { results := [.lit (.bool false)], args := [d] }
  | _ => none }
def CoreReadsWrongFalsely : Prop := coreReadsRow.holds Try.pinned (OpenSpec.ofChange coreReadsWrong)

/- THE SECOND FORM. 'bulk': how many values and letters a reading holds, each counted each time it is reached (what is shared counts as often as it is met; a slice's spare places count too). A statement '..UptoSaid' is the law's where the arguments, and the package variables that the reading takes, are together of bulk at most 1048576: NARROWER than '..Said'. Prove '..Said' where nothing that the law and all that it calls make is longer than what came in: it says more and counts as full. Else prove '..UptoSaid'. A law counts once. -/
mutual
def uptoBulk {H : Type} : DataW H → Nat
  | .lit (.string bytes) => bytes.length + 1
  | .lit _ => 1
  | .nil => 1
  | .ptr d => uptoBulk d + 1
  | .slice elems spare => uptoBulkAll elems + uptoBulkAll spare + 1
  | .agg parts => uptoBulkAll parts + 1
  | .iface _ d => uptoBulk d + 1
  | .map entries => uptoBulkEntries entries + 1
  | .held _ => 1
def uptoBulkAll {H : Type} : List (DataW H) → Nat
  | [] => 0
  | d :: r => uptoBulk d + uptoBulkAll r
def uptoBulkEntries {H : Type} : List (Lit × DataW H) → Nat
  | [] => 0
  | x :: r => uptoBulkEntry x + uptoBulkEntries r
def uptoBulkEntry {H : Type} : Lit × DataW H → Nat
  | (.string bytes, d) => bytes.length + uptoBulk d + 1
  | (_, d) => uptoBulk d + 1
 end
def uptoSmall : (H : Type) → List (DataW H) → Bool := fun _ ds => decide (uptoBulkAll ds ≤ 1048576)
def OpenSpec.upto (s : _root_.Go.ChangeSpec) : _root_.Go.OpenSpec := { _root_.Go.OpenSpec.ofChange s with cond := some uptoSmall }

/-- 'exactppllaw13.CoreClamps', WHERE WHAT IT READS IS OF BULK AT MOST 1048576: true; the input reads as it did. -/
def coreClampsUptoRow : OpenClaim := { program := "ytdijehgibejflaa", sum := "553c33fdbaacfe1b825b1fef2ca254d49e72f860f00651881db0c38614ad7c6d", func := "exactppl/exactppllaw13.CoreClamps", spec := "coreClamps", unfollowed := true, recurses := true, apart := false, narrowed := true }
def CoreClampsUptoSaid : Prop := coreClampsUptoRow.holds Try.pinned (OpenSpec.upto coreClampsSpec)

/-- 'exactppllaw13.CoreForms', WHERE WHAT IT READS IS OF BULK AT MOST 1048576: true; the input reads as it did. -/
def coreFormsUptoRow : OpenClaim := { program := "ytdijehgibejflaa", sum := "553c33fdbaacfe1b825b1fef2ca254d49e72f860f00651881db0c38614ad7c6d", func := "exactppl/exactppllaw13.CoreForms", spec := "coreForms", unfollowed := true, recurses := true, loops := true, apart := false, narrowed := true }
def CoreFormsUptoSaid : Prop := coreFormsUptoRow.holds Try.pinned (OpenSpec.upto coreFormsSpec)

/-- 'exactppllaw13.CoreReads', WHERE WHAT IT READS IS OF BULK AT MOST 1048576: true; the input reads as it did. -/
def coreReadsUptoRow : OpenClaim := { program := "ytdijehgibejflaa", sum := "553c33fdbaacfe1b825b1fef2ca254d49e72f860f00651881db0c38614ad7c6d", func := "exactppl/exactppllaw13.CoreReads", spec := "coreReads", unfollowed := true, recurses := true, apart := false, narrowed := true }
def CoreReadsUptoSaid : Prop := coreReadsUptoRow.holds Try.pinned (OpenSpec.upto coreReadsSpec)

end Rows
end Go.Proofs.Ytdijehgibejflaa
