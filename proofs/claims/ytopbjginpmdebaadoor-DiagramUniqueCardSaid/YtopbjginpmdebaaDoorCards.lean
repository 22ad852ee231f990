/-
  DERIVED. GIVEN WITH THE SEED: THE CARDS: each row of YtopbjginpmdebaaDoorRows.lean that lists a variable, with what it lists TIED to the program's text (the seventh form; the later family's looks); each row that meets fmt, with fmt's text TOLD by the authors' own Lean function (tested against real Go, not proved from fmt's source: count such statements apart). THE CARD IS WHAT COUNTS. Prove the row's statement (the work); the ties are given (YtopbjginpmdebaaDoorTie.lean); close each card by the builder's one call (the guide's Derived/Test/ToyasCard.lean, 'card_holds'). Laid BY PROGRAM, IN A SANDBOX (cutbox-door.mjs). By AI agents, Wed Nov 11 2026. No macro, syntax, notation, axiom, sorry.
-/
import Derived.Test.YtopbjginpmdebaaDoorRows
import GoSem.ClaimSeven
namespace Go.Proofs.YtopbjginpmdebaaDoor
namespace Rows

/-- THE TIED CARD OF 'exactppllaw19.DiagramReduces'. -/
def diagramReducesCard : Claim7 := { stood := { row := diagramReducesRow, standIns := [], harness := (true, "fa00d3c6ad307f015050451798fb60ce304fbc16f3794432b8f87aed7b2ff4ab"), looks := false }, kinds := [], alts := [], laidByText := true, laidKinds := [.data, .data, .data], laidTests := true, laidLooks := .later }
def DiagramReducesCardSaid : Prop := Claim7.holds Tryd.pinned (.plain (OpenSpec.ofChange diagramReducesSpec)) diagramReducesCard

/-- THE TIED CARD OF 'exactppllaw19.DiagramAny'. -/
def diagramAnyCard : Claim7 := { stood := { row := diagramAnyRow, standIns := [], harness := (true, "fa00d3c6ad307f015050451798fb60ce304fbc16f3794432b8f87aed7b2ff4ab"), looks := false }, kinds := [], alts := [], laidByText := true, laidKinds := [.data, .data, .data], laidTests := true, laidLooks := .later }
def DiagramAnyCardSaid : Prop := Claim7.holds Tryd.pinned (.plain (OpenSpec.ofChange diagramAnySpec)) diagramAnyCard

/-- THE TIED CARD OF 'exactppllaw19.DiagramSettles'. -/
def diagramSettlesCard : Claim7 := { stood := { row := diagramSettlesRow, standIns := [], harness := (true, "fa00d3c6ad307f015050451798fb60ce304fbc16f3794432b8f87aed7b2ff4ab"), looks := false }, kinds := [], alts := [], laidByText := true, laidKinds := [.data, .data, .data], laidTests := true, laidLooks := .later }
def DiagramSettlesCardSaid : Prop := Claim7.holds Tryd.pinned (.plain (OpenSpec.ofChange diagramSettlesSpec)) diagramSettlesCard

/-- THE TIED CARD OF 'exactppllaw19.DiagramEvals'. -/
def diagramEvalsCard : Claim7 := { stood := { row := diagramEvalsRow, standIns := [], harness := (true, "fa00d3c6ad307f015050451798fb60ce304fbc16f3794432b8f87aed7b2ff4ab"), looks := false }, kinds := [], alts := [], laidByText := true, laidKinds := [.data, .data, .data], laidTests := true, laidLooks := .later }
def DiagramEvalsCardSaid : Prop := Claim7.holds Tryd.pinned (.plain (OpenSpec.ofChange diagramEvalsSpec)) diagramEvalsCard

/-- THE TIED CARD OF 'exactppllaw19.DiagramLeaves'. -/
def diagramLeavesCard : Claim7 := { stood := { row := diagramLeavesRow, standIns := [], harness := (true, "fa00d3c6ad307f015050451798fb60ce304fbc16f3794432b8f87aed7b2ff4ab"), looks := false }, kinds := [], alts := [], laidByText := true, laidKinds := [.data, .data, .data], laidTests := true, laidLooks := .later }
def DiagramLeavesCardSaid : Prop := Claim7.holds Tryd.pinned (.plain (OpenSpec.ofChange diagramLeavesSpec)) diagramLeavesCard

/-- THE TIED CARD OF 'exactppllaw19.DiagramRestricts'. -/
def diagramRestrictsCard : Claim7 := { stood := { row := diagramRestrictsRow, standIns := [], harness := (true, "fa00d3c6ad307f015050451798fb60ce304fbc16f3794432b8f87aed7b2ff4ab"), looks := false }, kinds := [], alts := [], laidByText := true, laidKinds := [.data, .data, .data], laidTests := true, laidLooks := .later }
def DiagramRestrictsCardSaid : Prop := Claim7.holds Tryd.pinned (.plain (OpenSpec.ofChange diagramRestrictsSpec)) diagramRestrictsCard

/-- THE TIED CARD OF 'exactppllaw19.DiagramBranches'. -/
def diagramBranchesCard : Claim7 := { stood := { row := diagramBranchesRow, standIns := [], harness := (true, "fa00d3c6ad307f015050451798fb60ce304fbc16f3794432b8f87aed7b2ff4ab"), looks := false }, kinds := [], alts := [], laidByText := true, laidKinds := [.data, .data, .data], laidTests := true, laidLooks := .later }
def DiagramBranchesCardSaid : Prop := Claim7.holds Tryd.pinned (.plain (OpenSpec.ofChange diagramBranchesSpec)) diagramBranchesCard

/-- THE TIED CARD OF 'exactppllaw19.DiagramUnique'. -/
def diagramUniqueCard : Claim7 := { stood := { row := diagramUniqueRow, standIns := [], harness := (true, "fa00d3c6ad307f015050451798fb60ce304fbc16f3794432b8f87aed7b2ff4ab"), looks := false }, kinds := [], alts := [], laidByText := true, laidKinds := [.data, .data, .data], laidTests := true, laidLooks := .later }
def DiagramUniqueCardSaid : Prop := Claim7.holds Tryd.pinned (.plain (OpenSpec.ofChange diagramUniqueSpec)) diagramUniqueCard

/-- THE TIED CARD OF 'exactppllaw19.DiagramLists'. -/
def diagramListsCard : Claim7 := { stood := { row := diagramListsRow, standIns := [], harness := (true, "fa00d3c6ad307f015050451798fb60ce304fbc16f3794432b8f87aed7b2ff4ab"), looks := false }, kinds := [], alts := [], laidByText := true, laidKinds := [.data, .data, .data], laidTests := true, laidLooks := .later }
def DiagramListsCardSaid : Prop := Claim7.holds Tryd.pinned (.plain (OpenSpec.ofChange diagramListsSpec)) diagramListsCard

/-- THE TIED CARD OF 'exactppllaw19.DiagramFixes'. -/
def diagramFixesCard : Claim7 := { stood := { row := diagramFixesRow, standIns := [], harness := (true, "fa00d3c6ad307f015050451798fb60ce304fbc16f3794432b8f87aed7b2ff4ab"), looks := false }, kinds := [], alts := [], laidByText := true, laidKinds := [.data, .data, .data], laidTests := true, laidLooks := .later }
def DiagramFixesCardSaid : Prop := Claim7.holds Tryd.pinned (.plain (OpenSpec.ofChange diagramFixesSpec)) diagramFixesCard

/-- THE TIED CARD OF 'exactppllaw19.DiagramExpands'. -/
def diagramExpandsCard : Claim7 := { stood := { row := diagramExpandsRow, standIns := [], harness := (true, "fa00d3c6ad307f015050451798fb60ce304fbc16f3794432b8f87aed7b2ff4ab"), looks := false }, kinds := [], alts := [], laidByText := true, laidKinds := [.data, .data, .data], laidTests := true, laidLooks := .later }
def DiagramExpandsCardSaid : Prop := Claim7.holds Tryd.pinned (.plain (OpenSpec.ofChange diagramExpandsSpec)) diagramExpandsCard

/-- THE SECOND FORM's CARD OF 'exactppllaw19.DiagramReduces'. -/
def diagramReducesUptoCard : Claim7 := { stood := { row := diagramReducesUptoRow, standIns := [], harness := (true, "fa00d3c6ad307f015050451798fb60ce304fbc16f3794432b8f87aed7b2ff4ab"), looks := false }, kinds := [], alts := [], laidByText := true, laidKinds := [.data, .data, .data], laidTests := true, laidLooks := .later }
def DiagramReducesUptoCardSaid : Prop := Claim7.holds Tryd.pinned (.plain (OpenSpec.upto diagramReducesSpec)) diagramReducesUptoCard

/-- THE SECOND FORM's CARD OF 'exactppllaw19.DiagramAny'. -/
def diagramAnyUptoCard : Claim7 := { stood := { row := diagramAnyUptoRow, standIns := [], harness := (true, "fa00d3c6ad307f015050451798fb60ce304fbc16f3794432b8f87aed7b2ff4ab"), looks := false }, kinds := [], alts := [], laidByText := true, laidKinds := [.data, .data, .data], laidTests := true, laidLooks := .later }
def DiagramAnyUptoCardSaid : Prop := Claim7.holds Tryd.pinned (.plain (OpenSpec.upto diagramAnySpec)) diagramAnyUptoCard

/-- THE SECOND FORM's CARD OF 'exactppllaw19.DiagramSettles'. -/
def diagramSettlesUptoCard : Claim7 := { stood := { row := diagramSettlesUptoRow, standIns := [], harness := (true, "fa00d3c6ad307f015050451798fb60ce304fbc16f3794432b8f87aed7b2ff4ab"), looks := false }, kinds := [], alts := [], laidByText := true, laidKinds := [.data, .data, .data], laidTests := true, laidLooks := .later }
def DiagramSettlesUptoCardSaid : Prop := Claim7.holds Tryd.pinned (.plain (OpenSpec.upto diagramSettlesSpec)) diagramSettlesUptoCard

/-- THE SECOND FORM's CARD OF 'exactppllaw19.DiagramEvals'. -/
def diagramEvalsUptoCard : Claim7 := { stood := { row := diagramEvalsUptoRow, standIns := [], harness := (true, "fa00d3c6ad307f015050451798fb60ce304fbc16f3794432b8f87aed7b2ff4ab"), looks := false }, kinds := [], alts := [], laidByText := true, laidKinds := [.data, .data, .data], laidTests := true, laidLooks := .later }
def DiagramEvalsUptoCardSaid : Prop := Claim7.holds Tryd.pinned (.plain (OpenSpec.upto diagramEvalsSpec)) diagramEvalsUptoCard

/-- THE SECOND FORM's CARD OF 'exactppllaw19.DiagramLeaves'. -/
def diagramLeavesUptoCard : Claim7 := { stood := { row := diagramLeavesUptoRow, standIns := [], harness := (true, "fa00d3c6ad307f015050451798fb60ce304fbc16f3794432b8f87aed7b2ff4ab"), looks := false }, kinds := [], alts := [], laidByText := true, laidKinds := [.data, .data, .data], laidTests := true, laidLooks := .later }
def DiagramLeavesUptoCardSaid : Prop := Claim7.holds Tryd.pinned (.plain (OpenSpec.upto diagramLeavesSpec)) diagramLeavesUptoCard

/-- THE SECOND FORM's CARD OF 'exactppllaw19.DiagramRestricts'. -/
def diagramRestrictsUptoCard : Claim7 := { stood := { row := diagramRestrictsUptoRow, standIns := [], harness := (true, "fa00d3c6ad307f015050451798fb60ce304fbc16f3794432b8f87aed7b2ff4ab"), looks := false }, kinds := [], alts := [], laidByText := true, laidKinds := [.data, .data, .data], laidTests := true, laidLooks := .later }
def DiagramRestrictsUptoCardSaid : Prop := Claim7.holds Tryd.pinned (.plain (OpenSpec.upto diagramRestrictsSpec)) diagramRestrictsUptoCard

/-- THE SECOND FORM's CARD OF 'exactppllaw19.DiagramBranches'. -/
def diagramBranchesUptoCard : Claim7 := { stood := { row := diagramBranchesUptoRow, standIns := [], harness := (true, "fa00d3c6ad307f015050451798fb60ce304fbc16f3794432b8f87aed7b2ff4ab"), looks := false }, kinds := [], alts := [], laidByText := true, laidKinds := [.data, .data, .data], laidTests := true, laidLooks := .later }
def DiagramBranchesUptoCardSaid : Prop := Claim7.holds Tryd.pinned (.plain (OpenSpec.upto diagramBranchesSpec)) diagramBranchesUptoCard

/-- THE SECOND FORM's CARD OF 'exactppllaw19.DiagramUnique'. -/
def diagramUniqueUptoCard : Claim7 := { stood := { row := diagramUniqueUptoRow, standIns := [], harness := (true, "fa00d3c6ad307f015050451798fb60ce304fbc16f3794432b8f87aed7b2ff4ab"), looks := false }, kinds := [], alts := [], laidByText := true, laidKinds := [.data, .data, .data], laidTests := true, laidLooks := .later }
def DiagramUniqueUptoCardSaid : Prop := Claim7.holds Tryd.pinned (.plain (OpenSpec.upto diagramUniqueSpec)) diagramUniqueUptoCard

/-- THE SECOND FORM's CARD OF 'exactppllaw19.DiagramLists'. -/
def diagramListsUptoCard : Claim7 := { stood := { row := diagramListsUptoRow, standIns := [], harness := (true, "fa00d3c6ad307f015050451798fb60ce304fbc16f3794432b8f87aed7b2ff4ab"), looks := false }, kinds := [], alts := [], laidByText := true, laidKinds := [.data, .data, .data], laidTests := true, laidLooks := .later }
def DiagramListsUptoCardSaid : Prop := Claim7.holds Tryd.pinned (.plain (OpenSpec.upto diagramListsSpec)) diagramListsUptoCard

/-- THE SECOND FORM's CARD OF 'exactppllaw19.DiagramFixes'. -/
def diagramFixesUptoCard : Claim7 := { stood := { row := diagramFixesUptoRow, standIns := [], harness := (true, "fa00d3c6ad307f015050451798fb60ce304fbc16f3794432b8f87aed7b2ff4ab"), looks := false }, kinds := [], alts := [], laidByText := true, laidKinds := [.data, .data, .data], laidTests := true, laidLooks := .later }
def DiagramFixesUptoCardSaid : Prop := Claim7.holds Tryd.pinned (.plain (OpenSpec.upto diagramFixesSpec)) diagramFixesUptoCard

/-- THE SECOND FORM's CARD OF 'exactppllaw19.DiagramExpands'. -/
def diagramExpandsUptoCard : Claim7 := { stood := { row := diagramExpandsUptoRow, standIns := [], harness := (true, "fa00d3c6ad307f015050451798fb60ce304fbc16f3794432b8f87aed7b2ff4ab"), looks := false }, kinds := [], alts := [], laidByText := true, laidKinds := [.data, .data, .data], laidTests := true, laidLooks := .later }
def DiagramExpandsUptoCardSaid : Prop := Claim7.holds Tryd.pinned (.plain (OpenSpec.upto diagramExpandsSpec)) diagramExpandsUptoCard
end Rows
end Go.Proofs.YtopbjginpmdebaaDoor
