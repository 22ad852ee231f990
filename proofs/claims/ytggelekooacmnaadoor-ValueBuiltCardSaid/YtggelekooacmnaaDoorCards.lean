/-
  DERIVED. GIVEN WITH THE SEED: THE CARDS: each row of YtggelekooacmnaaDoorRows.lean that lists a variable, with what it lists TIED to the program's text (the seventh form; the later family's looks); each row that meets fmt, with fmt's text TOLD by the authors' own Lean function (tested against real Go, not proved from fmt's source: count such statements apart). THE CARD IS WHAT COUNTS. Prove the row's statement (the work); the ties are given (YtggelekooacmnaaDoorTie.lean); close each card by the builder's one call (the guide's Derived/Test/ToyasCard.lean, 'card_holds'). Laid BY PROGRAM, IN A SANDBOX (cutbox-door.mjs). By AI agents, Wed Nov 11 2026. No macro, syntax, notation, axiom, sorry.
-/
import Derived.Test.YtggelekooacmnaaDoorRows
import GoSem.ClaimSeven
namespace Go.Proofs.YtggelekooacmnaaDoor
namespace Rows

/-- THE TIED CARD OF 'exactppllaw06.TypesDeep'. -/
def typesDeepCard : Claim7 := { stood := { row := typesDeepRow, standIns := [], harness := (true, "4e8de8695c59d13636a767760eaef530e180d2755aa88612d97a0a3957423fd2"), looks := false }, kinds := [], alts := [], laidByText := true, laidKinds := [.data, .data, .data], laidTests := true, laidLooks := .later }
def TypesDeepCardSaid : Prop := Claim7.holds Tryd.pinned (.plain (OpenSpec.ofChange typesDeepSpec)) typesDeepCard

/-- THE TIED CARD OF 'exactppllaw06.TypesSizes'. -/
def typesSizesCard : Claim7 := { stood := { row := typesSizesRow, standIns := [], harness := (true, "4e8de8695c59d13636a767760eaef530e180d2755aa88612d97a0a3957423fd2"), looks := false }, kinds := [], alts := [], laidByText := true, laidKinds := [.data, .data, .data], laidTests := true, laidLooks := .later }
def TypesSizesCardSaid : Prop := Claim7.holds Tryd.pinned (.plain (OpenSpec.ofChange typesSizesSpec)) typesSizesCard

/-- THE TIED CARD OF 'exactppllaw06.TypesWidths'. -/
def typesWidthsCard : Claim7 := { stood := { row := typesWidthsRow, standIns := [], harness := (true, "4e8de8695c59d13636a767760eaef530e180d2755aa88612d97a0a3957423fd2"), looks := false }, kinds := [], alts := [], laidByText := true, laidKinds := [.data, .data, .data], laidTests := true, laidLooks := .later }
def TypesWidthsCardSaid : Prop := Claim7.holds Tryd.pinned (.plain (OpenSpec.ofChange typesWidthsSpec)) typesWidthsCard

/-- THE TIED CARD OF 'exactppllaw06.TypesTexts'. -/
def typesTextsCard : Claim7 := { stood := { row := typesTextsRow, standIns := [], harness := (true, "4e8de8695c59d13636a767760eaef530e180d2755aa88612d97a0a3957423fd2"), looks := false }, kinds := [], alts := [], laidByText := true, laidKinds := [.data, .data, .data], laidTests := true, laidLooks := .later }
def TypesTextsCardSaid : Prop := Claim7.holds Tryd.pinned (.plain (OpenSpec.ofChange typesTextsSpec)) typesTextsCard

/-- THE TIED CARD OF 'exactppllaw06.TypesRaw'. -/
def typesRawCard : Claim7 := { stood := { row := typesRawRow, standIns := [], harness := (true, "4e8de8695c59d13636a767760eaef530e180d2755aa88612d97a0a3957423fd2"), looks := false }, kinds := [], alts := [], laidByText := true, laidKinds := [.data, .data, .data], laidTests := true, laidLooks := .later }
def TypesRawCardSaid : Prop := Claim7.holds Tryd.pinned (.plain (OpenSpec.ofChange typesRawSpec)) typesRawCard

/-- THE TIED CARD OF 'exactppllaw06.TypesBuilt'. -/
def typesBuiltCard : Claim7 := { stood := { row := typesBuiltRow, standIns := [], harness := (true, "4e8de8695c59d13636a767760eaef530e180d2755aa88612d97a0a3957423fd2"), looks := false }, kinds := [], alts := [], laidByText := true, laidKinds := [.data, .data, .data], laidTests := true, laidLooks := .later }
def TypesBuiltCardSaid : Prop := Claim7.holds Tryd.pinned (.plain (OpenSpec.ofChange typesBuiltSpec)) typesBuiltCard

/-- THE TIED CARD OF 'exactppllaw07.ValueOrder'. -/
def valueOrderCard : Claim7 := { stood := { row := valueOrderRow, standIns := [], harness := (true, "4e8de8695c59d13636a767760eaef530e180d2755aa88612d97a0a3957423fd2"), looks := false }, kinds := [], alts := [], laidByText := true, laidKinds := [.data, .data, .data], laidTests := true, laidLooks := .later }
def ValueOrderCardSaid : Prop := Claim7.holds Tryd.pinned (.plain (OpenSpec.ofChange valueOrderSpec)) valueOrderCard

/-- THE TIED CARD OF 'exactppllaw07.ValueRaw'. -/
def valueRawCard : Claim7 := { stood := { row := valueRawRow, standIns := [], harness := (true, "4e8de8695c59d13636a767760eaef530e180d2755aa88612d97a0a3957423fd2"), looks := false }, kinds := [], alts := [], laidByText := true, laidKinds := [.data, .data, .data], laidTests := true, laidLooks := .later }
def ValueRawCardSaid : Prop := Claim7.holds Tryd.pinned (.plain (OpenSpec.ofChange valueRawSpec)) valueRawCard

/-- THE TIED CARD OF 'exactppllaw07.ValueBuilt'. -/
def valueBuiltCard : Claim7 := { stood := { row := valueBuiltRow, standIns := [], harness := (true, "4e8de8695c59d13636a767760eaef530e180d2755aa88612d97a0a3957423fd2"), looks := false }, kinds := [], alts := [], laidByText := true, laidKinds := [.data, .data, .data], laidTests := true, laidLooks := .later }
def ValueBuiltCardSaid : Prop := Claim7.holds Tryd.pinned (.plain (OpenSpec.ofChange valueBuiltSpec)) valueBuiltCard

/-- THE SECOND FORM's CARD OF 'exactppllaw06.TypesDeep'. -/
def typesDeepUptoCard : Claim7 := { stood := { row := typesDeepUptoRow, standIns := [], harness := (true, "4e8de8695c59d13636a767760eaef530e180d2755aa88612d97a0a3957423fd2"), looks := false }, kinds := [], alts := [], laidByText := true, laidKinds := [.data, .data, .data], laidTests := true, laidLooks := .later }
def TypesDeepUptoCardSaid : Prop := Claim7.holds Tryd.pinned (.plain (OpenSpec.upto typesDeepSpec)) typesDeepUptoCard

/-- THE SECOND FORM's CARD OF 'exactppllaw06.TypesSizes'. -/
def typesSizesUptoCard : Claim7 := { stood := { row := typesSizesUptoRow, standIns := [], harness := (true, "4e8de8695c59d13636a767760eaef530e180d2755aa88612d97a0a3957423fd2"), looks := false }, kinds := [], alts := [], laidByText := true, laidKinds := [.data, .data, .data], laidTests := true, laidLooks := .later }
def TypesSizesUptoCardSaid : Prop := Claim7.holds Tryd.pinned (.plain (OpenSpec.upto typesSizesSpec)) typesSizesUptoCard

/-- THE SECOND FORM's CARD OF 'exactppllaw06.TypesWidths'. -/
def typesWidthsUptoCard : Claim7 := { stood := { row := typesWidthsUptoRow, standIns := [], harness := (true, "4e8de8695c59d13636a767760eaef530e180d2755aa88612d97a0a3957423fd2"), looks := false }, kinds := [], alts := [], laidByText := true, laidKinds := [.data, .data, .data], laidTests := true, laidLooks := .later }
def TypesWidthsUptoCardSaid : Prop := Claim7.holds Tryd.pinned (.plain (OpenSpec.upto typesWidthsSpec)) typesWidthsUptoCard

/-- THE SECOND FORM's CARD OF 'exactppllaw06.TypesTexts'. -/
def typesTextsUptoCard : Claim7 := { stood := { row := typesTextsUptoRow, standIns := [], harness := (true, "4e8de8695c59d13636a767760eaef530e180d2755aa88612d97a0a3957423fd2"), looks := false }, kinds := [], alts := [], laidByText := true, laidKinds := [.data, .data, .data], laidTests := true, laidLooks := .later }
def TypesTextsUptoCardSaid : Prop := Claim7.holds Tryd.pinned (.plain (OpenSpec.upto typesTextsSpec)) typesTextsUptoCard

/-- THE SECOND FORM's CARD OF 'exactppllaw06.TypesRaw'. -/
def typesRawUptoCard : Claim7 := { stood := { row := typesRawUptoRow, standIns := [], harness := (true, "4e8de8695c59d13636a767760eaef530e180d2755aa88612d97a0a3957423fd2"), looks := false }, kinds := [], alts := [], laidByText := true, laidKinds := [.data, .data, .data], laidTests := true, laidLooks := .later }
def TypesRawUptoCardSaid : Prop := Claim7.holds Tryd.pinned (.plain (OpenSpec.upto typesRawSpec)) typesRawUptoCard

/-- THE SECOND FORM's CARD OF 'exactppllaw06.TypesBuilt'. -/
def typesBuiltUptoCard : Claim7 := { stood := { row := typesBuiltUptoRow, standIns := [], harness := (true, "4e8de8695c59d13636a767760eaef530e180d2755aa88612d97a0a3957423fd2"), looks := false }, kinds := [], alts := [], laidByText := true, laidKinds := [.data, .data, .data], laidTests := true, laidLooks := .later }
def TypesBuiltUptoCardSaid : Prop := Claim7.holds Tryd.pinned (.plain (OpenSpec.upto typesBuiltSpec)) typesBuiltUptoCard

/-- THE SECOND FORM's CARD OF 'exactppllaw07.ValueOrder'. -/
def valueOrderUptoCard : Claim7 := { stood := { row := valueOrderUptoRow, standIns := [], harness := (true, "4e8de8695c59d13636a767760eaef530e180d2755aa88612d97a0a3957423fd2"), looks := false }, kinds := [], alts := [], laidByText := true, laidKinds := [.data, .data, .data], laidTests := true, laidLooks := .later }
def ValueOrderUptoCardSaid : Prop := Claim7.holds Tryd.pinned (.plain (OpenSpec.upto valueOrderSpec)) valueOrderUptoCard

/-- THE SECOND FORM's CARD OF 'exactppllaw07.ValueRaw'. -/
def valueRawUptoCard : Claim7 := { stood := { row := valueRawUptoRow, standIns := [], harness := (true, "4e8de8695c59d13636a767760eaef530e180d2755aa88612d97a0a3957423fd2"), looks := false }, kinds := [], alts := [], laidByText := true, laidKinds := [.data, .data, .data], laidTests := true, laidLooks := .later }
def ValueRawUptoCardSaid : Prop := Claim7.holds Tryd.pinned (.plain (OpenSpec.upto valueRawSpec)) valueRawUptoCard

/-- THE SECOND FORM's CARD OF 'exactppllaw07.ValueBuilt'. -/
def valueBuiltUptoCard : Claim7 := { stood := { row := valueBuiltUptoRow, standIns := [], harness := (true, "4e8de8695c59d13636a767760eaef530e180d2755aa88612d97a0a3957423fd2"), looks := false }, kinds := [], alts := [], laidByText := true, laidKinds := [.data, .data, .data], laidTests := true, laidLooks := .later }
def ValueBuiltUptoCardSaid : Prop := Claim7.holds Tryd.pinned (.plain (OpenSpec.upto valueBuiltSpec)) valueBuiltUptoCard
end Rows
end Go.Proofs.YtggelekooacmnaaDoor
