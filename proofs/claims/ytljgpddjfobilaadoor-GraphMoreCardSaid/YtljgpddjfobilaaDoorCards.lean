/-
  DERIVED. GIVEN WITH THE SEED: THE CARDS: each row of YtljgpddjfobilaaDoorRows.lean that lists a variable, with what it lists TIED to the program's text (the seventh form; the later family's looks); each row that meets fmt, with fmt's text TOLD by the authors' own Lean function (tested against real Go, not proved from fmt's source: count such statements apart). THE CARD IS WHAT COUNTS. Prove the row's statement (the work); the ties are given (YtljgpddjfobilaaDoorTie.lean); close each card by the builder's one call (the guide's Derived/Test/ToyasCard.lean, 'card_holds'). Laid BY PROGRAM, IN A SANDBOX (cutbox-door.mjs). By AI agents, Wed Nov 11 2026. No macro, syntax, notation, axiom, sorry.
-/
import Derived.Test.YtljgpddjfobilaaDoorRows
import GoSem.ClaimSeven
namespace Go.Proofs.YtljgpddjfobilaaDoor
namespace Rows

/-- THE TIED CARD OF 'tapewrightlaw10.GraphShapes'. -/
def graphShapesCard : Claim7 := { stood := { row := graphShapesRow, standIns := [], harness := (true, "ced8bf572417afeffe5849de449b1b861b9e315672932f7e8e505ed9f4a3eb80"), looks := false }, kinds := [], alts := [], laidByText := true, laidKinds := [.data, .sentinel, .sentinel, .pinned], laidTests := true, laidLooks := .later }
def GraphShapesCardSaid : Prop := Claim7.holds Tryd.pinned (.plain (OpenSpec.ofChange graphShapesSpec)) graphShapesCard

/-- THE TIED CARD OF 'tapewrightlaw10.GraphNames'. -/
def graphNamesCard : Claim7 := { stood := { row := graphNamesRow, standIns := [], harness := (true, "ced8bf572417afeffe5849de449b1b861b9e315672932f7e8e505ed9f4a3eb80"), looks := false }, kinds := [], alts := [], laidByText := true, laidKinds := [.data, .sentinel, .sentinel, .pinned], laidTests := true, laidLooks := .later }
def GraphNamesCardSaid : Prop := Claim7.holds Tryd.pinned (.plain (OpenSpec.ofChange graphNamesSpec)) graphNamesCard

/-- THE TIED CARD OF 'tapewrightlaw10.GraphMore'. -/
def graphMoreCard : Claim7 := { stood := { row := graphMoreRow, standIns := [], harness := (true, "ced8bf572417afeffe5849de449b1b861b9e315672932f7e8e505ed9f4a3eb80"), looks := false }, kinds := [], alts := [], laidByText := true, laidKinds := [.data, .sentinel, .sentinel, .pinned], laidTests := true, laidLooks := .later }
def GraphMoreCardSaid : Prop := Claim7.holds Tryd.pinned (.plain (OpenSpec.ofChange graphMoreSpec)) graphMoreCard

/-- THE TIED CARD OF 'tapewrightlaw17.PlanApart'. -/
def planApartCard : Claim7 := { stood := { row := planApartRow, standIns := [], harness := (true, "ced8bf572417afeffe5849de449b1b861b9e315672932f7e8e505ed9f4a3eb80"), looks := false }, kinds := [], alts := [], laidByText := true, laidKinds := [.data, .sentinel, .sentinel, .pinned], laidTests := true, laidLooks := .later }
def PlanApartCardSaid : Prop := Claim7.holds Tryd.pinned (.plain (OpenSpec.ofChange planApartSpec)) planApartCard

/-- THE TIED CARD OF 'tapewrightlaw17.PlanKeep'. -/
def planKeepCard : Claim7 := { stood := { row := planKeepRow, standIns := [], harness := (true, "ced8bf572417afeffe5849de449b1b861b9e315672932f7e8e505ed9f4a3eb80"), looks := false }, kinds := [], alts := [], laidByText := true, laidKinds := [.data, .sentinel, .sentinel, .pinned], laidTests := true, laidLooks := .later }
def PlanKeepCardSaid : Prop := Claim7.holds Tryd.pinned (.plain (OpenSpec.ofChange planKeepSpec)) planKeepCard

/-- THE TIED CARD OF 'tapewrightlaw17.PlanFew'. -/
def planFewCard : Claim7 := { stood := { row := planFewRow, standIns := [], harness := (true, "ced8bf572417afeffe5849de449b1b861b9e315672932f7e8e505ed9f4a3eb80"), looks := false }, kinds := [], alts := [], laidByText := true, laidKinds := [.data, .sentinel, .sentinel, .pinned], laidTests := true, laidLooks := .later }
def PlanFewCardSaid : Prop := Claim7.holds Tryd.pinned (.plain (OpenSpec.ofChange planFewSpec)) planFewCard

/-- THE TIED CARD OF 'tapewrightlaw17.PlanMore'. -/
def planMoreCard : Claim7 := { stood := { row := planMoreRow, standIns := [], harness := (true, "ced8bf572417afeffe5849de449b1b861b9e315672932f7e8e505ed9f4a3eb80"), looks := false }, kinds := [], alts := [], laidByText := true, laidKinds := [.data, .sentinel, .sentinel, .pinned], laidTests := true, laidLooks := .later }
def PlanMoreCardSaid : Prop := Claim7.holds Tryd.pinned (.plain (OpenSpec.ofChange planMoreSpec)) planMoreCard

/-- THE TIED CARD OF 'tapewrightlaw17.PlanLast'. -/
def planLastCard : Claim7 := { stood := { row := planLastRow, standIns := [], harness := (true, "ced8bf572417afeffe5849de449b1b861b9e315672932f7e8e505ed9f4a3eb80"), looks := false }, kinds := [], alts := [], laidByText := true, laidKinds := [.data, .sentinel, .sentinel, .pinned], laidTests := true, laidLooks := .later }
def PlanLastCardSaid : Prop := Claim7.holds Tryd.pinned (.plain (OpenSpec.ofChange planLastSpec)) planLastCard

/-- THE SECOND FORM's CARD OF 'tapewrightlaw10.GraphShapes'. -/
def graphShapesUptoCard : Claim7 := { stood := { row := graphShapesUptoRow, standIns := [], harness := (true, "ced8bf572417afeffe5849de449b1b861b9e315672932f7e8e505ed9f4a3eb80"), looks := false }, kinds := [], alts := [], laidByText := true, laidKinds := [.data, .sentinel, .sentinel, .pinned], laidTests := true, laidLooks := .later }
def GraphShapesUptoCardSaid : Prop := Claim7.holds Tryd.pinned (.plain (OpenSpec.upto graphShapesSpec)) graphShapesUptoCard

/-- THE SECOND FORM's CARD OF 'tapewrightlaw10.GraphNames'. -/
def graphNamesUptoCard : Claim7 := { stood := { row := graphNamesUptoRow, standIns := [], harness := (true, "ced8bf572417afeffe5849de449b1b861b9e315672932f7e8e505ed9f4a3eb80"), looks := false }, kinds := [], alts := [], laidByText := true, laidKinds := [.data, .sentinel, .sentinel, .pinned], laidTests := true, laidLooks := .later }
def GraphNamesUptoCardSaid : Prop := Claim7.holds Tryd.pinned (.plain (OpenSpec.upto graphNamesSpec)) graphNamesUptoCard

/-- THE SECOND FORM's CARD OF 'tapewrightlaw10.GraphMore'. -/
def graphMoreUptoCard : Claim7 := { stood := { row := graphMoreUptoRow, standIns := [], harness := (true, "ced8bf572417afeffe5849de449b1b861b9e315672932f7e8e505ed9f4a3eb80"), looks := false }, kinds := [], alts := [], laidByText := true, laidKinds := [.data, .sentinel, .sentinel, .pinned], laidTests := true, laidLooks := .later }
def GraphMoreUptoCardSaid : Prop := Claim7.holds Tryd.pinned (.plain (OpenSpec.upto graphMoreSpec)) graphMoreUptoCard

/-- THE SECOND FORM's CARD OF 'tapewrightlaw17.PlanApart'. -/
def planApartUptoCard : Claim7 := { stood := { row := planApartUptoRow, standIns := [], harness := (true, "ced8bf572417afeffe5849de449b1b861b9e315672932f7e8e505ed9f4a3eb80"), looks := false }, kinds := [], alts := [], laidByText := true, laidKinds := [.data, .sentinel, .sentinel, .pinned], laidTests := true, laidLooks := .later }
def PlanApartUptoCardSaid : Prop := Claim7.holds Tryd.pinned (.plain (OpenSpec.upto planApartSpec)) planApartUptoCard

/-- THE SECOND FORM's CARD OF 'tapewrightlaw17.PlanKeep'. -/
def planKeepUptoCard : Claim7 := { stood := { row := planKeepUptoRow, standIns := [], harness := (true, "ced8bf572417afeffe5849de449b1b861b9e315672932f7e8e505ed9f4a3eb80"), looks := false }, kinds := [], alts := [], laidByText := true, laidKinds := [.data, .sentinel, .sentinel, .pinned], laidTests := true, laidLooks := .later }
def PlanKeepUptoCardSaid : Prop := Claim7.holds Tryd.pinned (.plain (OpenSpec.upto planKeepSpec)) planKeepUptoCard

/-- THE SECOND FORM's CARD OF 'tapewrightlaw17.PlanFew'. -/
def planFewUptoCard : Claim7 := { stood := { row := planFewUptoRow, standIns := [], harness := (true, "ced8bf572417afeffe5849de449b1b861b9e315672932f7e8e505ed9f4a3eb80"), looks := false }, kinds := [], alts := [], laidByText := true, laidKinds := [.data, .sentinel, .sentinel, .pinned], laidTests := true, laidLooks := .later }
def PlanFewUptoCardSaid : Prop := Claim7.holds Tryd.pinned (.plain (OpenSpec.upto planFewSpec)) planFewUptoCard

/-- THE SECOND FORM's CARD OF 'tapewrightlaw17.PlanMore'. -/
def planMoreUptoCard : Claim7 := { stood := { row := planMoreUptoRow, standIns := [], harness := (true, "ced8bf572417afeffe5849de449b1b861b9e315672932f7e8e505ed9f4a3eb80"), looks := false }, kinds := [], alts := [], laidByText := true, laidKinds := [.data, .sentinel, .sentinel, .pinned], laidTests := true, laidLooks := .later }
def PlanMoreUptoCardSaid : Prop := Claim7.holds Tryd.pinned (.plain (OpenSpec.upto planMoreSpec)) planMoreUptoCard

/-- THE SECOND FORM's CARD OF 'tapewrightlaw17.PlanLast'. -/
def planLastUptoCard : Claim7 := { stood := { row := planLastUptoRow, standIns := [], harness := (true, "ced8bf572417afeffe5849de449b1b861b9e315672932f7e8e505ed9f4a3eb80"), looks := false }, kinds := [], alts := [], laidByText := true, laidKinds := [.data, .sentinel, .sentinel, .pinned], laidTests := true, laidLooks := .later }
def PlanLastUptoCardSaid : Prop := Claim7.holds Tryd.pinned (.plain (OpenSpec.upto planLastSpec)) planLastUptoCard
end Rows
end Go.Proofs.YtljgpddjfobilaaDoor
