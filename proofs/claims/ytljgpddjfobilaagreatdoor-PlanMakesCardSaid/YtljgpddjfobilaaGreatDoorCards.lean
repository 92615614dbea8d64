/-
  DERIVED. GIVEN WITH THE SEED: THE CARDS: each row of YtljgpddjfobilaaGreatDoorRows.lean that lists a variable, with what it lists TIED to the program's text (the seventh form; the later family's looks); each row that meets fmt, with fmt's text TOLD by the authors' own Lean function (tested against real Go, not proved from fmt's source: count such statements apart). THE CARD IS WHAT COUNTS. Prove the row's statement (the work); the ties are given (YtljgpddjfobilaaGreatDoorTie.lean); close each card by the builder's one call (the guide's Derived/Test/ToyasCard.lean, 'card_holds'). Laid BY PROGRAM, IN A SANDBOX (cutbox-door.mjs). By AI agents, Wed Nov 11 2026. No macro, syntax, notation, axiom, sorry.
-/
import Derived.Test.YtljgpddjfobilaaGreatDoorRows
import GoSem.ClaimSeven
namespace Go.Proofs.YtljgpddjfobilaaGreatDoor
namespace Rows

/-- THE TIED CARD OF 'tapewrightlaw10.GraphRight'. -/
def graphRightCard : Claim7 := { stood := { row := graphRightRow, standIns := [], harness := (true, "f94f8be5b14e180743717cd9fb73526b0716b630b0618e4011b8830be4c321ae"), looks := false }, kinds := [], alts := [], laidByText := true, laidKinds := [.data, .sentinel, .sentinel, .pinned], laidTests := true, laidLooks := .later }
def GraphRightCardSaid : Prop := Claim7.holds Tryz.pinned (.plain (OpenSpec.ofChange graphRightSpec)) graphRightCard

/-- THE TIED CARD OF 'tapewrightlaw10.GraphLoss'. -/
def graphLossCard : Claim7 := { stood := { row := graphLossRow, standIns := [], harness := (true, "f94f8be5b14e180743717cd9fb73526b0716b630b0618e4011b8830be4c321ae"), looks := false }, kinds := [], alts := [], laidByText := true, laidKinds := [.data, .sentinel, .sentinel, .pinned], laidTests := true, laidLooks := .later }
def GraphLossCardSaid : Prop := Claim7.holds Tryz.pinned (.plain (OpenSpec.ofChange graphLossSpec)) graphLossCard

/-- THE TIED CARD OF 'tapewrightlaw17.PlanMakes'. -/
def planMakesCard : Claim7 := { stood := { row := planMakesRow, standIns := [], harness := (true, "f94f8be5b14e180743717cd9fb73526b0716b630b0618e4011b8830be4c321ae"), looks := false }, kinds := [], alts := [], laidByText := true, laidKinds := [.data, .sentinel, .sentinel, .pinned], laidTests := true, laidLooks := .later }
def PlanMakesCardSaid : Prop := Claim7.holds Tryz.pinned (.plain (OpenSpec.ofChange planMakesSpec)) planMakesCard

/-- THE SECOND FORM's CARD OF 'tapewrightlaw10.GraphRight'. -/
def graphRightUptoCard : Claim7 := { stood := { row := graphRightUptoRow, standIns := [], harness := (true, "f94f8be5b14e180743717cd9fb73526b0716b630b0618e4011b8830be4c321ae"), looks := false }, kinds := [], alts := [], laidByText := true, laidKinds := [.data, .sentinel, .sentinel, .pinned], laidTests := true, laidLooks := .later }
def GraphRightUptoCardSaid : Prop := Claim7.holds Tryz.pinned (.plain (OpenSpec.upto graphRightSpec)) graphRightUptoCard

/-- THE SECOND FORM's CARD OF 'tapewrightlaw10.GraphLoss'. -/
def graphLossUptoCard : Claim7 := { stood := { row := graphLossUptoRow, standIns := [], harness := (true, "f94f8be5b14e180743717cd9fb73526b0716b630b0618e4011b8830be4c321ae"), looks := false }, kinds := [], alts := [], laidByText := true, laidKinds := [.data, .sentinel, .sentinel, .pinned], laidTests := true, laidLooks := .later }
def GraphLossUptoCardSaid : Prop := Claim7.holds Tryz.pinned (.plain (OpenSpec.upto graphLossSpec)) graphLossUptoCard

/-- THE SECOND FORM's CARD OF 'tapewrightlaw17.PlanMakes'. -/
def planMakesUptoCard : Claim7 := { stood := { row := planMakesUptoRow, standIns := [], harness := (true, "f94f8be5b14e180743717cd9fb73526b0716b630b0618e4011b8830be4c321ae"), looks := false }, kinds := [], alts := [], laidByText := true, laidKinds := [.data, .sentinel, .sentinel, .pinned], laidTests := true, laidLooks := .later }
def PlanMakesUptoCardSaid : Prop := Claim7.holds Tryz.pinned (.plain (OpenSpec.upto planMakesSpec)) planMakesUptoCard
end Rows
end Go.Proofs.YtljgpddjfobilaaGreatDoor
