/-
  DERIVED. GIVEN WITH THE SEED: THE CARDS: each row of YtffpponklejidaaGreatDoorRows.lean that lists a variable, with what it lists TIED to the program's text (the seventh form; the later family's looks); each row that meets fmt, with fmt's text TOLD by the authors' own Lean function (tested against real Go, not proved from fmt's source: count such statements apart). THE CARD IS WHAT COUNTS. Prove the row's statement (the work); the ties are given (YtffpponklejidaaGreatDoorTie.lean); close each card by the builder's one call (the guide's Derived/Test/ToyasCard.lean, 'card_holds'). Laid BY PROGRAM, IN A SANDBOX (cutbox-door.mjs). By AI agents, Wed Nov 11 2026. No macro, syntax, notation, axiom, sorry.
-/
import Derived.Test.YtffpponklejidaaGreatDoorRows
import GoSem.ClaimSeven
namespace Go.Proofs.YtffpponklejidaaGreatDoor
namespace Rows

/-- THE TIED CARD OF 'tapewrightlaw09.ReadParses'. -/
def readParsesCard : Claim7 := { stood := { row := readParsesRow, standIns := [], harness := (true, "fb1af7536014a3cfc210cf11ea8a697b3eff81a37a579b7a3656a0efa6388bcc"), looks := true }, kinds := [], alts := [], laidByText := true, laidKinds := [.data, .data, .data, .data, .sentinel, .sentinel, .sentinel, .sentinel, .pinned], laidTests := true, laidLooks := .later }
def ReadParsesCardSaid : Prop := Claim7.holds Tryz.pinned (.plain (OpenSpec.ofChange readParsesSpec)) readParsesCard

/-- THE TIED CARD OF 'tapewrightlaw09.ReadAll'. -/
def readAllCard : Claim7 := { stood := { row := readAllRow, standIns := [], harness := (true, "fb1af7536014a3cfc210cf11ea8a697b3eff81a37a579b7a3656a0efa6388bcc"), looks := true }, kinds := [], alts := [], laidByText := true, laidKinds := [.data, .data, .data, .data, .sentinel, .sentinel, .sentinel, .sentinel, .pinned], laidTests := true, laidLooks := .later }
def ReadAllCardSaid : Prop := Claim7.holds Tryz.pinned (.plain (OpenSpec.ofChange readAllSpec)) readAllCard

/-- THE TIED CARD OF 'tapewrightlaw09.ReadOne'. -/
def readOneCard : Claim7 := { stood := { row := readOneRow, standIns := [], harness := (true, "fb1af7536014a3cfc210cf11ea8a697b3eff81a37a579b7a3656a0efa6388bcc"), looks := true }, kinds := [], alts := [], laidByText := true, laidKinds := [.data, .data, .data, .data, .sentinel, .sentinel, .sentinel, .sentinel, .pinned], laidTests := true, laidLooks := .later }
def ReadOneCardSaid : Prop := Claim7.holds Tryz.pinned (.plain (OpenSpec.ofChange readOneSpec)) readOneCard

/-- THE TIED CARD OF 'tapewrightlaw09.ReadText'. -/
def readTextCard : Claim7 := { stood := { row := readTextRow, standIns := [], harness := (true, "fb1af7536014a3cfc210cf11ea8a697b3eff81a37a579b7a3656a0efa6388bcc"), looks := true }, kinds := [], alts := [], laidByText := true, laidKinds := [.data, .data, .data, .data, .sentinel, .sentinel, .sentinel, .sentinel, .pinned], laidTests := true, laidLooks := .later }
def ReadTextCardSaid : Prop := Claim7.holds Tryz.pinned (.plain (OpenSpec.ofChange readTextSpec)) readTextCard

/-- THE TIED CARD OF 'tapewrightlaw09.ReadDims'. -/
def readDimsCard : Claim7 := { stood := { row := readDimsRow, standIns := [], harness := (true, "fb1af7536014a3cfc210cf11ea8a697b3eff81a37a579b7a3656a0efa6388bcc"), looks := true }, kinds := [], alts := [], laidByText := true, laidKinds := [.data, .data, .data, .data, .sentinel, .sentinel, .sentinel, .sentinel, .pinned], laidTests := true, laidLooks := .later }
def ReadDimsCardSaid : Prop := Claim7.holds Tryz.pinned (.plain (OpenSpec.ofChange readDimsSpec)) readDimsCard

/-- THE TIED CARD OF 'tapewrightlaw11.ShowTells'. -/
def showTellsCard : Claim7 := { stood := { row := showTellsRow, standIns := [], harness := (true, "fb1af7536014a3cfc210cf11ea8a697b3eff81a37a579b7a3656a0efa6388bcc"), looks := true }, kinds := [], alts := [], laidByText := true, laidKinds := [.data, .data, .data, .data, .sentinel, .sentinel, .sentinel, .sentinel, .pinned], laidTests := true, laidLooks := .later }
def ShowTellsCardSaid : Prop := Claim7.holds Tryz.pinned (.plain (OpenSpec.ofChange showTellsSpec)) showTellsCard

/-- THE TIED CARD OF 'tapewrightlaw11.ShowRows'. -/
def showRowsCard : Claim7 := { stood := { row := showRowsRow, standIns := [], harness := (true, "fb1af7536014a3cfc210cf11ea8a697b3eff81a37a579b7a3656a0efa6388bcc"), looks := true }, kinds := [], alts := [], laidByText := true, laidKinds := [.data, .data, .data, .data, .sentinel, .sentinel, .sentinel, .sentinel, .pinned], laidTests := true, laidLooks := .later }
def ShowRowsCardSaid : Prop := Claim7.holds Tryz.pinned (.plain (OpenSpec.ofChange showRowsSpec)) showRowsCard

/-- THE TIED CARD OF 'tapewrightlaw10.GraphBuilds'. -/
def graphBuildsCard : Claim7 := { stood := { row := graphBuildsRow, standIns := [], harness := (true, "fb1af7536014a3cfc210cf11ea8a697b3eff81a37a579b7a3656a0efa6388bcc"), looks := true }, kinds := [], alts := [], laidByText := true, laidKinds := [.data, .data, .data, .data, .sentinel, .sentinel, .sentinel, .sentinel, .pinned], laidTests := true, laidLooks := .later }
def GraphBuildsCardSaid : Prop := Claim7.holds Tryz.pinned (.plain (OpenSpec.ofChange graphBuildsSpec)) graphBuildsCard

/-- THE TIED CARD OF 'tapewrightlaw11.ShowBack'. -/
def showBackCard : Claim7 := { stood := { row := showBackRow, standIns := [], harness := (true, "fb1af7536014a3cfc210cf11ea8a697b3eff81a37a579b7a3656a0efa6388bcc"), looks := true }, kinds := [], alts := [], laidByText := true, laidKinds := [.data, .data, .data, .data, .sentinel, .sentinel, .sentinel, .sentinel, .pinned], laidTests := true, laidLooks := .later }
def ShowBackCardSaid : Prop := Claim7.holds Tryz.pinned (.plain (OpenSpec.ofChange showBackSpec)) showBackCard

/-- THE TIED CARD OF 'tapewrightlaw11.ShowSame'. -/
def showSameCard : Claim7 := { stood := { row := showSameRow, standIns := [], harness := (true, "fb1af7536014a3cfc210cf11ea8a697b3eff81a37a579b7a3656a0efa6388bcc"), looks := true }, kinds := [], alts := [], laidByText := true, laidKinds := [.data, .data, .data, .data, .sentinel, .sentinel, .sentinel, .sentinel, .pinned], laidTests := true, laidLooks := .later }
def ShowSameCardSaid : Prop := Claim7.holds Tryz.pinned (.plain (OpenSpec.ofChange showSameSpec)) showSameCard

/-- THE TIED CARD OF 'tapewrightlaw11.ShowBuild'. -/
def showBuildCard : Claim7 := { stood := { row := showBuildRow, standIns := [], harness := (true, "fb1af7536014a3cfc210cf11ea8a697b3eff81a37a579b7a3656a0efa6388bcc"), looks := true }, kinds := [], alts := [], laidByText := true, laidKinds := [.data, .data, .data, .data, .sentinel, .sentinel, .sentinel, .sentinel, .pinned], laidTests := true, laidLooks := .later }
def ShowBuildCardSaid : Prop := Claim7.holds Tryz.pinned (.plain (OpenSpec.ofChange showBuildSpec)) showBuildCard

/-- THE SECOND FORM's CARD OF 'tapewrightlaw09.ReadParses'. -/
def readParsesUptoCard : Claim7 := { stood := { row := readParsesUptoRow, standIns := [], harness := (true, "fb1af7536014a3cfc210cf11ea8a697b3eff81a37a579b7a3656a0efa6388bcc"), looks := true }, kinds := [], alts := [], laidByText := true, laidKinds := [.data, .data, .data, .data, .sentinel, .sentinel, .sentinel, .sentinel, .pinned], laidTests := true, laidLooks := .later }
def ReadParsesUptoCardSaid : Prop := Claim7.holds Tryz.pinned (.plain (OpenSpec.upto readParsesSpec)) readParsesUptoCard

/-- THE SECOND FORM's CARD OF 'tapewrightlaw09.ReadAll'. -/
def readAllUptoCard : Claim7 := { stood := { row := readAllUptoRow, standIns := [], harness := (true, "fb1af7536014a3cfc210cf11ea8a697b3eff81a37a579b7a3656a0efa6388bcc"), looks := true }, kinds := [], alts := [], laidByText := true, laidKinds := [.data, .data, .data, .data, .sentinel, .sentinel, .sentinel, .sentinel, .pinned], laidTests := true, laidLooks := .later }
def ReadAllUptoCardSaid : Prop := Claim7.holds Tryz.pinned (.plain (OpenSpec.upto readAllSpec)) readAllUptoCard

/-- THE SECOND FORM's CARD OF 'tapewrightlaw09.ReadOne'. -/
def readOneUptoCard : Claim7 := { stood := { row := readOneUptoRow, standIns := [], harness := (true, "fb1af7536014a3cfc210cf11ea8a697b3eff81a37a579b7a3656a0efa6388bcc"), looks := true }, kinds := [], alts := [], laidByText := true, laidKinds := [.data, .data, .data, .data, .sentinel, .sentinel, .sentinel, .sentinel, .pinned], laidTests := true, laidLooks := .later }
def ReadOneUptoCardSaid : Prop := Claim7.holds Tryz.pinned (.plain (OpenSpec.upto readOneSpec)) readOneUptoCard

/-- THE SECOND FORM's CARD OF 'tapewrightlaw09.ReadText'. -/
def readTextUptoCard : Claim7 := { stood := { row := readTextUptoRow, standIns := [], harness := (true, "fb1af7536014a3cfc210cf11ea8a697b3eff81a37a579b7a3656a0efa6388bcc"), looks := true }, kinds := [], alts := [], laidByText := true, laidKinds := [.data, .data, .data, .data, .sentinel, .sentinel, .sentinel, .sentinel, .pinned], laidTests := true, laidLooks := .later }
def ReadTextUptoCardSaid : Prop := Claim7.holds Tryz.pinned (.plain (OpenSpec.upto readTextSpec)) readTextUptoCard

/-- THE SECOND FORM's CARD OF 'tapewrightlaw09.ReadDims'. -/
def readDimsUptoCard : Claim7 := { stood := { row := readDimsUptoRow, standIns := [], harness := (true, "fb1af7536014a3cfc210cf11ea8a697b3eff81a37a579b7a3656a0efa6388bcc"), looks := true }, kinds := [], alts := [], laidByText := true, laidKinds := [.data, .data, .data, .data, .sentinel, .sentinel, .sentinel, .sentinel, .pinned], laidTests := true, laidLooks := .later }
def ReadDimsUptoCardSaid : Prop := Claim7.holds Tryz.pinned (.plain (OpenSpec.upto readDimsSpec)) readDimsUptoCard

/-- THE SECOND FORM's CARD OF 'tapewrightlaw11.ShowTells'. -/
def showTellsUptoCard : Claim7 := { stood := { row := showTellsUptoRow, standIns := [], harness := (true, "fb1af7536014a3cfc210cf11ea8a697b3eff81a37a579b7a3656a0efa6388bcc"), looks := true }, kinds := [], alts := [], laidByText := true, laidKinds := [.data, .data, .data, .data, .sentinel, .sentinel, .sentinel, .sentinel, .pinned], laidTests := true, laidLooks := .later }
def ShowTellsUptoCardSaid : Prop := Claim7.holds Tryz.pinned (.plain (OpenSpec.upto showTellsSpec)) showTellsUptoCard

/-- THE SECOND FORM's CARD OF 'tapewrightlaw11.ShowRows'. -/
def showRowsUptoCard : Claim7 := { stood := { row := showRowsUptoRow, standIns := [], harness := (true, "fb1af7536014a3cfc210cf11ea8a697b3eff81a37a579b7a3656a0efa6388bcc"), looks := true }, kinds := [], alts := [], laidByText := true, laidKinds := [.data, .data, .data, .data, .sentinel, .sentinel, .sentinel, .sentinel, .pinned], laidTests := true, laidLooks := .later }
def ShowRowsUptoCardSaid : Prop := Claim7.holds Tryz.pinned (.plain (OpenSpec.upto showRowsSpec)) showRowsUptoCard

/-- THE SECOND FORM's CARD OF 'tapewrightlaw10.GraphBuilds'. -/
def graphBuildsUptoCard : Claim7 := { stood := { row := graphBuildsUptoRow, standIns := [], harness := (true, "fb1af7536014a3cfc210cf11ea8a697b3eff81a37a579b7a3656a0efa6388bcc"), looks := true }, kinds := [], alts := [], laidByText := true, laidKinds := [.data, .data, .data, .data, .sentinel, .sentinel, .sentinel, .sentinel, .pinned], laidTests := true, laidLooks := .later }
def GraphBuildsUptoCardSaid : Prop := Claim7.holds Tryz.pinned (.plain (OpenSpec.upto graphBuildsSpec)) graphBuildsUptoCard

/-- THE SECOND FORM's CARD OF 'tapewrightlaw11.ShowBack'. -/
def showBackUptoCard : Claim7 := { stood := { row := showBackUptoRow, standIns := [], harness := (true, "fb1af7536014a3cfc210cf11ea8a697b3eff81a37a579b7a3656a0efa6388bcc"), looks := true }, kinds := [], alts := [], laidByText := true, laidKinds := [.data, .data, .data, .data, .sentinel, .sentinel, .sentinel, .sentinel, .pinned], laidTests := true, laidLooks := .later }
def ShowBackUptoCardSaid : Prop := Claim7.holds Tryz.pinned (.plain (OpenSpec.upto showBackSpec)) showBackUptoCard

/-- THE SECOND FORM's CARD OF 'tapewrightlaw11.ShowSame'. -/
def showSameUptoCard : Claim7 := { stood := { row := showSameUptoRow, standIns := [], harness := (true, "fb1af7536014a3cfc210cf11ea8a697b3eff81a37a579b7a3656a0efa6388bcc"), looks := true }, kinds := [], alts := [], laidByText := true, laidKinds := [.data, .data, .data, .data, .sentinel, .sentinel, .sentinel, .sentinel, .pinned], laidTests := true, laidLooks := .later }
def ShowSameUptoCardSaid : Prop := Claim7.holds Tryz.pinned (.plain (OpenSpec.upto showSameSpec)) showSameUptoCard

/-- THE SECOND FORM's CARD OF 'tapewrightlaw11.ShowBuild'. -/
def showBuildUptoCard : Claim7 := { stood := { row := showBuildUptoRow, standIns := [], harness := (true, "fb1af7536014a3cfc210cf11ea8a697b3eff81a37a579b7a3656a0efa6388bcc"), looks := true }, kinds := [], alts := [], laidByText := true, laidKinds := [.data, .data, .data, .data, .sentinel, .sentinel, .sentinel, .sentinel, .pinned], laidTests := true, laidLooks := .later }
def ShowBuildUptoCardSaid : Prop := Claim7.holds Tryz.pinned (.plain (OpenSpec.upto showBuildSpec)) showBuildUptoCard
end Rows
end Go.Proofs.YtffpponklejidaaGreatDoor
