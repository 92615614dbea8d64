/-
  NARROWER THAN 'FOR EVERY INPUT', by the rows' own cells (each row's printed sentence says how): GraphRight: laid · GraphLoss: laid · PlanMakes: laid.
  DERIVED. THE GIVEN ROWS OF THIS SEAT. 3 by the template 'for every input the law returns true; each argument reads behind the call as it read before'; 0 by the template 'total and deterministic' (their statements: YtljgpddjfobilaaGreatDoorTotals.lean).
  GIVEN WITH THE SEED: the statements are not yours to turn. If you find one false, say at which input.
  Laid BY PROGRAM, IN A SANDBOX (cutbox-rows.mjs): the forced cells as the released guide's own fill.sh prints them over the translation bdd909fb6709f494… (all of the seat's roots in one cut). By AI agents, Wed Nov 11 2026. No macro, syntax, notation, axiom, sorry.
-/
import Derived.Test.YtljgpddjfobilaaGreatDoorChecked
import GoSem.PinnedTables
import GoSem.Claim
import GoSem.ClaimJoined
import GoSem.ClaimMapViews
import Derived.JoinedTies
import Derived.KernelRfl
namespace Go.Proofs.YtljgpddjfobilaaGreatDoor
/- THE CELL 'sum', in the pinned program and in every row, IS THE sha256 OF THE DUMP (.gsa) THAT YtljgpddjfobilaaGreatDoorProg.lean LOADS. Nothing in Lean hashes anything: it is a label: what it is worth is what the hold of that sum in a sandbox is worth. -/
noncomputable def Tryz.pinned : Pinned := { name := "ytljgpddjfobilaagreatdoor", sum := "bdd909fb6709f4949ba0c1e2b3b600beba54f92fb274848e62ef0386e1cb888b", checked := Tryz.checked }
namespace Rows
def none {H : Type} : Left H := { results := [], args := [] }

/- WHAT THE LISTED PACKAGE-LEVEL VARIABLES READ AS WHEN THE CALL BEGINS. Each datum BY PROGRAM (the guide's laid-datum.mjs) off the statement by which the dump's own 'gosem.cut.vars' lays the variable. In a bare row this is a premise. The card (YtljgpddjfobilaaGreatDoorCards.lean) ties it to the program's text. -/
def laid_unicode_utf8_acceptRanges {H : Type} : DataW H := .agg [.agg [.lit (.int .u8 128), .lit (.int .u8 191)], .agg [.lit (.int .u8 160), .lit (.int .u8 191)], .agg [.lit (.int .u8 128), .lit (.int .u8 159)], .agg [.lit (.int .u8 144), .lit (.int .u8 191)], .agg [.lit (.int .u8 128), .lit (.int .u8 143)], .agg [.lit (.int .u8 0), .lit (.int .u8 0)], .agg [.lit (.int .u8 0), .lit (.int .u8 0)], .agg [.lit (.int .u8 0), .lit (.int .u8 0)], .agg [.lit (.int .u8 0), .lit (.int .u8 0)], .agg [.lit (.int .u8 0), .lit (.int .u8 0)], .agg [.lit (.int .u8 0), .lit (.int .u8 0)], .agg [.lit (.int .u8 0), .lit (.int .u8 0)], .agg [.lit (.int .u8 0), .lit (.int .u8 0)], .agg [.lit (.int .u8 0), .lit (.int .u8 0)], .agg [.lit (.int .u8 0), .lit (.int .u8 0)], .agg [.lit (.int .u8 0), .lit (.int .u8 0)]]
def laid_tapewright_rat_errForm {H : Type} : DataW H := .iface "*errors.errorString" (.ptr (.agg [.lit (.string [110, 111, 32, 114, 97, 116, 105, 111, 110, 97, 108])]))
def laid_tapewright_rat_errZero {H : Type} : DataW H := .iface "*errors.errorString" (.ptr (.agg [.lit (.string [98, 121, 32, 110, 111, 117, 103, 104, 116])]))
/-- One of Go's own tables, pinned by name: the form's constant. -/
def laid_unicode_utf8_first : DataW Unit := Go.Pinned.utf8First

/-- 'tapewrightlaw10.GraphRight': WHATEVER THE INPUT: true; the input reads as it did. -/
def graphRightSpec : ChangeSpec := { name := "graphRight", fn := fun _ => fun
  | [d1, d2] => { results := [.lit (.bool true)], args := [d1, d2] }
  | _ => none }
def graphRightRow : OpenClaim := { program := "ytljgpddjfobilaagreatdoor", sum := "bdd909fb6709f4949ba0c1e2b3b600beba54f92fb274848e62ef0386e1cb888b", func := "tapewright/tapewrightlaw10.GraphRight", spec := "graphRight", inPlace := ["internal/bytealg.IndexByteString", "internal/bytealg.IndexString"], unfollowed := true, recurses := true, named := ["unicode/utf8.first", "unicode/utf8.acceptRanges", "tapewright/rat.errForm", "internal/bytealg.MaxLen", "tapewright/rat.errZero"], apart := false, laid := [("unicode/utf8.acceptRanges", laid_unicode_utf8_acceptRanges), ("tapewright/rat.errForm", laid_tapewright_rat_errForm), ("tapewright/rat.errZero", laid_tapewright_rat_errZero), ("unicode/utf8.first", laid_unicode_utf8_first)] }
def GraphRightSaid : Prop := graphRightRow.holds Tryz.pinned (OpenSpec.ofChange graphRightSpec)

/-- ITS FALSE NEIGHBOUR: 'it returns false'. Refute it at one input. -/
def graphRightWrong : ChangeSpec := { name := "graphRight", fn := fun _ => fun
  | [d1, d2] => { results := [.lit (.bool false)], args := [d1, d2] }
  | _ => none }
def GraphRightWrongFalsely : Prop := graphRightRow.holds Tryz.pinned (OpenSpec.ofChange graphRightWrong)

/-- 'tapewrightlaw10.GraphLoss': WHATEVER THE INPUT: true; the input reads as it did. -/
def graphLossSpec : ChangeSpec := { name := "graphLoss", fn := fun _ => fun
  | [d1, d2] => { results := [.lit (.bool true)], args := [d1, d2] }
  | _ => none }
def graphLossRow : OpenClaim := { program := "ytljgpddjfobilaagreatdoor", sum := "bdd909fb6709f4949ba0c1e2b3b600beba54f92fb274848e62ef0386e1cb888b", func := "tapewright/tapewrightlaw10.GraphLoss", spec := "graphLoss", inPlace := ["internal/bytealg.IndexByteString", "internal/bytealg.IndexString"], unfollowed := true, recurses := true, named := ["unicode/utf8.first", "unicode/utf8.acceptRanges", "tapewright/rat.errForm", "internal/bytealg.MaxLen", "tapewright/rat.errZero"], apart := false, laid := [("unicode/utf8.acceptRanges", laid_unicode_utf8_acceptRanges), ("tapewright/rat.errForm", laid_tapewright_rat_errForm), ("tapewright/rat.errZero", laid_tapewright_rat_errZero), ("unicode/utf8.first", laid_unicode_utf8_first)] }
def GraphLossSaid : Prop := graphLossRow.holds Tryz.pinned (OpenSpec.ofChange graphLossSpec)

/-- ITS FALSE NEIGHBOUR: 'it returns false'. Refute it at one input. -/
def graphLossWrong : ChangeSpec := { name := "graphLoss", fn := fun _ => fun
  | [d1, d2] => { results := [.lit (.bool false)], args := [d1, d2] }
  | _ => none }
def GraphLossWrongFalsely : Prop := graphLossRow.holds Tryz.pinned (OpenSpec.ofChange graphLossWrong)

/-- 'tapewrightlaw17.PlanMakes': WHATEVER THE INPUT: true; the input reads as it did. -/
def planMakesSpec : ChangeSpec := { name := "planMakes", fn := fun _ => fun
  | [d1, d2] => { results := [.lit (.bool true)], args := [d1, d2] }
  | _ => none }
def planMakesRow : OpenClaim := { program := "ytljgpddjfobilaagreatdoor", sum := "bdd909fb6709f4949ba0c1e2b3b600beba54f92fb274848e62ef0386e1cb888b", func := "tapewright/tapewrightlaw17.PlanMakes", spec := "planMakes", inPlace := ["internal/bytealg.IndexByteString", "internal/bytealg.IndexString"], unfollowed := true, recurses := true, named := ["unicode/utf8.first", "unicode/utf8.acceptRanges", "tapewright/rat.errForm", "internal/bytealg.MaxLen", "tapewright/rat.errZero"], apart := false, laid := [("unicode/utf8.acceptRanges", laid_unicode_utf8_acceptRanges), ("tapewright/rat.errForm", laid_tapewright_rat_errForm), ("tapewright/rat.errZero", laid_tapewright_rat_errZero), ("unicode/utf8.first", laid_unicode_utf8_first)] }
def PlanMakesSaid : Prop := planMakesRow.holds Tryz.pinned (OpenSpec.ofChange planMakesSpec)

/-- ITS FALSE NEIGHBOUR: 'it returns false'. Refute it at one input. -/
def planMakesWrong : ChangeSpec := { name := "planMakes", fn := fun _ => fun
  | [d1, d2] => { results := [.lit (.bool false)], args := [d1, d2] }
  | _ => none }
def PlanMakesWrongFalsely : Prop := planMakesRow.holds Tryz.pinned (OpenSpec.ofChange planMakesWrong)

/- THE SECOND FORM. 'bulk': how many values and letters a reading holds, each counted each time it is reached (what is shared counts as often as it is met; a slice's spare places count too). A statement '..UptoSaid' is the law's where the arguments, and the package variables that the reading takes, are together of bulk at most 1048576: NARROWER than '..Said'. Prove '..Said' where nothing that the law and all that it calls make is longer than what came in: it says more and counts as full. Else prove '..UptoSaid'. A law counts once. -/
mutual
def uptoBulk {H : Type} : DataW H → Nat
  | .lit (.string bytes) => bytes.length + 1
  | .lit _ => 1
  | .nil => 1
  | .ptr d => uptoBulk d + 1
  | .slice elems spare => uptoBulkAll elems + uptoBulkAll spare + 1
  | .agg parts => uptoBulkAll parts + 1
  | .iface _ d => uptoBulk d + 1
  | .map entries => uptoBulkEntries entries + 1
  | .held _ => 1
def uptoBulkAll {H : Type} : List (DataW H) → Nat
  | [] => 0
  | d :: r => uptoBulk d + uptoBulkAll r
def uptoBulkEntries {H : Type} : List (Lit × DataW H) → Nat
  | [] => 0
  | x :: r => uptoBulkEntry x + uptoBulkEntries r
def uptoBulkEntry {H : Type} : Lit × DataW H → Nat
  | (.string bytes, d) => bytes.length + uptoBulk d + 1
  | (_, d) => uptoBulk d + 1
 end
def uptoSmall : (H : Type) → List (DataW H) → Bool := fun _ ds => decide (uptoBulkAll ds ≤ 1048576)
def OpenSpec.upto (s : _root_.Go.ChangeSpec) : _root_.Go.OpenSpec := { _root_.Go.OpenSpec.ofChange s with cond := some uptoSmall }

/-- 'tapewrightlaw10.GraphRight', WHERE WHAT IT READS IS OF BULK AT MOST 1048576: true; the input reads as it did. -/
def graphRightUptoRow : OpenClaim := { program := "ytljgpddjfobilaagreatdoor", sum := "bdd909fb6709f4949ba0c1e2b3b600beba54f92fb274848e62ef0386e1cb888b", func := "tapewright/tapewrightlaw10.GraphRight", spec := "graphRight", inPlace := ["internal/bytealg.IndexByteString", "internal/bytealg.IndexString"], unfollowed := true, recurses := true, named := ["unicode/utf8.first", "unicode/utf8.acceptRanges", "tapewright/rat.errForm", "internal/bytealg.MaxLen", "tapewright/rat.errZero"], apart := false, laid := [("unicode/utf8.acceptRanges", laid_unicode_utf8_acceptRanges), ("tapewright/rat.errForm", laid_tapewright_rat_errForm), ("tapewright/rat.errZero", laid_tapewright_rat_errZero), ("unicode/utf8.first", laid_unicode_utf8_first)], narrowed := true }
def GraphRightUptoSaid : Prop := graphRightUptoRow.holds Tryz.pinned (OpenSpec.upto graphRightSpec)

/-- 'tapewrightlaw10.GraphLoss', WHERE WHAT IT READS IS OF BULK AT MOST 1048576: true; the input reads as it did. -/
def graphLossUptoRow : OpenClaim := { program := "ytljgpddjfobilaagreatdoor", sum := "bdd909fb6709f4949ba0c1e2b3b600beba54f92fb274848e62ef0386e1cb888b", func := "tapewright/tapewrightlaw10.GraphLoss", spec := "graphLoss", inPlace := ["internal/bytealg.IndexByteString", "internal/bytealg.IndexString"], unfollowed := true, recurses := true, named := ["unicode/utf8.first", "unicode/utf8.acceptRanges", "tapewright/rat.errForm", "internal/bytealg.MaxLen", "tapewright/rat.errZero"], apart := false, laid := [("unicode/utf8.acceptRanges", laid_unicode_utf8_acceptRanges), ("tapewright/rat.errForm", laid_tapewright_rat_errForm), ("tapewright/rat.errZero", laid_tapewright_rat_errZero), ("unicode/utf8.first", laid_unicode_utf8_first)], narrowed := true }
def GraphLossUptoSaid : Prop := graphLossUptoRow.holds Tryz.pinned (OpenSpec.upto graphLossSpec)

/-- 'tapewrightlaw17.PlanMakes', WHERE WHAT IT READS IS OF BULK AT MOST 1048576: true; the input reads as it did. -/
def planMakesUptoRow : OpenClaim := { program := "ytljgpddjfobilaagreatdoor", sum := "bdd909fb6709f4949ba0c1e2b3b600beba54f92fb274848e62ef0386e1cb888b", func := "tapewright/tapewrightlaw17.PlanMakes", spec := "planMakes", inPlace := ["internal/bytealg.IndexByteString", "internal/bytealg.IndexString"], unfollowed := true, recurses := true, named := ["unicode/utf8.first", "unicode/utf8.acceptRanges", "tapewright/rat.errForm", "internal/bytealg.MaxLen", "tapewright/rat.errZero"], apart := false, laid := [("unicode/utf8.acceptRanges", laid_unicode_utf8_acceptRanges), ("tapewright/rat.errForm", laid_tapewright_rat_errForm), ("tapewright/rat.errZero", laid_tapewright_rat_errZero), ("unicode/utf8.first", laid_unicode_utf8_first)], narrowed := true }
def PlanMakesUptoSaid : Prop := planMakesUptoRow.holds Tryz.pinned (OpenSpec.upto planMakesSpec)

end Rows
end Go.Proofs.YtljgpddjfobilaaGreatDoor
