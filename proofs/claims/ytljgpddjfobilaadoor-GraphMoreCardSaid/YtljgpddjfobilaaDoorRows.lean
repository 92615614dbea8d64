/-
  NARROWER THAN 'FOR EVERY INPUT', by the rows' own cells (each row's printed sentence says how): GraphShapes: laid · GraphNames: laid · GraphMore: laid · PlanApart: laid · PlanKeep: laid · PlanFew: laid · PlanMore: laid · PlanLast: laid.
  DERIVED. THE GIVEN ROWS OF THIS SEAT. 8 by the template 'for every input the law returns true; each argument reads behind the call as it read before'; 0 by the template 'total and deterministic' (their statements: YtljgpddjfobilaaDoorTotals.lean).
  GIVEN WITH THE SEED: the statements are not yours to turn. If you find one false, say at which input.
  Laid BY PROGRAM, IN A SANDBOX (cutbox-rows.mjs): the forced cells as the released guide's own fill.sh prints them over the translation edd2e205d48a4f6b… (all of the seat's roots in one cut). By AI agents, Wed Nov 11 2026. No macro, syntax, notation, axiom, sorry.
-/
import Derived.Test.YtljgpddjfobilaaDoorChecked
import GoSem.PinnedTables
import GoSem.Claim
import GoSem.ClaimJoined
import GoSem.ClaimMapViews
import Derived.JoinedTies
import Derived.KernelRfl
namespace Go.Proofs.YtljgpddjfobilaaDoor
/- THE CELL 'sum', in the pinned program and in every row, IS THE sha256 OF THE DUMP (.gsa) THAT YtljgpddjfobilaaDoorProg.lean LOADS. Nothing in Lean hashes anything: it is a label: what it is worth is what the hold of that sum in a sandbox is worth. -/
noncomputable def Tryd.pinned : Pinned := { name := "ytljgpddjfobilaadoor", sum := "edd2e205d48a4f6b5f93d247c69433de680ba1b8bc357938e4a7fd6ca7935d59", checked := Tryd.checked }
namespace Rows
def none {H : Type} : Left H := { results := [], args := [] }

/- WHAT THE LISTED PACKAGE-LEVEL VARIABLES READ AS WHEN THE CALL BEGINS. Each datum BY PROGRAM (the guide's laid-datum.mjs) off the statement by which the dump's own 'gosem.cut.vars' lays the variable. In a bare row this is a premise. The card (YtljgpddjfobilaaDoorCards.lean) ties it to the program's text. -/
def laid_unicode_utf8_acceptRanges {H : Type} : DataW H := .agg [.agg [.lit (.int .u8 128), .lit (.int .u8 191)], .agg [.lit (.int .u8 160), .lit (.int .u8 191)], .agg [.lit (.int .u8 128), .lit (.int .u8 159)], .agg [.lit (.int .u8 144), .lit (.int .u8 191)], .agg [.lit (.int .u8 128), .lit (.int .u8 143)], .agg [.lit (.int .u8 0), .lit (.int .u8 0)], .agg [.lit (.int .u8 0), .lit (.int .u8 0)], .agg [.lit (.int .u8 0), .lit (.int .u8 0)], .agg [.lit (.int .u8 0), .lit (.int .u8 0)], .agg [.lit (.int .u8 0), .lit (.int .u8 0)], .agg [.lit (.int .u8 0), .lit (.int .u8 0)], .agg [.lit (.int .u8 0), .lit (.int .u8 0)], .agg [.lit (.int .u8 0), .lit (.int .u8 0)], .agg [.lit (.int .u8 0), .lit (.int .u8 0)], .agg [.lit (.int .u8 0), .lit (.int .u8 0)], .agg [.lit (.int .u8 0), .lit (.int .u8 0)]]
def laid_tapewright_rat_errForm {H : Type} : DataW H := .iface "*errors.errorString" (.ptr (.agg [.lit (.string [110, 111, 32, 114, 97, 116, 105, 111, 110, 97, 108])]))
def laid_tapewright_rat_errZero {H : Type} : DataW H := .iface "*errors.errorString" (.ptr (.agg [.lit (.string [98, 121, 32, 110, 111, 117, 103, 104, 116])]))
/-- One of Go's own tables, pinned by name: the form's constant. -/
def laid_unicode_utf8_first : DataW Unit := Go.Pinned.utf8First

/-- 'tapewrightlaw10.GraphShapes': WHATEVER THE INPUT: true; the input reads as it did. -/
def graphShapesSpec : ChangeSpec := { name := "graphShapes", fn := fun _ => fun
  | [d] => { results := [.lit (.bool true)], args := [d] }
  | _ => none }
def graphShapesRow : OpenClaim := { program := "ytljgpddjfobilaadoor", sum := "edd2e205d48a4f6b5f93d247c69433de680ba1b8bc357938e4a7fd6ca7935d59", func := "tapewright/tapewrightlaw10.GraphShapes", spec := "graphShapes", inPlace := ["internal/bytealg.IndexByteString", "internal/bytealg.IndexString"], unfollowed := true, recurses := true, named := ["unicode/utf8.first", "unicode/utf8.acceptRanges", "tapewright/rat.errForm", "internal/bytealg.MaxLen", "tapewright/rat.errZero"], apart := false, laid := [("unicode/utf8.acceptRanges", laid_unicode_utf8_acceptRanges), ("tapewright/rat.errForm", laid_tapewright_rat_errForm), ("tapewright/rat.errZero", laid_tapewright_rat_errZero), ("unicode/utf8.first", laid_unicode_utf8_first)] }
def GraphShapesSaid : Prop := graphShapesRow.holds Tryd.pinned (OpenSpec.ofChange graphShapesSpec)

/-- ITS FALSE NEIGHBOUR: 'it returns false'. Refute it at one input. -/
def graphShapesWrong : ChangeSpec := { name := "graphShapes", fn := fun _ => fun
  | [d] => { results := [.lit (.bool false)], args := [d] }
  | _ => none }
def GraphShapesWrongFalsely : Prop := graphShapesRow.holds Tryd.pinned (OpenSpec.ofChange graphShapesWrong)

/-- 'tapewrightlaw10.GraphNames': WHATEVER THE INPUT: true; the input reads as it did. -/
def graphNamesSpec : ChangeSpec := { name := "graphNames", fn := fun _ => fun
  | [d1, d2] => { results := [.lit (.bool true)], args := [d1, d2] }
  | _ => none }
def graphNamesRow : OpenClaim := { program := "ytljgpddjfobilaadoor", sum := "edd2e205d48a4f6b5f93d247c69433de680ba1b8bc357938e4a7fd6ca7935d59", func := "tapewright/tapewrightlaw10.GraphNames", spec := "graphNames", inPlace := ["internal/bytealg.IndexByteString", "internal/bytealg.IndexString"], unfollowed := true, recurses := true, named := ["unicode/utf8.first", "unicode/utf8.acceptRanges", "tapewright/rat.errForm", "internal/bytealg.MaxLen", "tapewright/rat.errZero"], apart := false, laid := [("unicode/utf8.acceptRanges", laid_unicode_utf8_acceptRanges), ("tapewright/rat.errForm", laid_tapewright_rat_errForm), ("tapewright/rat.errZero", laid_tapewright_rat_errZero), ("unicode/utf8.first", laid_unicode_utf8_first)] }
def GraphNamesSaid : Prop := graphNamesRow.holds Tryd.pinned (OpenSpec.ofChange graphNamesSpec)

/-- ITS FALSE NEIGHBOUR: 'it returns false'. Refute it at one input. -/
def graphNamesWrong : ChangeSpec := { name := "graphNames", fn := fun _ => fun
  | [d1, d2] => { results := [.lit (.bool false)], args := [d1, d2] }
  | _ => none }
def GraphNamesWrongFalsely : Prop := graphNamesRow.holds Tryd.pinned (OpenSpec.ofChange graphNamesWrong)

/-- 'tapewrightlaw10.GraphMore': WHATEVER THE INPUT: true; the input reads as it did. -/
def graphMoreSpec : ChangeSpec := { name := "graphMore", fn := fun _ => fun
  | [d1, d2] => { results := [.lit (.bool true)], args := [d1, d2] }
  | _ => none }
def graphMoreRow : OpenClaim := { program := "ytljgpddjfobilaadoor", sum := "edd2e205d48a4f6b5f93d247c69433de680ba1b8bc357938e4a7fd6ca7935d59", func := "tapewright/tapewrightlaw10.GraphMore", spec := "graphMore", inPlace := ["internal/bytealg.IndexByteString", "internal/bytealg.IndexString"], unfollowed := true, recurses := true, named := ["unicode/utf8.first", "unicode/utf8.acceptRanges", "tapewright/rat.errForm", "internal/bytealg.MaxLen", "tapewright/rat.errZero"], apart := false, laid := [("unicode/utf8.acceptRanges", laid_unicode_utf8_acceptRanges), ("tapewright/rat.errForm", laid_tapewright_rat_errForm), ("tapewright/rat.errZero", laid_tapewright_rat_errZero), ("unicode/utf8.first", laid_unicode_utf8_first)] }
def GraphMoreSaid : Prop := graphMoreRow.holds Tryd.pinned (OpenSpec.ofChange graphMoreSpec)

/-- ITS FALSE NEIGHBOUR: 'it returns false'. Refute it at one input. -/
def graphMoreWrong : ChangeSpec := { name := "graphMore", fn := fun _ => fun
  | [d1, d2] => { results := [.lit (.bool false)], args := [d1, d2] }
  | _ => none }
def GraphMoreWrongFalsely : Prop := graphMoreRow.holds Tryd.pinned (OpenSpec.ofChange graphMoreWrong)

/-- 'tapewrightlaw17.PlanApart': WHATEVER THE INPUT: true; the input reads as it did. -/
def planApartSpec : ChangeSpec := { name := "planApart", fn := fun _ => fun
  | [d1, d2] => { results := [.lit (.bool true)], args := [d1, d2] }
  | _ => none }
def planApartRow : OpenClaim := { program := "ytljgpddjfobilaadoor", sum := "edd2e205d48a4f6b5f93d247c69433de680ba1b8bc357938e4a7fd6ca7935d59", func := "tapewright/tapewrightlaw17.PlanApart", spec := "planApart", inPlace := ["internal/bytealg.IndexByteString", "internal/bytealg.IndexString"], unfollowed := true, recurses := true, named := ["unicode/utf8.first", "unicode/utf8.acceptRanges", "tapewright/rat.errForm", "internal/bytealg.MaxLen", "tapewright/rat.errZero"], apart := false, laid := [("unicode/utf8.acceptRanges", laid_unicode_utf8_acceptRanges), ("tapewright/rat.errForm", laid_tapewright_rat_errForm), ("tapewright/rat.errZero", laid_tapewright_rat_errZero), ("unicode/utf8.first", laid_unicode_utf8_first)] }
def PlanApartSaid : Prop := planApartRow.holds Tryd.pinned (OpenSpec.ofChange planApartSpec)

/-- ITS FALSE NEIGHBOUR: 'it returns false'. Refute it at one input. -/
def planApartWrong : ChangeSpec := { name := "planApart", fn := fun _ => fun
  | [d1, d2] => { results := [.lit (.bool false)], args := [d1, d2] }
  | _ => none }
def PlanApartWrongFalsely : Prop := planApartRow.holds Tryd.pinned (OpenSpec.ofChange planApartWrong)

/-- 'tapewrightlaw17.PlanKeep': WHATEVER THE INPUT: true; the input reads as it did. -/
def planKeepSpec : ChangeSpec := { name := "planKeep", fn := fun _ => fun
  | [d1, d2] => { results := [.lit (.bool true)], args := [d1, d2] }
  | _ => none }
def planKeepRow : OpenClaim := { program := "ytljgpddjfobilaadoor", sum := "edd2e205d48a4f6b5f93d247c69433de680ba1b8bc357938e4a7fd6ca7935d59", func := "tapewright/tapewrightlaw17.PlanKeep", spec := "planKeep", inPlace := ["internal/bytealg.IndexByteString", "internal/bytealg.IndexString"], unfollowed := true, recurses := true, named := ["unicode/utf8.first", "unicode/utf8.acceptRanges", "tapewright/rat.errForm", "internal/bytealg.MaxLen", "tapewright/rat.errZero"], apart := false, laid := [("unicode/utf8.acceptRanges", laid_unicode_utf8_acceptRanges), ("tapewright/rat.errForm", laid_tapewright_rat_errForm), ("tapewright/rat.errZero", laid_tapewright_rat_errZero), ("unicode/utf8.first", laid_unicode_utf8_first)] }
def PlanKeepSaid : Prop := planKeepRow.holds Tryd.pinned (OpenSpec.ofChange planKeepSpec)

/-- ITS FALSE NEIGHBOUR: 'it returns false'. Refute it at one input. -/
def planKeepWrong : ChangeSpec := { name := "planKeep", fn := fun _ => fun
  | [d1, d2] => { results := [.lit (.bool false)], args := [d1, d2] }
  | _ => none }
def PlanKeepWrongFalsely : Prop := planKeepRow.holds Tryd.pinned (OpenSpec.ofChange planKeepWrong)

/-- 'tapewrightlaw17.PlanFew': WHATEVER THE INPUT: true; the input reads as it did. -/
def planFewSpec : ChangeSpec := { name := "planFew", fn := fun _ => fun
  | [d1, d2] => { results := [.lit (.bool true)], args := [d1, d2] }
  | _ => none }
def planFewRow : OpenClaim := { program := "ytljgpddjfobilaadoor", sum := "edd2e205d48a4f6b5f93d247c69433de680ba1b8bc357938e4a7fd6ca7935d59", func := "tapewright/tapewrightlaw17.PlanFew", spec := "planFew", inPlace := ["internal/bytealg.IndexByteString", "internal/bytealg.IndexString"], unfollowed := true, recurses := true, named := ["unicode/utf8.first", "unicode/utf8.acceptRanges", "tapewright/rat.errForm", "internal/bytealg.MaxLen", "tapewright/rat.errZero"], apart := false, laid := [("unicode/utf8.acceptRanges", laid_unicode_utf8_acceptRanges), ("tapewright/rat.errForm", laid_tapewright_rat_errForm), ("tapewright/rat.errZero", laid_tapewright_rat_errZero), ("unicode/utf8.first", laid_unicode_utf8_first)] }
def PlanFewSaid : Prop := planFewRow.holds Tryd.pinned (OpenSpec.ofChange planFewSpec)

/-- ITS FALSE NEIGHBOUR: 'it returns false'. Refute it at one input. -/
def planFewWrong : ChangeSpec := { name := "planFew", fn := fun _ => fun
  | [d1, d2] => { results := [.lit (.bool false)], args := [d1, d2] }
  | _ => none }
def PlanFewWrongFalsely : Prop := planFewRow.holds Tryd.pinned (OpenSpec.ofChange planFewWrong)

/-- 'tapewrightlaw17.PlanMore': WHATEVER THE INPUT: true; the input reads as it did. -/
def planMoreSpec : ChangeSpec := { name := "planMore", fn := fun _ => fun
  | [d1, d2] => { results := [.lit (.bool true)], args := [d1, d2] }
  | _ => none }
def planMoreRow : OpenClaim := { program := "ytljgpddjfobilaadoor", sum := "edd2e205d48a4f6b5f93d247c69433de680ba1b8bc357938e4a7fd6ca7935d59", func := "tapewright/tapewrightlaw17.PlanMore", spec := "planMore", inPlace := ["internal/bytealg.IndexByteString", "internal/bytealg.IndexString"], unfollowed := true, recurses := true, named := ["unicode/utf8.first", "unicode/utf8.acceptRanges", "tapewright/rat.errForm", "internal/bytealg.MaxLen", "tapewright/rat.errZero"], apart := false, laid := [("unicode/utf8.acceptRanges", laid_unicode_utf8_acceptRanges), ("tapewright/rat.errForm", laid_tapewright_rat_errForm), ("tapewright/rat.errZero", laid_tapewright_rat_errZero), ("unicode/utf8.first", laid_unicode_utf8_first)] }
def PlanMoreSaid : Prop := planMoreRow.holds Tryd.pinned (OpenSpec.ofChange planMoreSpec)

/-- ITS FALSE NEIGHBOUR: 'it returns false'. Refute it at one input. -/
def planMoreWrong : ChangeSpec := { name := "planMore", fn := fun _ => fun
  | [d1, d2] => { results := [.lit (.bool false)], args := [d1, d2] }
  | _ => none }
def PlanMoreWrongFalsely : Prop := planMoreRow.holds Tryd.pinned (OpenSpec.ofChange planMoreWrong)

/-- 'tapewrightlaw17.PlanLast': WHATEVER THE INPUT: true; the input reads as it did. -/
def planLastSpec : ChangeSpec := { name := "planLast", fn := fun _ => fun
  | [d1, d2] => { results := [.lit (.bool true)], args := [d1, d2] }
  | _ => none }
def planLastRow : OpenClaim := { program := "ytljgpddjfobilaadoor", sum := "edd2e205d48a4f6b5f93d247c69433de680ba1b8bc357938e4a7fd6ca7935d59", func := "tapewright/tapewrightlaw17.PlanLast", spec := "planLast", inPlace := ["internal/bytealg.IndexByteString", "internal/bytealg.IndexString"], unfollowed := true, recurses := true, named := ["unicode/utf8.first", "unicode/utf8.acceptRanges", "tapewright/rat.errForm", "internal/bytealg.MaxLen", "tapewright/rat.errZero"], apart := false, laid := [("unicode/utf8.acceptRanges", laid_unicode_utf8_acceptRanges), ("tapewright/rat.errForm", laid_tapewright_rat_errForm), ("tapewright/rat.errZero", laid_tapewright_rat_errZero), ("unicode/utf8.first", laid_unicode_utf8_first)] }
def PlanLastSaid : Prop := planLastRow.holds Tryd.pinned (OpenSpec.ofChange planLastSpec)

/-- ITS FALSE NEIGHBOUR: 'it returns false'. Refute it at one input. -/
def planLastWrong : ChangeSpec := { name := "planLast", fn := fun _ => fun
  | [d1, d2] => { results := [.lit (.bool false)], args := [d1, d2] }
  | _ => none }
def PlanLastWrongFalsely : Prop := planLastRow.holds Tryd.pinned (OpenSpec.ofChange planLastWrong)

/- THE SECOND FORM. 'bulk': how many values and letters a reading holds, each counted each time it is reached (what is shared counts as often as it is met; a slice's spare places count too). A statement '..UptoSaid' is the law's where the arguments, and the package variables that the reading takes, are together of bulk at most 1048576: NARROWER than '..Said'. Prove '..Said' where nothing that the law and all that it calls make is longer than what came in: it says more and counts as full. Else prove '..UptoSaid'. A law counts once. -/
mutual
def uptoBulk {H : Type} : DataW H → Nat
  | .lit (.string bytes) => bytes.length + 1
  | .lit _ => 1
  | .nil => 1
  | .ptr d => uptoBulk d + 1
  | .slice elems spare => uptoBulkAll elems + uptoBulkAll spare + 1
  | .agg parts => uptoBulkAll parts + 1
  | .iface _ d => uptoBulk d + 1
  | .map entries => uptoBulkEntries entries + 1
  | .held _ => 1
def uptoBulkAll {H : Type} : List (DataW H) → Nat
  | [] => 0
  | d :: r => uptoBulk d + uptoBulkAll r
def uptoBulkEntries {H : Type} : List (Lit × DataW H) → Nat
  | [] => 0
  | x :: r => uptoBulkEntry x + uptoBulkEntries r
def uptoBulkEntry {H : Type} : Lit × DataW H → Nat
  | (.string bytes, d) => bytes.length + uptoBulk d + 1
  | (_, d) => uptoBulk d + 1
 end
def uptoSmall : (H : Type) → List (DataW H) → Bool := fun _ ds => decide (uptoBulkAll ds ≤ 1048576)
def OpenSpec.upto (s : _root_.Go.ChangeSpec) : _root_.Go.OpenSpec := { _root_.Go.OpenSpec.ofChange s with cond := some uptoSmall }

/-- 'tapewrightlaw10.GraphShapes', WHERE WHAT IT READS IS OF BULK AT MOST 1048576: true; the input reads as it did. -/
def graphShapesUptoRow : OpenClaim := { program := "ytljgpddjfobilaadoor", sum := "edd2e205d48a4f6b5f93d247c69433de680ba1b8bc357938e4a7fd6ca7935d59", func := "tapewright/tapewrightlaw10.GraphShapes", spec := "graphShapes", inPlace := ["internal/bytealg.IndexByteString", "internal/bytealg.IndexString"], unfollowed := true, recurses := true, named := ["unicode/utf8.first", "unicode/utf8.acceptRanges", "tapewright/rat.errForm", "internal/bytealg.MaxLen", "tapewright/rat.errZero"], apart := false, laid := [("unicode/utf8.acceptRanges", laid_unicode_utf8_acceptRanges), ("tapewright/rat.errForm", laid_tapewright_rat_errForm), ("tapewright/rat.errZero", laid_tapewright_rat_errZero), ("unicode/utf8.first", laid_unicode_utf8_first)], narrowed := true }
def GraphShapesUptoSaid : Prop := graphShapesUptoRow.holds Tryd.pinned (OpenSpec.upto graphShapesSpec)

/-- 'tapewrightlaw10.GraphNames', WHERE WHAT IT READS IS OF BULK AT MOST 1048576: true; the input reads as it did. -/
def graphNamesUptoRow : OpenClaim := { program := "ytljgpddjfobilaadoor", sum := "edd2e205d48a4f6b5f93d247c69433de680ba1b8bc357938e4a7fd6ca7935d59", func := "tapewright/tapewrightlaw10.GraphNames", spec := "graphNames", inPlace := ["internal/bytealg.IndexByteString", "internal/bytealg.IndexString"], unfollowed := true, recurses := true, named := ["unicode/utf8.first", "unicode/utf8.acceptRanges", "tapewright/rat.errForm", "internal/bytealg.MaxLen", "tapewright/rat.errZero"], apart := false, laid := [("unicode/utf8.acceptRanges", laid_unicode_utf8_acceptRanges), ("tapewright/rat.errForm", laid_tapewright_rat_errForm), ("tapewright/rat.errZero", laid_tapewright_rat_errZero), ("unicode/utf8.first", laid_unicode_utf8_first)], narrowed := true }
def GraphNamesUptoSaid : Prop := graphNamesUptoRow.holds Tryd.pinned (OpenSpec.upto graphNamesSpec)

/-- 'tapewrightlaw10.GraphMore', WHERE WHAT IT READS IS OF BULK AT MOST 1048576: true; the input reads as it did. -/
def graphMoreUptoRow : OpenClaim := { program := "ytljgpddjfobilaadoor", sum := "edd2e205d48a4f6b5f93d247c69433de680ba1b8bc357938e4a7fd6ca7935d59", func := "tapewright/tapewrightlaw10.GraphMore", spec := "graphMore", inPlace := ["internal/bytealg.IndexByteString", "internal/bytealg.IndexString"], unfollowed := true, recurses := true, named := ["unicode/utf8.first", "unicode/utf8.acceptRanges", "tapewright/rat.errForm", "internal/bytealg.MaxLen", "tapewright/rat.errZero"], apart := false, laid := [("unicode/utf8.acceptRanges", laid_unicode_utf8_acceptRanges), ("tapewright/rat.errForm", laid_tapewright_rat_errForm), ("tapewright/rat.errZero", laid_tapewright_rat_errZero), ("unicode/utf8.first", laid_unicode_utf8_first)], narrowed := true }
def GraphMoreUptoSaid : Prop := graphMoreUptoRow.holds Tryd.pinned (OpenSpec.upto graphMoreSpec)

/-- 'tapewrightlaw17.PlanApart', WHERE WHAT IT READS IS OF BULK AT MOST 1048576: true; the input reads as it did. -/
def planApartUptoRow : OpenClaim := { program := "ytljgpddjfobilaadoor", sum := "edd2e205d48a4f6b5f93d247c69433de680ba1b8bc357938e4a7fd6ca7935d59", func := "tapewright/tapewrightlaw17.PlanApart", spec := "planApart", inPlace := ["internal/bytealg.IndexByteString", "internal/bytealg.IndexString"], unfollowed := true, recurses := true, named := ["unicode/utf8.first", "unicode/utf8.acceptRanges", "tapewright/rat.errForm", "internal/bytealg.MaxLen", "tapewright/rat.errZero"], apart := false, laid := [("unicode/utf8.acceptRanges", laid_unicode_utf8_acceptRanges), ("tapewright/rat.errForm", laid_tapewright_rat_errForm), ("tapewright/rat.errZero", laid_tapewright_rat_errZero), ("unicode/utf8.first", laid_unicode_utf8_first)], narrowed := true }
def PlanApartUptoSaid : Prop := planApartUptoRow.holds Tryd.pinned (OpenSpec.upto planApartSpec)

/-- 'tapewrightlaw17.PlanKeep', WHERE WHAT IT READS IS OF BULK AT MOST 1048576: true; the input reads as it did. -/
def planKeepUptoRow : OpenClaim := { program := "ytljgpddjfobilaadoor", sum := "edd2e205d48a4f6b5f93d247c69433de680ba1b8bc357938e4a7fd6ca7935d59", func := "tapewright/tapewrightlaw17.PlanKeep", spec := "planKeep", inPlace := ["internal/bytealg.IndexByteString", "internal/bytealg.IndexString"], unfollowed := true, recurses := true, named := ["unicode/utf8.first", "unicode/utf8.acceptRanges", "tapewright/rat.errForm", "internal/bytealg.MaxLen", "tapewright/rat.errZero"], apart := false, laid := [("unicode/utf8.acceptRanges", laid_unicode_utf8_acceptRanges), ("tapewright/rat.errForm", laid_tapewright_rat_errForm), ("tapewright/rat.errZero", laid_tapewright_rat_errZero), ("unicode/utf8.first", laid_unicode_utf8_first)], narrowed := true }
def PlanKeepUptoSaid : Prop := planKeepUptoRow.holds Tryd.pinned (OpenSpec.upto planKeepSpec)

/-- 'tapewrightlaw17.PlanFew', WHERE WHAT IT READS IS OF BULK AT MOST 1048576: true; the input reads as it did. -/
def planFewUptoRow : OpenClaim := { program := "ytljgpddjfobilaadoor", sum := "edd2e205d48a4f6b5f93d247c69433de680ba1b8bc357938e4a7fd6ca7935d59", func := "tapewright/tapewrightlaw17.PlanFew", spec := "planFew", inPlace := ["internal/bytealg.IndexByteString", "internal/bytealg.IndexString"], unfollowed := true, recurses := true, named := ["unicode/utf8.first", "unicode/utf8.acceptRanges", "tapewright/rat.errForm", "internal/bytealg.MaxLen", "tapewright/rat.errZero"], apart := false, laid := [("unicode/utf8.acceptRanges", laid_unicode_utf8_acceptRanges), ("tapewright/rat.errForm", laid_tapewright_rat_errForm), ("tapewright/rat.errZero", laid_tapewright_rat_errZero), ("unicode/utf8.first", laid_unicode_utf8_first)], narrowed := true }
def PlanFewUptoSaid : Prop := planFewUptoRow.holds Tryd.pinned (OpenSpec.upto planFewSpec)

/-- 'tapewrightlaw17.PlanMore', WHERE WHAT IT READS IS OF BULK AT MOST 1048576: true; the input reads as it did. -/
def planMoreUptoRow : OpenClaim := { program := "ytljgpddjfobilaadoor", sum := "edd2e205d48a4f6b5f93d247c69433de680ba1b8bc357938e4a7fd6ca7935d59", func := "tapewright/tapewrightlaw17.PlanMore", spec := "planMore", inPlace := ["internal/bytealg.IndexByteString", "internal/bytealg.IndexString"], unfollowed := true, recurses := true, named := ["unicode/utf8.first", "unicode/utf8.acceptRanges", "tapewright/rat.errForm", "internal/bytealg.MaxLen", "tapewright/rat.errZero"], apart := false, laid := [("unicode/utf8.acceptRanges", laid_unicode_utf8_acceptRanges), ("tapewright/rat.errForm", laid_tapewright_rat_errForm), ("tapewright/rat.errZero", laid_tapewright_rat_errZero), ("unicode/utf8.first", laid_unicode_utf8_first)], narrowed := true }
def PlanMoreUptoSaid : Prop := planMoreUptoRow.holds Tryd.pinned (OpenSpec.upto planMoreSpec)

/-- 'tapewrightlaw17.PlanLast', WHERE WHAT IT READS IS OF BULK AT MOST 1048576: true; the input reads as it did. -/
def planLastUptoRow : OpenClaim := { program := "ytljgpddjfobilaadoor", sum := "edd2e205d48a4f6b5f93d247c69433de680ba1b8bc357938e4a7fd6ca7935d59", func := "tapewright/tapewrightlaw17.PlanLast", spec := "planLast", inPlace := ["internal/bytealg.IndexByteString", "internal/bytealg.IndexString"], unfollowed := true, recurses := true, named := ["unicode/utf8.first", "unicode/utf8.acceptRanges", "tapewright/rat.errForm", "internal/bytealg.MaxLen", "tapewright/rat.errZero"], apart := false, laid := [("unicode/utf8.acceptRanges", laid_unicode_utf8_acceptRanges), ("tapewright/rat.errForm", laid_tapewright_rat_errForm), ("tapewright/rat.errZero", laid_tapewright_rat_errZero), ("unicode/utf8.first", laid_unicode_utf8_first)], narrowed := true }
def PlanLastUptoSaid : Prop := planLastUptoRow.holds Tryd.pinned (OpenSpec.upto planLastSpec)

end Rows
end Go.Proofs.YtljgpddjfobilaaDoor
