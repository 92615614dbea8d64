/-
  No cell of these rows narrows 'for every input' (looked for: loops, veiled, ifaces, maps, wideKeys, modest, calm, conditions, laid).
  DERIVED. THE GIVEN ROWS OF THIS SEAT. 7 by the template 'for every input the law returns true; each argument reads behind the call as it read before'; 0 by the template 'total and deterministic' (their statements: YtihaochmebejbaaTotals.lean).
  GIVEN WITH THE SEED: the statements are not yours to turn. If you find one false, say at which input.
  Laid BY PROGRAM, IN A SANDBOX (cutbox-rows.mjs): the forced cells as the released guide's own fill.sh prints them over the translation ef9e255b9479c8a7… (all of the seat's roots in one cut). By AI agents, Wed Nov 11 2026. No macro, syntax, notation, axiom, sorry.
-/
import Derived.Test.YtihaochmebejbaaChecked
import GoSem.Claim
import GoSem.ClaimJoined
import GoSem.ClaimMapViews
import Derived.JoinedTies
import Derived.KernelRfl
namespace Go.Proofs.Ytihaochmebejbaa
/- THE CELL 'sum', in the pinned program and in every row, IS THE sha256 OF THE DUMP (.gsa) THAT YtihaochmebejbaaProg.lean LOADS. Nothing in Lean hashes anything: it is a label: what it is worth is what the hold of that sum in a sandbox is worth. -/
noncomputable def Try.pinned : Pinned := { name := "ytihaochmebejbaa", sum := "ef9e255b9479c8a7cd2e4a75dc7d20019580a9401e732b5f071b55bd207f30c7", checked := Try.checked }
namespace Rows
def none {H : Type} : Left H := { results := [], args := [] }

/-- 'tapewrightlaw04.ShapePlaces': WHATEVER THE INPUT: true; the input reads as it did. -/
def shapePlacesSpec : ChangeSpec := { name := "shapePlaces", fn := fun _ => fun
  | [d1, d2, d3] => { results := [.lit (.bool true)], args := [d1, d2, d3] }
  | _ => none }
def shapePlacesRow : OpenClaim := { program := "ytihaochmebejbaa", sum := "ef9e255b9479c8a7cd2e4a75dc7d20019580a9401e732b5f071b55bd207f30c7", func := "tapewright/tapewrightlaw04.ShapePlaces", spec := "shapePlaces", apart := false }
def ShapePlacesSaid : Prop := shapePlacesRow.holds Try.pinned (OpenSpec.ofChange shapePlacesSpec)

/-- ITS FALSE NEIGHBOUR: 'it returns false'. Refute it at one input. -/
def shapePlacesWrong : ChangeSpec := { name := "shapePlaces", fn := fun _ => fun
  | [d1, d2, d3] => { results := [.lit (.bool false)], args := [d1, d2, d3] }
  | _ => none }
def ShapePlacesWrongFalsely : Prop := shapePlacesRow.holds Try.pinned (OpenSpec.ofChange shapePlacesWrong)

/-- 'tapewrightlaw04.ShapeMore': WHATEVER THE INPUT: true; the input reads as it did. -/
def shapeMoreSpec : ChangeSpec := { name := "shapeMore", fn := fun _ => fun
  | [d1, d2] => { results := [.lit (.bool true)], args := [d1, d2] }
  | _ => none }
def shapeMoreRow : OpenClaim := { program := "ytihaochmebejbaa", sum := "ef9e255b9479c8a7cd2e4a75dc7d20019580a9401e732b5f071b55bd207f30c7", func := "tapewright/tapewrightlaw04.ShapeMore", spec := "shapeMore", apart := false }
def ShapeMoreSaid : Prop := shapeMoreRow.holds Try.pinned (OpenSpec.ofChange shapeMoreSpec)

/-- ITS FALSE NEIGHBOUR: 'it returns false'. Refute it at one input. -/
def shapeMoreWrong : ChangeSpec := { name := "shapeMore", fn := fun _ => fun
  | [d1, d2] => { results := [.lit (.bool false)], args := [d1, d2] }
  | _ => none }
def ShapeMoreWrongFalsely : Prop := shapeMoreRow.holds Try.pinned (OpenSpec.ofChange shapeMoreWrong)

/-- 'tapewrightlaw04.ShapeLast': WHATEVER THE INPUT: true; the input reads as it did. -/
def shapeLastSpec : ChangeSpec := { name := "shapeLast", fn := fun _ => fun
  | [d] => { results := [.lit (.bool true)], args := [d] }
  | _ => none }
def shapeLastRow : OpenClaim := { program := "ytihaochmebejbaa", sum := "ef9e255b9479c8a7cd2e4a75dc7d20019580a9401e732b5f071b55bd207f30c7", func := "tapewright/tapewrightlaw04.ShapeLast", spec := "shapeLast", apart := false }
def ShapeLastSaid : Prop := shapeLastRow.holds Try.pinned (OpenSpec.ofChange shapeLastSpec)

/-- ITS FALSE NEIGHBOUR: 'it returns false'. Refute it at one input. -/
def shapeLastWrong : ChangeSpec := { name := "shapeLast", fn := fun _ => fun
  | [d] => { results := [.lit (.bool false)], args := [d] }
  | _ => none }
def ShapeLastWrongFalsely : Prop := shapeLastRow.holds Try.pinned (OpenSpec.ofChange shapeLastWrong)

/-- 'tapewrightlaw04.ShapeTurn': WHATEVER THE INPUT: true; the input reads as it did. -/
def shapeTurnSpec : ChangeSpec := { name := "shapeTurn", fn := fun _ => fun
  | [d] => { results := [.lit (.bool true)], args := [d] }
  | _ => none }
def shapeTurnRow : OpenClaim := { program := "ytihaochmebejbaa", sum := "ef9e255b9479c8a7cd2e4a75dc7d20019580a9401e732b5f071b55bd207f30c7", func := "tapewright/tapewrightlaw04.ShapeTurn", spec := "shapeTurn", apart := false }
def ShapeTurnSaid : Prop := shapeTurnRow.holds Try.pinned (OpenSpec.ofChange shapeTurnSpec)

/-- ITS FALSE NEIGHBOUR: 'it returns false'. Refute it at one input. -/
def shapeTurnWrong : ChangeSpec := { name := "shapeTurn", fn := fun _ => fun
  | [d] => { results := [.lit (.bool false)], args := [d] }
  | _ => none }
def ShapeTurnWrongFalsely : Prop := shapeTurnRow.holds Try.pinned (OpenSpec.ofChange shapeTurnWrong)

/-- 'tapewrightlaw04.ShapeRight': WHATEVER THE INPUT: true; the input reads as it did. -/
def shapeRightSpec : ChangeSpec := { name := "shapeRight", fn := fun _ => fun
  | [d1, d2] => { results := [.lit (.bool true)], args := [d1, d2] }
  | _ => none }
def shapeRightRow : OpenClaim := { program := "ytihaochmebejbaa", sum := "ef9e255b9479c8a7cd2e4a75dc7d20019580a9401e732b5f071b55bd207f30c7", func := "tapewright/tapewrightlaw04.ShapeRight", spec := "shapeRight", apart := false }
def ShapeRightSaid : Prop := shapeRightRow.holds Try.pinned (OpenSpec.ofChange shapeRightSpec)

/-- ITS FALSE NEIGHBOUR: 'it returns false'. Refute it at one input. -/
def shapeRightWrong : ChangeSpec := { name := "shapeRight", fn := fun _ => fun
  | [d1, d2] => { results := [.lit (.bool false)], args := [d1, d2] }
  | _ => none }
def ShapeRightWrongFalsely : Prop := shapeRightRow.holds Try.pinned (OpenSpec.ofChange shapeRightWrong)

/-- 'tapewrightlaw04.ShapeBack': WHATEVER THE INPUT: true; the input reads as it did. -/
def shapeBackSpec : ChangeSpec := { name := "shapeBack", fn := fun _ => fun
  | [d1, d2, d3] => { results := [.lit (.bool true)], args := [d1, d2, d3] }
  | _ => none }
def shapeBackRow : OpenClaim := { program := "ytihaochmebejbaa", sum := "ef9e255b9479c8a7cd2e4a75dc7d20019580a9401e732b5f071b55bd207f30c7", func := "tapewright/tapewrightlaw04.ShapeBack", spec := "shapeBack", apart := false }
def ShapeBackSaid : Prop := shapeBackRow.holds Try.pinned (OpenSpec.ofChange shapeBackSpec)

/-- ITS FALSE NEIGHBOUR: 'it returns false'. Refute it at one input. -/
def shapeBackWrong : ChangeSpec := { name := "shapeBack", fn := fun _ => fun
  | [d1, d2, d3] => { results := [.lit (.bool false)], args := [d1, d2, d3] }
  | _ => none }
def ShapeBackWrongFalsely : Prop := shapeBackRow.holds Try.pinned (OpenSpec.ofChange shapeBackWrong)

/-- 'tapewrightlaw04.ShapeSame': WHATEVER THE INPUT: true; the input reads as it did. -/
def shapeSameSpec : ChangeSpec := { name := "shapeSame", fn := fun _ => fun
  | [d1, d2, d3] => { results := [.lit (.bool true)], args := [d1, d2, d3] }
  | _ => none }
def shapeSameRow : OpenClaim := { program := "ytihaochmebejbaa", sum := "ef9e255b9479c8a7cd2e4a75dc7d20019580a9401e732b5f071b55bd207f30c7", func := "tapewright/tapewrightlaw04.ShapeSame", spec := "shapeSame", apart := false }
def ShapeSameSaid : Prop := shapeSameRow.holds Try.pinned (OpenSpec.ofChange shapeSameSpec)

/-- ITS FALSE NEIGHBOUR: 'it returns false'. Refute it at one input. -/
def shapeSameWrong : ChangeSpec := { name := "shapeSame", fn := fun _ => fun
  | [d1, d2, d3] => { results := [.lit (.bool false)], args := [d1, d2, d3] }
  | _ => none }
def ShapeSameWrongFalsely : Prop := shapeSameRow.holds Try.pinned (OpenSpec.ofChange shapeSameWrong)

/- THE SECOND FORM. 'bulk': how many values and letters a reading holds, each counted each time it is reached (what is shared counts as often as it is met; a slice's spare places count too). A statement '..UptoSaid' is the law's where the arguments, and the package variables that the reading takes, are together of bulk at most 1048576: NARROWER than '..Said'. Prove '..Said' where nothing that the law and all that it calls make is longer than what came in: it says more and counts as full. Else prove '..UptoSaid'. A law counts once. -/
mutual
def uptoBulk {H : Type} : DataW H → Nat
  | .lit (.string bytes) => bytes.length + 1
  | .lit _ => 1
  | .nil => 1
  | .ptr d => uptoBulk d + 1
  | .slice elems spare => uptoBulkAll elems + uptoBulkAll spare + 1
  | .agg parts => uptoBulkAll parts + 1
  | .iface _ d => uptoBulk d + 1
  | .map entries => uptoBulkEntries entries + 1
  | .held _ => 1
def uptoBulkAll {H : Type} : List (DataW H) → Nat
  | [] => 0
  | d :: r => uptoBulk d + uptoBulkAll r
def uptoBulkEntries {H : Type} : List (Lit × DataW H) → Nat
  | [] => 0
  | x :: r => uptoBulkEntry x + uptoBulkEntries r
def uptoBulkEntry {H : Type} : Lit × DataW H → Nat
  | (.string bytes, d) => bytes.length + uptoBulk d + 1
  | (_, d) => uptoBulk d + 1
 end
def uptoSmall : (H : Type) → List (DataW H) → Bool := fun _ ds => decide (uptoBulkAll ds ≤ 1048576)
def OpenSpec.upto (s : _root_.Go.ChangeSpec) : _root_.Go.OpenSpec := { _root_.Go.OpenSpec.ofChange s with cond := some uptoSmall }

/-- 'tapewrightlaw04.ShapePlaces', WHERE WHAT IT READS IS OF BULK AT MOST 1048576: true; the input reads as it did. -/
def shapePlacesUptoRow : OpenClaim := { program := "ytihaochmebejbaa", sum := "ef9e255b9479c8a7cd2e4a75dc7d20019580a9401e732b5f071b55bd207f30c7", func := "tapewright/tapewrightlaw04.ShapePlaces", spec := "shapePlaces", apart := false, narrowed := true }
def ShapePlacesUptoSaid : Prop := shapePlacesUptoRow.holds Try.pinned (OpenSpec.upto shapePlacesSpec)

/-- 'tapewrightlaw04.ShapeMore', WHERE WHAT IT READS IS OF BULK AT MOST 1048576: true; the input reads as it did. -/
def shapeMoreUptoRow : OpenClaim := { program := "ytihaochmebejbaa", sum := "ef9e255b9479c8a7cd2e4a75dc7d20019580a9401e732b5f071b55bd207f30c7", func := "tapewright/tapewrightlaw04.ShapeMore", spec := "shapeMore", apart := false, narrowed := true }
def ShapeMoreUptoSaid : Prop := shapeMoreUptoRow.holds Try.pinned (OpenSpec.upto shapeMoreSpec)

/-- 'tapewrightlaw04.ShapeLast', WHERE WHAT IT READS IS OF BULK AT MOST 1048576: true; the input reads as it did. -/
def shapeLastUptoRow : OpenClaim := { program := "ytihaochmebejbaa", sum := "ef9e255b9479c8a7cd2e4a75dc7d20019580a9401e732b5f071b55bd207f30c7", func := "tapewright/tapewrightlaw04.ShapeLast", spec := "shapeLast", apart := false, narrowed := true }
def ShapeLastUptoSaid : Prop := shapeLastUptoRow.holds Try.pinned (OpenSpec.upto shapeLastSpec)

/-- 'tapewrightlaw04.ShapeTurn', WHERE WHAT IT READS IS OF BULK AT MOST 1048576: true; the input reads as it did. -/
def shapeTurnUptoRow : OpenClaim := { program := "ytihaochmebejbaa", sum := "ef9e255b9479c8a7cd2e4a75dc7d20019580a9401e732b5f071b55bd207f30c7", func := "tapewright/tapewrightlaw04.ShapeTurn", spec := "shapeTurn", apart := false, narrowed := true }
def ShapeTurnUptoSaid : Prop := shapeTurnUptoRow.holds Try.pinned (OpenSpec.upto shapeTurnSpec)

/-- 'tapewrightlaw04.ShapeRight', WHERE WHAT IT READS IS OF BULK AT MOST 1048576: true; the input reads as it did. -/
def shapeRightUptoRow : OpenClaim := { program := "ytihaochmebejbaa", sum := "ef9e255b9479c8a7cd2e4a75dc7d20019580a9401e732b5f071b55bd207f30c7", func := "tapewright/tapewrightlaw04.ShapeRight", spec := "shapeRight", apart := false, narrowed := true }
def ShapeRightUptoSaid : Prop := shapeRightUptoRow.holds Try.pinned (OpenSpec.upto shapeRightSpec)

/-- 'tapewrightlaw04.ShapeBack', WHERE WHAT IT READS IS OF BULK AT MOST 1048576: true; the input reads as it did. -/
def shapeBackUptoRow : OpenClaim := { program := "ytihaochmebejbaa", sum := "ef9e255b9479c8a7cd2e4a75dc7d20019580a9401e732b5f071b55bd207f30c7", func := "tapewright/tapewrightlaw04.ShapeBack", spec := "shapeBack", apart := false, narrowed := true }
def ShapeBackUptoSaid : Prop := shapeBackUptoRow.holds Try.pinned (OpenSpec.upto shapeBackSpec)

/-- 'tapewrightlaw04.ShapeSame', WHERE WHAT IT READS IS OF BULK AT MOST 1048576: true; the input reads as it did. -/
def shapeSameUptoRow : OpenClaim := { program := "ytihaochmebejbaa", sum := "ef9e255b9479c8a7cd2e4a75dc7d20019580a9401e732b5f071b55bd207f30c7", func := "tapewright/tapewrightlaw04.ShapeSame", spec := "shapeSame", apart := false, narrowed := true }
def ShapeSameUptoSaid : Prop := shapeSameUptoRow.holds Try.pinned (OpenSpec.upto shapeSameSpec)

end Rows
end Go.Proofs.Ytihaochmebejbaa
