import Derived.Test.YtffpponklejidaaGreatDoorRShowBack2
import Derived.Test.YtffpponklejidaaGreatDoorProg
import Derived.WalkKit
import Derived.WalkSpells
import Derived.Below
import Derived.ChangeArms
import Derived.ChangeSame
import Derived.ChangeSlices
import Derived.SizedLaws
import Derived.DataElems
import Derived.WideShapes
import Derived.ChangeMaps5
import Derived.KernelRfl
import Derived.Shelf.Strings.BuilderK
import Derived.Lib.SliceRun
import Derived.Shelf.GgClosure.StringsIndexFuncTop
import Derived.Ground.GgwProg
import Derived.Shelf.Strings.SlTrimAscii
import Derived.Lib.IndexBytes
import Derived.Shelf.Strings.Search2
import Derived.Lib.SplitLaws
import Derived.Laws.RangeString
import Derived.Laws.RangeAny
import Derived.Shelf.Strconv.AtoiAll
import Derived.Shelf.Strconv.Itoa3
import Derived.Shelf.Strings.Count
import Derived.Shelf.Strings.OnBuilder
import Derived.MapKept
import Derived.ChangeMaps3
import Derived.Carry
import Derived.Laws.CopyRow
import Derived.Laws.MakeOwn
import Derived.Laws.Tables
import Derived.Great.BuildSlice
import Derived.Laws.AppendOwn
import Derived.Laws.Entries
import Derived.Laws.Cells
import Derived.Laws.Append
import Derived.Laws.BytesString
import Derived.Calls
import Derived.Orders
import Derived.RowKit
import Derived.Laws.World
import GoSem.Core.Region
import GoSem.Core.View
import GoSem.Op.String
import GoSem.Core.Code
set_option linter.unusedVariables false
set_option linter.unusedSimpArgs false
namespace Go.VI
open Go
noncomputable def Tf.graph_Infer.c : Code := (Go.Proofs.Tryz.f54.body).getD .skip
def Tf.graph_Infer.f (F : Nat) (a : ((List Go.VI.Node) × Go.VI.Node)) : Option ((List Int) × Bool) :=
 (Option.bind (Tf.graph_parts.f F a.2.op) (fun y9 => (bif (!y9.2) then (some (([] : List Int), Bool.false))
 else (Option.bind (Tf.graph_bare.f F ((Node.mk a.2.op a.2.a a.2.b a.2.name a.2.shape a.2.k a.2.n a.2.data), y9.1)) (fun y21 => (bif (!y21) then (some (([] : List Int), Bool.false))
 else (bif (decide (y9.1 > (0 : Int))) then (bif (decide (a.2.a < (0 : Int))) then (some (([] : List Int), Bool.false))
 else (bif (decide (a.2.a ≥ ((List.length a.1) : Int))) then (some (([] : List Int), Bool.false))
 else (bif (decide (y9.1 > (1 : Int))) then (bif (decide (a.2.b < (0 : Int))) then (some (([] : List Int), Bool.false))
 else (bif (decide (a.2.b ≥ ((List.length a.1) : Int))) then (some (([] : List Int), Bool.false))
 else (bif (decide (y9.1 > (0 : Int))) then (bif (inR a.2.a (List.length a.1)) then (bif (decide (y9.1 > (1 : Int))) then (bif (inR a.2.b (List.length a.1)) then (Option.bind (Tf.graph_of.f F ((Node.mk a.2.op a.2.a a.2.b a.2.name a.2.shape a.2.k a.2.n a.2.data), ((List.getD a.1 (Int.toNat a.2.a) (dflt 6)).shape, (List.getD a.1 (Int.toNat a.2.b) (dflt 6)).shape))) (fun y80 => (bif (!y80.2) then (some (([] : List Int), Bool.false))
 else (Option.bind (Tf.shape_Right.f F y80.1) (fun y91 => (bif (!y91) then (some (([] : List Int), Bool.false))
 else (Option.bind (Tf.slices_Clone_ints.f F y80.1) (fun y96 => (some (y96, Bool.true))))))))))
 else none)
 else (Option.bind (Tf.graph_of.f F ((Node.mk a.2.op a.2.a a.2.b a.2.name a.2.shape a.2.k a.2.n a.2.data), ((List.getD a.1 (Int.toNat a.2.a) (dflt 6)).shape, ([] : List Int)))) (fun y73 => (bif (!y73.2) then (some (([] : List Int), Bool.false))
 else (Option.bind (Tf.shape_Right.f F y73.1) (fun y84 => (bif (!y84) then (some (([] : List Int), Bool.false))
 else (Option.bind (Tf.slices_Clone_ints.f F y73.1) (fun y89 => (some (y89, Bool.true)))))))))))
 else none)
 else (bif (decide (y9.1 > (1 : Int))) then (bif (inR a.2.b (List.length a.1)) then (Option.bind (Tf.graph_of.f F ((Node.mk a.2.op a.2.a a.2.b a.2.name a.2.shape a.2.k a.2.n a.2.data), (([] : List Int), (List.getD a.1 (Int.toNat a.2.b) (dflt 6)).shape))) (fun y73 => (bif (!y73.2) then (some (([] : List Int), Bool.false))
 else (Option.bind (Tf.shape_Right.f F y73.1) (fun y84 => (bif (!y84) then (some (([] : List Int), Bool.false))
 else (Option.bind (Tf.slices_Clone_ints.f F y73.1) (fun y89 => (some (y89, Bool.true))))))))))
 else none)
 else (Option.bind (Tf.graph_of.f F ((Node.mk a.2.op a.2.a a.2.b a.2.name a.2.shape a.2.k a.2.n a.2.data), (([] : List Int), ([] : List Int)))) (fun y66 => (bif (!y66.2) then (some (([] : List Int), Bool.false))
 else (Option.bind (Tf.shape_Right.f F y66.1) (fun y77 => (bif (!y77) then (some (([] : List Int), Bool.false))
 else (Option.bind (Tf.slices_Clone_ints.f F y66.1) (fun y82 => (some (y82, Bool.true))))))))))))))
 else (bif (decide (y9.1 > (0 : Int))) then (bif (inR a.2.a (List.length a.1)) then (bif (decide (y9.1 > (1 : Int))) then (bif (inR a.2.b (List.length a.1)) then (Option.bind (Tf.graph_of.f F ((Node.mk a.2.op a.2.a a.2.b a.2.name a.2.shape a.2.k a.2.n a.2.data), ((List.getD a.1 (Int.toNat a.2.a) (dflt 6)).shape, (List.getD a.1 (Int.toNat a.2.b) (dflt 6)).shape))) (fun y70 => (bif (!y70.2) then (some (([] : List Int), Bool.false))
 else (Option.bind (Tf.shape_Right.f F y70.1) (fun y81 => (bif (!y81) then (some (([] : List Int), Bool.false))
 else (Option.bind (Tf.slices_Clone_ints.f F y70.1) (fun y86 => (some (y86, Bool.true))))))))))
 else none)
 else (Option.bind (Tf.graph_of.f F ((Node.mk a.2.op a.2.a a.2.b a.2.name a.2.shape a.2.k a.2.n a.2.data), ((List.getD a.1 (Int.toNat a.2.a) (dflt 6)).shape, ([] : List Int)))) (fun y63 => (bif (!y63.2) then (some (([] : List Int), Bool.false))
 else (Option.bind (Tf.shape_Right.f F y63.1) (fun y74 => (bif (!y74) then (some (([] : List Int), Bool.false))
 else (Option.bind (Tf.slices_Clone_ints.f F y63.1) (fun y79 => (some (y79, Bool.true)))))))))))
 else none)
 else (bif (decide (y9.1 > (1 : Int))) then (bif (inR a.2.b (List.length a.1)) then (Option.bind (Tf.graph_of.f F ((Node.mk a.2.op a.2.a a.2.b a.2.name a.2.shape a.2.k a.2.n a.2.data), (([] : List Int), (List.getD a.1 (Int.toNat a.2.b) (dflt 6)).shape))) (fun y63 => (bif (!y63.2) then (some (([] : List Int), Bool.false))
 else (Option.bind (Tf.shape_Right.f F y63.1) (fun y74 => (bif (!y74) then (some (([] : List Int), Bool.false))
 else (Option.bind (Tf.slices_Clone_ints.f F y63.1) (fun y79 => (some (y79, Bool.true))))))))))
 else none)
 else (Option.bind (Tf.graph_of.f F ((Node.mk a.2.op a.2.a a.2.b a.2.name a.2.shape a.2.k a.2.n a.2.data), (([] : List Int), ([] : List Int)))) (fun y56 => (bif (!y56.2) then (some (([] : List Int), Bool.false))
 else (Option.bind (Tf.shape_Right.f F y56.1) (fun y67 => (bif (!y67) then (some (([] : List Int), Bool.false))
 else (Option.bind (Tf.slices_Clone_ints.f F y56.1) (fun y72 => (some (y72, Bool.true)))))))))))))))
 else (bif (decide (y9.1 > (1 : Int))) then (bif (decide (a.2.b < (0 : Int))) then (some (([] : List Int), Bool.false))
 else (bif (decide (a.2.b ≥ ((List.length a.1) : Int))) then (some (([] : List Int), Bool.false))
 else (bif (decide (y9.1 > (0 : Int))) then (bif (inR a.2.a (List.length a.1)) then (bif (decide (y9.1 > (1 : Int))) then (bif (inR a.2.b (List.length a.1)) then (Option.bind (Tf.graph_of.f F ((Node.mk a.2.op a.2.a a.2.b a.2.name a.2.shape a.2.k a.2.n a.2.data), ((List.getD a.1 (Int.toNat a.2.a) (dflt 6)).shape, (List.getD a.1 (Int.toNat a.2.b) (dflt 6)).shape))) (fun y70 => (bif (!y70.2) then (some (([] : List Int), Bool.false))
 else (Option.bind (Tf.shape_Right.f F y70.1) (fun y81 => (bif (!y81) then (some (([] : List Int), Bool.false))
 else (Option.bind (Tf.slices_Clone_ints.f F y70.1) (fun y86 => (some (y86, Bool.true))))))))))
 else none)
 else (Option.bind (Tf.graph_of.f F ((Node.mk a.2.op a.2.a a.2.b a.2.name a.2.shape a.2.k a.2.n a.2.data), ((List.getD a.1 (Int.toNat a.2.a) (dflt 6)).shape, ([] : List Int)))) (fun y63 => (bif (!y63.2) then (some (([] : List Int), Bool.false))
 else (Option.bind (Tf.shape_Right.f F y63.1) (fun y74 => (bif (!y74) then (some (([] : List Int), Bool.false))
 else (Option.bind (Tf.slices_Clone_ints.f F y63.1) (fun y79 => (some (y79, Bool.true)))))))))))
 else none)
 else (bif (decide (y9.1 > (1 : Int))) then (bif (inR a.2.b (List.length a.1)) then (Option.bind (Tf.graph_of.f F ((Node.mk a.2.op a.2.a a.2.b a.2.name a.2.shape a.2.k a.2.n a.2.data), (([] : List Int), (List.getD a.1 (Int.toNat a.2.b) (dflt 6)).shape))) (fun y63 => (bif (!y63.2) then (some (([] : List Int), Bool.false))
 else (Option.bind (Tf.shape_Right.f F y63.1) (fun y74 => (bif (!y74) then (some (([] : List Int), Bool.false))
 else (Option.bind (Tf.slices_Clone_ints.f F y63.1) (fun y79 => (some (y79, Bool.true))))))))))
 else none)
 else (Option.bind (Tf.graph_of.f F ((Node.mk a.2.op a.2.a a.2.b a.2.name a.2.shape a.2.k a.2.n a.2.data), (([] : List Int), ([] : List Int)))) (fun y56 => (bif (!y56.2) then (some (([] : List Int), Bool.false))
 else (Option.bind (Tf.shape_Right.f F y56.1) (fun y67 => (bif (!y67) then (some (([] : List Int), Bool.false))
 else (Option.bind (Tf.slices_Clone_ints.f F y56.1) (fun y72 => (some (y72, Bool.true))))))))))))))
 else (bif (decide (y9.1 > (0 : Int))) then (bif (inR a.2.a (List.length a.1)) then (bif (decide (y9.1 > (1 : Int))) then (bif (inR a.2.b (List.length a.1)) then (Option.bind (Tf.graph_of.f F ((Node.mk a.2.op a.2.a a.2.b a.2.name a.2.shape a.2.k a.2.n a.2.data), ((List.getD a.1 (Int.toNat a.2.a) (dflt 6)).shape, (List.getD a.1 (Int.toNat a.2.b) (dflt 6)).shape))) (fun y60 => (bif (!y60.2) then (some (([] : List Int), Bool.false))
 else (Option.bind (Tf.shape_Right.f F y60.1) (fun y71 => (bif (!y71) then (some (([] : List Int), Bool.false))
 else (Option.bind (Tf.slices_Clone_ints.f F y60.1) (fun y76 => (some (y76, Bool.true))))))))))
 else none)
 else (Option.bind (Tf.graph_of.f F ((Node.mk a.2.op a.2.a a.2.b a.2.name a.2.shape a.2.k a.2.n a.2.data), ((List.getD a.1 (Int.toNat a.2.a) (dflt 6)).shape, ([] : List Int)))) (fun y53 => (bif (!y53.2) then (some (([] : List Int), Bool.false))
 else (Option.bind (Tf.shape_Right.f F y53.1) (fun y64 => (bif (!y64) then (some (([] : List Int), Bool.false))
 else (Option.bind (Tf.slices_Clone_ints.f F y53.1) (fun y69 => (some (y69, Bool.true)))))))))))
 else none)
 else (bif (decide (y9.1 > (1 : Int))) then (bif (inR a.2.b (List.length a.1)) then (Option.bind (Tf.graph_of.f F ((Node.mk a.2.op a.2.a a.2.b a.2.name a.2.shape a.2.k a.2.n a.2.data), (([] : List Int), (List.getD a.1 (Int.toNat a.2.b) (dflt 6)).shape))) (fun y53 => (bif (!y53.2) then (some (([] : List Int), Bool.false))
 else (Option.bind (Tf.shape_Right.f F y53.1) (fun y64 => (bif (!y64) then (some (([] : List Int), Bool.false))
 else (Option.bind (Tf.slices_Clone_ints.f F y53.1) (fun y69 => (some (y69, Bool.true))))))))))
 else none)
 else (Option.bind (Tf.graph_of.f F ((Node.mk a.2.op a.2.a a.2.b a.2.name a.2.shape a.2.k a.2.n a.2.data), (([] : List Int), ([] : List Int)))) (fun y46 => (bif (!y46.2) then (some (([] : List Int), Bool.false))
 else (Option.bind (Tf.shape_Right.f F y46.1) (fun y57 => (bif (!y57) then (some (([] : List Int), Bool.false))
 else (Option.bind (Tf.slices_Clone_ints.f F y46.1) (fun y62 => (some (y62, Bool.true))))))))))))))))))))
theorem Tf.graph_Infer.f_ok (F : Nat) (a) : exec Go.VI.tyT (look [(20, Tf.shape_Right.e F), (71, Tf.slices_Clone_ints.e F), (73, Tf.graph_parts.e F), (74, Tf.graph_bare.e F), (75, Tf.graph_of.e F)] : Fns) 89 (look [] : Loops) Tf.graph_Infer.c (init [.v 6, .v 206] (encKs [.sl 6, .rc 6] a)) (finT (look [(20, Tf.shape_Right.e F), (71, Tf.slices_Clone_ints.e F), (73, Tf.graph_parts.e F), (74, Tf.graph_bare.e F), (75, Tf.graph_of.e F)] : Fns) (⟨[.v 6, .v 206], [.o 0, .p]⟩ : Sig) [4, 5] [.own, .pure] [.sl 0, .bool]) = Tf.graph_Infer.f F a := by kernel_rfl
def Tf.graph_Infer.e (F : Nat) : Fn := mkFn (⟨[.v 6, .v 206], [.o 0, .p]⟩ : Sig) [.sl 6, .rc 6] [.own, .pure] [.sl 0, .bool] (Tf.graph_Infer.f F)
theorem Tf.graph_Infer.ok (F : Nat) : EntryOk Go.Proofs.Tryz.prog Go.VI.tyT.G 54 (Tf.graph_Infer.e F) :=
  fn_ok Go.VI.tyT_ok rfl mix (.cons (Tf.shape_Right.ok F) (.cons (Tf.slices_Clone_ints.ok F) (.cons (Tf.graph_parts.ok F) (.cons (Tf.graph_bare.ok F) (.cons (Tf.graph_of.ok F) .nil))))) (Λ := (look [] : Loops)) (fn := Go.Proofs.Tryz.f54) (c := Tf.graph_Infer.c) (LoopsOk.of (bs := []) (by kernel_rfl) .nil) (by kernel_rfl) (by kernel_rfl) (by kernel_rfl) (by kernel_rfl) (res2 (by kernel_rfl)) (by decide) (Tf.graph_Infer.f_ok F)
end Go.VI

namespace Go.VI
open Go
noncomputable def Tf.graph_Right.c : Code := (Go.Proofs.Tryz.f31.body).getD .skip
noncomputable def Tf.graph_Right.b5 : Code := codeAt [1, 1, 1, 0, 1, 0, 0] Tf.graph_Right.c
def Tf.graph_Right.s5 (F : Nat) (L : (Int × ((List (ByteArray × Int)) × ((List Go.VI.Node) × (Int × ((List Go.VI.Node) × Int))))) → Option (Bool ⊕ Unit)) (x : (Int × ((List (ByteArray × Int)) × ((List Go.VI.Node) × (Int × ((List Go.VI.Node) × Int)))))) : Option (Bool ⊕ Unit) :=
 (bif (decide (x.1 < x.2.2.2.2.2)) then (bif (inR x.1 (List.length x.2.2.2.2.1)) then (bif ((decide ((0 : Int) ≤ x.1)) && (decide (x.1 ≤ ((List.length x.2.2.1) : Int)))) then (Option.bind (Tf.graph_Infer.f F ((List.drop 0 (List.take (Int.toNat x.1) x.2.2.1)), (Node.mk (List.getD x.2.2.2.2.1 (Int.toNat x.1) (dflt 6)).op (List.getD x.2.2.2.2.1 (Int.toNat x.1) (dflt 6)).a (List.getD x.2.2.2.2.1 (Int.toNat x.1) (dflt 6)).b (List.getD x.2.2.2.2.1 (Int.toNat x.1) (dflt 6)).name (List.getD x.2.2.2.2.1 (Int.toNat x.1) (dflt 6)).shape (List.getD x.2.2.2.2.1 (Int.toNat x.1) (dflt 6)).k (List.getD x.2.2.2.2.1 (Int.toNat x.1) (dflt 6)).n (List.getD x.2.2.2.2.1 (Int.toNat x.1) (dflt 6)).data))) (fun y59 => (bif (!y59.2) then (some (.inl Bool.false))
 else (Option.bind (Tf.shape_Same.f F (y59.1, (List.getD x.2.2.2.2.1 (Int.toNat x.1) (dflt 6)).shape)) (fun y72 => (bif (!y72) then (some (.inl Bool.false))
 else (bif (!(seqB (List.getD x.2.2.2.2.1 (Int.toNat x.1) (dflt 6)).name (⟨#[]⟩ : ByteArray))) then (bif (decide ((Option.getD (getM x.2.1 (List.getD x.2.2.2.2.1 (Int.toNat x.1) (dflt 6)).name) (0 : Int)) > (0 : Int))) then (some (.inl Bool.false))
 else (L ((Go.IntKind.wrap IntKind.i64 (x.1 + (1 : Int))), ((putM x.2.1 (List.getD x.2.2.2.2.1 (Int.toNat x.1) (dflt 6)).name (Go.IntKind.wrap IntKind.i64 ((Option.getD (getM x.2.1 (List.getD x.2.2.2.2.1 (Int.toNat x.1) (dflt 6)).name) (0 : Int)) + (1 : Int)))), (x.2.2.1, (x.2.2.2.1, (x.2.2.2.2.1, x.2.2.2.2.2)))))))
 else (L ((Go.IntKind.wrap IntKind.i64 (x.1 + (1 : Int))), ((putM x.2.1 (List.getD x.2.2.2.2.1 (Int.toNat x.1) (dflt 6)).name (Go.IntKind.wrap IntKind.i64 ((Option.getD (getM x.2.1 (List.getD x.2.2.2.2.1 (Int.toNat x.1) (dflt 6)).name) (0 : Int)) + (1 : Int)))), (x.2.2.1, (x.2.2.2.1, (x.2.2.2.2.1, x.2.2.2.2.2)))))))))))))
 else none)
 else none)
 else (some (.inr ())))
def Tf.graph_Right.l5 (F : Nat) : (Int × ((List (ByteArray × Int)) × ((List Go.VI.Node) × (Int × ((List Go.VI.Node) × Int))))) → Option (Bool ⊕ Unit) := iter (Tf.graph_Right.s5 F) F
theorem Tf.graph_Right.s5_ok (F : Nat) (L a) : exec Go.VI.tyT (look [(21, Tf.shape_Same.e F), (54, Tf.graph_Infer.e F)] : Fns) 87 (look [] : Loops) Tf.graph_Right.b5 (rebuild [.slot 46, .mp 3, .box 1 [none, none], .view 44 6, .slot 45] (encKs [.int .i64, .map, .sl 6, .int .i64, .sl 6, .int .i64] a)) (bodyK [.slot 46, .mp 3, .box 1 [none, none], .view 44 6, .slot 45] [.int .i64, .map, .sl 6, .int .i64, .sl 6, .int .i64] [⟨.ret, [.slot 2], [.bool]⟩, ⟨.exit 0, [], []⟩] L) = Tf.graph_Right.s5 F L a := by kernel_rfl
theorem Tf.graph_Right.l5_ok (F : Nat) : LoopOk Go.Proofs.Tryz.prog Go.VI.tyT.G 87 Tf.graph_Right.b5 (fun st κ => hand [.slot 46, .mp 3, .box 1 [none, none], .view 44 6, .slot 45] [.int .i64, .map, .sl 6, .int .i64, .sl 6, .int .i64] [⟨.ret, [.slot 2], [.bool]⟩, ⟨.exit 0, [], []⟩] (Tf.graph_Right.l5 F) st κ) :=
  loop_ok Go.VI.tyT_ok rfl mix (.cons (Tf.shape_Same.ok F) (.cons (Tf.graph_Infer.ok F) .nil)) (Λ := (look [] : Loops)) (LoopsOk.of (bs := []) (by kernel_rfl) .nil) (Tf.graph_Right.s5_ok F) F
def Tf.graph_Right.f (F : Nat) (a : ((List Go.VI.Node) × Int)) : Option Bool :=
 (bif (decide (((List.length a.1) : Int) < (1 : Int))) then (some Bool.false)
 else (bif (decide (((List.length a.1) : Int) > (200 : Int))) then (some Bool.false)
 else (bif (decide (a.2 < (0 : Int))) then (some Bool.false)
 else (bif (decide (a.2 ≥ ((List.length a.1) : Int))) then (some Bool.false)
 else (bif (inR a.2 (List.length a.1)) then (bif (((List.length (List.getD a.1 (Int.toNat a.2) (dflt 6)).shape) : Int) != (0 : Int)) then (some Bool.false)
 else (Option.bind (Tf.graph_Right.l5 F ((0 : Int), (([] : List (ByteArray × Int)), (a.1, (a.2, (a.1, ((List.length a.1) : Int))))))) (fun y45 => (sumE y45 (fun y46 => (some y46)) (fun y46 => (some Bool.true))))))
 else none)))))
theorem Tf.graph_Right.f_ok (F : Nat) (a) : exec Go.VI.tyT (look [(21, Tf.shape_Same.e F), (54, Tf.graph_Infer.e F)] : Fns) 87 (look [(5, fun st κ => hand [.slot 46, .mp 3, .box 1 [none, none], .view 44 6, .slot 45] [.int .i64, .map, .sl 6, .int .i64, .sl 6, .int .i64] [⟨.ret, [.slot 2], [.bool]⟩, ⟨.exit 0, [], []⟩] (Tf.graph_Right.l5 F) st κ)] : Loops) Tf.graph_Right.c (init [.v 301] (encKs [.st [.sl 6, .int .i64]] a)) (finT (look [(21, Tf.shape_Same.e F), (54, Tf.graph_Infer.e F)] : Fns) (⟨[.v 301], [.p]⟩ : Sig) [2] [.pure] [.bool]) = Tf.graph_Right.f F a := by kernel_rfl
def Tf.graph_Right.e (F : Nat) : Fn := mkFn (⟨[.v 301], [.p]⟩ : Sig) [.st [.sl 6, .int .i64]] [.pure] [.bool] (Tf.graph_Right.f F)
theorem Tf.graph_Right.ok (F : Nat) : EntryOk Go.Proofs.Tryz.prog Go.VI.tyT.G 31 (Tf.graph_Right.e F) :=
  fn_ok Go.VI.tyT_ok rfl mix (.cons (Tf.shape_Same.ok F) (.cons (Tf.graph_Infer.ok F) .nil)) (Λ := (look [(5, fun st κ => hand [.slot 46, .mp 3, .box 1 [none, none], .view 44 6, .slot 45] [.int .i64, .map, .sl 6, .int .i64, .sl 6, .int .i64] [⟨.ret, [.slot 2], [.bool]⟩, ⟨.exit 0, [], []⟩] (Tf.graph_Right.l5 F) st κ)] : Loops)) (fn := Go.Proofs.Tryz.f31) (c := Tf.graph_Right.c) (LoopsOk.of (bs := [Tf.graph_Right.b5]) (by kernel_rfl) (.cons rfl (Tf.graph_Right.l5_ok F) .nil)) (by kernel_rfl) (by kernel_rfl) (by kernel_rfl) (by kernel_rfl) (res1 (by kernel_rfl)) (by decide) (Tf.graph_Right.f_ok F)
end Go.VI

namespace Go.VI
open Go
noncomputable def Tf.show_clash.c : Code := (Go.Proofs.Tryz.f65.body).getD .skip
noncomputable def Tf.show_clash.b2 : Code := codeAt [1, 0, 1, 0, 0] Tf.show_clash.c
def Tf.show_clash.s2 (F : Nat) (L : (Int × ((List Go.VI.Node) × (Int × (ByteArray × ((List Go.VI.Node) × Int))))) → Option (Bool ⊕ Unit)) (x : (Int × ((List Go.VI.Node) × (Int × (ByteArray × ((List Go.VI.Node) × Int)))))) : Option (Bool ⊕ Unit) :=
 (bif (decide (x.1 < x.2.2.2.2.2)) then (bif (inR x.1 (List.length x.2.2.2.2.1)) then (Option.bind (Tf.strings_CutPrefix.f F ((List.getD x.2.2.2.2.1 (Int.toNat x.1) (dflt 6)).name, x.2.2.2.1)) (fun y19 => (Option.bind (Tf.strconv_Atoi.f F y19.1) (fun y27 => (bif y19.2 then (bif y27.2 then (bif (decide (y27.1 ≥ (0 : Int))) then (bif (decide (y27.1 < ((List.length x.2.1) : Int))) then (Option.bind (Tf.strconv_Itoa.f F y27.1) (fun y52 => (bif (seqB y52 y19.1) then (bif (inR y27.1 (List.length x.2.1)) then (bif (seqB (List.getD x.2.1 (Int.toNat y27.1) (dflt 6)).name (⟨#[]⟩ : ByteArray)) then (some (.inl Bool.true))
 else (L ((Go.IntKind.wrap IntKind.i64 (x.1 + (1 : Int))), (x.2.1, (x.2.2.1, (x.2.2.2.1, (x.2.2.2.2.1, x.2.2.2.2.2)))))))
 else none)
 else (L ((Go.IntKind.wrap IntKind.i64 (x.1 + (1 : Int))), (x.2.1, (x.2.2.1, (x.2.2.2.1, (x.2.2.2.2.1, x.2.2.2.2.2)))))))))
 else (L ((Go.IntKind.wrap IntKind.i64 (x.1 + (1 : Int))), (x.2.1, (x.2.2.1, (x.2.2.2.1, (x.2.2.2.2.1, x.2.2.2.2.2)))))))
 else (L ((Go.IntKind.wrap IntKind.i64 (x.1 + (1 : Int))), (x.2.1, (x.2.2.1, (x.2.2.2.1, (x.2.2.2.2.1, x.2.2.2.2.2)))))))
 else (L ((Go.IntKind.wrap IntKind.i64 (x.1 + (1 : Int))), (x.2.1, (x.2.2.1, (x.2.2.2.1, (x.2.2.2.2.1, x.2.2.2.2.2)))))))
 else (L ((Go.IntKind.wrap IntKind.i64 (x.1 + (1 : Int))), (x.2.1, (x.2.2.1, (x.2.2.2.1, (x.2.2.2.2.1, x.2.2.2.2.2)))))))))))
 else none)
 else (some (.inr ())))
def Tf.show_clash.l2 (F : Nat) : (Int × ((List Go.VI.Node) × (Int × (ByteArray × ((List Go.VI.Node) × Int))))) → Option (Bool ⊕ Unit) := iter (Tf.show_clash.s2 F) F
theorem Tf.show_clash.s2_ok (F : Nat) (L a) : exec Go.VI.tyT (look [(44, Tf.strconv_Itoa.e F), (90, Tf.strings_CutPrefix.e F), (91, Tf.strconv_Atoi.e F)] : Fns) 62 (look [] : Loops) Tf.show_clash.b2 (rebuild [.slot 14, .box 2 [none, none], .slot 1, .view 12 6, .slot 13] (encKs [.int .i64, .sl 6, .int .i64, .str, .sl 6, .int .i64] a)) (bodyK [.slot 14, .box 2 [none, none], .slot 1, .view 12 6, .slot 13] [.int .i64, .sl 6, .int .i64, .str, .sl 6, .int .i64] [⟨.ret, [.slot 4], [.bool]⟩, ⟨.exit 0, [], []⟩] L) = Tf.show_clash.s2 F L a := by kernel_rfl
theorem Tf.show_clash.l2_ok (F : Nat) : LoopOk Go.Proofs.Tryz.prog Go.VI.tyT.G 62 Tf.show_clash.b2 (fun st κ => hand [.slot 14, .box 2 [none, none], .slot 1, .view 12 6, .slot 13] [.int .i64, .sl 6, .int .i64, .str, .sl 6, .int .i64] [⟨.ret, [.slot 4], [.bool]⟩, ⟨.exit 0, [], []⟩] (Tf.show_clash.l2 F) st κ) :=
  loop_ok Go.VI.tyT_ok rfl mix (.cons (Tf.strconv_Itoa.ok F) (.cons (Tf.strings_CutPrefix.ok F) (.cons (Tf.strconv_Atoi.ok F) .nil))) (Λ := (look [] : Loops)) (LoopsOk.of (bs := []) (by kernel_rfl) .nil) (Tf.show_clash.s2_ok F) F
def Tf.show_clash.f (F : Nat) (a : (((List Go.VI.Node) × Int) × ByteArray)) : Option Bool :=
 (Option.bind (Tf.show_clash.l2 F ((0 : Int), (a.1.1, (a.1.2, (a.2, (a.1.1, ((List.length a.1.1) : Int))))))) (fun y9 => (sumE y9 (fun y10 => (some y10)) (fun y10 => (some Bool.false)))))
theorem Tf.show_clash.f_ok (F : Nat) (a) : exec Go.VI.tyT (look [(44, Tf.strconv_Itoa.e F), (90, Tf.strings_CutPrefix.e F), (91, Tf.strconv_Atoi.e F)] : Fns) 62 (look [(2, fun st κ => hand [.slot 14, .box 2 [none, none], .slot 1, .view 12 6, .slot 13] [.int .i64, .sl 6, .int .i64, .str, .sl 6, .int .i64] [⟨.ret, [.slot 4], [.bool]⟩, ⟨.exit 0, [], []⟩] (Tf.show_clash.l2 F) st κ)] : Loops) Tf.show_clash.c (init [.v 301, .p] (encKs [.st [.sl 6, .int .i64], .str] a)) (finT (look [(44, Tf.strconv_Itoa.e F), (90, Tf.strings_CutPrefix.e F), (91, Tf.strconv_Atoi.e F)] : Fns) (⟨[.v 301, .p], [.p]⟩ : Sig) [4] [.pure] [.bool]) = Tf.show_clash.f F a := by kernel_rfl
def Tf.show_clash.e (F : Nat) : Fn := mkFn (⟨[.v 301, .p], [.p]⟩ : Sig) [.st [.sl 6, .int .i64], .str] [.pure] [.bool] (Tf.show_clash.f F)
theorem Tf.show_clash.ok (F : Nat) : EntryOk Go.Proofs.Tryz.prog Go.VI.tyT.G 65 (Tf.show_clash.e F) :=
  fn_ok Go.VI.tyT_ok rfl mix (.cons (Tf.strconv_Itoa.ok F) (.cons (Tf.strings_CutPrefix.ok F) (.cons (Tf.strconv_Atoi.ok F) .nil))) (Λ := (look [(2, fun st κ => hand [.slot 14, .box 2 [none, none], .slot 1, .view 12 6, .slot 13] [.int .i64, .sl 6, .int .i64, .str, .sl 6, .int .i64] [⟨.ret, [.slot 4], [.bool]⟩, ⟨.exit 0, [], []⟩] (Tf.show_clash.l2 F) st κ)] : Loops)) (fn := Go.Proofs.Tryz.f65) (c := Tf.show_clash.c) (LoopsOk.of (bs := [Tf.show_clash.b2]) (by kernel_rfl) (.cons rfl (Tf.show_clash.l2_ok F) .nil)) (by kernel_rfl) (by kernel_rfl) (by kernel_rfl) (by kernel_rfl) (res1 (by kernel_rfl)) (by decide) (Tf.show_clash.f_ok F)
end Go.VI

namespace Go.VI
open Go
noncomputable def Tf.show_stem.c : Code := (Go.Proofs.Tryz.f43.body).getD .skip
noncomputable def Tf.show_stem.b2 : Code := codeAt [1, 1, 0, 0, 0] Tf.show_stem.c
def Tf.show_stem.s2 (F : Nat) (L : (ByteArray × ((List Go.VI.Node) × Int)) → Option ByteArray) (x : (ByteArray × ((List Go.VI.Node) × Int))) : Option ByteArray :=
 (Option.bind (Tf.show_clash.f F ((x.2.1, x.2.2), x.1)) (fun y10 => (bif y10 then (bif (Nat.ble ((ByteArray.size x.1) + 1) 4611686018427387904) then (L ((x.1 ++ (⟨#[122]⟩ : ByteArray)), (x.2.1, x.2.2)))
 else none)
 else (some x.1))))
def Tf.show_stem.l2 (F : Nat) : (ByteArray × ((List Go.VI.Node) × Int)) → Option ByteArray := iter (Tf.show_stem.s2 F) F
theorem Tf.show_stem.s2_ok (F : Nat) (L a) : exec Go.VI.tyT (look [(65, Tf.show_clash.e F)] : Fns) 10 (look [] : Loops) Tf.show_stem.b2 (rebuild [.slot 3, .box 1 [none, none]] (encKs [.str, .sl 6, .int .i64] a)) (bodyK [.slot 3, .box 1 [none, none]] [.str, .sl 6, .int .i64] [⟨.exit 0, [.slot 3], [.str]⟩] L) = Tf.show_stem.s2 F L a := by kernel_rfl
theorem Tf.show_stem.l2_ok (F : Nat) : LoopOk Go.Proofs.Tryz.prog Go.VI.tyT.G 10 Tf.show_stem.b2 (fun st κ => hand [.slot 3, .box 1 [none, none]] [.str, .sl 6, .int .i64] [⟨.exit 0, [.slot 3], [.str]⟩] (Tf.show_stem.l2 F) st κ) :=
  loop_ok Go.VI.tyT_ok rfl mix (.cons (Tf.show_clash.ok F) .nil) (Λ := (look [] : Loops)) (LoopsOk.of (bs := []) (by kernel_rfl) .nil) (Tf.show_stem.s2_ok F) F
def Tf.show_stem.f (F : Nat) (a : ((List Go.VI.Node) × Int)) : Option ByteArray :=
 (Option.bind (Tf.show_stem.l2 F ((⟨#[110]⟩ : ByteArray), (a.1, a.2))) (fun y6 => (some y6)))
theorem Tf.show_stem.f_ok (F : Nat) (a) : exec Go.VI.tyT (look [(65, Tf.show_clash.e F)] : Fns) 10 (look [(2, fun st κ => hand [.slot 3, .box 1 [none, none]] [.str, .sl 6, .int .i64] [⟨.exit 0, [.slot 3], [.str]⟩] (Tf.show_stem.l2 F) st κ)] : Loops) Tf.show_stem.c (init [.v 301] (encKs [.st [.sl 6, .int .i64]] a)) (finT (look [(65, Tf.show_clash.e F)] : Fns) (⟨[.v 301], [.p]⟩ : Sig) [2] [.pure] [.str]) = Tf.show_stem.f F a := by kernel_rfl
def Tf.show_stem.e (F : Nat) : Fn := mkFn (⟨[.v 301], [.p]⟩ : Sig) [.st [.sl 6, .int .i64]] [.pure] [.str] (Tf.show_stem.f F)
theorem Tf.show_stem.ok (F : Nat) : EntryOk Go.Proofs.Tryz.prog Go.VI.tyT.G 43 (Tf.show_stem.e F) :=
  fn_ok Go.VI.tyT_ok rfl mix (.cons (Tf.show_clash.ok F) .nil) (Λ := (look [(2, fun st κ => hand [.slot 3, .box 1 [none, none]] [.str, .sl 6, .int .i64] [⟨.exit 0, [.slot 3], [.str]⟩] (Tf.show_stem.l2 F) st κ)] : Loops)) (fn := Go.Proofs.Tryz.f43) (c := Tf.show_stem.c) (LoopsOk.of (bs := [Tf.show_stem.b2]) (by kernel_rfl) (.cons rfl (Tf.show_stem.l2_ok F) .nil)) (by kernel_rfl) (by kernel_rfl) (by kernel_rfl) (by kernel_rfl) (res1 (by kernel_rfl)) (by decide) (Tf.show_stem.f_ok F)
end Go.VI

namespace Go.VI
open Go
noncomputable def Tf.show_numbers.c : Code := (Go.Proofs.Tryz.f68.body).getD .skip
noncomputable def Tf.show_numbers.b3 : Code := codeAt [1, 1, 0, 1, 0, 0] Tf.show_numbers.c
def Tf.show_numbers.s3 (F : Nat) (L : (Int × (ByteArray × ((List Int) × Int))) → Option ByteArray) (x : (Int × (ByteArray × ((List Int) × Int)))) : Option ByteArray :=
 (bif (decide (x.1 < x.2.2.2)) then (bif (inR x.1 (List.length x.2.2.1)) then (Option.bind (Tf.strconv_Itoa.f F (List.getD x.2.2.1 (Int.toNat x.1) (0 : Int))) (fun y16 => (bif (Nat.ble (1 + (ByteArray.size y16)) 4611686018427387904) then (bif (Nat.ble ((ByteArray.size x.2.1) + (ByteArray.size ((⟨#[32]⟩ : ByteArray) ++ y16))) 4611686018427387904) then (L ((Go.IntKind.wrap IntKind.i64 (x.1 + (1 : Int))), ((x.2.1 ++ ((⟨#[32]⟩ : ByteArray) ++ y16)), (x.2.2.1, x.2.2.2))))
 else none)
 else none)))
 else none)
 else (some x.2.1))
def Tf.show_numbers.l3 (F : Nat) : (Int × (ByteArray × ((List Int) × Int))) → Option ByteArray := iter (Tf.show_numbers.s3 F) F
theorem Tf.show_numbers.s3_ok (F : Nat) (L a) : exec Go.VI.tyT (look [(44, Tf.strconv_Itoa.e F)] : Fns) 19 (look [] : Loops) Tf.show_numbers.b3 (rebuild [.slot 8, .slot 3, .view 6 0, .slot 7] (encKs [.int .i64, .str, .sl 0, .int .i64] a)) (bodyK [.slot 8, .slot 3, .view 6 0, .slot 7] [.int .i64, .str, .sl 0, .int .i64] [⟨.exit 0, [.slot 3], [.str]⟩] L) = Tf.show_numbers.s3 F L a := by kernel_rfl
theorem Tf.show_numbers.l3_ok (F : Nat) : LoopOk Go.Proofs.Tryz.prog Go.VI.tyT.G 19 Tf.show_numbers.b3 (fun st κ => hand [.slot 8, .slot 3, .view 6 0, .slot 7] [.int .i64, .str, .sl 0, .int .i64] [⟨.exit 0, [.slot 3], [.str]⟩] (Tf.show_numbers.l3 F) st κ) :=
  loop_ok Go.VI.tyT_ok rfl mix (.cons (Tf.strconv_Itoa.ok F) .nil) (Λ := (look [] : Loops)) (LoopsOk.of (bs := []) (by kernel_rfl) .nil) (Tf.show_numbers.s3_ok F) F
def Tf.show_numbers.f (F : Nat) (a : (List Int)) : Option ByteArray :=
 (Option.bind (Tf.show_numbers.l3 F ((0 : Int), ((⟨#[]⟩ : ByteArray), (a, ((List.length a) : Int))))) (fun y8 => (some y8)))
theorem Tf.show_numbers.f_ok (F : Nat) (a) : exec Go.VI.tyT (look [(44, Tf.strconv_Itoa.e F)] : Fns) 19 (look [(3, fun st κ => hand [.slot 8, .slot 3, .view 6 0, .slot 7] [.int .i64, .str, .sl 0, .int .i64] [⟨.exit 0, [.slot 3], [.str]⟩] (Tf.show_numbers.l3 F) st κ)] : Loops) Tf.show_numbers.c (init [.v 0] (encKs [.sl 0] a)) (finT (look [(44, Tf.strconv_Itoa.e F)] : Fns) (⟨[.v 0], [.p]⟩ : Sig) [2] [.pure] [.str]) = Tf.show_numbers.f F a := by kernel_rfl
def Tf.show_numbers.e (F : Nat) : Fn := mkFn (⟨[.v 0], [.p]⟩ : Sig) [.sl 0] [.pure] [.str] (Tf.show_numbers.f F)
theorem Tf.show_numbers.ok (F : Nat) : EntryOk Go.Proofs.Tryz.prog Go.VI.tyT.G 68 (Tf.show_numbers.e F) :=
  fn_ok Go.VI.tyT_ok rfl mix (.cons (Tf.strconv_Itoa.ok F) .nil) (Λ := (look [(3, fun st κ => hand [.slot 8, .slot 3, .view 6 0, .slot 7] [.int .i64, .str, .sl 0, .int .i64] [⟨.exit 0, [.slot 3], [.str]⟩] (Tf.show_numbers.l3 F) st κ)] : Loops)) (fn := Go.Proofs.Tryz.f68) (c := Tf.show_numbers.c) (LoopsOk.of (bs := [Tf.show_numbers.b3]) (by kernel_rfl) (.cons rfl (Tf.show_numbers.l3_ok F) .nil)) (by kernel_rfl) (by kernel_rfl) (by kernel_rfl) (by kernel_rfl) (res1 (by kernel_rfl)) (by decide) (Tf.show_numbers.f_ok F)
end Go.VI

namespace Go.VI
open Go
noncomputable def Tf.show_line.c : Code := (Go.Proofs.Tryz.f46.body).getD .skip
def Tf.show_line.f (F : Nat) (a : (Go.VI.Node × (ByteArray × (List ByteArray)))) : Option ByteArray :=
 (bif (seqB a.1.op (⟨#[112, 97, 114, 97, 109]⟩ : ByteArray)) then (bif (Nat.ble ((ByteArray.size a.1.op) + 1) 4611686018427387904) then (bif (Nat.ble ((ByteArray.size (a.1.op ++ (⟨#[32]⟩ : ByteArray))) + (ByteArray.size a.2.1)) 4611686018427387904) then (Option.bind (Tf.show_numbers.f F a.1.shape) (fun y17 => (bif (Nat.ble ((ByteArray.size ((a.1.op ++ (⟨#[32]⟩ : ByteArray)) ++ a.2.1)) + (ByteArray.size y17)) 4611686018427387904) then (some (((a.1.op ++ (⟨#[32]⟩ : ByteArray)) ++ a.2.1) ++ y17))
 else none)))
 else none)
 else none)
 else (bif (seqB a.1.op (⟨#[105, 110, 112, 117, 116]⟩ : ByteArray)) then (bif (Nat.ble ((ByteArray.size a.1.op) + 1) 4611686018427387904) then (bif (Nat.ble ((ByteArray.size (a.1.op ++ (⟨#[32]⟩ : ByteArray))) + (ByteArray.size a.2.1)) 4611686018427387904) then (Option.bind (Tf.show_numbers.f F a.1.shape) (fun y19 => (bif (Nat.ble ((ByteArray.size ((a.1.op ++ (⟨#[32]⟩ : ByteArray)) ++ a.2.1)) + (ByteArray.size y19)) 4611686018427387904) then (some (((a.1.op ++ (⟨#[32]⟩ : ByteArray)) ++ a.2.1) ++ y19))
 else none)))
 else none)
 else none)
 else (bif (seqB a.1.op (⟨#[99, 111, 110, 115, 116]⟩ : ByteArray)) then (bif (Nat.ble (6 + (ByteArray.size a.2.1)) 4611686018427387904) then (Option.bind (Tf.show_numbers.f F a.1.shape) (fun y18 => (bif (Nat.ble ((ByteArray.size ((⟨#[99, 111, 110, 115, 116, 32]⟩ : ByteArray) ++ a.2.1)) + (ByteArray.size y18)) 4611686018427387904) then (bif (Nat.ble ((ByteArray.size (((⟨#[99, 111, 110, 115, 116, 32]⟩ : ByteArray) ++ a.2.1) ++ y18)) + 3) 4611686018427387904) then (Option.bind (Tf.strings_Join.f F (a.1.data, (⟨#[32]⟩ : ByteArray))) (fun y24 => (bif (Nat.ble ((ByteArray.size ((((⟨#[99, 111, 110, 115, 116, 32]⟩ : ByteArray) ++ a.2.1) ++ y18) ++ (⟨#[32, 61, 32]⟩ : ByteArray))) + (ByteArray.size y24)) 4611686018427387904) then (some (((((⟨#[99, 111, 110, 115, 116, 32]⟩ : ByteArray) ++ a.2.1) ++ y18) ++ (⟨#[32, 61, 32]⟩ : ByteArray)) ++ y24))
 else none)))
 else none)
 else none)))
 else none)
 else (bif (Nat.ble ((ByteArray.size a.2.1) + 3) 4611686018427387904) then (bif (Nat.ble ((ByteArray.size (a.2.1 ++ (⟨#[32, 61, 32]⟩ : ByteArray))) + (ByteArray.size a.1.op)) 4611686018427387904) then (bif (Nat.ble ((ByteArray.size ((a.2.1 ++ (⟨#[32, 61, 32]⟩ : ByteArray)) ++ a.1.op)) + 1) 4611686018427387904) then (bif (inR a.1.a (List.length a.2.2)) then (bif (Nat.ble ((ByteArray.size (((a.2.1 ++ (⟨#[32, 61, 32]⟩ : ByteArray)) ++ a.1.op) ++ (⟨#[32]⟩ : ByteArray))) + (ByteArray.size (List.getD a.2.2 (Int.toNat a.1.a) (dflt 4)))) 4611686018427387904) then (bif (seqB a.1.op (⟨#[97, 100, 100]⟩ : ByteArray)) then (bif (inR a.1.b (List.length a.2.2)) then (bif (Nat.ble (1 + (ByteArray.size (List.getD a.2.2 (Int.toNat a.1.b) (dflt 4)))) 4611686018427387904) then (bif (Nat.ble ((ByteArray.size ((((a.2.1 ++ (⟨#[32, 61, 32]⟩ : ByteArray)) ++ a.1.op) ++ (⟨#[32]⟩ : ByteArray)) ++ (List.getD a.2.2 (Int.toNat a.1.a) (dflt 4)))) + (ByteArray.size ((⟨#[32]⟩ : ByteArray) ++ (List.getD a.2.2 (Int.toNat a.1.b) (dflt 4))))) 4611686018427387904) then (some (((((a.2.1 ++ (⟨#[32, 61, 32]⟩ : ByteArray)) ++ a.1.op) ++ (⟨#[32]⟩ : ByteArray)) ++ (List.getD a.2.2 (Int.toNat a.1.a) (dflt 4))) ++ ((⟨#[32]⟩ : ByteArray) ++ (List.getD a.2.2 (Int.toNat a.1.b) (dflt 4)))))
 else none)
 else none)
 else none)
 else (bif (seqB a.1.op (⟨#[115, 117, 98]⟩ : ByteArray)) then (bif (inR a.1.b (List.length a.2.2)) then (bif (Nat.ble (1 + (ByteArray.size (List.getD a.2.2 (Int.toNat a.1.b) (dflt 4)))) 4611686018427387904) then (bif (Nat.ble ((ByteArray.size ((((a.2.1 ++ (⟨#[32, 61, 32]⟩ : ByteArray)) ++ a.1.op) ++ (⟨#[32]⟩ : ByteArray)) ++ (List.getD a.2.2 (Int.toNat a.1.a) (dflt 4)))) + (ByteArray.size ((⟨#[32]⟩ : ByteArray) ++ (List.getD a.2.2 (Int.toNat a.1.b) (dflt 4))))) 4611686018427387904) then (some (((((a.2.1 ++ (⟨#[32, 61, 32]⟩ : ByteArray)) ++ a.1.op) ++ (⟨#[32]⟩ : ByteArray)) ++ (List.getD a.2.2 (Int.toNat a.1.a) (dflt 4))) ++ ((⟨#[32]⟩ : ByteArray) ++ (List.getD a.2.2 (Int.toNat a.1.b) (dflt 4)))))
 else none)
 else none)
 else none)
 else (bif (seqB a.1.op (⟨#[109, 117, 108]⟩ : ByteArray)) then (bif (inR a.1.b (List.length a.2.2)) then (bif (Nat.ble (1 + (ByteArray.size (List.getD a.2.2 (Int.toNat a.1.b) (dflt 4)))) 4611686018427387904) then (bif (Nat.ble ((ByteArray.size ((((a.2.1 ++ (⟨#[32, 61, 32]⟩ : ByteArray)) ++ a.1.op) ++ (⟨#[32]⟩ : ByteArray)) ++ (List.getD a.2.2 (Int.toNat a.1.a) (dflt 4)))) + (ByteArray.size ((⟨#[32]⟩ : ByteArray) ++ (List.getD a.2.2 (Int.toNat a.1.b) (dflt 4))))) 4611686018427387904) then (some (((((a.2.1 ++ (⟨#[32, 61, 32]⟩ : ByteArray)) ++ a.1.op) ++ (⟨#[32]⟩ : ByteArray)) ++ (List.getD a.2.2 (Int.toNat a.1.a) (dflt 4))) ++ ((⟨#[32]⟩ : ByteArray) ++ (List.getD a.2.2 (Int.toNat a.1.b) (dflt 4)))))
 else none)
 else none)
 else none)
 else (bif (seqB a.1.op (⟨#[109, 97, 120]⟩ : ByteArray)) then (bif (inR a.1.b (List.length a.2.2)) then (bif (Nat.ble (1 + (ByteArray.size (List.getD a.2.2 (Int.toNat a.1.b) (dflt 4)))) 4611686018427387904) then (bif (Nat.ble ((ByteArray.size ((((a.2.1 ++ (⟨#[32, 61, 32]⟩ : ByteArray)) ++ a.1.op) ++ (⟨#[32]⟩ : ByteArray)) ++ (List.getD a.2.2 (Int.toNat a.1.a) (dflt 4)))) + (ByteArray.size ((⟨#[32]⟩ : ByteArray) ++ (List.getD a.2.2 (Int.toNat a.1.b) (dflt 4))))) 4611686018427387904) then (some (((((a.2.1 ++ (⟨#[32, 61, 32]⟩ : ByteArray)) ++ a.1.op) ++ (⟨#[32]⟩ : ByteArray)) ++ (List.getD a.2.2 (Int.toNat a.1.a) (dflt 4))) ++ ((⟨#[32]⟩ : ByteArray) ++ (List.getD a.2.2 (Int.toNat a.1.b) (dflt 4)))))
 else none)
 else none)
 else none)
 else (bif (seqB a.1.op (⟨#[97, 98, 111, 118, 101]⟩ : ByteArray)) then (bif (inR a.1.b (List.length a.2.2)) then (bif (Nat.ble (1 + (ByteArray.size (List.getD a.2.2 (Int.toNat a.1.b) (dflt 4)))) 4611686018427387904) then (bif (Nat.ble ((ByteArray.size ((((a.2.1 ++ (⟨#[32, 61, 32]⟩ : ByteArray)) ++ a.1.op) ++ (⟨#[32]⟩ : ByteArray)) ++ (List.getD a.2.2 (Int.toNat a.1.a) (dflt 4)))) + (ByteArray.size ((⟨#[32]⟩ : ByteArray) ++ (List.getD a.2.2 (Int.toNat a.1.b) (dflt 4))))) 4611686018427387904) then (some (((((a.2.1 ++ (⟨#[32, 61, 32]⟩ : ByteArray)) ++ a.1.op) ++ (⟨#[32]⟩ : ByteArray)) ++ (List.getD a.2.2 (Int.toNat a.1.a) (dflt 4))) ++ ((⟨#[32]⟩ : ByteArray) ++ (List.getD a.2.2 (Int.toNat a.1.b) (dflt 4)))))
 else none)
 else none)
 else none)
 else (bif (seqB a.1.op (⟨#[109, 97, 116, 109, 117, 108]⟩ : ByteArray)) then (bif (inR a.1.b (List.length a.2.2)) then (bif (Nat.ble (1 + (ByteArray.size (List.getD a.2.2 (Int.toNat a.1.b) (dflt 4)))) 4611686018427387904) then (bif (Nat.ble ((ByteArray.size ((((a.2.1 ++ (⟨#[32, 61, 32]⟩ : ByteArray)) ++ a.1.op) ++ (⟨#[32]⟩ : ByteArray)) ++ (List.getD a.2.2 (Int.toNat a.1.a) (dflt 4)))) + (ByteArray.size ((⟨#[32]⟩ : ByteArray) ++ (List.getD a.2.2 (Int.toNat a.1.b) (dflt 4))))) 4611686018427387904) then (some (((((a.2.1 ++ (⟨#[32, 61, 32]⟩ : ByteArray)) ++ a.1.op) ++ (⟨#[32]⟩ : ByteArray)) ++ (List.getD a.2.2 (Int.toNat a.1.a) (dflt 4))) ++ ((⟨#[32]⟩ : ByteArray) ++ (List.getD a.2.2 (Int.toNat a.1.b) (dflt 4)))))
 else none)
 else none)
 else none)
 else (bif (seqB a.1.op (⟨#[115, 99, 97, 108, 101]⟩ : ByteArray)) then (bif (Nat.ble (1 + (ByteArray.size a.1.k)) 4611686018427387904) then (bif (Nat.ble ((ByteArray.size ((((a.2.1 ++ (⟨#[32, 61, 32]⟩ : ByteArray)) ++ a.1.op) ++ (⟨#[32]⟩ : ByteArray)) ++ (List.getD a.2.2 (Int.toNat a.1.a) (dflt 4)))) + (ByteArray.size ((⟨#[32]⟩ : ByteArray) ++ a.1.k))) 4611686018427387904) then (some (((((a.2.1 ++ (⟨#[32, 61, 32]⟩ : ByteArray)) ++ a.1.op) ++ (⟨#[32]⟩ : ByteArray)) ++ (List.getD a.2.2 (Int.toNat a.1.a) (dflt 4))) ++ ((⟨#[32]⟩ : ByteArray) ++ a.1.k)))
 else none)
 else none)
 else (bif (seqB a.1.op (⟨#[112, 111, 119, 101, 114]⟩ : ByteArray)) then (Option.bind (Tf.strconv_Itoa.f F a.1.n) (fun y48 => (bif (Nat.ble (1 + (ByteArray.size y48)) 4611686018427387904) then (bif (Nat.ble ((ByteArray.size ((((a.2.1 ++ (⟨#[32, 61, 32]⟩ : ByteArray)) ++ a.1.op) ++ (⟨#[32]⟩ : ByteArray)) ++ (List.getD a.2.2 (Int.toNat a.1.a) (dflt 4)))) + (ByteArray.size ((⟨#[32]⟩ : ByteArray) ++ y48))) 4611686018427387904) then (some (((((a.2.1 ++ (⟨#[32, 61, 32]⟩ : ByteArray)) ++ a.1.op) ++ (⟨#[32]⟩ : ByteArray)) ++ (List.getD a.2.2 (Int.toNat a.1.a) (dflt 4))) ++ ((⟨#[32]⟩ : ByteArray) ++ y48)))
 else none)
 else none)))
 else (bif (seqB a.1.op (⟨#[114, 101, 115, 104, 97, 112, 101]⟩ : ByteArray)) then (Option.bind (Tf.show_numbers.f F a.1.shape) (fun y50 => (bif (Nat.ble ((ByteArray.size ((((a.2.1 ++ (⟨#[32, 61, 32]⟩ : ByteArray)) ++ a.1.op) ++ (⟨#[32]⟩ : ByteArray)) ++ (List.getD a.2.2 (Int.toNat a.1.a) (dflt 4)))) + (ByteArray.size y50)) 4611686018427387904) then (some (((((a.2.1 ++ (⟨#[32, 61, 32]⟩ : ByteArray)) ++ a.1.op) ++ (⟨#[32]⟩ : ByteArray)) ++ (List.getD a.2.2 (Int.toNat a.1.a) (dflt 4))) ++ y50))
 else none)))
 else (bif (seqB a.1.op (⟨#[115, 112, 114, 101, 97, 100]⟩ : ByteArray)) then (Option.bind (Tf.show_numbers.f F a.1.shape) (fun y52 => (bif (Nat.ble ((ByteArray.size ((((a.2.1 ++ (⟨#[32, 61, 32]⟩ : ByteArray)) ++ a.1.op) ++ (⟨#[32]⟩ : ByteArray)) ++ (List.getD a.2.2 (Int.toNat a.1.a) (dflt 4)))) + (ByteArray.size y52)) 4611686018427387904) then (some (((((a.2.1 ++ (⟨#[32, 61, 32]⟩ : ByteArray)) ++ a.1.op) ++ (⟨#[32]⟩ : ByteArray)) ++ (List.getD a.2.2 (Int.toNat a.1.a) (dflt 4))) ++ y52))
 else none)))
 else (some ((((a.2.1 ++ (⟨#[32, 61, 32]⟩ : ByteArray)) ++ a.1.op) ++ (⟨#[32]⟩ : ByteArray)) ++ (List.getD a.2.2 (Int.toNat a.1.a) (dflt 4))))))))))))))
 else none)
 else none)
 else none)
 else none)
 else none))))
theorem Tf.show_line.f_ok (F : Nat) (a) : exec Go.VI.tyT (look [(44, Tf.strconv_Itoa.e F), (68, Tf.show_numbers.e F), (69, Tf.strings_Join.e F)] : Fns) 88 (look [] : Loops) Tf.show_line.c (init [.v 206, .p, .v 4] (encKs [.rc 6, .str, .sl 4] a)) (finT (look [(44, Tf.strconv_Itoa.e F), (68, Tf.show_numbers.e F), (69, Tf.strings_Join.e F)] : Fns) (⟨[.v 206, .p, .v 4], [.p]⟩ : Sig) [6] [.pure] [.str]) = Tf.show_line.f F a := by kernel_rfl
def Tf.show_line.e (F : Nat) : Fn := mkFn (⟨[.v 206, .p, .v 4], [.p]⟩ : Sig) [.rc 6, .str, .sl 4] [.pure] [.str] (Tf.show_line.f F)
theorem Tf.show_line.ok (F : Nat) : EntryOk Go.Proofs.Tryz.prog Go.VI.tyT.G 46 (Tf.show_line.e F) :=
  fn_ok Go.VI.tyT_ok rfl mix (.cons (Tf.strconv_Itoa.ok F) (.cons (Tf.show_numbers.ok F) (.cons (Tf.strings_Join.ok F) .nil))) (Λ := (look [] : Loops)) (fn := Go.Proofs.Tryz.f46) (c := Tf.show_line.c) (LoopsOk.of (bs := []) (by kernel_rfl) .nil) (by kernel_rfl) (by kernel_rfl) (by kernel_rfl) (by kernel_rfl) (res1 (by kernel_rfl)) (by decide) (Tf.show_line.f_ok F)
end Go.VI

namespace Go.VI
open Go
noncomputable def Tf.show_Text.c : Code := (Go.Proofs.Tryz.f24.body).getD .skip
noncomputable def Tf.show_Text.b6 : Code := codeAt [1, 1, 1, 1, 0, 1, 0, 0] Tf.show_Text.c
def Tf.show_Text.s6 (F : Nat) (L : (Int × ((List ByteArray) × (ByteArray × ((List Go.VI.Node) × ((List Go.VI.Node) × (Int × Int)))))) → Option ((ByteArray × Int) ⊕ ((List ByteArray) × ((List Go.VI.Node) × Int)))) (x : (Int × ((List ByteArray) × (ByteArray × ((List Go.VI.Node) × ((List Go.VI.Node) × (Int × Int))))))) : Option ((ByteArray × Int) ⊕ ((List ByteArray) × ((List Go.VI.Node) × Int))) :=
 (bif (decide (x.1 < x.2.2.2.2.2.2)) then (bif (inR x.1 (List.length x.2.2.2.1)) then (bif (seqB (List.getD x.2.2.2.1 (Int.toNat x.1) (dflt 6)).name (⟨#[]⟩ : ByteArray)) then (Option.bind (Tf.strconv_Itoa.f F x.1) (fun y35 => (bif (Nat.ble ((ByteArray.size x.2.2.1) + (ByteArray.size y35)) 4611686018427387904) then (bif (decide (((ByteArray.size (x.2.2.1 ++ y35)) : Int) > (8 : Int))) then (some (.inl ((⟨#[]⟩ : ByteArray), (1 : Int))))
 else (bif (Nat.ble ((List.length x.2.1) + 1) 1099511627776) then (L ((Go.IntKind.wrap IntKind.i64 (x.1 + (1 : Int))), ((x.2.1 ++ (List.set (List.replicate 1 ByteArray.empty) 0 (x.2.2.1 ++ y35))), (x.2.2.1, (x.2.2.2.1, (x.2.2.2.2.1, (x.2.2.2.2.2.1, x.2.2.2.2.2.2)))))))
 else none))
 else none)))
 else (bif (decide (((ByteArray.size (List.getD x.2.2.2.1 (Int.toNat x.1) (dflt 6)).name) : Int) > (8 : Int))) then (some (.inl ((⟨#[]⟩ : ByteArray), (1 : Int))))
 else (bif (Nat.ble ((List.length x.2.1) + 1) 1099511627776) then (L ((Go.IntKind.wrap IntKind.i64 (x.1 + (1 : Int))), ((x.2.1 ++ (List.set (List.replicate 1 ByteArray.empty) 0 (List.getD x.2.2.2.1 (Int.toNat x.1) (dflt 6)).name)), (x.2.2.1, (x.2.2.2.1, (x.2.2.2.2.1, (x.2.2.2.2.2.1, x.2.2.2.2.2.2)))))))
 else none)))
 else none)
 else (some (.inr (x.2.1, (x.2.2.2.2.1, x.2.2.2.2.2.1)))))
def Tf.show_Text.l6 (F : Nat) : (Int × ((List ByteArray) × (ByteArray × ((List Go.VI.Node) × ((List Go.VI.Node) × (Int × Int)))))) → Option ((ByteArray × Int) ⊕ ((List ByteArray) × ((List Go.VI.Node) × Int))) := iter (Tf.show_Text.s6 F) F
theorem Tf.show_Text.s6_ok (F : Nat) (L a) : exec Go.VI.tyT (look [(31, Tf.graph_Right.e F), (43, Tf.show_stem.e F), (44, Tf.strconv_Itoa.e F), (46, Tf.show_line.e F)] : Fns) 68 (look [] : Loops) Tf.show_Text.b6 (rebuild [.slot 20, .own 4 4, .slot 5, .view 18 6, .box 1 [none, none], .slot 19] (encKs [.int .i64, .sl 4, .str, .sl 6, .sl 6, .int .i64, .int .i64] a)) (bodyK [.slot 20, .own 4 4, .slot 5, .view 18 6, .box 1 [none, none], .slot 19] [.int .i64, .sl 4, .str, .sl 6, .sl 6, .int .i64, .int .i64] [⟨.ret, [.slot 2, .slot 3], [.str, .int .i64]⟩, ⟨.exit 0, [.own 4 4, .box 1 [none, none]], [.sl 4, .sl 6, .int .i64]⟩] L) = Tf.show_Text.s6 F L a := by kernel_rfl
theorem Tf.show_Text.l6_ok (F : Nat) : LoopOk Go.Proofs.Tryz.prog Go.VI.tyT.G 68 Tf.show_Text.b6 (fun st κ => hand [.slot 20, .own 4 4, .slot 5, .view 18 6, .box 1 [none, none], .slot 19] [.int .i64, .sl 4, .str, .sl 6, .sl 6, .int .i64, .int .i64] [⟨.ret, [.slot 2, .slot 3], [.str, .int .i64]⟩, ⟨.exit 0, [.own 4 4, .box 1 [none, none]], [.sl 4, .sl 6, .int .i64]⟩] (Tf.show_Text.l6 F) st κ) :=
  loop_ok Go.VI.tyT_ok rfl mix (.cons (Tf.graph_Right.ok F) (.cons (Tf.show_stem.ok F) (.cons (Tf.strconv_Itoa.ok F) (.cons (Tf.show_line.ok F) .nil)))) (Λ := (look [] : Loops)) (LoopsOk.of (bs := []) (by kernel_rfl) .nil) (Tf.show_Text.s6_ok F) F
noncomputable def Tf.show_Text.b17 : Code := codeAt [1, 1, 1, 1, 1, 1, 0, 1, 0, 0] Tf.show_Text.c
def Tf.show_Text.s17 (F : Nat) (L : (Int × ((List Int) × ((List ByteArray) × ((List Go.VI.Node) × ((List Go.VI.Node) × (Int × Int)))))) → Option ((List Go.VI.Node) × (Int × ((List ByteArray) × (List Int))))) (x : (Int × ((List Int) × ((List ByteArray) × ((List Go.VI.Node) × ((List Go.VI.Node) × (Int × Int))))))) : Option ((List Go.VI.Node) × (Int × ((List ByteArray) × (List Int)))) :=
 (bif (decide (x.1 < x.2.2.2.2.2.2)) then (bif (inR x.1 (List.length x.2.2.2.1)) then (bif (inR x.1 (List.length x.2.2.1)) then (Option.bind (Tf.show_line.f F ((Node.mk (List.getD x.2.2.2.1 (Int.toNat x.1) (dflt 6)).op (List.getD x.2.2.2.1 (Int.toNat x.1) (dflt 6)).a (List.getD x.2.2.2.1 (Int.toNat x.1) (dflt 6)).b (List.getD x.2.2.2.1 (Int.toNat x.1) (dflt 6)).name (List.getD x.2.2.2.1 (Int.toNat x.1) (dflt 6)).shape (List.getD x.2.2.2.1 (Int.toNat x.1) (dflt 6)).k (List.getD x.2.2.2.1 (Int.toNat x.1) (dflt 6)).n (List.getD x.2.2.2.1 (Int.toNat x.1) (dflt 6)).data), ((List.getD x.2.2.1 (Int.toNat x.1) (dflt 4)), x.2.2.1))) (fun y41 => (bif (Nat.ble ((ByteArray.size y41) + 1) 4611686018427387904) then (bif (((((Bool.true && (Nat.ble 1 (ByteArray.size (y41 ++ (⟨#[10]⟩ : ByteArray))))) && Bool.true) && Bool.true) && Bool.true) && Bool.true) then (bif (Nat.ble ((List.length x.2.1) + (List.length (bytesOf (y41 ++ (⟨#[10]⟩ : ByteArray))))) 1099511627776) then (L ((Go.IntKind.wrap IntKind.i64 (x.1 + (1 : Int))), ((x.2.1 ++ (bytesOf (y41 ++ (⟨#[10]⟩ : ByteArray)))), (x.2.2.1, (x.2.2.2.1, (x.2.2.2.2.1, (x.2.2.2.2.2.1, x.2.2.2.2.2.2)))))))
 else none)
 else none)
 else none)))
 else none)
 else none)
 else (some (x.2.2.2.2.1, (x.2.2.2.2.2.1, (x.2.2.1, x.2.1)))))
def Tf.show_Text.l17 (F : Nat) : (Int × ((List Int) × ((List ByteArray) × ((List Go.VI.Node) × ((List Go.VI.Node) × (Int × Int)))))) → Option ((List Go.VI.Node) × (Int × ((List ByteArray) × (List Int)))) := iter (Tf.show_Text.s17 F) F
theorem Tf.show_Text.s17_ok (F : Nat) (L a) : exec Go.VI.tyT (look [(31, Tf.graph_Right.e F), (43, Tf.show_stem.e F), (44, Tf.strconv_Itoa.e F), (46, Tf.show_line.e F)] : Fns) 68 (look [] : Loops) Tf.show_Text.b17 (rebuild [.slot 44, .bld 9 80 5, .own 4 4, .view 42 6, .box 1 [none, none], .slot 43] (encKs [.int .i64, .sl 1, .sl 4, .sl 6, .sl 6, .int .i64, .int .i64] a)) (bodyK [.slot 44, .bld 9 80 5, .own 4 4, .view 42 6, .box 1 [none, none], .slot 43] [.int .i64, .sl 1, .sl 4, .sl 6, .sl 6, .int .i64, .int .i64] [⟨.exit 2, [.box 1 [none, none], .own 4 4, .bld 9 80 5], [.sl 6, .int .i64, .sl 4, .sl 1]⟩] L) = Tf.show_Text.s17 F L a := by kernel_rfl
theorem Tf.show_Text.l17_ok (F : Nat) : LoopOk Go.Proofs.Tryz.prog Go.VI.tyT.G 68 Tf.show_Text.b17 (fun st κ => hand [.slot 44, .bld 9 80 5, .own 4 4, .view 42 6, .box 1 [none, none], .slot 43] [.int .i64, .sl 1, .sl 4, .sl 6, .sl 6, .int .i64, .int .i64] [⟨.exit 2, [.box 1 [none, none], .own 4 4, .bld 9 80 5], [.sl 6, .int .i64, .sl 4, .sl 1]⟩] (Tf.show_Text.l17 F) st κ) :=
  loop_ok Go.VI.tyT_ok rfl mix (.cons (Tf.graph_Right.ok F) (.cons (Tf.show_stem.ok F) (.cons (Tf.strconv_Itoa.ok F) (.cons (Tf.show_line.ok F) .nil)))) (Λ := (look [] : Loops)) (LoopsOk.of (bs := []) (by kernel_rfl) .nil) (Tf.show_Text.s17_ok F) F
def Tf.show_Text.f (F : Nat) (a : ((List Go.VI.Node) × Int)) : Option (ByteArray × Int) :=
 (Option.bind (Tf.graph_Right.f F (a.1, a.2)) (fun y8 => (bif (!y8) then (some ((⟨#[]⟩ : ByteArray), (1 : Int)))
 else (Option.bind (Tf.show_stem.f F (a.1, a.2)) (fun y13 => (Option.bind (Tf.show_Text.l6 F ((0 : Int), (([] : List ByteArray), (y13, (a.1, (a.1, (a.2, ((List.length a.1) : Int)))))))) (fun y19 => (sumE y19 (fun y20 => (some (y20.1, y20.2))) (fun y20 => (Option.bind (Tf.show_Text.l17 F ((0 : Int), (([] : List Int), (y20.1, (y20.2.1, (y20.2.1, (y20.2.2, ((List.length y20.2.1) : Int)))))))) (fun y26 => (bif (((Bool.true && (Nat.ble 1 (List.length y26.2.2.2))) && (Nat.ble (List.length y26.2.2.2) 1099511627776)) && (allByte y26.2.2.2)) then (bif (Nat.ble ((ByteArray.size (strOf y26.2.2.2)) + 5) 4611686018427387904) then (bif (inR y26.2.1 (List.length y26.2.2.1)) then (bif (Nat.ble ((ByteArray.size ((strOf y26.2.2.2) ++ (⟨#[108, 111, 115, 115, 32]⟩ : ByteArray))) + (ByteArray.size (List.getD y26.2.2.1 (Int.toNat y26.2.1) (dflt 4)))) 4611686018427387904) then (bif (Nat.ble ((ByteArray.size (((strOf y26.2.2.2) ++ (⟨#[108, 111, 115, 115, 32]⟩ : ByteArray)) ++ (List.getD y26.2.2.1 (Int.toNat y26.2.1) (dflt 4)))) + 1) 4611686018427387904) then (some (((((strOf y26.2.2.2) ++ (⟨#[108, 111, 115, 115, 32]⟩ : ByteArray)) ++ (List.getD y26.2.2.1 (Int.toNat y26.2.1) (dflt 4))) ++ (⟨#[10]⟩ : ByteArray)), (0 : Int)))
 else none)
 else none)
 else none)
 else none)
 else none))))))))))))
theorem Tf.show_Text.f_ok (F : Nat) (a) : exec Go.VI.tyT (look [(31, Tf.graph_Right.e F), (43, Tf.show_stem.e F), (44, Tf.strconv_Itoa.e F), (46, Tf.show_line.e F)] : Fns) 68 (look [(6, fun st κ => hand [.slot 20, .own 4 4, .slot 5, .view 18 6, .box 1 [none, none], .slot 19] [.int .i64, .sl 4, .str, .sl 6, .sl 6, .int .i64, .int .i64] [⟨.ret, [.slot 2, .slot 3], [.str, .int .i64]⟩, ⟨.exit 0, [.own 4 4, .box 1 [none, none]], [.sl 4, .sl 6, .int .i64]⟩] (Tf.show_Text.l6 F) st κ), (17, fun st κ => hand [.slot 44, .bld 9 80 5, .own 4 4, .view 42 6, .box 1 [none, none], .slot 43] [.int .i64, .sl 1, .sl 4, .sl 6, .sl 6, .int .i64, .int .i64] [⟨.exit 2, [.box 1 [none, none], .own 4 4, .bld 9 80 5], [.sl 6, .int .i64, .sl 4, .sl 1]⟩] (Tf.show_Text.l17 F) st κ)] : Loops) Tf.show_Text.c (init [.v 301] (encKs [.st [.sl 6, .int .i64]] a)) (finT (look [(31, Tf.graph_Right.e F), (43, Tf.show_stem.e F), (44, Tf.strconv_Itoa.e F), (46, Tf.show_line.e F)] : Fns) (⟨[.v 301], [.p, .p]⟩ : Sig) [2, 3] [.pure, .pure] [.str, .int .i64]) = Tf.show_Text.f F a := by kernel_rfl
def Tf.show_Text.e (F : Nat) : Fn := mkFn (⟨[.v 301], [.p, .p]⟩ : Sig) [.st [.sl 6, .int .i64]] [.pure, .pure] [.str, .int .i64] (Tf.show_Text.f F)
theorem Tf.show_Text.ok (F : Nat) : EntryOk Go.Proofs.Tryz.prog Go.VI.tyT.G 24 (Tf.show_Text.e F) :=
  fn_ok Go.VI.tyT_ok rfl mix (.cons (Tf.graph_Right.ok F) (.cons (Tf.show_stem.ok F) (.cons (Tf.strconv_Itoa.ok F) (.cons (Tf.show_line.ok F) .nil)))) (Λ := (look [(6, fun st κ => hand [.slot 20, .own 4 4, .slot 5, .view 18 6, .box 1 [none, none], .slot 19] [.int .i64, .sl 4, .str, .sl 6, .sl 6, .int .i64, .int .i64] [⟨.ret, [.slot 2, .slot 3], [.str, .int .i64]⟩, ⟨.exit 0, [.own 4 4, .box 1 [none, none]], [.sl 4, .sl 6, .int .i64]⟩] (Tf.show_Text.l6 F) st κ), (17, fun st κ => hand [.slot 44, .bld 9 80 5, .own 4 4, .view 42 6, .box 1 [none, none], .slot 43] [.int .i64, .sl 1, .sl 4, .sl 6, .sl 6, .int .i64, .int .i64] [⟨.exit 2, [.box 1 [none, none], .own 4 4, .bld 9 80 5], [.sl 6, .int .i64, .sl 4, .sl 1]⟩] (Tf.show_Text.l17 F) st κ)] : Loops)) (fn := Go.Proofs.Tryz.f24) (c := Tf.show_Text.c) (LoopsOk.of (bs := [Tf.show_Text.b6, Tf.show_Text.b17]) (by kernel_rfl) (.cons rfl (Tf.show_Text.l6_ok F) (.cons rfl (Tf.show_Text.l17_ok F) .nil))) (by kernel_rfl) (by kernel_rfl) (by kernel_rfl) (by kernel_rfl) (res2 (by kernel_rfl)) (by decide) (Tf.show_Text.f_ok F)
end Go.VI

namespace Go.VI
open Go
noncomputable def Tf.tapewrightlaw11_awake.c : Code := (Go.Proofs.Tryz.f23.body).getD .skip
def Tf.tapewrightlaw11_awake.f (F : Nat) (a : Unit) : Option Bool :=
 (Option.bind (Tf.show_Text.f F ((List.set (List.replicate 1 (Node.mk ByteArray.empty (0 : Int) (0 : Int) ByteArray.empty ([] : List Int) ByteArray.empty (0 : Int) ([] : List ByteArray))) 0 (Node.mk (⟨#[112, 97, 114, 97, 109]⟩ : ByteArray) (0 : Int) (0 : Int) (⟨#[119]⟩ : ByteArray) ([] : List Int) ByteArray.empty (0 : Int) ([] : List ByteArray))), (0 : Int))) (fun y8 => (Option.bind (Tf.show_Text.f F (([] : List Go.VI.Node), (0 : Int))) (fun y16 => (bif (seqB y8.1 (⟨#[112, 97, 114, 97, 109, 32, 119, 10, 108, 111, 115, 115, 32, 119, 10]⟩ : ByteArray)) then (bif (y8.2 == (0 : Int)) then (some (y16.2 == (1 : Int)))
 else (some Bool.false))
 else (some Bool.false))))))
theorem Tf.tapewrightlaw11_awake.f_ok (F : Nat) (a) : exec Go.VI.tyT (look [(24, Tf.show_Text.e F)] : Fns) 27 (look [] : Loops) Tf.tapewrightlaw11_awake.c (init [] (encKs [] a)) (finT (look [(24, Tf.show_Text.e F)] : Fns) (⟨[], [.p]⟩ : Sig) [0] [.pure] [.bool]) = Tf.tapewrightlaw11_awake.f F a := by kernel_rfl
def Tf.tapewrightlaw11_awake.e (F : Nat) : Fn := mkFn (⟨[], [.p]⟩ : Sig) [] [.pure] [.bool] (Tf.tapewrightlaw11_awake.f F)
theorem Tf.tapewrightlaw11_awake.ok (F : Nat) : EntryOk Go.Proofs.Tryz.prog Go.VI.tyT.G 23 (Tf.tapewrightlaw11_awake.e F) :=
  fn_ok Go.VI.tyT_ok rfl mix (.cons (Tf.show_Text.ok F) .nil) (Λ := (look [] : Loops)) (fn := Go.Proofs.Tryz.f23) (c := Tf.tapewrightlaw11_awake.c) (LoopsOk.of (bs := []) (by kernel_rfl) .nil) (by kernel_rfl) (by kernel_rfl) (by kernel_rfl) (by kernel_rfl) (res1 (by kernel_rfl)) (by decide) (Tf.tapewrightlaw11_awake.f_ok F)
end Go.VI

namespace Go.VI
open Go
noncomputable def Tf.graph_node.c : Code := (Go.Proofs.Tryz.f53.body).getD .skip
noncomputable def Tf.graph_node.b5 : Code := codeAt [1, 1, 1, 0, 1, 0, 0] Tf.graph_node.c
def Tf.graph_node.s5 (F : Nat) (L : (ByteArray × (Int × (Int × (ByteArray × (Unit × (ByteArray × (Int × (Unit × (ByteArray × (Int × (Int × (ByteArray × ((List Int) × (ByteArray × (Int × ((List ByteArray) × (Int × ((List (ByteArray × Int)) × ((List ByteArray) × Int))))))))))))))))))) → Option ((ByteArray × (Int × (Int × (ByteArray × ((List Int) × (ByteArray × (Int × ((List ByteArray) × Bool)))))))) ⊕ (ByteArray × (Int × (Int × (ByteArray × (Unit × (ByteArray × (Int × (Unit × (ByteArray × (Int × (Int × (ByteArray × ((List Int) × (ByteArray × (Int × (List ByteArray)))))))))))))))))) (x : (ByteArray × (Int × (Int × (ByteArray × (Unit × (ByteArray × (Int × (Unit × (ByteArray × (Int × (Int × (ByteArray × ((List Int) × (ByteArray × (Int × ((List ByteArray) × (Int × ((List (ByteArray × Int)) × ((List ByteArray) × Int)))))))))))))))))))) : Option ((ByteArray × (Int × (Int × (ByteArray × ((List Int) × (ByteArray × (Int × ((List ByteArray) × Bool)))))))) ⊕ (ByteArray × (Int × (Int × (ByteArray × (Unit × (ByteArray × (Int × (Unit × (ByteArray × (Int × (Int × (ByteArray × ((List Int) × (ByteArray × (Int × (List ByteArray))))))))))))))))) :=
 (bif (decide (x.2.2.2.2.2.2.2.2.2.2.2.2.2.2.2.2.1 < x.2.2.2.2.2.2.2.2.2.2.2.2.2.2.2.2.2.2.2)) then (bif (inR x.2.2.2.2.2.2.2.2.2.2.2.2.2.2.2.2.1 (List.length x.2.2.2.2.2.2.2.2.2.2.2.2.2.2.2.2.2.2.1)) then (bif (!(Option.isSome (getM x.2.2.2.2.2.2.2.2.2.2.2.2.2.2.2.2.2.1 (List.getD x.2.2.2.2.2.2.2.2.2.2.2.2.2.2.2.2.2.2.1 (Int.toNat x.2.2.2.2.2.2.2.2.2.2.2.2.2.2.2.2.1) (dflt 4))))) then (some (.inl (x.2.2.2.2.2.2.2.2.1, (x.2.2.2.2.2.2.2.2.2.1, (x.2.2.2.2.2.2.2.2.2.2.1, (x.2.2.2.2.2.2.2.2.2.2.2.1, (x.2.2.2.2.2.2.2.2.2.2.2.2.1, (x.2.2.2.2.2.2.2.2.2.2.2.2.2.1, (x.2.2.2.2.2.2.2.2.2.2.2.2.2.2.1, (x.2.2.2.2.2.2.2.2.2.2.2.2.2.2.2.1, Bool.false))))))))))
 else (bif (x.2.2.2.2.2.2.2.2.2.2.2.2.2.2.2.2.1 == (0 : Int)) then (L (x.1, (x.2.1, (x.2.2.1, (x.2.2.2.1, ((), (x.2.2.2.2.2.1, (x.2.2.2.2.2.2.1, ((), (x.2.2.2.2.2.2.2.2.1, ((Option.getD (getM x.2.2.2.2.2.2.2.2.2.2.2.2.2.2.2.2.2.1 (List.getD x.2.2.2.2.2.2.2.2.2.2.2.2.2.2.2.2.2.2.1 (Int.toNat x.2.2.2.2.2.2.2.2.2.2.2.2.2.2.2.2.1) (dflt 4))) (0 : Int)), (x.2.2.2.2.2.2.2.2.2.2.1, (x.2.2.2.2.2.2.2.2.2.2.2.1, (x.2.2.2.2.2.2.2.2.2.2.2.2.1, (x.2.2.2.2.2.2.2.2.2.2.2.2.2.1, (x.2.2.2.2.2.2.2.2.2.2.2.2.2.2.1, (x.2.2.2.2.2.2.2.2.2.2.2.2.2.2.2.1, ((Go.IntKind.wrap IntKind.i64 (x.2.2.2.2.2.2.2.2.2.2.2.2.2.2.2.2.1 + (1 : Int))), (x.2.2.2.2.2.2.2.2.2.2.2.2.2.2.2.2.2.1, (x.2.2.2.2.2.2.2.2.2.2.2.2.2.2.2.2.2.2.1, x.2.2.2.2.2.2.2.2.2.2.2.2.2.2.2.2.2.2.2))))))))))))))))))))
 else (L (x.1, (x.2.1, (x.2.2.1, (x.2.2.2.1, ((), (x.2.2.2.2.2.1, (x.2.2.2.2.2.2.1, ((), (x.2.2.2.2.2.2.2.2.1, (x.2.2.2.2.2.2.2.2.2.1, ((Option.getD (getM x.2.2.2.2.2.2.2.2.2.2.2.2.2.2.2.2.2.1 (List.getD x.2.2.2.2.2.2.2.2.2.2.2.2.2.2.2.2.2.2.1 (Int.toNat x.2.2.2.2.2.2.2.2.2.2.2.2.2.2.2.2.1) (dflt 4))) (0 : Int)), (x.2.2.2.2.2.2.2.2.2.2.2.1, (x.2.2.2.2.2.2.2.2.2.2.2.2.1, (x.2.2.2.2.2.2.2.2.2.2.2.2.2.1, (x.2.2.2.2.2.2.2.2.2.2.2.2.2.2.1, (x.2.2.2.2.2.2.2.2.2.2.2.2.2.2.2.1, ((Go.IntKind.wrap IntKind.i64 (x.2.2.2.2.2.2.2.2.2.2.2.2.2.2.2.2.1 + (1 : Int))), (x.2.2.2.2.2.2.2.2.2.2.2.2.2.2.2.2.2.1, (x.2.2.2.2.2.2.2.2.2.2.2.2.2.2.2.2.2.2.1, x.2.2.2.2.2.2.2.2.2.2.2.2.2.2.2.2.2.2.2))))))))))))))))))))))
 else none)
 else (some (.inr (x.1, (x.2.1, (x.2.2.1, (x.2.2.2.1, ((), (x.2.2.2.2.2.1, (x.2.2.2.2.2.2.1, ((), (x.2.2.2.2.2.2.2.2.1, (x.2.2.2.2.2.2.2.2.2.1, (x.2.2.2.2.2.2.2.2.2.2.1, (x.2.2.2.2.2.2.2.2.2.2.2.1, (x.2.2.2.2.2.2.2.2.2.2.2.2.1, (x.2.2.2.2.2.2.2.2.2.2.2.2.2.1, (x.2.2.2.2.2.2.2.2.2.2.2.2.2.2.1, x.2.2.2.2.2.2.2.2.2.2.2.2.2.2.2.1))))))))))))))))))
def Tf.graph_node.l5 (F : Nat) : (ByteArray × (Int × (Int × (ByteArray × (Unit × (ByteArray × (Int × (Unit × (ByteArray × (Int × (Int × (ByteArray × ((List Int) × (ByteArray × (Int × ((List ByteArray) × (Int × ((List (ByteArray × Int)) × ((List ByteArray) × Int))))))))))))))))))) → Option ((ByteArray × (Int × (Int × (ByteArray × ((List Int) × (ByteArray × (Int × ((List ByteArray) × Bool)))))))) ⊕ (ByteArray × (Int × (Int × (ByteArray × (Unit × (ByteArray × (Int × (Unit × (ByteArray × (Int × (Int × (ByteArray × ((List Int) × (ByteArray × (Int × (List ByteArray))))))))))))))))) := iter (Tf.graph_node.s5 F) F
theorem Tf.graph_node.s5_ok (F : Nat) (L a) : exec Go.VI.tyT (look [(71, Tf.slices_Clone_ints.e F), (72, Tf.slices_Clone_strings.e F)] : Fns) 60 (look [] : Loops) Tf.graph_node.b5 (rebuild [.box 4 [none, none, none, none, none, none, none, none], .box 6 [none, none, none, none, some 0, none, none, some 4], .slot 38, .slot 1, .view 36 4, .slot 37] (encKs [.str, .int .i64, .int .i64, .str, .nil, .str, .int .i64, .nil, .str, .int .i64, .int .i64, .str, .sl 0, .str, .int .i64, .sl 4, .int .i64, .map, .sl 4, .int .i64] a)) (bodyK [.box 4 [none, none, none, none, none, none, none, none], .box 6 [none, none, none, none, some 0, none, none, some 4], .slot 38, .slot 1, .view 36 4, .slot 37] [.str, .int .i64, .int .i64, .str, .nil, .str, .int .i64, .nil, .str, .int .i64, .int .i64, .str, .sl 0, .str, .int .i64, .sl 4, .int .i64, .map, .sl 4, .int .i64] [⟨.ret, [.box 4 [none, none, none, none, some 0, none, none, some 4], .slot 5], [.str, .int .i64, .int .i64, .str, .sl 0, .str, .int .i64, .sl 4, .bool]⟩, ⟨.exit 0, [.box 4 [none, none, none, none, none, none, none, none], .box 6 [none, none, none, none, some 0, none, none, some 4]], [.str, .int .i64, .int .i64, .str, .nil, .str, .int .i64, .nil, .str, .int .i64, .int .i64, .str, .sl 0, .str, .int .i64, .sl 4]⟩] L) = Tf.graph_node.s5 F L a := by kernel_rfl
theorem Tf.graph_node.l5_ok (F : Nat) : LoopOk Go.Proofs.Tryz.prog Go.VI.tyT.G 60 Tf.graph_node.b5 (fun st κ => hand [.box 4 [none, none, none, none, none, none, none, none], .box 6 [none, none, none, none, some 0, none, none, some 4], .slot 38, .slot 1, .view 36 4, .slot 37] [.str, .int .i64, .int .i64, .str, .nil, .str, .int .i64, .nil, .str, .int .i64, .int .i64, .str, .sl 0, .str, .int .i64, .sl 4, .int .i64, .map, .sl 4, .int .i64] [⟨.ret, [.box 4 [none, none, none, none, some 0, none, none, some 4], .slot 5], [.str, .int .i64, .int .i64, .str, .sl 0, .str, .int .i64, .sl 4, .bool]⟩, ⟨.exit 0, [.box 4 [none, none, none, none, none, none, none, none], .box 6 [none, none, none, none, some 0, none, none, some 4]], [.str, .int .i64, .int .i64, .str, .nil, .str, .int .i64, .nil, .str, .int .i64, .int .i64, .str, .sl 0, .str, .int .i64, .sl 4]⟩] (Tf.graph_node.l5 F) st κ) :=
  loop_ok Go.VI.tyT_ok rfl mix (.cons (Tf.slices_Clone_ints.ok F) (.cons (Tf.slices_Clone_strings.ok F) .nil)) (Λ := (look [] : Loops)) (LoopsOk.of (bs := []) (by kernel_rfl) .nil) (Tf.graph_node.s5_ok F) F
def Tf.graph_node.f (F : Nat) (a : (Go.VI.Stmt × (List (ByteArray × Int)))) : Option (Go.VI.Node × Bool) :=
 (Option.bind (Tf.slices_Clone_ints.f F a.1.dims) (fun y11 => (Option.bind (Tf.slices_Clone_strings.f F a.1.data) (fun y19 => (bif (seqB a.1.op (⟨#[112, 97, 114, 97, 109]⟩ : ByteArray)) then (Option.bind (Tf.graph_node.l5 F (ByteArray.empty, ((0 : Int), ((0 : Int), (ByteArray.empty, ((), (ByteArray.empty, ((0 : Int), ((), (a.1.op, ((0 : Int), ((0 : Int), (a.1.name, (y11, (a.1.k, (a.1.n, (y19, ((0 : Int), (a.2, (a.1.args, ((List.length a.1.args) : Int))))))))))))))))))))) (fun y36 => (sumE y36 (fun y37 => (some ((Node.mk y37.1 y37.2.1 y37.2.2.1 y37.2.2.2.1 y37.2.2.2.2.1 y37.2.2.2.2.2.1 y37.2.2.2.2.2.2.1 y37.2.2.2.2.2.2.2.1), y37.2.2.2.2.2.2.2.2))) (fun y37 => (some ((Node.mk y37.2.2.2.2.2.2.2.2.1 y37.2.2.2.2.2.2.2.2.2.1 y37.2.2.2.2.2.2.2.2.2.2.1 y37.2.2.2.2.2.2.2.2.2.2.2.1 y37.2.2.2.2.2.2.2.2.2.2.2.2.1 y37.2.2.2.2.2.2.2.2.2.2.2.2.2.1 y37.2.2.2.2.2.2.2.2.2.2.2.2.2.2.1 y37.2.2.2.2.2.2.2.2.2.2.2.2.2.2.2), Bool.true))))))
 else (bif (seqB a.1.op (⟨#[105, 110, 112, 117, 116]⟩ : ByteArray)) then (Option.bind (Tf.graph_node.l5 F (ByteArray.empty, ((0 : Int), ((0 : Int), (ByteArray.empty, ((), (ByteArray.empty, ((0 : Int), ((), (a.1.op, ((0 : Int), ((0 : Int), (a.1.name, (y11, (a.1.k, (a.1.n, (y19, ((0 : Int), (a.2, (a.1.args, ((List.length a.1.args) : Int))))))))))))))))))))) (fun y39 => (sumE y39 (fun y40 => (some ((Node.mk y40.1 y40.2.1 y40.2.2.1 y40.2.2.2.1 y40.2.2.2.2.1 y40.2.2.2.2.2.1 y40.2.2.2.2.2.2.1 y40.2.2.2.2.2.2.2.1), y40.2.2.2.2.2.2.2.2))) (fun y40 => (some ((Node.mk y40.2.2.2.2.2.2.2.2.1 y40.2.2.2.2.2.2.2.2.2.1 y40.2.2.2.2.2.2.2.2.2.2.1 y40.2.2.2.2.2.2.2.2.2.2.2.1 y40.2.2.2.2.2.2.2.2.2.2.2.2.1 y40.2.2.2.2.2.2.2.2.2.2.2.2.2.1 y40.2.2.2.2.2.2.2.2.2.2.2.2.2.2.1 y40.2.2.2.2.2.2.2.2.2.2.2.2.2.2.2), Bool.true))))))
 else (Option.bind (Tf.graph_node.l5 F (ByteArray.empty, ((0 : Int), ((0 : Int), (ByteArray.empty, ((), (ByteArray.empty, ((0 : Int), ((), (a.1.op, ((0 : Int), ((0 : Int), (ByteArray.empty, (y11, (a.1.k, (a.1.n, (y19, ((0 : Int), (a.2, (a.1.args, ((List.length a.1.args) : Int))))))))))))))))))))) (fun y35 => (sumE y35 (fun y36 => (some ((Node.mk y36.1 y36.2.1 y36.2.2.1 y36.2.2.2.1 y36.2.2.2.2.1 y36.2.2.2.2.2.1 y36.2.2.2.2.2.2.1 y36.2.2.2.2.2.2.2.1), y36.2.2.2.2.2.2.2.2))) (fun y36 => (some ((Node.mk y36.2.2.2.2.2.2.2.2.1 y36.2.2.2.2.2.2.2.2.2.1 y36.2.2.2.2.2.2.2.2.2.2.1 y36.2.2.2.2.2.2.2.2.2.2.2.1 y36.2.2.2.2.2.2.2.2.2.2.2.2.1 y36.2.2.2.2.2.2.2.2.2.2.2.2.2.1 y36.2.2.2.2.2.2.2.2.2.2.2.2.2.2.1 y36.2.2.2.2.2.2.2.2.2.2.2.2.2.2.2), Bool.true))))))))))))
theorem Tf.graph_node.f_ok (F : Nat) (a) : exec Go.VI.tyT (look [(71, Tf.slices_Clone_ints.e F), (72, Tf.slices_Clone_strings.e F)] : Fns) 60 (look [(5, fun st κ => hand [.box 4 [none, none, none, none, none, none, none, none], .box 6 [none, none, none, none, some 0, none, none, some 4], .slot 38, .slot 1, .view 36 4, .slot 37] [.str, .int .i64, .int .i64, .str, .nil, .str, .int .i64, .nil, .str, .int .i64, .int .i64, .str, .sl 0, .str, .int .i64, .sl 4, .int .i64, .map, .sl 4, .int .i64] [⟨.ret, [.box 4 [none, none, none, none, some 0, none, none, some 4], .slot 5], [.str, .int .i64, .int .i64, .str, .sl 0, .str, .int .i64, .sl 4, .bool]⟩, ⟨.exit 0, [.box 4 [none, none, none, none, none, none, none, none], .box 6 [none, none, none, none, some 0, none, none, some 4]], [.str, .int .i64, .int .i64, .str, .nil, .str, .int .i64, .nil, .str, .int .i64, .int .i64, .str, .sl 0, .str, .int .i64, .sl 4]⟩] (Tf.graph_node.l5 F) st κ)] : Loops) Tf.graph_node.c (init [.v 207, .p] (encKs [.rc 7, .map] a)) (finC Go.VI.tyT (look [(71, Tf.slices_Clone_ints.e F), (72, Tf.slices_Clone_strings.e F)] : Fns) 60 4 75 (⟨[.v 207, .p], [.v 206, .p]⟩ : Sig) [4, 5] [.pure, .pure] [.rc 6, .bool]) = Tf.graph_node.f F a := by kernel_rfl
def Tf.graph_node.e (F : Nat) : Fn := mkFn (⟨[.v 207, .p], [.v 206, .p]⟩ : Sig) [.rc 7, .map] [.pure, .pure] [.rc 6, .bool] (Tf.graph_node.f F)
theorem Tf.graph_node.ok (F : Nat) : EntryOk Go.Proofs.Tryz.prog Go.VI.tyT.G 53 (Tf.graph_node.e F) :=
  fn_okC Go.VI.tyT_ok rfl mix (.cons (Tf.slices_Clone_ints.ok F) (.cons (Tf.slices_Clone_strings.ok F) .nil)) (Λ := (look [(5, fun st κ => hand [.box 4 [none, none, none, none, none, none, none, none], .box 6 [none, none, none, none, some 0, none, none, some 4], .slot 38, .slot 1, .view 36 4, .slot 37] [.str, .int .i64, .int .i64, .str, .nil, .str, .int .i64, .nil, .str, .int .i64, .int .i64, .str, .sl 0, .str, .int .i64, .sl 4, .int .i64, .map, .sl 4, .int .i64] [⟨.ret, [.box 4 [none, none, none, none, some 0, none, none, some 4], .slot 5], [.str, .int .i64, .int .i64, .str, .sl 0, .str, .int .i64, .sl 4, .bool]⟩, ⟨.exit 0, [.box 4 [none, none, none, none, none, none, none, none], .box 6 [none, none, none, none, some 0, none, none, some 4]], [.str, .int .i64, .int .i64, .str, .nil, .str, .int .i64, .nil, .str, .int .i64, .int .i64, .str, .sl 0, .str, .int .i64, .sl 4]⟩] (Tf.graph_node.l5 F) st κ)] : Loops)) (fn := Go.Proofs.Tryz.f53) (c := Tf.graph_node.c) (LoopsOk.of (bs := [Tf.graph_node.b5]) (by kernel_rfl) (.cons rfl (Tf.graph_node.l5_ok F) .nil)) (by kernel_rfl) (by kernel_rfl) (by kernel_rfl) (by kernel_rfl) (resC1 (by kernel_rfl) (by kernel_rfl)) (by decide) (Tf.graph_node.f_ok F)
end Go.VI

namespace Go.VI
open Go
noncomputable def Tf.graph_Build.c : Code := (Go.Proofs.Tryz.f28.body).getD .skip
noncomputable def Tf.graph_Build.b4 : Code := codeAt [1, 1, 1, 0, 1, 0, 0] Tf.graph_Build.c
def Tf.graph_Build.s4 (F : Nat) (L : (Unit × (Int × (Int × ((List Go.VI.Node) × (Int × ((List (ByteArray × Int)) × ((List Go.VI.Stmt) × ((List Go.VI.Stmt) × Int)))))))) → Option ((Unit × (Int × (Int × Int))) ⊕ (Unit × (Int × ((List Go.VI.Stmt) × ((List Go.VI.Node) × Int)))))) (x : (Unit × (Int × (Int × ((List Go.VI.Node) × (Int × ((List (ByteArray × Int)) × ((List Go.VI.Stmt) × ((List Go.VI.Stmt) × Int))))))))) : Option ((Unit × (Int × (Int × Int))) ⊕ (Unit × (Int × ((List Go.VI.Stmt) × ((List Go.VI.Node) × Int))))) :=
 (bif (decide (x.2.2.1 < x.2.2.2.2.2.2.2.2)) then (bif (inR x.2.2.1 (List.length x.2.2.2.2.2.2.1)) then (bif (Option.isSome (getM x.2.2.2.2.2.1 (List.getD x.2.2.2.2.2.2.1 (Int.toNat x.2.2.1) (dflt 7)).name)) then (bif (!(seqB (List.getD x.2.2.2.2.2.2.1 (Int.toNat x.2.2.1) (dflt 7)).op (⟨#[108, 111, 115, 115]⟩ : ByteArray))) then (some (.inl ((), ((0 : Int), (x.2.2.1, (6 : Int))))))
 else (Option.bind (Tf.graph_node.f F ((Stmt.mk (List.getD x.2.2.2.2.2.2.1 (Int.toNat x.2.2.1) (dflt 7)).name (List.getD x.2.2.2.2.2.2.1 (Int.toNat x.2.2.1) (dflt 7)).op (List.getD x.2.2.2.2.2.2.1 (Int.toNat x.2.2.1) (dflt 7)).args (List.getD x.2.2.2.2.2.2.1 (Int.toNat x.2.2.1) (dflt 7)).dims (List.getD x.2.2.2.2.2.2.1 (Int.toNat x.2.2.1) (dflt 7)).k (List.getD x.2.2.2.2.2.2.1 (Int.toNat x.2.2.1) (dflt 7)).n (List.getD x.2.2.2.2.2.2.1 (Int.toNat x.2.2.1) (dflt 7)).data), x.2.2.2.2.2.1)) (fun y40 => (bif (!y40.2) then (some (.inl ((), ((0 : Int), (x.2.2.1, (5 : Int))))))
 else (bif (seqB (List.getD x.2.2.2.2.2.2.1 (Int.toNat x.2.2.1) (dflt 7)).op (⟨#[108, 111, 115, 115]⟩ : ByteArray)) then (bif (decide (x.2.2.2.2.1 ≥ (0 : Int))) then (some (.inl ((), ((0 : Int), (x.2.2.1, (6 : Int))))))
 else (bif (inR y40.1.a (List.length x.2.2.2.1)) then (bif (((List.length (List.getD x.2.2.2.1 (Int.toNat y40.1.a) (dflt 6)).shape) : Int) != (0 : Int)) then (some (.inl ((), ((0 : Int), (x.2.2.1, (7 : Int))))))
 else (L ((), (x.2.1, ((Go.IntKind.wrap IntKind.i64 (x.2.2.1 + (1 : Int))), (x.2.2.2.1, (y40.1.a, (x.2.2.2.2.2.1, (x.2.2.2.2.2.2.1, (x.2.2.2.2.2.2.2.1, x.2.2.2.2.2.2.2.2))))))))))
 else none))
 else (bif (((List.length x.2.2.2.1) : Int) == (200 : Int)) then (some (.inl ((), ((0 : Int), (x.2.2.1, (8 : Int))))))
 else (Option.bind (Tf.graph_Infer.f F (x.2.2.2.1, (Node.mk y40.1.op y40.1.a y40.1.b y40.1.name y40.1.shape y40.1.k y40.1.n y40.1.data))) (fun y60 => (bif (!y60.2) then (some (.inl ((), ((0 : Int), (x.2.2.1, (4 : Int))))))
 else (bif (Nat.ble ((List.length x.2.2.2.1) + 1) 1099511627776) then (L ((), (x.2.1, ((Go.IntKind.wrap IntKind.i64 (x.2.2.1 + (1 : Int))), ((x.2.2.2.1 ++ (List.set (List.replicate 1 (Node.mk ByteArray.empty (0 : Int) (0 : Int) ByteArray.empty ([] : List Int) ByteArray.empty (0 : Int) ([] : List ByteArray))) 0 (Node.mk y40.1.op y40.1.a y40.1.b y40.1.name y60.1 y40.1.k y40.1.n y40.1.data))), (x.2.2.2.2.1, ((putM x.2.2.2.2.2.1 (List.getD x.2.2.2.2.2.2.1 (Int.toNat x.2.2.1) (dflt 7)).name ((List.length x.2.2.2.1) : Int)), (x.2.2.2.2.2.2.1, (x.2.2.2.2.2.2.2.1, x.2.2.2.2.2.2.2.2)))))))))
 else none))))))))))
 else (Option.bind (Tf.graph_node.f F ((Stmt.mk (List.getD x.2.2.2.2.2.2.1 (Int.toNat x.2.2.1) (dflt 7)).name (List.getD x.2.2.2.2.2.2.1 (Int.toNat x.2.2.1) (dflt 7)).op (List.getD x.2.2.2.2.2.2.1 (Int.toNat x.2.2.1) (dflt 7)).args (List.getD x.2.2.2.2.2.2.1 (Int.toNat x.2.2.1) (dflt 7)).dims (List.getD x.2.2.2.2.2.2.1 (Int.toNat x.2.2.1) (dflt 7)).k (List.getD x.2.2.2.2.2.2.1 (Int.toNat x.2.2.1) (dflt 7)).n (List.getD x.2.2.2.2.2.2.1 (Int.toNat x.2.2.1) (dflt 7)).data), x.2.2.2.2.2.1)) (fun y37 => (bif (!y37.2) then (some (.inl ((), ((0 : Int), (x.2.2.1, (5 : Int))))))
 else (bif (seqB (List.getD x.2.2.2.2.2.2.1 (Int.toNat x.2.2.1) (dflt 7)).op (⟨#[108, 111, 115, 115]⟩ : ByteArray)) then (bif (decide (x.2.2.2.2.1 ≥ (0 : Int))) then (some (.inl ((), ((0 : Int), (x.2.2.1, (6 : Int))))))
 else (bif (inR y37.1.a (List.length x.2.2.2.1)) then (bif (((List.length (List.getD x.2.2.2.1 (Int.toNat y37.1.a) (dflt 6)).shape) : Int) != (0 : Int)) then (some (.inl ((), ((0 : Int), (x.2.2.1, (7 : Int))))))
 else (L ((), (x.2.1, ((Go.IntKind.wrap IntKind.i64 (x.2.2.1 + (1 : Int))), (x.2.2.2.1, (y37.1.a, (x.2.2.2.2.2.1, (x.2.2.2.2.2.2.1, (x.2.2.2.2.2.2.2.1, x.2.2.2.2.2.2.2.2))))))))))
 else none))
 else (bif (((List.length x.2.2.2.1) : Int) == (200 : Int)) then (some (.inl ((), ((0 : Int), (x.2.2.1, (8 : Int))))))
 else (Option.bind (Tf.graph_Infer.f F (x.2.2.2.1, (Node.mk y37.1.op y37.1.a y37.1.b y37.1.name y37.1.shape y37.1.k y37.1.n y37.1.data))) (fun y57 => (bif (!y57.2) then (some (.inl ((), ((0 : Int), (x.2.2.1, (4 : Int))))))
 else (bif (Nat.ble ((List.length x.2.2.2.1) + 1) 1099511627776) then (L ((), (x.2.1, ((Go.IntKind.wrap IntKind.i64 (x.2.2.1 + (1 : Int))), ((x.2.2.2.1 ++ (List.set (List.replicate 1 (Node.mk ByteArray.empty (0 : Int) (0 : Int) ByteArray.empty ([] : List Int) ByteArray.empty (0 : Int) ([] : List ByteArray))) 0 (Node.mk y37.1.op y37.1.a y37.1.b y37.1.name y57.1 y37.1.k y37.1.n y37.1.data))), (x.2.2.2.2.1, ((putM x.2.2.2.2.2.1 (List.getD x.2.2.2.2.2.2.1 (Int.toNat x.2.2.1) (dflt 7)).name ((List.length x.2.2.2.1) : Int)), (x.2.2.2.2.2.2.1, (x.2.2.2.2.2.2.2.1, x.2.2.2.2.2.2.2.2)))))))))
 else none))))))))))
 else none)
 else (some (.inr ((), (x.2.1, (x.2.2.2.2.2.2.2.1, (x.2.2.2.1, x.2.2.2.2.1)))))))
def Tf.graph_Build.l4 (F : Nat) : (Unit × (Int × (Int × ((List Go.VI.Node) × (Int × ((List (ByteArray × Int)) × ((List Go.VI.Stmt) × ((List Go.VI.Stmt) × Int)))))))) → Option ((Unit × (Int × (Int × Int))) ⊕ (Unit × (Int × ((List Go.VI.Stmt) × ((List Go.VI.Node) × Int))))) := iter (Tf.graph_Build.s4 F) F
theorem Tf.graph_Build.s4_ok (F : Nat) (L a) : exec Go.VI.tyT (look [(53, Tf.graph_node.e F), (54, Tf.graph_Infer.e F)] : Fns) 109 (look [] : Loops) Tf.graph_Build.b4 (rebuild [.box 2 [none, none], .slot 17, .box 5 [some 6, none], .mp 6, .view 15 7, .view 0 7, .slot 16] (encKs [.nil, .int .i64, .int .i64, .sl 6, .int .i64, .map, .sl 7, .sl 7, .int .i64] a)) (bodyK [.box 2 [none, none], .slot 17, .box 5 [some 6, none], .mp 6, .view 15 7, .view 0 7, .slot 16] [.nil, .int .i64, .int .i64, .sl 6, .int .i64, .map, .sl 7, .sl 7, .int .i64] [⟨.ret, [.box 2 [none, none], .slot 3, .slot 4], [.nil, .int .i64, .int .i64, .int .i64]⟩, ⟨.exit 0, [.box 2 [none, none], .view 0 7, .box 5 [some 6, none]], [.nil, .int .i64, .sl 7, .sl 6, .int .i64]⟩] L) = Tf.graph_Build.s4 F L a := by kernel_rfl
theorem Tf.graph_Build.l4_ok (F : Nat) : LoopOk Go.Proofs.Tryz.prog Go.VI.tyT.G 109 Tf.graph_Build.b4 (fun st κ => hand [.box 2 [none, none], .slot 17, .box 5 [some 6, none], .mp 6, .view 15 7, .view 0 7, .slot 16] [.nil, .int .i64, .int .i64, .sl 6, .int .i64, .map, .sl 7, .sl 7, .int .i64] [⟨.ret, [.box 2 [none, none], .slot 3, .slot 4], [.nil, .int .i64, .int .i64, .int .i64]⟩, ⟨.exit 0, [.box 2 [none, none], .view 0 7, .box 5 [some 6, none]], [.nil, .int .i64, .sl 7, .sl 6, .int .i64]⟩] (Tf.graph_Build.l4 F) st κ) :=
  loop_ok Go.VI.tyT_ok rfl mix (.cons (Tf.graph_node.ok F) (.cons (Tf.graph_Infer.ok F) .nil)) (Λ := (look [] : Loops)) (LoopsOk.of (bs := []) (by kernel_rfl) .nil) (Tf.graph_Build.s4_ok F) F
def Tf.graph_Build.f (F : Nat) (a : (List Go.VI.Stmt)) : Option (((List Go.VI.Node) × Int) × (Int × Int)) :=
 (Option.bind (Tf.graph_Build.l4 F ((), ((0 : Int), ((0 : Int), (([] : List Go.VI.Node), ((-(1 : Int)), (([] : List (ByteArray × Int)), (a, (a, ((List.length a) : Int)))))))))) (fun y14 => (sumE y14 (fun y15 => (some ((([] : List Go.VI.Node), y15.2.1), (y15.2.2.1, y15.2.2.2)))) (fun y15 => (bif (decide (y15.2.2.2.2 < (0 : Int))) then (some ((([] : List Go.VI.Node), (0 : Int)), (((List.length y15.2.2.1) : Int), (7 : Int))))
 else (some ((y15.2.2.2.1, y15.2.2.2.2), ((0 : Int), (0 : Int)))))))))
theorem Tf.graph_Build.f_ok (F : Nat) (a) : exec Go.VI.tyT (look [(53, Tf.graph_node.e F), (54, Tf.graph_Infer.e F)] : Fns) 109 (look [(4, fun st κ => hand [.box 2 [none, none], .slot 17, .box 5 [some 6, none], .mp 6, .view 15 7, .view 0 7, .slot 16] [.nil, .int .i64, .int .i64, .sl 6, .int .i64, .map, .sl 7, .sl 7, .int .i64] [⟨.ret, [.box 2 [none, none], .slot 3, .slot 4], [.nil, .int .i64, .int .i64, .int .i64]⟩, ⟨.exit 0, [.box 2 [none, none], .view 0 7, .box 5 [some 6, none]], [.nil, .int .i64, .sl 7, .sl 6, .int .i64]⟩] (Tf.graph_Build.l4 F) st κ)] : Loops) Tf.graph_Build.c (init [.v 7] (encKs [.sl 7] a)) (finC Go.VI.tyT (look [(53, Tf.graph_node.e F), (54, Tf.graph_Infer.e F)] : Fns) 109 2 50 (⟨[.v 7], [.v 301, .p, .p]⟩ : Sig) [2, 3, 4] [.pure, .pure, .pure] [.st [.sl 6, .int .i64], .int .i64, .int .i64]) = Tf.graph_Build.f F a := by kernel_rfl
def Tf.graph_Build.e (F : Nat) : Fn := mkFn (⟨[.v 7], [.v 301, .p, .p]⟩ : Sig) [.sl 7] [.pure, .pure, .pure] [.st [.sl 6, .int .i64], .int .i64, .int .i64] (Tf.graph_Build.f F)
theorem Tf.graph_Build.ok (F : Nat) : EntryOk Go.Proofs.Tryz.prog Go.VI.tyT.G 28 (Tf.graph_Build.e F) :=
  fn_okC Go.VI.tyT_ok rfl mix (.cons (Tf.graph_node.ok F) (.cons (Tf.graph_Infer.ok F) .nil)) (Λ := (look [(4, fun st κ => hand [.box 2 [none, none], .slot 17, .box 5 [some 6, none], .mp 6, .view 15 7, .view 0 7, .slot 16] [.nil, .int .i64, .int .i64, .sl 6, .int .i64, .map, .sl 7, .sl 7, .int .i64] [⟨.ret, [.box 2 [none, none], .slot 3, .slot 4], [.nil, .int .i64, .int .i64, .int .i64]⟩, ⟨.exit 0, [.box 2 [none, none], .view 0 7, .box 5 [some 6, none]], [.nil, .int .i64, .sl 7, .sl 6, .int .i64]⟩] (Tf.graph_Build.l4 F) st κ)] : Loops)) (fn := Go.Proofs.Tryz.f28) (c := Tf.graph_Build.c) (LoopsOk.of (bs := [Tf.graph_Build.b4]) (by kernel_rfl) (.cons rfl (Tf.graph_Build.l4_ok F) .nil)) (by kernel_rfl) (by kernel_rfl) (by kernel_rfl) (by kernel_rfl) (resC2 (by kernel_rfl) (by kernel_rfl) (by kernel_rfl)) (by decide) (Tf.graph_Build.f_ok F)
end Go.VI

namespace Go.VI
open Go
noncomputable def Tf.tapewrightref04_Same.c : Code := (Go.Proofs.Tryz.f40.body).getD .skip
noncomputable def Tf.tapewrightref04_Same.b4 : Code := codeAt [1, 1, 0, 1, 0, 0] Tf.tapewrightref04_Same.c
def Tf.tapewrightref04_Same.s4 (F : Nat) (L : (Int × ((List Int) × (List Int))) → Option (Bool ⊕ Unit)) (x : (Int × ((List Int) × (List Int)))) : Option (Bool ⊕ Unit) :=
 (bif (decide (x.1 < ((List.length x.2.2) : Int))) then (bif (inR x.1 (List.length x.2.2)) then (bif (inR x.1 (List.length x.2.1)) then (bif ((List.getD x.2.2 (Int.toNat x.1) (0 : Int)) != (List.getD x.2.1 (Int.toNat x.1) (0 : Int))) then (some (.inl Bool.false))
 else (L ((Go.IntKind.wrap IntKind.i64 (x.1 + (1 : Int))), (x.2.1, x.2.2))))
 else none)
 else none)
 else (some (.inr ())))
def Tf.tapewrightref04_Same.l4 (F : Nat) : (Int × ((List Int) × (List Int))) → Option (Bool ⊕ Unit) := iter (Tf.tapewrightref04_Same.s4 F) F
theorem Tf.tapewrightref04_Same.s4_ok (F : Nat) (L a) : exec Go.VI.tyT (look [] : Fns) 26 (look [] : Loops) Tf.tapewrightref04_Same.b4 (rebuild [.slot 5, .view 1 0, .view 0 0] (encKs [.int .i64, .sl 0, .sl 0] a)) (bodyK [.slot 5, .view 1 0, .view 0 0] [.int .i64, .sl 0, .sl 0] [⟨.ret, [.slot 4], [.bool]⟩, ⟨.exit 0, [], []⟩] L) = Tf.tapewrightref04_Same.s4 F L a := by kernel_rfl
theorem Tf.tapewrightref04_Same.l4_ok (F : Nat) : LoopOk Go.Proofs.Tryz.prog Go.VI.tyT.G 26 Tf.tapewrightref04_Same.b4 (fun st κ => hand [.slot 5, .view 1 0, .view 0 0] [.int .i64, .sl 0, .sl 0] [⟨.ret, [.slot 4], [.bool]⟩, ⟨.exit 0, [], []⟩] (Tf.tapewrightref04_Same.l4 F) st κ) :=
  loop_ok Go.VI.tyT_ok rfl mix .nil (Λ := (look [] : Loops)) (LoopsOk.of (bs := []) (by kernel_rfl) .nil) (Tf.tapewrightref04_Same.s4_ok F) F
def Tf.tapewrightref04_Same.f (F : Nat) (a : ((List Int) × (List Int))) : Option Bool :=
 (bif (((List.length a.1) : Int) != ((List.length a.2) : Int)) then (some Bool.false)
 else (Option.bind (Tf.tapewrightref04_Same.l4 F ((0 : Int), (a.2, a.1))) (fun y10 => (sumE y10 (fun y11 => (some y11)) (fun y11 => (some Bool.true))))))
theorem Tf.tapewrightref04_Same.f_ok (F : Nat) (a) : exec Go.VI.tyT (look [] : Fns) 26 (look [(4, fun st κ => hand [.slot 5, .view 1 0, .view 0 0] [.int .i64, .sl 0, .sl 0] [⟨.ret, [.slot 4], [.bool]⟩, ⟨.exit 0, [], []⟩] (Tf.tapewrightref04_Same.l4 F) st κ)] : Loops) Tf.tapewrightref04_Same.c (init [.v 0, .v 0] (encKs [.sl 0, .sl 0] a)) (finT (look [] : Fns) (⟨[.v 0, .v 0], [.p]⟩ : Sig) [4] [.pure] [.bool]) = Tf.tapewrightref04_Same.f F a := by kernel_rfl
def Tf.tapewrightref04_Same.e (F : Nat) : Fn := mkFn (⟨[.v 0, .v 0], [.p]⟩ : Sig) [.sl 0, .sl 0] [.pure] [.bool] (Tf.tapewrightref04_Same.f F)
theorem Tf.tapewrightref04_Same.ok (F : Nat) : EntryOk Go.Proofs.Tryz.prog Go.VI.tyT.G 40 (Tf.tapewrightref04_Same.e F) :=
  fn_ok Go.VI.tyT_ok rfl mix .nil (Λ := (look [(4, fun st κ => hand [.slot 5, .view 1 0, .view 0 0] [.int .i64, .sl 0, .sl 0] [⟨.ret, [.slot 4], [.bool]⟩, ⟨.exit 0, [], []⟩] (Tf.tapewrightref04_Same.l4 F) st κ)] : Loops)) (fn := Go.Proofs.Tryz.f40) (c := Tf.tapewrightref04_Same.c) (LoopsOk.of (bs := [Tf.tapewrightref04_Same.b4]) (by kernel_rfl) (.cons rfl (Tf.tapewrightref04_Same.l4_ok F) .nil)) (by kernel_rfl) (by kernel_rfl) (by kernel_rfl) (by kernel_rfl) (res1 (by kernel_rfl)) (by decide) (Tf.tapewrightref04_Same.f_ok F)
end Go.VI

namespace Go.VI
open Go
noncomputable def Tf.tapewrightref10_Same.c : Code := (Go.Proofs.Tryz.f56.body).getD .skip
noncomputable def Tf.tapewrightref10_Same.b4 : Code := codeAt [1, 1, 0, 1, 0, 0] Tf.tapewrightref10_Same.c
def Tf.tapewrightref10_Same.s4 (F : Nat) (L : (Int × (ByteArray × (Int × (Int × (ByteArray × ((List Int) × (ByteArray × (Int × ((List ByteArray) × (ByteArray × (Int × (Int × (ByteArray × ((List Int) × (ByteArray × (Int × (List ByteArray))))))))))))))))) → Option (Bool ⊕ Unit)) (x : (Int × (ByteArray × (Int × (Int × (ByteArray × ((List Int) × (ByteArray × (Int × ((List ByteArray) × (ByteArray × (Int × (Int × (ByteArray × ((List Int) × (ByteArray × (Int × (List ByteArray)))))))))))))))))) : Option (Bool ⊕ Unit) :=
 (bif (decide (x.1 < ((List.length x.2.2.2.2.2.2.2.2.2.2.2.2.2.2.2.2) : Int))) then (bif (inR x.1 (List.length x.2.2.2.2.2.2.2.2.2.2.2.2.2.2.2.2)) then (bif (inR x.1 (List.length x.2.2.2.2.2.2.2.2.1)) then (bif (!(seqB (List.getD x.2.2.2.2.2.2.2.2.2.2.2.2.2.2.2.2 (Int.toNat x.1) (dflt 4)) (List.getD x.2.2.2.2.2.2.2.2.1 (Int.toNat x.1) (dflt 4)))) then (some (.inl Bool.false))
 else (L ((Go.IntKind.wrap IntKind.i64 (x.1 + (1 : Int))), (x.2.1, (x.2.2.1, (x.2.2.2.1, (x.2.2.2.2.1, (x.2.2.2.2.2.1, (x.2.2.2.2.2.2.1, (x.2.2.2.2.2.2.2.1, (x.2.2.2.2.2.2.2.2.1, (x.2.2.2.2.2.2.2.2.2.1, (x.2.2.2.2.2.2.2.2.2.2.1, (x.2.2.2.2.2.2.2.2.2.2.2.1, (x.2.2.2.2.2.2.2.2.2.2.2.2.1, (x.2.2.2.2.2.2.2.2.2.2.2.2.2.1, (x.2.2.2.2.2.2.2.2.2.2.2.2.2.2.1, (x.2.2.2.2.2.2.2.2.2.2.2.2.2.2.2.1, x.2.2.2.2.2.2.2.2.2.2.2.2.2.2.2.2))))))))))))))))))
 else none)
 else none)
 else (some (.inr ())))
def Tf.tapewrightref10_Same.l4 (F : Nat) : (Int × (ByteArray × (Int × (Int × (ByteArray × ((List Int) × (ByteArray × (Int × ((List ByteArray) × (ByteArray × (Int × (Int × (ByteArray × ((List Int) × (ByteArray × (Int × (List ByteArray))))))))))))))))) → Option (Bool ⊕ Unit) := iter (Tf.tapewrightref10_Same.s4 F) F
theorem Tf.tapewrightref10_Same.s4_ok (F : Nat) (L a) : exec Go.VI.tyT (look [(40, Tf.tapewrightref04_Same.e F)] : Fns) 81 (look [] : Loops) Tf.tapewrightref10_Same.b4 (rebuild [.slot 5, .box 3 [none, none, none, none, none, none, none, none], .box 2 [none, none, none, none, none, none, none, none]] (encKs [.int .i64, .str, .int .i64, .int .i64, .str, .sl 0, .str, .int .i64, .sl 4, .str, .int .i64, .int .i64, .str, .sl 0, .str, .int .i64, .sl 4] a)) (bodyK [.slot 5, .box 3 [none, none, none, none, none, none, none, none], .box 2 [none, none, none, none, none, none, none, none]] [.int .i64, .str, .int .i64, .int .i64, .str, .sl 0, .str, .int .i64, .sl 4, .str, .int .i64, .int .i64, .str, .sl 0, .str, .int .i64, .sl 4] [⟨.ret, [.slot 4], [.bool]⟩, ⟨.exit 0, [], []⟩] L) = Tf.tapewrightref10_Same.s4 F L a := by kernel_rfl
theorem Tf.tapewrightref10_Same.l4_ok (F : Nat) : LoopOk Go.Proofs.Tryz.prog Go.VI.tyT.G 81 Tf.tapewrightref10_Same.b4 (fun st κ => hand [.slot 5, .box 3 [none, none, none, none, none, none, none, none], .box 2 [none, none, none, none, none, none, none, none]] [.int .i64, .str, .int .i64, .int .i64, .str, .sl 0, .str, .int .i64, .sl 4, .str, .int .i64, .int .i64, .str, .sl 0, .str, .int .i64, .sl 4] [⟨.ret, [.slot 4], [.bool]⟩, ⟨.exit 0, [], []⟩] (Tf.tapewrightref10_Same.l4 F) st κ) :=
  loop_ok Go.VI.tyT_ok rfl mix (.cons (Tf.tapewrightref04_Same.ok F) .nil) (Λ := (look [] : Loops)) (LoopsOk.of (bs := []) (by kernel_rfl) .nil) (Tf.tapewrightref10_Same.s4_ok F) F
def Tf.tapewrightref10_Same.f (F : Nat) (a : (Go.VI.Node × Go.VI.Node)) : Option Bool :=
 (bif (!(seqB a.1.op a.2.op)) then (some Bool.false)
 else (bif (a.1.a != a.2.a) then (some Bool.false)
 else (bif (a.1.b != a.2.b) then (some Bool.false)
 else (bif (!(seqB a.1.name a.2.name)) then (some Bool.false)
 else (bif (!(seqB a.1.k a.2.k)) then (some Bool.false)
 else (bif (a.1.n != a.2.n) then (some Bool.false)
 else (Option.bind (Tf.tapewrightref04_Same.f F (a.1.shape, a.2.shape)) (fun y52 => (bif (!y52) then (some Bool.false)
 else (bif (((List.length a.1.data) : Int) != ((List.length a.2.data) : Int)) then (some Bool.false)
 else (Option.bind (Tf.tapewrightref10_Same.l4 F ((0 : Int), (a.2.op, (a.2.a, (a.2.b, (a.2.name, (a.2.shape, (a.2.k, (a.2.n, (a.2.data, (a.1.op, (a.1.a, (a.1.b, (a.1.name, (a.1.shape, (a.1.k, (a.1.n, a.1.data))))))))))))))))) (fun y65 => (sumE y65 (fun y66 => (some y66)) (fun y66 => (some Bool.true)))))))))))))))
theorem Tf.tapewrightref10_Same.f_ok (F : Nat) (a) : exec Go.VI.tyT (look [(40, Tf.tapewrightref04_Same.e F)] : Fns) 81 (look [(4, fun st κ => hand [.slot 5, .box 3 [none, none, none, none, none, none, none, none], .box 2 [none, none, none, none, none, none, none, none]] [.int .i64, .str, .int .i64, .int .i64, .str, .sl 0, .str, .int .i64, .sl 4, .str, .int .i64, .int .i64, .str, .sl 0, .str, .int .i64, .sl 4] [⟨.ret, [.slot 4], [.bool]⟩, ⟨.exit 0, [], []⟩] (Tf.tapewrightref10_Same.l4 F) st κ)] : Loops) Tf.tapewrightref10_Same.c (init [.v 206, .v 206] (encKs [.rc 6, .rc 6] a)) (finT (look [(40, Tf.tapewrightref04_Same.e F)] : Fns) (⟨[.v 206, .v 206], [.p]⟩ : Sig) [4] [.pure] [.bool]) = Tf.tapewrightref10_Same.f F a := by kernel_rfl
def Tf.tapewrightref10_Same.e (F : Nat) : Fn := mkFn (⟨[.v 206, .v 206], [.p]⟩ : Sig) [.rc 6, .rc 6] [.pure] [.bool] (Tf.tapewrightref10_Same.f F)
theorem Tf.tapewrightref10_Same.ok (F : Nat) : EntryOk Go.Proofs.Tryz.prog Go.VI.tyT.G 56 (Tf.tapewrightref10_Same.e F) :=
  fn_ok Go.VI.tyT_ok rfl mix (.cons (Tf.tapewrightref04_Same.ok F) .nil) (Λ := (look [(4, fun st κ => hand [.slot 5, .box 3 [none, none, none, none, none, none, none, none], .box 2 [none, none, none, none, none, none, none, none]] [.int .i64, .str, .int .i64, .int .i64, .str, .sl 0, .str, .int .i64, .sl 4, .str, .int .i64, .int .i64, .str, .sl 0, .str, .int .i64, .sl 4] [⟨.ret, [.slot 4], [.bool]⟩, ⟨.exit 0, [], []⟩] (Tf.tapewrightref10_Same.l4 F) st κ)] : Loops)) (fn := Go.Proofs.Tryz.f56) (c := Tf.tapewrightref10_Same.c) (LoopsOk.of (bs := [Tf.tapewrightref10_Same.b4]) (by kernel_rfl) (.cons rfl (Tf.tapewrightref10_Same.l4_ok F) .nil)) (by kernel_rfl) (by kernel_rfl) (by kernel_rfl) (by kernel_rfl) (res1 (by kernel_rfl)) (by decide) (Tf.tapewrightref10_Same.f_ok F)
end Go.VI

namespace Go.VI
open Go
noncomputable def Tf.tapewrightref10_Equal.c : Code := (Go.Proofs.Tryz.f30.body).getD .skip
noncomputable def Tf.tapewrightref10_Equal.b4 : Code := codeAt [1, 1, 0, 1, 0, 0] Tf.tapewrightref10_Equal.c
def Tf.tapewrightref10_Equal.s4 (F : Nat) (L : (Int × ((List Go.VI.Node) × (Int × ((List Go.VI.Node) × Int)))) → Option (Bool ⊕ Unit)) (x : (Int × ((List Go.VI.Node) × (Int × ((List Go.VI.Node) × Int))))) : Option (Bool ⊕ Unit) :=
 (bif (decide (x.1 < ((List.length x.2.2.2.1) : Int))) then (bif (inR x.1 (List.length x.2.2.2.1)) then (bif (inR x.1 (List.length x.2.1)) then (Option.bind (Tf.tapewrightref10_Same.f F ((Node.mk (List.getD x.2.2.2.1 (Int.toNat x.1) (dflt 6)).op (List.getD x.2.2.2.1 (Int.toNat x.1) (dflt 6)).a (List.getD x.2.2.2.1 (Int.toNat x.1) (dflt 6)).b (List.getD x.2.2.2.1 (Int.toNat x.1) (dflt 6)).name (List.getD x.2.2.2.1 (Int.toNat x.1) (dflt 6)).shape (List.getD x.2.2.2.1 (Int.toNat x.1) (dflt 6)).k (List.getD x.2.2.2.1 (Int.toNat x.1) (dflt 6)).n (List.getD x.2.2.2.1 (Int.toNat x.1) (dflt 6)).data), (Node.mk (List.getD x.2.1 (Int.toNat x.1) (dflt 6)).op (List.getD x.2.1 (Int.toNat x.1) (dflt 6)).a (List.getD x.2.1 (Int.toNat x.1) (dflt 6)).b (List.getD x.2.1 (Int.toNat x.1) (dflt 6)).name (List.getD x.2.1 (Int.toNat x.1) (dflt 6)).shape (List.getD x.2.1 (Int.toNat x.1) (dflt 6)).k (List.getD x.2.1 (Int.toNat x.1) (dflt 6)).n (List.getD x.2.1 (Int.toNat x.1) (dflt 6)).data))) (fun y38 => (bif (!y38) then (some (.inl Bool.false))
 else (L ((Go.IntKind.wrap IntKind.i64 (x.1 + (1 : Int))), (x.2.1, (x.2.2.1, (x.2.2.2.1, x.2.2.2.2))))))))
 else none)
 else none)
 else (some (.inr ())))
def Tf.tapewrightref10_Equal.l4 (F : Nat) : (Int × ((List Go.VI.Node) × (Int × ((List Go.VI.Node) × Int)))) → Option (Bool ⊕ Unit) := iter (Tf.tapewrightref10_Equal.s4 F) F
theorem Tf.tapewrightref10_Equal.s4_ok (F : Nat) (L a) : exec Go.VI.tyT (look [(56, Tf.tapewrightref10_Same.e F)] : Fns) 39 (look [] : Loops) Tf.tapewrightref10_Equal.b4 (rebuild [.slot 5, .box 3 [none, none], .box 2 [none, none]] (encKs [.int .i64, .sl 6, .int .i64, .sl 6, .int .i64] a)) (bodyK [.slot 5, .box 3 [none, none], .box 2 [none, none]] [.int .i64, .sl 6, .int .i64, .sl 6, .int .i64] [⟨.ret, [.slot 4], [.bool]⟩, ⟨.exit 0, [], []⟩] L) = Tf.tapewrightref10_Equal.s4 F L a := by kernel_rfl
theorem Tf.tapewrightref10_Equal.l4_ok (F : Nat) : LoopOk Go.Proofs.Tryz.prog Go.VI.tyT.G 39 Tf.tapewrightref10_Equal.b4 (fun st κ => hand [.slot 5, .box 3 [none, none], .box 2 [none, none]] [.int .i64, .sl 6, .int .i64, .sl 6, .int .i64] [⟨.ret, [.slot 4], [.bool]⟩, ⟨.exit 0, [], []⟩] (Tf.tapewrightref10_Equal.l4 F) st κ) :=
  loop_ok Go.VI.tyT_ok rfl mix (.cons (Tf.tapewrightref10_Same.ok F) .nil) (Λ := (look [] : Loops)) (LoopsOk.of (bs := []) (by kernel_rfl) .nil) (Tf.tapewrightref10_Equal.s4_ok F) F
def Tf.tapewrightref10_Equal.f (F : Nat) (a : (((List Go.VI.Node) × Int) × ((List Go.VI.Node) × Int))) : Option Bool :=
 (bif (a.1.2 != a.2.2) then (some Bool.false)
 else (bif (((List.length a.1.1) : Int) != ((List.length a.2.1) : Int)) then (some Bool.false)
 else (Option.bind (Tf.tapewrightref10_Equal.l4 F ((0 : Int), (a.2.1, (a.2.2, (a.1.1, a.1.2))))) (fun y21 => (sumE y21 (fun y22 => (some y22)) (fun y22 => (some Bool.true)))))))
theorem Tf.tapewrightref10_Equal.f_ok (F : Nat) (a) : exec Go.VI.tyT (look [(56, Tf.tapewrightref10_Same.e F)] : Fns) 39 (look [(4, fun st κ => hand [.slot 5, .box 3 [none, none], .box 2 [none, none]] [.int .i64, .sl 6, .int .i64, .sl 6, .int .i64] [⟨.ret, [.slot 4], [.bool]⟩, ⟨.exit 0, [], []⟩] (Tf.tapewrightref10_Equal.l4 F) st κ)] : Loops) Tf.tapewrightref10_Equal.c (init [.v 301, .v 301] (encKs [.st [.sl 6, .int .i64], .st [.sl 6, .int .i64]] a)) (finT (look [(56, Tf.tapewrightref10_Same.e F)] : Fns) (⟨[.v 301, .v 301], [.p]⟩ : Sig) [4] [.pure] [.bool]) = Tf.tapewrightref10_Equal.f F a := by kernel_rfl
def Tf.tapewrightref10_Equal.e (F : Nat) : Fn := mkFn (⟨[.v 301, .v 301], [.p]⟩ : Sig) [.st [.sl 6, .int .i64], .st [.sl 6, .int .i64]] [.pure] [.bool] (Tf.tapewrightref10_Equal.f F)
theorem Tf.tapewrightref10_Equal.ok (F : Nat) : EntryOk Go.Proofs.Tryz.prog Go.VI.tyT.G 30 (Tf.tapewrightref10_Equal.e F) :=
  fn_ok Go.VI.tyT_ok rfl mix (.cons (Tf.tapewrightref10_Same.ok F) .nil) (Λ := (look [(4, fun st κ => hand [.slot 5, .box 3 [none, none], .box 2 [none, none]] [.int .i64, .sl 6, .int .i64, .sl 6, .int .i64] [⟨.ret, [.slot 4], [.bool]⟩, ⟨.exit 0, [], []⟩] (Tf.tapewrightref10_Equal.l4 F) st κ)] : Loops)) (fn := Go.Proofs.Tryz.f30) (c := Tf.tapewrightref10_Equal.c) (LoopsOk.of (bs := [Tf.tapewrightref10_Equal.b4]) (by kernel_rfl) (.cons rfl (Tf.tapewrightref10_Equal.l4_ok F) .nil)) (by kernel_rfl) (by kernel_rfl) (by kernel_rfl) (by kernel_rfl) (res1 (by kernel_rfl)) (by decide) (Tf.tapewrightref10_Equal.f_ok F)
end Go.VI

namespace Go.VI
open Go
noncomputable def Tf.tapewrightlaw11_ShowBack.c : Code := (Go.Proofs.Tryz.f11.body).getD .skip
def Tf.tapewrightlaw11_ShowBack.f (F : Nat) (a : ((List Go.VI.Node) × Int)) : Option Bool :=
 (Option.bind (Tf.tapewrightref10_Small.f F (a.1, a.2)) (fun y7 => (bif (!y7) then (Option.bind (Tf.tapewrightlaw11_awake.f F ()) (fun y10 => (some y10)))
 else (Option.bind (Tf.show_Text.f F (a.1, a.2)) (fun y11 => (bif (y11.2 != (0 : Int)) then (bif (seqB y11.1 (⟨#[]⟩ : ByteArray)) then (Option.bind (Tf.tapewrightlaw11_awake.f F ()) (fun y23 => (some y23)))
 else (some Bool.false))
 else (Option.bind (Tf.read_All.f F y11.1) (fun y21 => (Option.bind (Tf.graph_Build.f F y21.1) (fun y31 => (bif (y21.2.2 == (0 : Int)) then (bif (y31.2.2 == (0 : Int)) then (Option.bind (Tf.tapewrightref10_Equal.f F ((a.1, a.2), (y31.1.1, y31.1.2))) (fun y50 => (bif y50 then (Option.bind (Tf.tapewrightlaw11_awake.f F ()) (fun y54 => (some y54)))
 else (some Bool.false))))
 else (some Bool.false))
 else (some Bool.false))))))))))))
theorem Tf.tapewrightlaw11_ShowBack.f_ok (F : Nat) (a) : exec Go.VI.tyT (look [(18, Tf.read_All.e F), (22, Tf.tapewrightref10_Small.e F), (23, Tf.tapewrightlaw11_awake.e F), (24, Tf.show_Text.e F), (28, Tf.graph_Build.e F), (30, Tf.tapewrightref10_Equal.e F)] : Fns) 53 (look [] : Loops) Tf.tapewrightlaw11_ShowBack.c (init [.v 301] (encKs [.st [.sl 6, .int .i64]] a)) (finT (look [(18, Tf.read_All.e F), (22, Tf.tapewrightref10_Small.e F), (23, Tf.tapewrightlaw11_awake.e F), (24, Tf.show_Text.e F), (28, Tf.graph_Build.e F), (30, Tf.tapewrightref10_Equal.e F)] : Fns) (⟨[.v 301], [.p]⟩ : Sig) [2] [.pure] [.bool]) = Tf.tapewrightlaw11_ShowBack.f F a := by kernel_rfl
def Tf.tapewrightlaw11_ShowBack.e (F : Nat) : Fn := mkFn (⟨[.v 301], [.p]⟩ : Sig) [.st [.sl 6, .int .i64]] [.pure] [.bool] (Tf.tapewrightlaw11_ShowBack.f F)
theorem Tf.tapewrightlaw11_ShowBack.ok (F : Nat) : EntryOk Go.Proofs.Tryz.prog Go.VI.tyT.G 11 (Tf.tapewrightlaw11_ShowBack.e F) :=
  fn_ok Go.VI.tyT_ok rfl mix (.cons (Tf.read_All.ok F) (.cons (Tf.tapewrightref10_Small.ok F) (.cons (Tf.tapewrightlaw11_awake.ok F) (.cons (Tf.show_Text.ok F) (.cons (Tf.graph_Build.ok F) (.cons (Tf.tapewrightref10_Equal.ok F) .nil)))))) (Λ := (look [] : Loops)) (fn := Go.Proofs.Tryz.f11) (c := Tf.tapewrightlaw11_ShowBack.c) (LoopsOk.of (bs := []) (by kernel_rfl) .nil) (by kernel_rfl) (by kernel_rfl) (by kernel_rfl) (by kernel_rfl) (res1 (by kernel_rfl)) (by decide) (Tf.tapewrightlaw11_ShowBack.f_ok F)
end Go.VI

namespace Go.VI
open Go Go.Proofs
def nodeBs : List B := [.str, .int .i64, .int .i64, .str, .sl 0, .str, .int .i64, .sl 4]
def nodeOf (y : BTys nodeBs) : Rho 6 := (⟨y.1, y.2.1, y.2.2.1, y.2.2.2.1, y.2.2.2.2.1, y.2.2.2.2.2.1, y.2.2.2.2.2.2.1, y.2.2.2.2.2.2.2⟩ : Node)
theorem opInt : OpB Tryz.prog 3 (.int .i64) := OpB.int Tryz.underlying3
theorem opStr : OpB Tryz.prog 9 .str := OpB.str Tryz.underlying9
theorem opInts : OpB Tryz.prog 24 (.sl 0) := OpB.sl Tryz.underlying24 (by kernel_rfl) (opInt.toT (r := 0) id fun _ => rfl)
theorem opStrs : OpB Tryz.prog 22 (.sl 4) := OpB.sl Tryz.underlying22 (by kernel_rfl) (opStr.toT (r := 4) id fun _ => rfl)
theorem opNode : OpBs Tryz.prog 75 nodeBs :=
  OpBs.struct Tryz.underlying75 rfl (by kernel_rfl) (by kernel_rfl) fun i f b hf hb => by
    match i, hf, hb with
    | 0, hf, hb => cases hf; cases hb; exact opStr
    | 1, hf, hb => cases hf; cases hb; exact opInt
    | 2, hf, hb => cases hf; cases hb; exact opInt
    | 3, hf, hb => cases hf; cases hb; exact opStr
    | 4, hf, hb => cases hf; cases hb; exact opInts
    | 5, hf, hb => cases hf; cases hb; exact opStr
    | 6, hf, hb => cases hf; cases hb; exact opInt
    | 7, hf, hb => cases hf; cases hb; exact opStrs
    | _ + 8, hf, hb => cases hb
theorem opNodes : OpB Tryz.prog 48 (.sl 6) := OpB.sl Tryz.underlying48 (by kernel_rfl) (opNode.toT (r := 6) nodeOf (fun _ => rfl) rfl)
theorem opGraph : OpBs Tryz.prog 50 [.sl 6, .int .i64] :=
  OpBs.struct Tryz.underlying50 rfl (by kernel_rfl) (by kernel_rfl) fun i f b hf hb => by
    match i, hf, hb with
    | 0, hf, hb => cases hf; cases hb; exact opNodes
    | 1, hf, hb => cases hf; cases hb; exact opInt
    | _ + 2, hf, hb => cases hb
theorem argGraph : OpK Tryz.prog 50 (.st [.sl 6, .int .i64]) := OpK.st Tryz.underlying50 opGraph
theorem argStr : OpK Tryz.prog 9 .str := OpK.str Tryz.underlying9
end Go.VI

namespace Go.VI
open Go
noncomputable def Tf.tapewrightlaw11_ShowSame.c : Code := (Go.Proofs.Tryz.f12.body).getD .skip
def Tf.tapewrightlaw11_ShowSame.f (F : Nat) (a : (((List Go.VI.Node) × Int) × ((List Go.VI.Node) × Int))) : Option Bool :=
 (Option.bind (Tf.tapewrightref10_Small.f F (a.1.1, a.1.2)) (fun y8 => (bif (!y8) then (Option.bind (Tf.tapewrightlaw11_awake.f F ()) (fun y13 => (some y13)))
 else (Option.bind (Tf.tapewrightref10_Small.f F (a.2.1, a.2.2)) (fun y13 => (bif (!y13) then (Option.bind (Tf.tapewrightlaw11_awake.f F ()) (fun y17 => (some y17)))
 else (Option.bind (Tf.show_Text.f F (a.1.1, a.1.2)) (fun y18 => (Option.bind (Tf.show_Text.f F (a.2.1, a.2.2)) (fun y26 => (bif (y18.2 != (0 : Int)) then (bif (y18.2 == (0 : Int)) then (bif (y26.2 == (0 : Int)) then (Option.bind (Tf.tapewrightlaw11_awake.f F ()) (fun y48 => (some y48)))
 else (bif (seqB y26.1 (⟨#[]⟩ : ByteArray)) then (Option.bind (Tf.tapewrightlaw11_awake.f F ()) (fun y50 => (some y50)))
 else (some Bool.false)))
 else (bif (seqB y18.1 (⟨#[]⟩ : ByteArray)) then (bif (y26.2 == (0 : Int)) then (Option.bind (Tf.tapewrightlaw11_awake.f F ()) (fun y50 => (some y50)))
 else (bif (seqB y26.1 (⟨#[]⟩ : ByteArray)) then (Option.bind (Tf.tapewrightlaw11_awake.f F ()) (fun y52 => (some y52)))
 else (some Bool.false)))
 else (some Bool.false)))
 else (bif (y26.2 != (0 : Int)) then (bif (y18.2 == (0 : Int)) then (bif (y26.2 == (0 : Int)) then (Option.bind (Tf.tapewrightlaw11_awake.f F ()) (fun y50 => (some y50)))
 else (bif (seqB y26.1 (⟨#[]⟩ : ByteArray)) then (Option.bind (Tf.tapewrightlaw11_awake.f F ()) (fun y52 => (some y52)))
 else (some Bool.false)))
 else (bif (seqB y18.1 (⟨#[]⟩ : ByteArray)) then (bif (y26.2 == (0 : Int)) then (Option.bind (Tf.tapewrightlaw11_awake.f F ()) (fun y52 => (some y52)))
 else (bif (seqB y26.1 (⟨#[]⟩ : ByteArray)) then (Option.bind (Tf.tapewrightlaw11_awake.f F ()) (fun y54 => (some y54)))
 else (some Bool.false)))
 else (some Bool.false)))
 else (Option.bind (Tf.read_All.f F y18.1) (fun y40 => (Option.bind (Tf.graph_Build.f F y40.1) (fun y50 => (Option.bind (Tf.show_Text.f F (y50.1.1, y50.1.2)) (fun y61 => (bif (seqB y61.1 y18.1) then (bif (y61.2 == (0 : Int)) then (Option.bind (Tf.tapewrightref10_Equal.f F ((a.1.1, a.1.2), (a.2.1, a.2.2))) (fun y81 => (bif ((seqB y18.1 y26.1) == y81) then (Option.bind (Tf.tapewrightlaw11_awake.f F ()) (fun y86 => (some y86)))
 else (some Bool.false))))
 else (some Bool.false))
 else (some Bool.false))))))))))))))))))))
theorem Tf.tapewrightlaw11_ShowSame.f_ok (F : Nat) (a) : exec Go.VI.tyT (look [(18, Tf.read_All.e F), (22, Tf.tapewrightref10_Small.e F), (23, Tf.tapewrightlaw11_awake.e F), (24, Tf.show_Text.e F), (28, Tf.graph_Build.e F), (30, Tf.tapewrightref10_Equal.e F)] : Fns) 95 (look [] : Loops) Tf.tapewrightlaw11_ShowSame.c (init [.v 301, .v 301] (encKs [.st [.sl 6, .int .i64], .st [.sl 6, .int .i64]] a)) (finT (look [(18, Tf.read_All.e F), (22, Tf.tapewrightref10_Small.e F), (23, Tf.tapewrightlaw11_awake.e F), (24, Tf.show_Text.e F), (28, Tf.graph_Build.e F), (30, Tf.tapewrightref10_Equal.e F)] : Fns) (⟨[.v 301, .v 301], [.p]⟩ : Sig) [4] [.pure] [.bool]) = Tf.tapewrightlaw11_ShowSame.f F a := by kernel_rfl
def Tf.tapewrightlaw11_ShowSame.e (F : Nat) : Fn := mkFn (⟨[.v 301, .v 301], [.p]⟩ : Sig) [.st [.sl 6, .int .i64], .st [.sl 6, .int .i64]] [.pure] [.bool] (Tf.tapewrightlaw11_ShowSame.f F)
theorem Tf.tapewrightlaw11_ShowSame.ok (F : Nat) : EntryOk Go.Proofs.Tryz.prog Go.VI.tyT.G 12 (Tf.tapewrightlaw11_ShowSame.e F) :=
  fn_ok Go.VI.tyT_ok rfl mix (.cons (Tf.read_All.ok F) (.cons (Tf.tapewrightref10_Small.ok F) (.cons (Tf.tapewrightlaw11_awake.ok F) (.cons (Tf.show_Text.ok F) (.cons (Tf.graph_Build.ok F) (.cons (Tf.tapewrightref10_Equal.ok F) .nil)))))) (Λ := (look [] : Loops)) (fn := Go.Proofs.Tryz.f12) (c := Tf.tapewrightlaw11_ShowSame.c) (LoopsOk.of (bs := []) (by kernel_rfl) .nil) (by kernel_rfl) (by kernel_rfl) (by kernel_rfl) (by kernel_rfl) (res1 (by kernel_rfl)) (by decide) (Tf.tapewrightlaw11_ShowSame.f_ok F)
end Go.VI

namespace Go.VI
open Go
noncomputable def Tf.tapewrightlaw11_ShowBuild.c : Code := (Go.Proofs.Tryz.f13.body).getD .skip
def Tf.tapewrightlaw11_ShowBuild.f (F : Nat) (a : ByteArray) : Option Bool :=
 (bif (decide (((ByteArray.size a) : Int) > (600 : Int))) then (Option.bind (Tf.tapewrightlaw11_awake.f F ()) (fun y8 => (some y8)))
 else (Option.bind (Tf.read_All.f F a) (fun y9 => (Option.bind (Tf.graph_Build.f F y9.1) (fun y19 => (bif (y9.2.2 != (0 : Int)) then (bif (((List.length y19.1.1) : Int) == (0 : Int)) then (Option.bind (Tf.tapewrightlaw11_awake.f F ()) (fun y38 => (some y38)))
 else (some Bool.false))
 else (bif (y19.2.2 != (0 : Int)) then (bif (((List.length y19.1.1) : Int) == (0 : Int)) then (Option.bind (Tf.tapewrightlaw11_awake.f F ()) (fun y40 => (some y40)))
 else (some Bool.false))
 else (Option.bind (Tf.show_Text.f F (y19.1.1, y19.1.2)) (fun y36 => (bif (y36.2 != (0 : Int)) then (bif (seqB y36.1 (⟨#[]⟩ : ByteArray)) then (Option.bind (Tf.tapewrightlaw11_awake.f F ()) (fun y48 => (some y48)))
 else (some Bool.false))
 else (Option.bind (Tf.read_All.f F y36.1) (fun y46 => (Option.bind (Tf.graph_Build.f F y46.1) (fun y56 => (bif (y46.2.2 == (0 : Int)) then (bif (y56.2.2 == (0 : Int)) then (Option.bind (Tf.tapewrightref10_Equal.f F ((y56.1.1, y56.1.2), (y19.1.1, y19.1.2))) (fun y75 => (bif y75 then (Option.bind (Tf.tapewrightlaw11_awake.f F ()) (fun y79 => (some y79)))
 else (some Bool.false))))
 else (some Bool.false))
 else (some Bool.false))))))))))))))))
theorem Tf.tapewrightlaw11_ShowBuild.f_ok (F : Nat) (a) : exec Go.VI.tyT (look [(18, Tf.read_All.e F), (23, Tf.tapewrightlaw11_awake.e F), (24, Tf.show_Text.e F), (28, Tf.graph_Build.e F), (30, Tf.tapewrightref10_Equal.e F)] : Fns) 84 (look [] : Loops) Tf.tapewrightlaw11_ShowBuild.c (init [.p] (encKs [.str] a)) (finT (look [(18, Tf.read_All.e F), (23, Tf.tapewrightlaw11_awake.e F), (24, Tf.show_Text.e F), (28, Tf.graph_Build.e F), (30, Tf.tapewrightref10_Equal.e F)] : Fns) (⟨[.p], [.p]⟩ : Sig) [2] [.pure] [.bool]) = Tf.tapewrightlaw11_ShowBuild.f F a := by kernel_rfl
def Tf.tapewrightlaw11_ShowBuild.e (F : Nat) : Fn := mkFn (⟨[.p], [.p]⟩ : Sig) [.str] [.pure] [.bool] (Tf.tapewrightlaw11_ShowBuild.f F)
theorem Tf.tapewrightlaw11_ShowBuild.ok (F : Nat) : EntryOk Go.Proofs.Tryz.prog Go.VI.tyT.G 13 (Tf.tapewrightlaw11_ShowBuild.e F) :=
  fn_ok Go.VI.tyT_ok rfl mix (.cons (Tf.read_All.ok F) (.cons (Tf.tapewrightlaw11_awake.ok F) (.cons (Tf.show_Text.ok F) (.cons (Tf.graph_Build.ok F) (.cons (Tf.tapewrightref10_Equal.ok F) .nil))))) (Λ := (look [] : Loops)) (fn := Go.Proofs.Tryz.f13) (c := Tf.tapewrightlaw11_ShowBuild.c) (LoopsOk.of (bs := []) (by kernel_rfl) .nil) (by kernel_rfl) (by kernel_rfl) (by kernel_rfl) (by kernel_rfl) (res1 (by kernel_rfl)) (by decide) (Tf.tapewrightlaw11_ShowBuild.f_ok F)
end Go.VI

