import Derived.Test.YtffpponklejidaaGreatDoorRShowRows2
import Derived.Test.YtffpponklejidaaGreatDoorProg
import Derived.Below
import Derived.ChangeArms
import Derived.ChangeSame
import Derived.ChangeSlices
import Derived.SizedLaws
import Derived.DataElems
import Derived.WideShapes
import Derived.ChangeMaps5
import Derived.KernelRfl
import Derived.Shelf.Strings.BuilderK
import Derived.WalkKit
import Derived.Shelf.GgClosure.StringsIndexFuncTop
import Derived.Ground.GgwProg
import Derived.Shelf.Strings.SlTrimAscii
import Derived.Lib.IndexBytes
import Derived.Shelf.Strings.Search2
import Derived.Lib.SplitLaws
import Derived.Laws.RangeString
import Derived.Laws.RangeAny
import Derived.Lib.SliceRun
import Derived.Shelf.Strconv.AtoiAll
import Derived.Shelf.Strconv.Itoa3
import Derived.Shelf.Strings.Count
import Derived.Shelf.Strings.OnBuilder
import Derived.MapKept
import Derived.ChangeMaps3
import Derived.Carry
import Derived.Laws.CopyRow
import Derived.Laws.MakeOwn
import Derived.Laws.Tables
import Derived.Great.BuildSlice
import Derived.Laws.AppendOwn
import Derived.Laws.Entries
import Derived.Laws.Cells
import Derived.Laws.Append
import Derived.Laws.BytesString
import Derived.Calls
import Derived.Orders
import Derived.RowKit
import Derived.Laws.World
import GoSem.Core.Region
import GoSem.Core.View
import GoSem.Op.String
import GoSem.Core.Code
set_option linter.unusedVariables false
set_option linter.unusedSimpArgs false
namespace Go.VI
open Go
def Tf.tapewrightref10_Shape.s28 (F : Nat) (L : (Int × ((List ByteArray) × ((List Int) × Int))) → Option (((List Int) × Bool) ⊕ (List Int))) (x : (Int × ((List ByteArray) × ((List Int) × Int)))) : Option (((List Int) × Bool) ⊕ (List Int)) :=
 (bif (decide (x.1 < x.2.2.2)) then (bif (inR x.1 (List.length x.2.1)) then (Option.bind (Tf.tapewrightref03_Read.f F (List.getD x.2.1 (Int.toNat x.1) (dflt 4))) (fun y41 => (bif (!y41.2) then (some (.inl (([] : List Int), Bool.false)))
 else (L ((Go.IntKind.wrap IntKind.i64 (x.1 + (1 : Int))), (x.2.1, (x.2.2.1, x.2.2.2)))))))
 else none)
 else (some (.inr x.2.2.1)))
def Tf.tapewrightref10_Shape.l28 (F : Nat) : (Int × ((List ByteArray) × ((List Int) × Int))) → Option (((List Int) × Bool) ⊕ (List Int)) := iter (Tf.tapewrightref10_Shape.s28 F) F
def Tf.tapewrightref10_Shape.j16 (F : Nat) (x : (ByteArray × (Int × (Int × (ByteArray × ((List Int) × (ByteArray × (Int × ((List ByteArray) × ((List Int) × ((List Int) × Int))))))))))) : Option ((List Int) × Bool) :=
 (bif (seqB x.1 (⟨#[112, 97, 114, 97, 109]⟩ : ByteArray)) then (Option.bind (Tf.tapewrightref04_Right.f F x.2.2.2.2.1) (fun y15 => (some (x.2.2.2.2.1, y15))))
 else (bif (seqB x.1 (⟨#[105, 110, 112, 117, 116]⟩ : ByteArray)) then (Option.bind (Tf.tapewrightref04_Right.f F x.2.2.2.2.1) (fun y17 => (some (x.2.2.2.2.1, y17))))
 else (bif (seqB x.1 (⟨#[99, 111, 110, 115, 116]⟩ : ByteArray)) then (Option.bind (Tf.tapewrightref04_Right.f F x.2.2.2.2.1) (fun y18 => (bif (!y18) then (some (([] : List Int), Bool.false))
 else (Option.bind (Tf.tapewrightref04_Size.f F x.2.2.2.2.1) (fun y26 => (bif (((List.length x.2.2.2.2.2.2.2.1) : Int) != y26) then (some (([] : List Int), Bool.false))
 else (Option.bind (Tf.tapewrightref10_Shape.l28 F ((0 : Int), (x.2.2.2.2.2.2.2.1, (x.2.2.2.2.1, ((List.length x.2.2.2.2.2.2.2.1) : Int))))) (fun y33 => (sumE y33 (fun y34 => (some (y34.1, y34.2))) (fun y34 => (Option.bind (Tf.tapewrightref04_Right.f F y34) (fun y38 => (some (y34, y38))))))))))))))
 else (bif (seqB x.1 (⟨#[109, 97, 116, 109, 117, 108]⟩ : ByteArray)) then (bif (((List.length x.2.2.2.2.2.2.2.2.2.1) : Int) != (2 : Int)) then (some (([] : List Int), Bool.false))
 else (bif (((List.length x.2.2.2.2.2.2.2.2.1) : Int) != (2 : Int)) then (some (([] : List Int), Bool.false))
 else (bif (inR (1 : Int) (List.length x.2.2.2.2.2.2.2.2.2.1)) then (bif (inR (0 : Int) (List.length x.2.2.2.2.2.2.2.2.1)) then (bif ((List.getD x.2.2.2.2.2.2.2.2.2.1 1 (0 : Int)) != (List.getD x.2.2.2.2.2.2.2.2.1 0 (0 : Int))) then (some (([] : List Int), Bool.false))
 else (bif (inR (0 : Int) (List.length x.2.2.2.2.2.2.2.2.2.1)) then (bif (inR (1 : Int) (List.length x.2.2.2.2.2.2.2.2.1)) then (Option.bind (Tf.tapewrightref04_Right.f F (List.set (List.set (List.replicate 2 (0 : Int)) 0 (List.getD x.2.2.2.2.2.2.2.2.2.1 0 (0 : Int))) 1 (List.getD x.2.2.2.2.2.2.2.2.1 1 (0 : Int)))) (fun y43 => (some ((List.set (List.set (List.replicate 2 (0 : Int)) 0 (List.getD x.2.2.2.2.2.2.2.2.2.1 0 (0 : Int))) 1 (List.getD x.2.2.2.2.2.2.2.2.1 1 (0 : Int))), y43))))
 else none)
 else none))
 else none)
 else none)))
 else (bif (seqB x.1 (⟨#[116, 114, 97, 110, 115, 112, 111, 115, 101]⟩ : ByteArray)) then (bif (((List.length x.2.2.2.2.2.2.2.2.2.1) : Int) != (2 : Int)) then (some (([] : List Int), Bool.false))
 else (bif (inR (1 : Int) (List.length x.2.2.2.2.2.2.2.2.2.1)) then (bif (inR (0 : Int) (List.length x.2.2.2.2.2.2.2.2.2.1)) then (Option.bind (Tf.tapewrightref04_Right.f F (List.set (List.set (List.replicate 2 (0 : Int)) 0 (List.getD x.2.2.2.2.2.2.2.2.2.1 1 (0 : Int))) 1 (List.getD x.2.2.2.2.2.2.2.2.2.1 0 (0 : Int)))) (fun y31 => (some ((List.set (List.set (List.replicate 2 (0 : Int)) 0 (List.getD x.2.2.2.2.2.2.2.2.2.1 1 (0 : Int))) 1 (List.getD x.2.2.2.2.2.2.2.2.2.1 0 (0 : Int))), y31))))
 else none)
 else none))
 else (bif (seqB x.1 (⟨#[115, 117, 109]⟩ : ByteArray)) then (Option.bind (Tf.tapewrightref04_Right.f F ([] : List Int)) (fun y23 => (some (([] : List Int), y23))))
 else (bif (seqB x.1 (⟨#[115, 99, 97, 108, 101]⟩ : ByteArray)) then (Option.bind (Tf.tapewrightref03_Read.f F x.2.2.2.2.2.1) (fun y24 => (bif (!y24.2) then (some (([] : List Int), Bool.false))
 else (Option.bind (Tf.tapewrightref04_Right.f F x.2.2.2.2.2.2.2.2.2.1) (fun y36 => (some (x.2.2.2.2.2.2.2.2.2.1, y36)))))))
 else (bif (seqB x.1 (⟨#[112, 111, 119, 101, 114]⟩ : ByteArray)) then (bif (decide (x.2.2.2.2.2.2.1 < (0 : Int))) then (some (([] : List Int), Bool.false))
 else (bif (decide (x.2.2.2.2.2.2.1 > (6 : Int))) then (some (([] : List Int), Bool.false))
 else (Option.bind (Tf.tapewrightref04_Right.f F x.2.2.2.2.2.2.2.2.2.1) (fun y34 => (some (x.2.2.2.2.2.2.2.2.2.1, y34))))))
 else (bif (seqB x.1 (⟨#[114, 101, 115, 104, 97, 112, 101]⟩ : ByteArray)) then (Option.bind (Tf.tapewrightref04_Right.f F x.2.2.2.2.1) (fun y30 => (bif (!y30) then (some (([] : List Int), Bool.false))
 else (Option.bind (Tf.tapewrightref04_Right.f F x.2.2.2.2.2.2.2.2.2.1) (fun y35 => (bif (!y35) then (some (([] : List Int), Bool.false))
 else (Option.bind (Tf.tapewrightref04_Size.f F x.2.2.2.2.1) (fun y41 => (Option.bind (Tf.tapewrightref04_Size.f F x.2.2.2.2.2.2.2.2.2.1) (fun y44 => (bif (y41 != y44) then (some (([] : List Int), Bool.false))
 else (Option.bind (Tf.tapewrightref04_Right.f F x.2.2.2.2.1) (fun y50 => (some (x.2.2.2.2.1, y50)))))))))))))))
 else (bif (seqB x.1 (⟨#[115, 112, 114, 101, 97, 100]⟩ : ByteArray)) then (bif (((List.length x.2.2.2.2.2.2.2.2.2.1) : Int) != (0 : Int)) then (some (([] : List Int), Bool.false))
 else (Option.bind (Tf.tapewrightref04_Right.f F x.2.2.2.2.1) (fun y36 => (some (x.2.2.2.2.1, y36)))))
 else (bif (x.2.2.2.2.2.2.2.2.2.2 == (2 : Int)) then (Option.bind (Tf.tapewrightref04_Same.f F (x.2.2.2.2.2.2.2.2.2.1, x.2.2.2.2.2.2.2.2.1)) (fun y33 => (bif (!y33) then (some (([] : List Int), Bool.false))
 else (Option.bind (Tf.tapewrightref04_Right.f F x.2.2.2.2.2.2.2.2.2.1) (fun y39 => (some (x.2.2.2.2.2.2.2.2.2.1, y39)))))))
 else (Option.bind (Tf.tapewrightref04_Right.f F x.2.2.2.2.2.2.2.2.2.1) (fun y34 => (some (x.2.2.2.2.2.2.2.2.2.1, y34)))))))))))))))
def Tf.tapewrightref10_Shape.j14 (F : Nat) (x : (ByteArray × (Int × (Int × (ByteArray × ((List Int) × (ByteArray × (Int × ((List ByteArray) × ((List Int) × (Int × ((List Go.VI.Node) × (List Int))))))))))))) : Option ((List Int) × Bool) :=
 (bif (decide (x.2.2.2.2.2.2.2.2.2.1 > (1 : Int))) then (bif (inR x.2.2.1 (List.length x.2.2.2.2.2.2.2.2.2.2.1)) then (Option.bind (Tf.tapewrightref10_Shape.j16 F (x.1, (x.2.1, (x.2.2.1, (x.2.2.2.1, (x.2.2.2.2.1, (x.2.2.2.2.2.1, (x.2.2.2.2.2.2.1, (x.2.2.2.2.2.2.2.1, ((List.getD x.2.2.2.2.2.2.2.2.2.2.1 (Int.toNat x.2.2.1) (dflt 6)).shape, (x.2.2.2.2.2.2.2.2.1, x.2.2.2.2.2.2.2.2.2.1))))))))))) (fun y12 => (some (y12.1, y12.2))))
 else none)
 else (Option.bind (Tf.tapewrightref10_Shape.j16 F (x.1, (x.2.1, (x.2.2.1, (x.2.2.2.1, (x.2.2.2.2.1, (x.2.2.2.2.2.1, (x.2.2.2.2.2.2.1, (x.2.2.2.2.2.2.2.1, (x.2.2.2.2.2.2.2.2.2.2.2, (x.2.2.2.2.2.2.2.2.1, x.2.2.2.2.2.2.2.2.2.1))))))))))) (fun y5 => (some (y5.1, y5.2)))))
def Tf.tapewrightref10_Shape.j11 (F : Nat) (x : (ByteArray × (Int × (Int × (ByteArray × ((List Int) × (ByteArray × (Int × ((List ByteArray) × (Int × (List Go.VI.Node))))))))))) : Option ((List Int) × Bool) :=
 (bif (decide (x.2.2.2.2.2.2.2.2.1 > (0 : Int))) then (bif (inR x.2.1 (List.length x.2.2.2.2.2.2.2.2.2)) then (Option.bind (Tf.tapewrightref10_Shape.j14 F (x.1, (x.2.1, (x.2.2.1, (x.2.2.2.1, (x.2.2.2.2.1, (x.2.2.2.2.2.1, (x.2.2.2.2.2.2.1, (x.2.2.2.2.2.2.2.1, ((List.getD x.2.2.2.2.2.2.2.2.2 (Int.toNat x.2.1) (dflt 6)).shape, (x.2.2.2.2.2.2.2.2.1, (x.2.2.2.2.2.2.2.2.2, ([] : List Int))))))))))))) (fun y14 => (some (y14.1, y14.2))))
 else none)
 else (Option.bind (Tf.tapewrightref10_Shape.j14 F (x.1, (x.2.1, (x.2.2.1, (x.2.2.2.1, (x.2.2.2.2.1, (x.2.2.2.2.2.1, (x.2.2.2.2.2.2.1, (x.2.2.2.2.2.2.2.1, (([] : List Int), (x.2.2.2.2.2.2.2.2.1, (x.2.2.2.2.2.2.2.2.2, ([] : List Int))))))))))))) (fun y7 => (some (y7.1, y7.2)))))
def Tf.tapewrightref10_Shape.j9 (F : Nat) (x : (ByteArray × (Int × (Int × (ByteArray × ((List Int) × (ByteArray × (Int × ((List ByteArray) × (Int × (List Go.VI.Node))))))))))) : Option ((List Int) × Bool) :=
 (bif (!(seqB x.1 (⟨#[115, 99, 97, 108, 101]⟩ : ByteArray))) then (bif (!(seqB x.2.2.2.2.2.1 (⟨#[]⟩ : ByteArray))) then (some (([] : List Int), Bool.false))
 else (bif (!(seqB x.1 (⟨#[112, 111, 119, 101, 114]⟩ : ByteArray))) then (bif (x.2.2.2.2.2.2.1 != (0 : Int)) then (some (([] : List Int), Bool.false))
 else (bif (!(seqB x.1 (⟨#[99, 111, 110, 115, 116]⟩ : ByteArray))) then (bif (decide (((List.length x.2.2.2.2.2.2.2.1) : Int) > (0 : Int))) then (some (([] : List Int), Bool.false))
 else (Option.bind (Tf.tapewrightref10_Shape.j11 F (x.1, (x.2.1, (x.2.2.1, (x.2.2.2.1, (x.2.2.2.2.1, (x.2.2.2.2.2.1, (x.2.2.2.2.2.2.1, (x.2.2.2.2.2.2.2.1, (x.2.2.2.2.2.2.2.2.1, x.2.2.2.2.2.2.2.2.2)))))))))) (fun y32 => (some (y32.1, y32.2)))))
 else (Option.bind (Tf.tapewrightref10_Shape.j11 F (x.1, (x.2.1, (x.2.2.1, (x.2.2.2.1, (x.2.2.2.2.1, (x.2.2.2.2.2.1, (x.2.2.2.2.2.2.1, (x.2.2.2.2.2.2.2.1, (x.2.2.2.2.2.2.2.2.1, x.2.2.2.2.2.2.2.2.2)))))))))) (fun y28 => (some (y28.1, y28.2))))))
 else (bif (!(seqB x.1 (⟨#[99, 111, 110, 115, 116]⟩ : ByteArray))) then (bif (decide (((List.length x.2.2.2.2.2.2.2.1) : Int) > (0 : Int))) then (some (([] : List Int), Bool.false))
 else (Option.bind (Tf.tapewrightref10_Shape.j11 F (x.1, (x.2.1, (x.2.2.1, (x.2.2.2.1, (x.2.2.2.2.1, (x.2.2.2.2.2.1, (x.2.2.2.2.2.2.1, (x.2.2.2.2.2.2.2.1, (x.2.2.2.2.2.2.2.2.1, x.2.2.2.2.2.2.2.2.2)))))))))) (fun y29 => (some (y29.1, y29.2)))))
 else (Option.bind (Tf.tapewrightref10_Shape.j11 F (x.1, (x.2.1, (x.2.2.1, (x.2.2.2.1, (x.2.2.2.2.1, (x.2.2.2.2.2.1, (x.2.2.2.2.2.2.1, (x.2.2.2.2.2.2.2.1, (x.2.2.2.2.2.2.2.2.1, x.2.2.2.2.2.2.2.2.2)))))))))) (fun y25 => (some (y25.1, y25.2)))))))
 else (bif (!(seqB x.1 (⟨#[112, 111, 119, 101, 114]⟩ : ByteArray))) then (bif (x.2.2.2.2.2.2.1 != (0 : Int)) then (some (([] : List Int), Bool.false))
 else (bif (!(seqB x.1 (⟨#[99, 111, 110, 115, 116]⟩ : ByteArray))) then (bif (decide (((List.length x.2.2.2.2.2.2.2.1) : Int) > (0 : Int))) then (some (([] : List Int), Bool.false))
 else (Option.bind (Tf.tapewrightref10_Shape.j11 F (x.1, (x.2.1, (x.2.2.1, (x.2.2.2.1, (x.2.2.2.2.1, (x.2.2.2.2.2.1, (x.2.2.2.2.2.2.1, (x.2.2.2.2.2.2.2.1, (x.2.2.2.2.2.2.2.2.1, x.2.2.2.2.2.2.2.2.2)))))))))) (fun y29 => (some (y29.1, y29.2)))))
 else (Option.bind (Tf.tapewrightref10_Shape.j11 F (x.1, (x.2.1, (x.2.2.1, (x.2.2.2.1, (x.2.2.2.2.1, (x.2.2.2.2.2.1, (x.2.2.2.2.2.2.1, (x.2.2.2.2.2.2.2.1, (x.2.2.2.2.2.2.2.2.1, x.2.2.2.2.2.2.2.2.2)))))))))) (fun y25 => (some (y25.1, y25.2))))))
 else (bif (!(seqB x.1 (⟨#[99, 111, 110, 115, 116]⟩ : ByteArray))) then (bif (decide (((List.length x.2.2.2.2.2.2.2.1) : Int) > (0 : Int))) then (some (([] : List Int), Bool.false))
 else (Option.bind (Tf.tapewrightref10_Shape.j11 F (x.1, (x.2.1, (x.2.2.1, (x.2.2.2.1, (x.2.2.2.2.1, (x.2.2.2.2.2.1, (x.2.2.2.2.2.2.1, (x.2.2.2.2.2.2.2.1, (x.2.2.2.2.2.2.2.2.1, x.2.2.2.2.2.2.2.2.2)))))))))) (fun y26 => (some (y26.1, y26.2)))))
 else (Option.bind (Tf.tapewrightref10_Shape.j11 F (x.1, (x.2.1, (x.2.2.1, (x.2.2.2.1, (x.2.2.2.2.1, (x.2.2.2.2.2.1, (x.2.2.2.2.2.2.1, (x.2.2.2.2.2.2.2.1, (x.2.2.2.2.2.2.2.2.1, x.2.2.2.2.2.2.2.2.2)))))))))) (fun y22 => (some (y22.1, y22.2)))))))
def Tf.tapewrightref10_Shape.j4 (F : Nat) (x : (ByteArray × (Int × (Int × (ByteArray × ((List Int) × (ByteArray × (Int × ((List ByteArray) × (Int × (List Go.VI.Node))))))))))) : Option ((List Int) × Bool) :=
 (bif (seqB x.1 (⟨#[112, 97, 114, 97, 109]⟩ : ByteArray)) then (Option.bind (Tf.tapewrightref08_Name.f F x.2.2.2.1) (fun y11 => (bif (!y11) then (some (([] : List Int), Bool.false))
 else (Option.bind (Tf.tapewrightref10_Shape.j9 F (x.1, (x.2.1, (x.2.2.1, (x.2.2.2.1, (x.2.2.2.2.1, (x.2.2.2.2.2.1, (x.2.2.2.2.2.2.1, (x.2.2.2.2.2.2.2.1, (x.2.2.2.2.2.2.2.2.1, x.2.2.2.2.2.2.2.2.2)))))))))) (fun y13 => (some (y13.1, y13.2)))))))
 else (bif (seqB x.1 (⟨#[105, 110, 112, 117, 116]⟩ : ByteArray)) then (Option.bind (Tf.tapewrightref08_Name.f F x.2.2.2.1) (fun y14 => (bif (!y14) then (some (([] : List Int), Bool.false))
 else (Option.bind (Tf.tapewrightref10_Shape.j9 F (x.1, (x.2.1, (x.2.2.1, (x.2.2.2.1, (x.2.2.2.2.1, (x.2.2.2.2.2.1, (x.2.2.2.2.2.2.1, (x.2.2.2.2.2.2.2.1, (x.2.2.2.2.2.2.2.2.1, x.2.2.2.2.2.2.2.2.2)))))))))) (fun y16 => (some (y16.1, y16.2)))))))
 else (bif (!(seqB x.2.2.2.1 (⟨#[]⟩ : ByteArray))) then (some (([] : List Int), Bool.false))
 else (Option.bind (Tf.tapewrightref10_Shape.j9 F (x.1, (x.2.1, (x.2.2.1, (x.2.2.2.1, (x.2.2.2.2.1, (x.2.2.2.2.2.1, (x.2.2.2.2.2.2.1, (x.2.2.2.2.2.2.2.1, (x.2.2.2.2.2.2.2.2.1, x.2.2.2.2.2.2.2.2.2)))))))))) (fun y14 => (some (y14.1, y14.2)))))))
def Tf.tapewrightref10_Shape.f (F : Nat) (a : ((List Go.VI.Node) × Go.VI.Node)) : Option ((List Int) × Bool) :=
 (Option.bind (Tf.tapewrightref10_Parts.f F a.2.op) (fun y9 => (bif (decide (y9 < (0 : Int))) then (some (([] : List Int), Bool.false))
 else (bif (y9 == (0 : Int)) then (bif (a.2.a != (0 : Int)) then (some (([] : List Int), Bool.false))
 else (bif (decide (y9 < (2 : Int))) then (bif (a.2.b != (0 : Int)) then (some (([] : List Int), Bool.false))
 else (bif (decide (y9 > (0 : Int))) then (bif (decide (a.2.a < (0 : Int))) then (some (([] : List Int), Bool.false))
 else (bif (decide (a.2.a ≥ ((List.length a.1) : Int))) then (some (([] : List Int), Bool.false))
 else (bif (decide (y9 > (1 : Int))) then (bif (decide (a.2.b < (0 : Int))) then (some (([] : List Int), Bool.false))
 else (bif (decide (a.2.b ≥ ((List.length a.1) : Int))) then (some (([] : List Int), Bool.false))
 else (Option.bind (Tf.tapewrightref10_Shape.j4 F (a.2.op, (a.2.a, (a.2.b, (a.2.name, (a.2.shape, (a.2.k, (a.2.n, (a.2.data, (y9, a.1)))))))))) (fun y63 => (some (y63.1, y63.2))))))
 else (Option.bind (Tf.tapewrightref10_Shape.j4 F (a.2.op, (a.2.a, (a.2.b, (a.2.name, (a.2.shape, (a.2.k, (a.2.n, (a.2.data, (y9, a.1)))))))))) (fun y53 => (some (y53.1, y53.2)))))))
 else (bif (decide (y9 > (1 : Int))) then (bif (decide (a.2.b < (0 : Int))) then (some (([] : List Int), Bool.false))
 else (bif (decide (a.2.b ≥ ((List.length a.1) : Int))) then (some (([] : List Int), Bool.false))
 else (Option.bind (Tf.tapewrightref10_Shape.j4 F (a.2.op, (a.2.a, (a.2.b, (a.2.name, (a.2.shape, (a.2.k, (a.2.n, (a.2.data, (y9, a.1)))))))))) (fun y53 => (some (y53.1, y53.2))))))
 else (Option.bind (Tf.tapewrightref10_Shape.j4 F (a.2.op, (a.2.a, (a.2.b, (a.2.name, (a.2.shape, (a.2.k, (a.2.n, (a.2.data, (y9, a.1)))))))))) (fun y43 => (some (y43.1, y43.2)))))))
 else (bif (decide (y9 > (0 : Int))) then (bif (decide (a.2.a < (0 : Int))) then (some (([] : List Int), Bool.false))
 else (bif (decide (a.2.a ≥ ((List.length a.1) : Int))) then (some (([] : List Int), Bool.false))
 else (bif (decide (y9 > (1 : Int))) then (bif (decide (a.2.b < (0 : Int))) then (some (([] : List Int), Bool.false))
 else (bif (decide (a.2.b ≥ ((List.length a.1) : Int))) then (some (([] : List Int), Bool.false))
 else (Option.bind (Tf.tapewrightref10_Shape.j4 F (a.2.op, (a.2.a, (a.2.b, (a.2.name, (a.2.shape, (a.2.k, (a.2.n, (a.2.data, (y9, a.1)))))))))) (fun y60 => (some (y60.1, y60.2))))))
 else (Option.bind (Tf.tapewrightref10_Shape.j4 F (a.2.op, (a.2.a, (a.2.b, (a.2.name, (a.2.shape, (a.2.k, (a.2.n, (a.2.data, (y9, a.1)))))))))) (fun y50 => (some (y50.1, y50.2)))))))
 else (bif (decide (y9 > (1 : Int))) then (bif (decide (a.2.b < (0 : Int))) then (some (([] : List Int), Bool.false))
 else (bif (decide (a.2.b ≥ ((List.length a.1) : Int))) then (some (([] : List Int), Bool.false))
 else (Option.bind (Tf.tapewrightref10_Shape.j4 F (a.2.op, (a.2.a, (a.2.b, (a.2.name, (a.2.shape, (a.2.k, (a.2.n, (a.2.data, (y9, a.1)))))))))) (fun y50 => (some (y50.1, y50.2))))))
 else (Option.bind (Tf.tapewrightref10_Shape.j4 F (a.2.op, (a.2.a, (a.2.b, (a.2.name, (a.2.shape, (a.2.k, (a.2.n, (a.2.data, (y9, a.1)))))))))) (fun y40 => (some (y40.1, y40.2))))))))
 else (bif (decide (y9 < (2 : Int))) then (bif (a.2.b != (0 : Int)) then (some (([] : List Int), Bool.false))
 else (bif (decide (y9 > (0 : Int))) then (bif (decide (a.2.a < (0 : Int))) then (some (([] : List Int), Bool.false))
 else (bif (decide (a.2.a ≥ ((List.length a.1) : Int))) then (some (([] : List Int), Bool.false))
 else (bif (decide (y9 > (1 : Int))) then (bif (decide (a.2.b < (0 : Int))) then (some (([] : List Int), Bool.false))
 else (bif (decide (a.2.b ≥ ((List.length a.1) : Int))) then (some (([] : List Int), Bool.false))
 else (Option.bind (Tf.tapewrightref10_Shape.j4 F (a.2.op, (a.2.a, (a.2.b, (a.2.name, (a.2.shape, (a.2.k, (a.2.n, (a.2.data, (y9, a.1)))))))))) (fun y60 => (some (y60.1, y60.2))))))
 else (Option.bind (Tf.tapewrightref10_Shape.j4 F (a.2.op, (a.2.a, (a.2.b, (a.2.name, (a.2.shape, (a.2.k, (a.2.n, (a.2.data, (y9, a.1)))))))))) (fun y50 => (some (y50.1, y50.2)))))))
 else (bif (decide (y9 > (1 : Int))) then (bif (decide (a.2.b < (0 : Int))) then (some (([] : List Int), Bool.false))
 else (bif (decide (a.2.b ≥ ((List.length a.1) : Int))) then (some (([] : List Int), Bool.false))
 else (Option.bind (Tf.tapewrightref10_Shape.j4 F (a.2.op, (a.2.a, (a.2.b, (a.2.name, (a.2.shape, (a.2.k, (a.2.n, (a.2.data, (y9, a.1)))))))))) (fun y50 => (some (y50.1, y50.2))))))
 else (Option.bind (Tf.tapewrightref10_Shape.j4 F (a.2.op, (a.2.a, (a.2.b, (a.2.name, (a.2.shape, (a.2.k, (a.2.n, (a.2.data, (y9, a.1)))))))))) (fun y40 => (some (y40.1, y40.2)))))))
 else (bif (decide (y9 > (0 : Int))) then (bif (decide (a.2.a < (0 : Int))) then (some (([] : List Int), Bool.false))
 else (bif (decide (a.2.a ≥ ((List.length a.1) : Int))) then (some (([] : List Int), Bool.false))
 else (bif (decide (y9 > (1 : Int))) then (bif (decide (a.2.b < (0 : Int))) then (some (([] : List Int), Bool.false))
 else (bif (decide (a.2.b ≥ ((List.length a.1) : Int))) then (some (([] : List Int), Bool.false))
 else (Option.bind (Tf.tapewrightref10_Shape.j4 F (a.2.op, (a.2.a, (a.2.b, (a.2.name, (a.2.shape, (a.2.k, (a.2.n, (a.2.data, (y9, a.1)))))))))) (fun y57 => (some (y57.1, y57.2))))))
 else (Option.bind (Tf.tapewrightref10_Shape.j4 F (a.2.op, (a.2.a, (a.2.b, (a.2.name, (a.2.shape, (a.2.k, (a.2.n, (a.2.data, (y9, a.1)))))))))) (fun y47 => (some (y47.1, y47.2)))))))
 else (bif (decide (y9 > (1 : Int))) then (bif (decide (a.2.b < (0 : Int))) then (some (([] : List Int), Bool.false))
 else (bif (decide (a.2.b ≥ ((List.length a.1) : Int))) then (some (([] : List Int), Bool.false))
 else (Option.bind (Tf.tapewrightref10_Shape.j4 F (a.2.op, (a.2.a, (a.2.b, (a.2.name, (a.2.shape, (a.2.k, (a.2.n, (a.2.data, (y9, a.1)))))))))) (fun y47 => (some (y47.1, y47.2))))))
 else (Option.bind (Tf.tapewrightref10_Shape.j4 F (a.2.op, (a.2.a, (a.2.b, (a.2.name, (a.2.shape, (a.2.k, (a.2.n, (a.2.data, (y9, a.1)))))))))) (fun y37 => (some (y37.1, y37.2)))))))))))
end Go.VI

namespace Go.VI
open Go
def Tf.tapewrightref10_Right.s10 (F : Nat) (L : (Int × (Int × ((List Go.VI.Node) × Int))) → Option (Bool ⊕ ((List Go.VI.Node) × (Int × Int)))) (x : (Int × (Int × ((List Go.VI.Node) × Int)))) : Option (Bool ⊕ ((List Go.VI.Node) × (Int × Int))) :=
 (bif (decide (x.1 < x.2.1)) then (bif (inR x.2.1 (List.length x.2.2.1)) then (bif (!(seqB (List.getD x.2.2.1 (Int.toNat x.2.1) (dflt 6)).name (⟨#[]⟩ : ByteArray))) then (bif (inR x.1 (List.length x.2.2.1)) then (bif (inR x.2.1 (List.length x.2.2.1)) then (bif (seqB (List.getD x.2.2.1 (Int.toNat x.1) (dflt 6)).name (List.getD x.2.2.1 (Int.toNat x.2.1) (dflt 6)).name) then (some (.inl Bool.false))
 else (L ((Go.IntKind.wrap IntKind.i64 (x.1 + (1 : Int))), (x.2.1, (x.2.2.1, x.2.2.2)))))
 else none)
 else none)
 else (L ((Go.IntKind.wrap IntKind.i64 (x.1 + (1 : Int))), (x.2.1, (x.2.2.1, x.2.2.2)))))
 else none)
 else (some (.inr (x.2.2.1, (x.2.2.2, x.2.1)))))
def Tf.tapewrightref10_Right.l10 (F : Nat) : (Int × (Int × ((List Go.VI.Node) × Int))) → Option (Bool ⊕ ((List Go.VI.Node) × (Int × Int))) := iter (Tf.tapewrightref10_Right.s10 F) F
def Tf.tapewrightref10_Right.s4 (F : Nat) (L : (Int × ((List Go.VI.Node) × Int)) → Option (Bool ⊕ Unit)) (x : (Int × ((List Go.VI.Node) × Int))) : Option (Bool ⊕ Unit) :=
 (bif (decide (x.1 < ((List.length x.2.1) : Int))) then (bif ((decide ((0 : Int) ≤ x.1)) && (decide (x.1 ≤ ((List.length x.2.1) : Int)))) then (bif (inR x.1 (List.length x.2.1)) then (Option.bind (Tf.tapewrightref10_Shape.f F ((List.drop 0 (List.take (Int.toNat x.1) x.2.1)), (Node.mk (List.getD x.2.1 (Int.toNat x.1) (dflt 6)).op (List.getD x.2.1 (Int.toNat x.1) (dflt 6)).a (List.getD x.2.1 (Int.toNat x.1) (dflt 6)).b (List.getD x.2.1 (Int.toNat x.1) (dflt 6)).name (List.getD x.2.1 (Int.toNat x.1) (dflt 6)).shape (List.getD x.2.1 (Int.toNat x.1) (dflt 6)).k (List.getD x.2.1 (Int.toNat x.1) (dflt 6)).n (List.getD x.2.1 (Int.toNat x.1) (dflt 6)).data))) (fun y56 => (bif (!y56.2) then (some (.inl Bool.false))
 else (bif (inR x.1 (List.length x.2.1)) then (Option.bind (Tf.tapewrightref04_Same.f F (y56.1, (List.getD x.2.1 (Int.toNat x.1) (dflt 6)).shape)) (fun y73 => (bif (!y73) then (some (.inl Bool.false))
 else (Option.bind (Tf.tapewrightref10_Right.l10 F ((0 : Int), (x.1, (x.2.1, x.2.2)))) (fun y77 => (sumE y77 (fun y78 => (some (.inl y78))) (fun y78 => (L ((Go.IntKind.wrap IntKind.i64 (y78.2.2 + (1 : Int))), (y78.1, y78.2.1))))))))))
 else none))))
 else none)
 else none)
 else (some (.inr ())))
end Go.VI

namespace Go.VI
open Go Go.Proofs
def nodeBs : List B := [.str, .int .i64, .int .i64, .str, .sl 0, .str, .int .i64, .sl 4]
def nodeOf (y : BTys nodeBs) : Rho 6 := (⟨y.1, y.2.1, y.2.2.1, y.2.2.2.1, y.2.2.2.2.1, y.2.2.2.2.2.1, y.2.2.2.2.2.2.1, y.2.2.2.2.2.2.2⟩ : Node)
theorem opInt : OpB Tryz.prog 3 (.int .i64) := OpB.int Tryz.underlying3
theorem opStr : OpB Tryz.prog 9 .str := OpB.str Tryz.underlying9
theorem opInts : OpB Tryz.prog 24 (.sl 0) := OpB.sl Tryz.underlying24 (by kernel_rfl) (opInt.toT (r := 0) id fun _ => rfl)
theorem opStrs : OpB Tryz.prog 22 (.sl 4) := OpB.sl Tryz.underlying22 (by kernel_rfl) (opStr.toT (r := 4) id fun _ => rfl)
theorem opNode : OpBs Tryz.prog 75 nodeBs :=
  OpBs.struct Tryz.underlying75 rfl (by kernel_rfl) (by kernel_rfl) fun i f b hf hb => by
    match i, hf, hb with
    | 0, hf, hb => cases hf; cases hb; exact opStr
    | 1, hf, hb => cases hf; cases hb; exact opInt
    | 2, hf, hb => cases hf; cases hb; exact opInt
    | 3, hf, hb => cases hf; cases hb; exact opStr
    | 4, hf, hb => cases hf; cases hb; exact opInts
    | 5, hf, hb => cases hf; cases hb; exact opStr
    | 6, hf, hb => cases hf; cases hb; exact opInt
    | 7, hf, hb => cases hf; cases hb; exact opStrs
    | _ + 8, hf, hb => cases hb
theorem opNodes : OpB Tryz.prog 48 (.sl 6) := OpB.sl Tryz.underlying48 (by kernel_rfl) (opNode.toT (r := 6) nodeOf (fun _ => rfl) rfl)
theorem opGraph : OpBs Tryz.prog 50 [.sl 6, .int .i64] :=
  OpBs.struct Tryz.underlying50 rfl (by kernel_rfl) (by kernel_rfl) fun i f b hf hb => by
    match i, hf, hb with
    | 0, hf, hb => cases hf; cases hb; exact opNodes
    | 1, hf, hb => cases hf; cases hb; exact opInt
    | _ + 2, hf, hb => cases hb
theorem argGraph : OpK Tryz.prog 50 (.st [.sl 6, .int .i64]) := OpK.st Tryz.underlying50 opGraph
end Go.VI

