import Derived.Test.YtffpponklejidaaGreatDoorRShowTells2
import Derived.Test.YtffpponklejidaaGreatDoorProg
import Derived.Below
import Derived.ChangeArms
import Derived.ChangeSame
import Derived.ChangeSlices
import Derived.SizedLaws
import Derived.DataElems
import Derived.WideShapes
import Derived.ChangeMaps5
import Derived.KernelRfl
import Derived.Shelf.Strings.BuilderK
import Derived.WalkKit
import Derived.WalkSpells
import Derived.Shelf.GgClosure.StringsIndexFuncTop
import Derived.Ground.GgwProg
import Derived.Shelf.Strings.SlTrimAscii
import Derived.Lib.IndexBytes
import Derived.Shelf.Strings.Search2
import Derived.Lib.SplitLaws
import Derived.Laws.RangeString
import Derived.Laws.RangeAny
import Derived.Lib.SliceRun
import Derived.Shelf.Strconv.AtoiAll
import Derived.Shelf.Strconv.Itoa3
import Derived.Shelf.Strings.Count
import Derived.Shelf.Strings.OnBuilder
import Derived.MapKept
import Derived.ChangeMaps3
import Derived.Carry
import Derived.Laws.CopyRow
import Derived.Laws.MakeOwn
import Derived.Laws.Tables
import Derived.Great.BuildSlice
import Derived.Laws.AppendOwn
import Derived.Laws.Entries
import Derived.Laws.Cells
import Derived.Laws.Append
import Derived.Laws.BytesString
import Derived.Calls
import Derived.Orders
import Derived.RowKit
import Derived.Laws.World
import GoSem.Core.Region
import GoSem.Core.View
import GoSem.Op.String
import GoSem.Core.Code
set_option linter.unusedVariables false
set_option linter.unusedSimpArgs false
namespace Go.VI
open Go
noncomputable def Tf.tapewrightref01_Div.c : Code := (Go.Proofs.Tryz.f103.body).getD .skip
noncomputable def Tf.tapewrightref01_Div.b7 : Code := codeAt [1, 1, 0, 1, 0, 0, 1, 0, 0, 1, 1, 0, 0, 0] Tf.tapewrightref01_Div.c
def Tf.tapewrightref01_Div.s7 (F : Nat) (L : (Int × (ByteArray × (ByteArray × (ByteArray × (Int × ByteArray))))) → Option (ByteArray × (ByteArray × (ByteArray × (Int × (Int × ByteArray)))))) (x : (Int × (ByteArray × (ByteArray × (ByteArray × (Int × ByteArray)))))) : Option (ByteArray × (ByteArray × (ByteArray × (Int × (Int × ByteArray))))) :=
 (Option.bind (Tf.tapewrightref01_Compare.f F (x.2.2.1, x.2.1)) (fun y29 => (bif (decide (y29 ≥ (0 : Int))) then (Option.bind (Tf.tapewrightref01_Sub.f F (x.2.2.1, x.2.1)) (fun y34 => (L ((Go.IntKind.wrap IntKind.i64 (x.1 + (1 : Int))), (x.2.1, (y34, (x.2.2.2.1, (x.2.2.2.2.1, x.2.2.2.2.2))))))))
 else (some (x.2.1, (x.2.2.2.1, (x.2.2.1, (x.2.2.2.2.1, (x.1, x.2.2.2.2.2)))))))))
def Tf.tapewrightref01_Div.l7 (F : Nat) : (Int × (ByteArray × (ByteArray × (ByteArray × (Int × ByteArray))))) → Option (ByteArray × (ByteArray × (ByteArray × (Int × (Int × ByteArray))))) := iter (Tf.tapewrightref01_Div.s7 F) F
theorem Tf.tapewrightref01_Div.s7_ok (F : Nat) (L a) : exec Go.VI.tyT (look [(128, Tf.tapewrightref01_Plain.e F), (129, Tf.tapewrightref01_Compare.e F), (130, Tf.tapewrightref01_Sub.e F)] : Fns) 43 (look [] : Loops) Tf.tapewrightref01_Div.b7 (rebuild [.slot 9, .slot 1, .slot 7, .slot 0, .slot 8, .slot 6] (encKs [.int .i64, .str, .str, .str, .int .i64, .str] a)) (bodyK [.slot 9, .slot 1, .slot 7, .slot 0, .slot 8, .slot 6] [.int .i64, .str, .str, .str, .int .i64, .str] [⟨.exit 2, [.slot 1, .slot 0, .slot 7, .slot 8, .slot 9, .slot 6], [.str, .str, .str, .int .i64, .int .i64, .str]⟩] L) = Tf.tapewrightref01_Div.s7 F L a := by kernel_rfl
theorem Tf.tapewrightref01_Div.l7_ok (F : Nat) : LoopOk Go.Proofs.Tryz.prog Go.VI.tyT.G 43 Tf.tapewrightref01_Div.b7 (fun st κ => hand [.slot 9, .slot 1, .slot 7, .slot 0, .slot 8, .slot 6] [.int .i64, .str, .str, .str, .int .i64, .str] [⟨.exit 2, [.slot 1, .slot 0, .slot 7, .slot 8, .slot 9, .slot 6], [.str, .str, .str, .int .i64, .int .i64, .str]⟩] (Tf.tapewrightref01_Div.l7 F) st κ) :=
  loop_ok Go.VI.tyT_ok rfl mix (.cons (Tf.tapewrightref01_Plain.ok F) (.cons (Tf.tapewrightref01_Compare.ok F) (.cons (Tf.tapewrightref01_Sub.ok F) .nil))) (Λ := (look [] : Loops)) (LoopsOk.of (bs := []) (by kernel_rfl) .nil) (Tf.tapewrightref01_Div.s7_ok F) F
noncomputable def Tf.tapewrightref01_Div.b3 : Code := codeAt [1, 1, 0, 1, 0, 0] Tf.tapewrightref01_Div.c
def Tf.tapewrightref01_Div.s3 (F : Nat) (L : (ByteArray × (Int × (ByteArray × (ByteArray × ByteArray)))) → Option (ByteArray × ByteArray)) (x : (ByteArray × (Int × (ByteArray × (ByteArray × ByteArray))))) : Option (ByteArray × ByteArray) :=
 (bif (decide (x.2.1 < ((ByteArray.size x.2.2.2.1) : Int))) then (bif ((decide ((0 : Int) ≤ (Go.IntKind.wrap IntKind.i64 (x.2.1 + (1 : Int))))) && (decide ((Go.IntKind.wrap IntKind.i64 (x.2.1 + (1 : Int))) ≤ ((ByteArray.size x.2.2.2.1) : Int)))) then (bif ((decide ((0 : Int) ≤ x.2.1)) && (decide (x.2.1 ≤ ((Int.toNat (Go.IntKind.wrap IntKind.i64 (x.2.1 + (1 : Int)))) : Int)))) then (bif (Nat.ble ((ByteArray.size x.2.2.2.2) + (ByteArray.size (ByteArray.extract x.2.2.2.1 (Int.toNat x.2.1) (Int.toNat (Go.IntKind.wrap IntKind.i64 (x.2.1 + (1 : Int))))))) 4611686018427387904) then (Option.bind (Tf.tapewrightref01_Plain.f F (x.2.2.2.2 ++ (ByteArray.extract x.2.2.2.1 (Int.toNat x.2.1) (Int.toNat (Go.IntKind.wrap IntKind.i64 (x.2.1 + (1 : Int))))))) (fun y21 => (Option.bind (Tf.tapewrightref01_Div.l7 F ((0 : Int), (x.1, (y21, (x.2.2.2.1, (x.2.1, x.2.2.1)))))) (fun y24 => (bif (Nat.ble ((ByteArray.size y24.2.2.2.2.2) + (ByteArray.size (strOf (List.set (List.replicate 1 (0 : Int)) 0 (Go.IntKind.wrap IntKind.u8 (Go.IntKind.wrap IntKind.i64 ((48 : Int) + y24.2.2.2.2.1))))))) 4611686018427387904) then (L (y24.1, ((Go.IntKind.wrap IntKind.i64 (y24.2.2.2.1 + (1 : Int))), ((y24.2.2.2.2.2 ++ (strOf (List.set (List.replicate 1 (0 : Int)) 0 (Go.IntKind.wrap IntKind.u8 (Go.IntKind.wrap IntKind.i64 ((48 : Int) + y24.2.2.2.2.1)))))), (y24.2.1, y24.2.2.1)))))
 else none)))))
 else none)
 else none)
 else none)
 else (some (x.2.2.2.2, x.2.2.1)))
def Tf.tapewrightref01_Div.l3 (F : Nat) : (ByteArray × (Int × (ByteArray × (ByteArray × ByteArray)))) → Option (ByteArray × ByteArray) := iter (Tf.tapewrightref01_Div.s3 F) F
theorem Tf.tapewrightref01_Div.s3_ok (F : Nat) (L a) : exec Go.VI.tyT (look [(128, Tf.tapewrightref01_Plain.e F), (129, Tf.tapewrightref01_Compare.e F), (130, Tf.tapewrightref01_Sub.e F)] : Fns) 43 (look [(7, fun st κ => hand [.slot 9, .slot 1, .slot 7, .slot 0, .slot 8, .slot 6] [.int .i64, .str, .str, .str, .int .i64, .str] [⟨.exit 2, [.slot 1, .slot 0, .slot 7, .slot 8, .slot 9, .slot 6], [.str, .str, .str, .int .i64, .int .i64, .str]⟩] (Tf.tapewrightref01_Div.l7 F) st κ)] : Loops) Tf.tapewrightref01_Div.b3 (rebuild [.slot 1, .slot 8, .slot 6, .slot 0, .slot 7] (encKs [.str, .int .i64, .str, .str, .str] a)) (bodyK [.slot 1, .slot 8, .slot 6, .slot 0, .slot 7] [.str, .int .i64, .str, .str, .str] [⟨.exit 0, [.slot 7, .slot 6], [.str, .str]⟩] L) = Tf.tapewrightref01_Div.s3 F L a := by kernel_rfl
theorem Tf.tapewrightref01_Div.l3_ok (F : Nat) : LoopOk Go.Proofs.Tryz.prog Go.VI.tyT.G 43 Tf.tapewrightref01_Div.b3 (fun st κ => hand [.slot 1, .slot 8, .slot 6, .slot 0, .slot 7] [.str, .int .i64, .str, .str, .str] [⟨.exit 0, [.slot 7, .slot 6], [.str, .str]⟩] (Tf.tapewrightref01_Div.l3 F) st κ) :=
  loop_ok Go.VI.tyT_ok rfl mix (.cons (Tf.tapewrightref01_Plain.ok F) (.cons (Tf.tapewrightref01_Compare.ok F) (.cons (Tf.tapewrightref01_Sub.ok F) .nil))) (Λ := (look [(7, fun st κ => hand [.slot 9, .slot 1, .slot 7, .slot 0, .slot 8, .slot 6] [.int .i64, .str, .str, .str, .int .i64, .str] [⟨.exit 2, [.slot 1, .slot 0, .slot 7, .slot 8, .slot 9, .slot 6], [.str, .str, .str, .int .i64, .int .i64, .str]⟩] (Tf.tapewrightref01_Div.l7 F) st κ)] : Loops)) (LoopsOk.of (bs := [Tf.tapewrightref01_Div.b7]) (by kernel_rfl) (.cons rfl (Tf.tapewrightref01_Div.l7_ok F) .nil)) (Tf.tapewrightref01_Div.s3_ok F) F
def Tf.tapewrightref01_Div.f (F : Nat) (a : (ByteArray × ByteArray)) : Option (ByteArray × ByteArray) :=
 (Option.bind (Tf.tapewrightref01_Div.l3 F (a.2, ((0 : Int), ((⟨#[]⟩ : ByteArray), (a.1, (⟨#[48]⟩ : ByteArray)))))) (fun y8 => (Option.bind (Tf.tapewrightref01_Plain.f F y8.2) (fun y11 => (some (y11, y8.1))))))
theorem Tf.tapewrightref01_Div.f_ok (F : Nat) (a) : exec Go.VI.tyT (look [(128, Tf.tapewrightref01_Plain.e F), (129, Tf.tapewrightref01_Compare.e F), (130, Tf.tapewrightref01_Sub.e F)] : Fns) 43 (look [(3, fun st κ => hand [.slot 1, .slot 8, .slot 6, .slot 0, .slot 7] [.str, .int .i64, .str, .str, .str] [⟨.exit 0, [.slot 7, .slot 6], [.str, .str]⟩] (Tf.tapewrightref01_Div.l3 F) st κ)] : Loops) Tf.tapewrightref01_Div.c (init [.p, .p] (encKs [.str, .str] a)) (finT (look [(128, Tf.tapewrightref01_Plain.e F), (129, Tf.tapewrightref01_Compare.e F), (130, Tf.tapewrightref01_Sub.e F)] : Fns) (⟨[.p, .p], [.p, .p]⟩ : Sig) [4, 5] [.pure, .pure] [.str, .str]) = Tf.tapewrightref01_Div.f F a := by kernel_rfl
def Tf.tapewrightref01_Div.e (F : Nat) : Fn := mkFn (⟨[.p, .p], [.p, .p]⟩ : Sig) [.str, .str] [.pure, .pure] [.str, .str] (Tf.tapewrightref01_Div.f F)
theorem Tf.tapewrightref01_Div.ok (F : Nat) : EntryOk Go.Proofs.Tryz.prog Go.VI.tyT.G 103 (Tf.tapewrightref01_Div.e F) :=
  fn_ok Go.VI.tyT_ok rfl mix (.cons (Tf.tapewrightref01_Plain.ok F) (.cons (Tf.tapewrightref01_Compare.ok F) (.cons (Tf.tapewrightref01_Sub.ok F) .nil))) (Λ := (look [(3, fun st κ => hand [.slot 1, .slot 8, .slot 6, .slot 0, .slot 7] [.str, .int .i64, .str, .str, .str] [⟨.exit 0, [.slot 7, .slot 6], [.str, .str]⟩] (Tf.tapewrightref01_Div.l3 F) st κ)] : Loops)) (fn := Go.Proofs.Tryz.f103) (c := Tf.tapewrightref01_Div.c) (LoopsOk.of (bs := [Tf.tapewrightref01_Div.b3]) (by kernel_rfl) (.cons rfl (Tf.tapewrightref01_Div.l3_ok F) .nil)) (by kernel_rfl) (by kernel_rfl) (by kernel_rfl) (by kernel_rfl) (res2 (by kernel_rfl)) (by decide) (Tf.tapewrightref01_Div.f_ok F)
end Go.VI

namespace Go.VI
open Go
noncomputable def Tf.tapewrightref01_Gcd.c : Code := (Go.Proofs.Tryz.f102.body).getD .skip
noncomputable def Tf.tapewrightref01_Gcd.b1 : Code := codeAt [1, 0, 0, 0] Tf.tapewrightref01_Gcd.c
def Tf.tapewrightref01_Gcd.s1 (F : Nat) (L : (ByteArray × ByteArray) → Option ByteArray) (x : (ByteArray × ByteArray)) : Option ByteArray :=
 (bif (!(seqB x.1 (⟨#[48]⟩ : ByteArray))) then (Option.bind (Tf.tapewrightref01_Div.f F (x.2, x.1)) (fun y10 => (L (y10.2, x.1))))
 else (some x.2))
def Tf.tapewrightref01_Gcd.l1 (F : Nat) : (ByteArray × ByteArray) → Option ByteArray := iter (Tf.tapewrightref01_Gcd.s1 F) F
theorem Tf.tapewrightref01_Gcd.s1_ok (F : Nat) (L a) : exec Go.VI.tyT (look [(103, Tf.tapewrightref01_Div.e F)] : Fns) 18 (look [] : Loops) Tf.tapewrightref01_Gcd.b1 (rebuild [.slot 1, .slot 0] (encKs [.str, .str] a)) (bodyK [.slot 1, .slot 0] [.str, .str] [⟨.exit 0, [.slot 0], [.str]⟩] L) = Tf.tapewrightref01_Gcd.s1 F L a := by kernel_rfl
theorem Tf.tapewrightref01_Gcd.l1_ok (F : Nat) : LoopOk Go.Proofs.Tryz.prog Go.VI.tyT.G 18 Tf.tapewrightref01_Gcd.b1 (fun st κ => hand [.slot 1, .slot 0] [.str, .str] [⟨.exit 0, [.slot 0], [.str]⟩] (Tf.tapewrightref01_Gcd.l1 F) st κ) :=
  loop_ok Go.VI.tyT_ok rfl mix (.cons (Tf.tapewrightref01_Div.ok F) .nil) (Λ := (look [] : Loops)) (LoopsOk.of (bs := []) (by kernel_rfl) .nil) (Tf.tapewrightref01_Gcd.s1_ok F) F
def Tf.tapewrightref01_Gcd.f (F : Nat) (a : (ByteArray × ByteArray)) : Option ByteArray :=
 (Option.bind (Tf.tapewrightref01_Gcd.l1 F (a.2, a.1)) (fun y4 => (some y4)))
theorem Tf.tapewrightref01_Gcd.f_ok (F : Nat) (a) : exec Go.VI.tyT (look [(103, Tf.tapewrightref01_Div.e F)] : Fns) 18 (look [(1, fun st κ => hand [.slot 1, .slot 0] [.str, .str] [⟨.exit 0, [.slot 0], [.str]⟩] (Tf.tapewrightref01_Gcd.l1 F) st κ)] : Loops) Tf.tapewrightref01_Gcd.c (init [.p, .p] (encKs [.str, .str] a)) (finT (look [(103, Tf.tapewrightref01_Div.e F)] : Fns) (⟨[.p, .p], [.p]⟩ : Sig) [4] [.pure] [.str]) = Tf.tapewrightref01_Gcd.f F a := by kernel_rfl
def Tf.tapewrightref01_Gcd.e (F : Nat) : Fn := mkFn (⟨[.p, .p], [.p]⟩ : Sig) [.str, .str] [.pure] [.str] (Tf.tapewrightref01_Gcd.f F)
theorem Tf.tapewrightref01_Gcd.ok (F : Nat) : EntryOk Go.Proofs.Tryz.prog Go.VI.tyT.G 102 (Tf.tapewrightref01_Gcd.e F) :=
  fn_ok Go.VI.tyT_ok rfl mix (.cons (Tf.tapewrightref01_Div.ok F) .nil) (Λ := (look [(1, fun st κ => hand [.slot 1, .slot 0] [.str, .str] [⟨.exit 0, [.slot 0], [.str]⟩] (Tf.tapewrightref01_Gcd.l1 F) st κ)] : Loops)) (fn := Go.Proofs.Tryz.f102) (c := Tf.tapewrightref01_Gcd.c) (LoopsOk.of (bs := [Tf.tapewrightref01_Gcd.b1]) (by kernel_rfl) (.cons rfl (Tf.tapewrightref01_Gcd.l1_ok F) .nil)) (by kernel_rfl) (by kernel_rfl) (by kernel_rfl) (by kernel_rfl) (res1 (by kernel_rfl)) (by decide) (Tf.tapewrightref01_Gcd.f_ok F)
end Go.VI

namespace Go.VI
open Go
noncomputable def Tf.tapewrightref03_Lowest.c : Code := (Go.Proofs.Tryz.f86.body).getD .skip
def Tf.tapewrightref03_Lowest.f (F : Nat) (a : (ByteArray × ByteArray)) : Option (ByteArray × ByteArray) :=
 (Option.bind (Tf.tapewrightref02_Sign.f F a.2) (fun y6 => (bif (decide (y6 < (0 : Int))) then (Option.bind (Tf.tapewrightref02_Neg.f F a.1) (fun y10 => (Option.bind (Tf.tapewrightref02_Neg.f F a.2) (fun y13 => (Option.bind (Tf.tapewrightref02_Size.f F y10) (fun y18 => (Option.bind (Tf.tapewrightref01_Gcd.f F (y18, y13)) (fun y23 => (Option.bind (Tf.tapewrightref01_Div.f F (y18, y23)) (fun y28 => (Option.bind (Tf.tapewrightref01_Div.f F (y13, y23)) (fun y36 => (Option.bind (Tf.tapewrightref02_Sign.f F y10) (fun y43 => (bif (decide (y43 < (0 : Int))) then (bif (Nat.ble (1 + (ByteArray.size y28.1)) 4611686018427387904) then (some (((⟨#[45]⟩ : ByteArray) ++ y28.1), y36.1))
 else none)
 else (some (y28.1, y36.1)))))))))))))))))
 else (Option.bind (Tf.tapewrightref02_Size.f F a.1) (fun y10 => (Option.bind (Tf.tapewrightref01_Gcd.f F (y10, a.2)) (fun y15 => (Option.bind (Tf.tapewrightref01_Div.f F (y10, y15)) (fun y20 => (Option.bind (Tf.tapewrightref01_Div.f F (a.2, y15)) (fun y28 => (Option.bind (Tf.tapewrightref02_Sign.f F a.1) (fun y35 => (bif (decide (y35 < (0 : Int))) then (bif (Nat.ble (1 + (ByteArray.size y20.1)) 4611686018427387904) then (some (((⟨#[45]⟩ : ByteArray) ++ y20.1), y28.1))
 else none)
 else (some (y20.1, y28.1))))))))))))))))
theorem Tf.tapewrightref03_Lowest.f_ok (F : Nat) (a) : exec Go.VI.tyT (look [(99, Tf.tapewrightref02_Size.e F), (100, Tf.tapewrightref02_Sign.e F), (101, Tf.tapewrightref02_Neg.e F), (102, Tf.tapewrightref01_Gcd.e F), (103, Tf.tapewrightref01_Div.e F)] : Fns) 39 (look [] : Loops) Tf.tapewrightref03_Lowest.c (init [.p, .p] (encKs [.str, .str] a)) (finC Go.VI.tyT (look [(99, Tf.tapewrightref02_Size.e F), (100, Tf.tapewrightref02_Sign.e F), (101, Tf.tapewrightref02_Neg.e F), (102, Tf.tapewrightref01_Gcd.e F), (103, Tf.tapewrightref01_Div.e F)] : Fns) 39 4 98 (⟨[.p, .p], [.p]⟩ : Sig) [4] [.pure] [.st [.str, .str]]) = Tf.tapewrightref03_Lowest.f F a := by kernel_rfl
def Tf.tapewrightref03_Lowest.e (F : Nat) : Fn := mkFn (⟨[.p, .p], [.p]⟩ : Sig) [.str, .str] [.pure] [.st [.str, .str]] (Tf.tapewrightref03_Lowest.f F)
theorem Tf.tapewrightref03_Lowest.ok (F : Nat) : EntryOk Go.Proofs.Tryz.prog Go.VI.tyT.G 86 (Tf.tapewrightref03_Lowest.e F) :=
  fn_okC Go.VI.tyT_ok rfl mix (.cons (Tf.tapewrightref02_Size.ok F) (.cons (Tf.tapewrightref02_Sign.ok F) (.cons (Tf.tapewrightref02_Neg.ok F) (.cons (Tf.tapewrightref01_Gcd.ok F) (.cons (Tf.tapewrightref01_Div.ok F) .nil))))) (Λ := (look [] : Loops)) (fn := Go.Proofs.Tryz.f86) (c := Tf.tapewrightref03_Lowest.c) (LoopsOk.of (bs := []) (by kernel_rfl) .nil) (by kernel_rfl) (by kernel_rfl) (by kernel_rfl) (by kernel_rfl) (resC0 (by kernel_rfl)) (by decide) (Tf.tapewrightref03_Lowest.f_ok F)
end Go.VI

namespace Go.VI
open Go
noncomputable def Tf.tapewrightref03_Text.c : Code := (Go.Proofs.Tryz.f87.body).getD .skip
def Tf.tapewrightref03_Text.f (F : Nat) (a : (ByteArray × ByteArray)) : Option ByteArray :=
 (bif (seqB a.2 (⟨#[49]⟩ : ByteArray)) then (some a.1)
 else (bif (Nat.ble ((ByteArray.size a.1) + 1) 4611686018427387904) then (bif (Nat.ble ((ByteArray.size (a.1 ++ (⟨#[47]⟩ : ByteArray))) + (ByteArray.size a.2)) 4611686018427387904) then (some ((a.1 ++ (⟨#[47]⟩ : ByteArray)) ++ a.2))
 else none)
 else none))
theorem Tf.tapewrightref03_Text.f_ok (F : Nat) (a) : exec Go.VI.tyT (look [] : Fns) 14 (look [] : Loops) Tf.tapewrightref03_Text.c (init [.p] (encKs [.st [.str, .str]] a)) (finT (look [] : Fns) (⟨[.p], [.p]⟩ : Sig) [2] [.pure] [.str]) = Tf.tapewrightref03_Text.f F a := by kernel_rfl
def Tf.tapewrightref03_Text.e (F : Nat) : Fn := mkFn (⟨[.p], [.p]⟩ : Sig) [.st [.str, .str]] [.pure] [.str] (Tf.tapewrightref03_Text.f F)
theorem Tf.tapewrightref03_Text.ok (F : Nat) : EntryOk Go.Proofs.Tryz.prog Go.VI.tyT.G 87 (Tf.tapewrightref03_Text.e F) :=
  fn_ok Go.VI.tyT_ok rfl mix .nil (Λ := (look [] : Loops)) (fn := Go.Proofs.Tryz.f87) (c := Tf.tapewrightref03_Text.c) (LoopsOk.of (bs := []) (by kernel_rfl) .nil) (by kernel_rfl) (by kernel_rfl) (by kernel_rfl) (by kernel_rfl) (res1 (by kernel_rfl)) (by decide) (Tf.tapewrightref03_Text.f_ok F)
end Go.VI

namespace Go.VI
open Go
noncomputable def Tf.tapewrightref03_Read.c : Code := (Go.Proofs.Tryz.f61.body).getD .skip
noncomputable def Tf.tapewrightref03_Read.b3 : Code := codeAt [1, 1, 0, 1, 0, 0] Tf.tapewrightref03_Read.c
def Tf.tapewrightref03_Read.s3 (F : Nat) (L : (Int × (ByteArray × (ByteArray × (ByteArray × Int)))) → Option (ByteArray × (ByteArray × (ByteArray × Int)))) (x : (Int × (ByteArray × (ByteArray × (ByteArray × Int))))) : Option (ByteArray × (ByteArray × (ByteArray × Int))) :=
 (bif (decide (x.1 ≥ (0 : Int))) then (bif (inR x.1 (ByteArray.size x.2.1)) then (bif ((byteAt x.2.1 x.1) == (47 : Int)) then (L ((Go.IntKind.wrap IntKind.i64 (x.1 - (1 : Int))), (x.2.1, (x.2.2.1, (x.2.2.2.1, x.1)))))
 else (L ((Go.IntKind.wrap IntKind.i64 (x.1 - (1 : Int))), (x.2.1, (x.2.2.1, (x.2.2.2.1, x.2.2.2.2))))))
 else none)
 else (some (x.2.2.1, (x.2.2.2.1, (x.2.1, x.2.2.2.2)))))
def Tf.tapewrightref03_Read.l3 (F : Nat) : (Int × (ByteArray × (ByteArray × (ByteArray × Int)))) → Option (ByteArray × (ByteArray × (ByteArray × Int))) := iter (Tf.tapewrightref03_Read.s3 F) F
theorem Tf.tapewrightref03_Read.s3_ok (F : Nat) (L a) : exec Go.VI.tyT (look [(84, Tf.tapewrightref02_Right.e F), (85, Tf.tapewrightref01_Right.e F), (86, Tf.tapewrightref03_Lowest.e F), (87, Tf.tapewrightref03_Text.e F)] : Fns) 65 (look [] : Loops) Tf.tapewrightref03_Read.b3 (rebuild [.slot 5, .slot 0, .box 2 [none, none], .slot 4] (encKs [.int .i64, .str, .str, .str, .int .i64] a)) (bodyK [.slot 5, .slot 0, .box 2 [none, none], .slot 4] [.int .i64, .str, .str, .str, .int .i64] [⟨.exit 0, [.box 2 [none, none], .slot 0, .slot 4], [.str, .str, .str, .int .i64]⟩] L) = Tf.tapewrightref03_Read.s3 F L a := by kernel_rfl
theorem Tf.tapewrightref03_Read.l3_ok (F : Nat) : LoopOk Go.Proofs.Tryz.prog Go.VI.tyT.G 65 Tf.tapewrightref03_Read.b3 (fun st κ => hand [.slot 5, .slot 0, .box 2 [none, none], .slot 4] [.int .i64, .str, .str, .str, .int .i64] [⟨.exit 0, [.box 2 [none, none], .slot 0, .slot 4], [.str, .str, .str, .int .i64]⟩] (Tf.tapewrightref03_Read.l3 F) st κ) :=
  loop_ok Go.VI.tyT_ok rfl mix (.cons (Tf.tapewrightref02_Right.ok F) (.cons (Tf.tapewrightref01_Right.ok F) (.cons (Tf.tapewrightref03_Lowest.ok F) (.cons (Tf.tapewrightref03_Text.ok F) .nil)))) (Λ := (look [] : Loops)) (LoopsOk.of (bs := []) (by kernel_rfl) .nil) (Tf.tapewrightref03_Read.s3_ok F) F
def Tf.tapewrightref03_Read.f (F : Nat) (a : ByteArray) : Option ((ByteArray × ByteArray) × Bool) :=
 (Option.bind (Tf.tapewrightref03_Read.l3 F ((Go.IntKind.wrap IntKind.i64 (((ByteArray.size a) : Int) - (1 : Int))), (a, (ByteArray.empty, (ByteArray.empty, ((ByteArray.size a) : Int)))))) (fun y12 => (bif ((decide ((0 : Int) ≤ y12.2.2.2)) && (decide (y12.2.2.2 ≤ ((ByteArray.size y12.2.2.1) : Int)))) then (bif (decide (y12.2.2.2 < ((ByteArray.size y12.2.2.1) : Int))) then (bif ((decide ((0 : Int) ≤ (Go.IntKind.wrap IntKind.i64 (y12.2.2.2 + (1 : Int))))) && (decide ((Go.IntKind.wrap IntKind.i64 (y12.2.2.2 + (1 : Int))) ≤ ((ByteArray.size y12.2.2.1) : Int)))) then (Option.bind (Tf.tapewrightref02_Right.f F (ByteArray.extract y12.2.2.1 0 (Int.toNat y12.2.2.2))) (fun y29 => (bif (!y29) then (some ((ByteArray.empty, ByteArray.empty), Bool.false))
 else (Option.bind (Tf.tapewrightref01_Right.f F (ByteArray.extract y12.2.2.1 (Int.toNat (Go.IntKind.wrap IntKind.i64 (y12.2.2.2 + (1 : Int)))) (ByteArray.size y12.2.2.1))) (fun y34 => (bif (!y34) then (some ((ByteArray.empty, ByteArray.empty), Bool.false))
 else (bif (seqB (ByteArray.extract y12.2.2.1 (Int.toNat (Go.IntKind.wrap IntKind.i64 (y12.2.2.2 + (1 : Int)))) (ByteArray.size y12.2.2.1)) (⟨#[48]⟩ : ByteArray)) then (some ((ByteArray.empty, ByteArray.empty), Bool.false))
 else (bif (decide (y12.2.2.2 < ((ByteArray.size y12.2.2.1) : Int))) then (bif (seqB (ByteArray.extract y12.2.2.1 (Int.toNat (Go.IntKind.wrap IntKind.i64 (y12.2.2.2 + (1 : Int)))) (ByteArray.size y12.2.2.1)) (⟨#[49]⟩ : ByteArray)) then (some ((ByteArray.empty, ByteArray.empty), Bool.false))
 else (Option.bind (Tf.tapewrightref03_Lowest.f F ((ByteArray.extract y12.2.2.1 0 (Int.toNat y12.2.2.2)), (ByteArray.extract y12.2.2.1 (Int.toNat (Go.IntKind.wrap IntKind.i64 (y12.2.2.2 + (1 : Int)))) (ByteArray.size y12.2.2.1)))) (fun y54 => (Option.bind (Tf.tapewrightref03_Text.f F (y54.1, y54.2)) (fun y60 => (some ((y54.1, y54.2), (seqB y60 y12.2.2.1))))))))
 else (Option.bind (Tf.tapewrightref03_Lowest.f F ((ByteArray.extract y12.2.2.1 0 (Int.toNat y12.2.2.2)), (ByteArray.extract y12.2.2.1 (Int.toNat (Go.IntKind.wrap IntKind.i64 (y12.2.2.2 + (1 : Int)))) (ByteArray.size y12.2.2.1)))) (fun y52 => (Option.bind (Tf.tapewrightref03_Text.f F (y52.1, y52.2)) (fun y58 => (some ((y52.1, y52.2), (seqB y58 y12.2.2.1)))))))))))))))
 else none)
 else (Option.bind (Tf.tapewrightref02_Right.f F (ByteArray.extract y12.2.2.1 0 (Int.toNat y12.2.2.2))) (fun y24 => (bif (!y24) then (some ((ByteArray.empty, ByteArray.empty), Bool.false))
 else (Option.bind (Tf.tapewrightref01_Right.f F (⟨#[49]⟩ : ByteArray)) (fun y29 => (bif (!y29) then (some ((ByteArray.empty, ByteArray.empty), Bool.false))
 else (bif (decide (y12.2.2.2 < ((ByteArray.size y12.2.2.1) : Int))) then (some ((ByteArray.empty, ByteArray.empty), Bool.false))
 else (Option.bind (Tf.tapewrightref03_Lowest.f F ((ByteArray.extract y12.2.2.1 0 (Int.toNat y12.2.2.2)), (⟨#[49]⟩ : ByteArray))) (fun y47 => (Option.bind (Tf.tapewrightref03_Text.f F (y47.1, y47.2)) (fun y53 => (some ((y47.1, y47.2), (seqB y53 y12.2.2.1)))))))))))))))
 else none)))
theorem Tf.tapewrightref03_Read.f_ok (F : Nat) (a) : exec Go.VI.tyT (look [(84, Tf.tapewrightref02_Right.e F), (85, Tf.tapewrightref01_Right.e F), (86, Tf.tapewrightref03_Lowest.e F), (87, Tf.tapewrightref03_Text.e F)] : Fns) 65 (look [(3, fun st κ => hand [.slot 5, .slot 0, .box 2 [none, none], .slot 4] [.int .i64, .str, .str, .str, .int .i64] [⟨.exit 0, [.box 2 [none, none], .slot 0, .slot 4], [.str, .str, .str, .int .i64]⟩] (Tf.tapewrightref03_Read.l3 F) st κ)] : Loops) Tf.tapewrightref03_Read.c (init [.p] (encKs [.str] a)) (finC Go.VI.tyT (look [(84, Tf.tapewrightref02_Right.e F), (85, Tf.tapewrightref01_Right.e F), (86, Tf.tapewrightref03_Lowest.e F), (87, Tf.tapewrightref03_Text.e F)] : Fns) 65 2 98 (⟨[.p], [.p, .p]⟩ : Sig) [2, 3] [.pure, .pure] [.st [.str, .str], .bool]) = Tf.tapewrightref03_Read.f F a := by kernel_rfl
def Tf.tapewrightref03_Read.e (F : Nat) : Fn := mkFn (⟨[.p], [.p, .p]⟩ : Sig) [.str] [.pure, .pure] [.st [.str, .str], .bool] (Tf.tapewrightref03_Read.f F)
theorem Tf.tapewrightref03_Read.ok (F : Nat) : EntryOk Go.Proofs.Tryz.prog Go.VI.tyT.G 61 (Tf.tapewrightref03_Read.e F) :=
  fn_okC Go.VI.tyT_ok rfl mix (.cons (Tf.tapewrightref02_Right.ok F) (.cons (Tf.tapewrightref01_Right.ok F) (.cons (Tf.tapewrightref03_Lowest.ok F) (.cons (Tf.tapewrightref03_Text.ok F) .nil)))) (Λ := (look [(3, fun st κ => hand [.slot 5, .slot 0, .box 2 [none, none], .slot 4] [.int .i64, .str, .str, .str, .int .i64] [⟨.exit 0, [.box 2 [none, none], .slot 0, .slot 4], [.str, .str, .str, .int .i64]⟩] (Tf.tapewrightref03_Read.l3 F) st κ)] : Loops)) (fn := Go.Proofs.Tryz.f61) (c := Tf.tapewrightref03_Read.c) (LoopsOk.of (bs := [Tf.tapewrightref03_Read.b3]) (by kernel_rfl) (.cons rfl (Tf.tapewrightref03_Read.l3_ok F) .nil)) (by kernel_rfl) (by kernel_rfl) (by kernel_rfl) (by kernel_rfl) (resC1 (by kernel_rfl) (by kernel_rfl)) (by decide) (Tf.tapewrightref03_Read.f_ok F)
end Go.VI

namespace Go.VI
open Go
noncomputable def Tf.tapewrightref04_Right.c : Code := (Go.Proofs.Tryz.f62.body).getD .skip
noncomputable def Tf.tapewrightref04_Right.b5 : Code := codeAt [1, 1, 1, 0, 1, 0, 0] Tf.tapewrightref04_Right.c
def Tf.tapewrightref04_Right.s5 (F : Nat) (L : (Int × ((List Int) × Int)) → Option (Bool ⊕ Unit)) (x : (Int × ((List Int) × Int))) : Option (Bool ⊕ Unit) :=
 (bif (decide (x.1 < ((List.length x.2.1) : Int))) then (bif (inR x.1 (List.length x.2.1)) then (bif (decide ((List.getD x.2.1 (Int.toNat x.1) (0 : Int)) < (1 : Int))) then (some (.inl Bool.false))
 else (bif (inR x.1 (List.length x.2.1)) then (bif (decide ((List.getD x.2.1 (Int.toNat x.1) (0 : Int)) > (64 : Int))) then (some (.inl Bool.false))
 else (bif (inR x.1 (List.length x.2.1)) then (bif (decide ((Go.IntKind.wrap IntKind.i64 (x.2.2 * (List.getD x.2.1 (Int.toNat x.1) (0 : Int)))) > (64 : Int))) then (some (.inl Bool.false))
 else (bif (inR x.1 (List.length x.2.1)) then (L ((Go.IntKind.wrap IntKind.i64 (x.1 + (1 : Int))), (x.2.1, (Go.IntKind.wrap IntKind.i64 (x.2.2 * (List.getD x.2.1 (Int.toNat x.1) (0 : Int)))))))
 else none))
 else none))
 else none))
 else none)
 else (some (.inr ())))
def Tf.tapewrightref04_Right.l5 (F : Nat) : (Int × ((List Int) × Int)) → Option (Bool ⊕ Unit) := iter (Tf.tapewrightref04_Right.s5 F) F
theorem Tf.tapewrightref04_Right.s5_ok (F : Nat) (L a) : exec Go.VI.tyT (look [] : Fns) 41 (look [] : Loops) Tf.tapewrightref04_Right.b5 (rebuild [.slot 4, .view 0 0, .slot 3] (encKs [.int .i64, .sl 0, .int .i64] a)) (bodyK [.slot 4, .view 0 0, .slot 3] [.int .i64, .sl 0, .int .i64] [⟨.ret, [.slot 2], [.bool]⟩, ⟨.exit 0, [], []⟩] L) = Tf.tapewrightref04_Right.s5 F L a := by kernel_rfl
theorem Tf.tapewrightref04_Right.l5_ok (F : Nat) : LoopOk Go.Proofs.Tryz.prog Go.VI.tyT.G 41 Tf.tapewrightref04_Right.b5 (fun st κ => hand [.slot 4, .view 0 0, .slot 3] [.int .i64, .sl 0, .int .i64] [⟨.ret, [.slot 2], [.bool]⟩, ⟨.exit 0, [], []⟩] (Tf.tapewrightref04_Right.l5 F) st κ) :=
  loop_ok Go.VI.tyT_ok rfl mix .nil (Λ := (look [] : Loops)) (LoopsOk.of (bs := []) (by kernel_rfl) .nil) (Tf.tapewrightref04_Right.s5_ok F) F
def Tf.tapewrightref04_Right.f (F : Nat) (a : (List Int)) : Option Bool :=
 (bif (decide (((List.length a) : Int) > (4 : Int))) then (some Bool.false)
 else (Option.bind (Tf.tapewrightref04_Right.l5 F ((0 : Int), (a, (1 : Int)))) (fun y9 => (sumE y9 (fun y10 => (some y10)) (fun y10 => (some Bool.true))))))
theorem Tf.tapewrightref04_Right.f_ok (F : Nat) (a) : exec Go.VI.tyT (look [] : Fns) 41 (look [(5, fun st κ => hand [.slot 4, .view 0 0, .slot 3] [.int .i64, .sl 0, .int .i64] [⟨.ret, [.slot 2], [.bool]⟩, ⟨.exit 0, [], []⟩] (Tf.tapewrightref04_Right.l5 F) st κ)] : Loops) Tf.tapewrightref04_Right.c (init [.v 0] (encKs [.sl 0] a)) (finT (look [] : Fns) (⟨[.v 0], [.p]⟩ : Sig) [2] [.pure] [.bool]) = Tf.tapewrightref04_Right.f F a := by kernel_rfl
def Tf.tapewrightref04_Right.e (F : Nat) : Fn := mkFn (⟨[.v 0], [.p]⟩ : Sig) [.sl 0] [.pure] [.bool] (Tf.tapewrightref04_Right.f F)
theorem Tf.tapewrightref04_Right.ok (F : Nat) : EntryOk Go.Proofs.Tryz.prog Go.VI.tyT.G 62 (Tf.tapewrightref04_Right.e F) :=
  fn_ok Go.VI.tyT_ok rfl mix .nil (Λ := (look [(5, fun st κ => hand [.slot 4, .view 0 0, .slot 3] [.int .i64, .sl 0, .int .i64] [⟨.ret, [.slot 2], [.bool]⟩, ⟨.exit 0, [], []⟩] (Tf.tapewrightref04_Right.l5 F) st κ)] : Loops)) (fn := Go.Proofs.Tryz.f62) (c := Tf.tapewrightref04_Right.c) (LoopsOk.of (bs := [Tf.tapewrightref04_Right.b5]) (by kernel_rfl) (.cons rfl (Tf.tapewrightref04_Right.l5_ok F) .nil)) (by kernel_rfl) (by kernel_rfl) (by kernel_rfl) (by kernel_rfl) (res1 (by kernel_rfl)) (by decide) (Tf.tapewrightref04_Right.f_ok F)
end Go.VI

namespace Go.VI
open Go
noncomputable def Tf.tapewrightref10_Parts.c : Code := (Go.Proofs.Tryz.f70.body).getD .skip
noncomputable def Tf.tapewrightref10_Parts.b2 : Code := codeAt [1, 0, 1, 0, 0] Tf.tapewrightref10_Parts.c
def Tf.tapewrightref10_Parts.s2 (F : Nat) (L : (Int × (ByteArray × ((List ByteArray) × Int))) → Option (Int ⊕ ByteArray)) (x : (Int × (ByteArray × ((List ByteArray) × Int)))) : Option (Int ⊕ ByteArray) :=
 (bif (decide (x.1 < x.2.2.2)) then (bif (inR x.1 (List.length x.2.2.1)) then (bif (seqB (List.getD x.2.2.1 (Int.toNat x.1) (dflt 4)) x.2.1) then (some (.inl (0 : Int)))
 else (L ((Go.IntKind.wrap IntKind.i64 (x.1 + (1 : Int))), (x.2.1, (x.2.2.1, x.2.2.2)))))
 else none)
 else (some (.inr x.2.1)))
def Tf.tapewrightref10_Parts.l2 (F : Nat) : (Int × (ByteArray × ((List ByteArray) × Int))) → Option (Int ⊕ ByteArray) := iter (Tf.tapewrightref10_Parts.s2 F) F
theorem Tf.tapewrightref10_Parts.s2_ok (F : Nat) (L a) : exec Go.VI.tyT (look [] : Fns) 39 (look [] : Loops) Tf.tapewrightref10_Parts.b2 (rebuild [.slot 11, .slot 0, .own 9 4, .slot 10] (encKs [.int .i64, .str, .sl 4, .int .i64] a)) (bodyK [.slot 11, .slot 0, .own 9 4, .slot 10] [.int .i64, .str, .sl 4, .int .i64] [⟨.ret, [.slot 2], [.int .i64]⟩, ⟨.exit 0, [.slot 0], [.str]⟩] L) = Tf.tapewrightref10_Parts.s2 F L a := by kernel_rfl
theorem Tf.tapewrightref10_Parts.l2_ok (F : Nat) : LoopOk Go.Proofs.Tryz.prog Go.VI.tyT.G 39 Tf.tapewrightref10_Parts.b2 (fun st κ => hand [.slot 11, .slot 0, .own 9 4, .slot 10] [.int .i64, .str, .sl 4, .int .i64] [⟨.ret, [.slot 2], [.int .i64]⟩, ⟨.exit 0, [.slot 0], [.str]⟩] (Tf.tapewrightref10_Parts.l2 F) st κ) :=
  loop_ok Go.VI.tyT_ok rfl mix .nil (Λ := (look [] : Loops)) (LoopsOk.of (bs := []) (by kernel_rfl) .nil) (Tf.tapewrightref10_Parts.s2_ok F) F
noncomputable def Tf.tapewrightref10_Parts.b8 : Code := codeAt [1, 1, 0, 1, 0, 0] Tf.tapewrightref10_Parts.c
def Tf.tapewrightref10_Parts.s8 (F : Nat) (L : (Int × (ByteArray × ((List ByteArray) × Int))) → Option (Int ⊕ ByteArray)) (x : (Int × (ByteArray × ((List ByteArray) × Int)))) : Option (Int ⊕ ByteArray) :=
 (bif (decide (x.1 < x.2.2.2)) then (bif (inR x.1 (List.length x.2.2.1)) then (bif (seqB (List.getD x.2.2.1 (Int.toNat x.1) (dflt 4)) x.2.1) then (some (.inl (1 : Int)))
 else (L ((Go.IntKind.wrap IntKind.i64 (x.1 + (1 : Int))), (x.2.1, (x.2.2.1, x.2.2.2)))))
 else none)
 else (some (.inr x.2.1)))
def Tf.tapewrightref10_Parts.l8 (F : Nat) : (Int × (ByteArray × ((List ByteArray) × Int))) → Option (Int ⊕ ByteArray) := iter (Tf.tapewrightref10_Parts.s8 F) F
theorem Tf.tapewrightref10_Parts.s8_ok (F : Nat) (L a) : exec Go.VI.tyT (look [] : Fns) 39 (look [] : Loops) Tf.tapewrightref10_Parts.b8 (rebuild [.slot 21, .slot 0, .own 19 4, .slot 20] (encKs [.int .i64, .str, .sl 4, .int .i64] a)) (bodyK [.slot 21, .slot 0, .own 19 4, .slot 20] [.int .i64, .str, .sl 4, .int .i64] [⟨.ret, [.slot 2], [.int .i64]⟩, ⟨.exit 2, [.slot 0], [.str]⟩] L) = Tf.tapewrightref10_Parts.s8 F L a := by kernel_rfl
theorem Tf.tapewrightref10_Parts.l8_ok (F : Nat) : LoopOk Go.Proofs.Tryz.prog Go.VI.tyT.G 39 Tf.tapewrightref10_Parts.b8 (fun st κ => hand [.slot 21, .slot 0, .own 19 4, .slot 20] [.int .i64, .str, .sl 4, .int .i64] [⟨.ret, [.slot 2], [.int .i64]⟩, ⟨.exit 2, [.slot 0], [.str]⟩] (Tf.tapewrightref10_Parts.l8 F) st κ) :=
  loop_ok Go.VI.tyT_ok rfl mix .nil (Λ := (look [] : Loops)) (LoopsOk.of (bs := []) (by kernel_rfl) .nil) (Tf.tapewrightref10_Parts.s8_ok F) F
noncomputable def Tf.tapewrightref10_Parts.b14 : Code := codeAt [1, 1, 1, 0, 1, 0, 0] Tf.tapewrightref10_Parts.c
def Tf.tapewrightref10_Parts.s14 (F : Nat) (L : (Int × (ByteArray × ((List ByteArray) × Int))) → Option (Int ⊕ Unit)) (x : (Int × (ByteArray × ((List ByteArray) × Int)))) : Option (Int ⊕ Unit) :=
 (bif (decide (x.1 < x.2.2.2)) then (bif (inR x.1 (List.length x.2.2.1)) then (bif (seqB (List.getD x.2.2.1 (Int.toNat x.1) (dflt 4)) x.2.1) then (some (.inl (2 : Int)))
 else (L ((Go.IntKind.wrap IntKind.i64 (x.1 + (1 : Int))), (x.2.1, (x.2.2.1, x.2.2.2)))))
 else none)
 else (some (.inr ())))
def Tf.tapewrightref10_Parts.l14 (F : Nat) : (Int × (ByteArray × ((List ByteArray) × Int))) → Option (Int ⊕ Unit) := iter (Tf.tapewrightref10_Parts.s14 F) F
theorem Tf.tapewrightref10_Parts.s14_ok (F : Nat) (L a) : exec Go.VI.tyT (look [] : Fns) 39 (look [] : Loops) Tf.tapewrightref10_Parts.b14 (rebuild [.slot 31, .slot 0, .own 29 4, .slot 30] (encKs [.int .i64, .str, .sl 4, .int .i64] a)) (bodyK [.slot 31, .slot 0, .own 29 4, .slot 30] [.int .i64, .str, .sl 4, .int .i64] [⟨.ret, [.slot 2], [.int .i64]⟩, ⟨.exit 4, [], []⟩] L) = Tf.tapewrightref10_Parts.s14 F L a := by kernel_rfl
theorem Tf.tapewrightref10_Parts.l14_ok (F : Nat) : LoopOk Go.Proofs.Tryz.prog Go.VI.tyT.G 39 Tf.tapewrightref10_Parts.b14 (fun st κ => hand [.slot 31, .slot 0, .own 29 4, .slot 30] [.int .i64, .str, .sl 4, .int .i64] [⟨.ret, [.slot 2], [.int .i64]⟩, ⟨.exit 4, [], []⟩] (Tf.tapewrightref10_Parts.l14 F) st κ) :=
  loop_ok Go.VI.tyT_ok rfl mix .nil (Λ := (look [] : Loops)) (LoopsOk.of (bs := []) (by kernel_rfl) .nil) (Tf.tapewrightref10_Parts.s14_ok F) F
def Tf.tapewrightref10_Parts.f (F : Nat) (a : ByteArray) : Option Int :=
 (Option.bind (Tf.tapewrightref10_Parts.l2 F ((0 : Int), (a, ((List.set (List.set (List.set (List.replicate 3 ByteArray.empty) 0 (⟨#[112, 97, 114, 97, 109]⟩ : ByteArray)) 1 (⟨#[105, 110, 112, 117, 116]⟩ : ByteArray)) 2 (⟨#[99, 111, 110, 115, 116]⟩ : ByteArray)), (3 : Int))))) (fun y7 => (sumE y7 (fun y8 => (some y8)) (fun y8 => (Option.bind (Tf.tapewrightref10_Parts.l8 F ((0 : Int), (y8, ((List.set (List.set (List.set (List.set (List.set (List.set (List.set (List.set (List.set (List.set (List.replicate 10 ByteArray.empty) 0 (⟨#[114, 101, 108, 117]⟩ : ByteArray)) 1 (⟨#[97, 98, 115]⟩ : ByteArray)) 2 (⟨#[115, 116, 101, 112]⟩ : ByteArray)) 3 (⟨#[115, 105, 103, 110]⟩ : ByteArray)) 4 (⟨#[115, 99, 97, 108, 101]⟩ : ByteArray)) 5 (⟨#[112, 111, 119, 101, 114]⟩ : ByteArray)) 6 (⟨#[116, 114, 97, 110, 115, 112, 111, 115, 101]⟩ : ByteArray)) 7 (⟨#[115, 117, 109]⟩ : ByteArray)) 8 (⟨#[114, 101, 115, 104, 97, 112, 101]⟩ : ByteArray)) 9 (⟨#[115, 112, 114, 101, 97, 100]⟩ : ByteArray)), (10 : Int))))) (fun y12 => (sumE y12 (fun y13 => (some y13)) (fun y13 => (Option.bind (Tf.tapewrightref10_Parts.l14 F ((0 : Int), (y13, ((List.set (List.set (List.set (List.set (List.set (List.set (List.replicate 6 ByteArray.empty) 0 (⟨#[97, 100, 100]⟩ : ByteArray)) 1 (⟨#[115, 117, 98]⟩ : ByteArray)) 2 (⟨#[109, 117, 108]⟩ : ByteArray)) 3 (⟨#[109, 97, 120]⟩ : ByteArray)) 4 (⟨#[97, 98, 111, 118, 101]⟩ : ByteArray)) 5 (⟨#[109, 97, 116, 109, 117, 108]⟩ : ByteArray)), (6 : Int))))) (fun y17 => (sumE y17 (fun y18 => (some y18)) (fun y18 => (some (-(1 : Int)))))))))))))))
theorem Tf.tapewrightref10_Parts.f_ok (F : Nat) (a) : exec Go.VI.tyT (look [] : Fns) 39 (look [(2, fun st κ => hand [.slot 11, .slot 0, .own 9 4, .slot 10] [.int .i64, .str, .sl 4, .int .i64] [⟨.ret, [.slot 2], [.int .i64]⟩, ⟨.exit 0, [.slot 0], [.str]⟩] (Tf.tapewrightref10_Parts.l2 F) st κ), (8, fun st κ => hand [.slot 21, .slot 0, .own 19 4, .slot 20] [.int .i64, .str, .sl 4, .int .i64] [⟨.ret, [.slot 2], [.int .i64]⟩, ⟨.exit 2, [.slot 0], [.str]⟩] (Tf.tapewrightref10_Parts.l8 F) st κ), (14, fun st κ => hand [.slot 31, .slot 0, .own 29 4, .slot 30] [.int .i64, .str, .sl 4, .int .i64] [⟨.ret, [.slot 2], [.int .i64]⟩, ⟨.exit 4, [], []⟩] (Tf.tapewrightref10_Parts.l14 F) st κ)] : Loops) Tf.tapewrightref10_Parts.c (init [.p] (encKs [.str] a)) (finT (look [] : Fns) (⟨[.p], [.p]⟩ : Sig) [2] [.pure] [.int .i64]) = Tf.tapewrightref10_Parts.f F a := by kernel_rfl
def Tf.tapewrightref10_Parts.e (F : Nat) : Fn := mkFn (⟨[.p], [.p]⟩ : Sig) [.str] [.pure] [.int .i64] (Tf.tapewrightref10_Parts.f F)
theorem Tf.tapewrightref10_Parts.ok (F : Nat) : EntryOk Go.Proofs.Tryz.prog Go.VI.tyT.G 70 (Tf.tapewrightref10_Parts.e F) :=
  fn_ok Go.VI.tyT_ok rfl mix .nil (Λ := (look [(2, fun st κ => hand [.slot 11, .slot 0, .own 9 4, .slot 10] [.int .i64, .str, .sl 4, .int .i64] [⟨.ret, [.slot 2], [.int .i64]⟩, ⟨.exit 0, [.slot 0], [.str]⟩] (Tf.tapewrightref10_Parts.l2 F) st κ), (8, fun st κ => hand [.slot 21, .slot 0, .own 19 4, .slot 20] [.int .i64, .str, .sl 4, .int .i64] [⟨.ret, [.slot 2], [.int .i64]⟩, ⟨.exit 2, [.slot 0], [.str]⟩] (Tf.tapewrightref10_Parts.l8 F) st κ), (14, fun st κ => hand [.slot 31, .slot 0, .own 29 4, .slot 30] [.int .i64, .str, .sl 4, .int .i64] [⟨.ret, [.slot 2], [.int .i64]⟩, ⟨.exit 4, [], []⟩] (Tf.tapewrightref10_Parts.l14 F) st κ)] : Loops)) (fn := Go.Proofs.Tryz.f70) (c := Tf.tapewrightref10_Parts.c) (LoopsOk.of (bs := [Tf.tapewrightref10_Parts.b2, Tf.tapewrightref10_Parts.b8, Tf.tapewrightref10_Parts.b14]) (by kernel_rfl) (.cons rfl (Tf.tapewrightref10_Parts.l2_ok F) (.cons rfl (Tf.tapewrightref10_Parts.l8_ok F) (.cons rfl (Tf.tapewrightref10_Parts.l14_ok F) .nil)))) (by kernel_rfl) (by kernel_rfl) (by kernel_rfl) (by kernel_rfl) (res1 (by kernel_rfl)) (by decide) (Tf.tapewrightref10_Parts.f_ok F)
end Go.VI

namespace Go.VI
open Go
noncomputable def Tf.tapewrightref10_Shape.c : Code := (Go.Proofs.Tryz.f48.body).getD .skip
noncomputable def Tf.tapewrightref10_Shape.b28 : Code := codeAt [1, 1, 1, 1, 1, 1, 1, 1, 1, 0, 1, 0, 1, 1, 1, 0, 1, 1, 1, 0, 0] Tf.tapewrightref10_Shape.c
def Tf.tapewrightref10_Shape.s28 (F : Nat) (L : (Int × ((List ByteArray) × ((List Int) × Int))) → Option (((List Int) × Bool) ⊕ (List Int))) (x : (Int × ((List ByteArray) × ((List Int) × Int)))) : Option (((List Int) × Bool) ⊕ (List Int)) :=
 (bif (decide (x.1 < x.2.2.2)) then (bif (inR x.1 (List.length x.2.1)) then (Option.bind (Tf.tapewrightref03_Read.f F (List.getD x.2.1 (Int.toNat x.1) (dflt 4))) (fun y41 => (bif (!y41.2) then (some (.inl (([] : List Int), Bool.false)))
 else (L ((Go.IntKind.wrap IntKind.i64 (x.1 + (1 : Int))), (x.2.1, (x.2.2.1, x.2.2.2)))))))
 else none)
 else (some (.inr x.2.2.1)))
def Tf.tapewrightref10_Shape.l28 (F : Nat) : (Int × ((List ByteArray) × ((List Int) × Int))) → Option (((List Int) × Bool) ⊕ (List Int)) := iter (Tf.tapewrightref10_Shape.s28 F) F
theorem Tf.tapewrightref10_Shape.s28_ok (F : Nat) (L a) : exec Go.VI.tyT (look [(34, Tf.tapewrightref08_Name.e F), (38, Tf.tapewrightref04_Size.e F), (40, Tf.tapewrightref04_Same.e F), (61, Tf.tapewrightref03_Read.e F), (62, Tf.tapewrightref04_Right.e F), (70, Tf.tapewrightref10_Parts.e F)] : Fns) 266 (look [] : Loops) Tf.tapewrightref10_Shape.b28 (rebuild [.slot 165, .view 163 4, .view 9 0, .slot 164] (encKs [.int .i64, .sl 4, .sl 0, .int .i64] a)) (bodyK [.slot 165, .view 163 4, .view 9 0, .slot 164] [.int .i64, .sl 4, .sl 0, .int .i64] [⟨.ret, [.own 4 0, .slot 5], [.sl 0, .bool]⟩, ⟨.exit 1, [.view 9 0], [.sl 0]⟩] L) = Tf.tapewrightref10_Shape.s28 F L a := by kernel_rfl
theorem Tf.tapewrightref10_Shape.l28_ok (F : Nat) : LoopOk Go.Proofs.Tryz.prog Go.VI.tyT.G 266 Tf.tapewrightref10_Shape.b28 (fun st κ => hand [.slot 165, .view 163 4, .view 9 0, .slot 164] [.int .i64, .sl 4, .sl 0, .int .i64] [⟨.ret, [.own 4 0, .slot 5], [.sl 0, .bool]⟩, ⟨.exit 1, [.view 9 0], [.sl 0]⟩] (Tf.tapewrightref10_Shape.l28 F) st κ) :=
  loop_ok Go.VI.tyT_ok rfl mix (.cons (Tf.tapewrightref08_Name.ok F) (.cons (Tf.tapewrightref04_Size.ok F) (.cons (Tf.tapewrightref04_Same.ok F) (.cons (Tf.tapewrightref03_Read.ok F) (.cons (Tf.tapewrightref04_Right.ok F) (.cons (Tf.tapewrightref10_Parts.ok F) .nil)))))) (Λ := (look [] : Loops)) (LoopsOk.of (bs := []) (by kernel_rfl) .nil) (Tf.tapewrightref10_Shape.s28_ok F) F
noncomputable def Tf.tapewrightref10_Shape.t16 : Code := codeAt [1, 1, 1, 1, 1, 1, 1, 1] Tf.tapewrightref10_Shape.c
def Tf.tapewrightref10_Shape.j16 (F : Nat) (x : (ByteArray × (Int × (Int × (ByteArray × ((List Int) × (ByteArray × (Int × ((List ByteArray) × ((List Int) × ((List Int) × Int))))))))))) : Option ((List Int) × Bool) :=
 (bif (seqB x.1 (⟨#[112, 97, 114, 97, 109]⟩ : ByteArray)) then (Option.bind (Tf.tapewrightref04_Right.f F x.2.2.2.2.1) (fun y15 => (some (x.2.2.2.2.1, y15))))
 else (bif (seqB x.1 (⟨#[105, 110, 112, 117, 116]⟩ : ByteArray)) then (Option.bind (Tf.tapewrightref04_Right.f F x.2.2.2.2.1) (fun y17 => (some (x.2.2.2.2.1, y17))))
 else (bif (seqB x.1 (⟨#[99, 111, 110, 115, 116]⟩ : ByteArray)) then (Option.bind (Tf.tapewrightref04_Right.f F x.2.2.2.2.1) (fun y18 => (bif (!y18) then (some (([] : List Int), Bool.false))
 else (Option.bind (Tf.tapewrightref04_Size.f F x.2.2.2.2.1) (fun y26 => (bif (((List.length x.2.2.2.2.2.2.2.1) : Int) != y26) then (some (([] : List Int), Bool.false))
 else (Option.bind (Tf.tapewrightref10_Shape.l28 F ((0 : Int), (x.2.2.2.2.2.2.2.1, (x.2.2.2.2.1, ((List.length x.2.2.2.2.2.2.2.1) : Int))))) (fun y33 => (sumE y33 (fun y34 => (some (y34.1, y34.2))) (fun y34 => (Option.bind (Tf.tapewrightref04_Right.f F y34) (fun y38 => (some (y34, y38))))))))))))))
 else (bif (seqB x.1 (⟨#[109, 97, 116, 109, 117, 108]⟩ : ByteArray)) then (bif (((List.length x.2.2.2.2.2.2.2.2.2.1) : Int) != (2 : Int)) then (some (([] : List Int), Bool.false))
 else (bif (((List.length x.2.2.2.2.2.2.2.2.1) : Int) != (2 : Int)) then (some (([] : List Int), Bool.false))
 else (bif (inR (1 : Int) (List.length x.2.2.2.2.2.2.2.2.2.1)) then (bif (inR (0 : Int) (List.length x.2.2.2.2.2.2.2.2.1)) then (bif ((List.getD x.2.2.2.2.2.2.2.2.2.1 1 (0 : Int)) != (List.getD x.2.2.2.2.2.2.2.2.1 0 (0 : Int))) then (some (([] : List Int), Bool.false))
 else (bif (inR (0 : Int) (List.length x.2.2.2.2.2.2.2.2.2.1)) then (bif (inR (1 : Int) (List.length x.2.2.2.2.2.2.2.2.1)) then (Option.bind (Tf.tapewrightref04_Right.f F (List.set (List.set (List.replicate 2 (0 : Int)) 0 (List.getD x.2.2.2.2.2.2.2.2.2.1 0 (0 : Int))) 1 (List.getD x.2.2.2.2.2.2.2.2.1 1 (0 : Int)))) (fun y43 => (some ((List.set (List.set (List.replicate 2 (0 : Int)) 0 (List.getD x.2.2.2.2.2.2.2.2.2.1 0 (0 : Int))) 1 (List.getD x.2.2.2.2.2.2.2.2.1 1 (0 : Int))), y43))))
 else none)
 else none))
 else none)
 else none)))
 else (bif (seqB x.1 (⟨#[116, 114, 97, 110, 115, 112, 111, 115, 101]⟩ : ByteArray)) then (bif (((List.length x.2.2.2.2.2.2.2.2.2.1) : Int) != (2 : Int)) then (some (([] : List Int), Bool.false))
 else (bif (inR (1 : Int) (List.length x.2.2.2.2.2.2.2.2.2.1)) then (bif (inR (0 : Int) (List.length x.2.2.2.2.2.2.2.2.2.1)) then (Option.bind (Tf.tapewrightref04_Right.f F (List.set (List.set (List.replicate 2 (0 : Int)) 0 (List.getD x.2.2.2.2.2.2.2.2.2.1 1 (0 : Int))) 1 (List.getD x.2.2.2.2.2.2.2.2.2.1 0 (0 : Int)))) (fun y31 => (some ((List.set (List.set (List.replicate 2 (0 : Int)) 0 (List.getD x.2.2.2.2.2.2.2.2.2.1 1 (0 : Int))) 1 (List.getD x.2.2.2.2.2.2.2.2.2.1 0 (0 : Int))), y31))))
 else none)
 else none))
 else (bif (seqB x.1 (⟨#[115, 117, 109]⟩ : ByteArray)) then (Option.bind (Tf.tapewrightref04_Right.f F ([] : List Int)) (fun y23 => (some (([] : List Int), y23))))
 else (bif (seqB x.1 (⟨#[115, 99, 97, 108, 101]⟩ : ByteArray)) then (Option.bind (Tf.tapewrightref03_Read.f F x.2.2.2.2.2.1) (fun y24 => (bif (!y24.2) then (some (([] : List Int), Bool.false))
 else (Option.bind (Tf.tapewrightref04_Right.f F x.2.2.2.2.2.2.2.2.2.1) (fun y36 => (some (x.2.2.2.2.2.2.2.2.2.1, y36)))))))
 else (bif (seqB x.1 (⟨#[112, 111, 119, 101, 114]⟩ : ByteArray)) then (bif (decide (x.2.2.2.2.2.2.1 < (0 : Int))) then (some (([] : List Int), Bool.false))
 else (bif (decide (x.2.2.2.2.2.2.1 > (6 : Int))) then (some (([] : List Int), Bool.false))
 else (Option.bind (Tf.tapewrightref04_Right.f F x.2.2.2.2.2.2.2.2.2.1) (fun y34 => (some (x.2.2.2.2.2.2.2.2.2.1, y34))))))
 else (bif (seqB x.1 (⟨#[114, 101, 115, 104, 97, 112, 101]⟩ : ByteArray)) then (Option.bind (Tf.tapewrightref04_Right.f F x.2.2.2.2.1) (fun y30 => (bif (!y30) then (some (([] : List Int), Bool.false))
 else (Option.bind (Tf.tapewrightref04_Right.f F x.2.2.2.2.2.2.2.2.2.1) (fun y35 => (bif (!y35) then (some (([] : List Int), Bool.false))
 else (Option.bind (Tf.tapewrightref04_Size.f F x.2.2.2.2.1) (fun y41 => (Option.bind (Tf.tapewrightref04_Size.f F x.2.2.2.2.2.2.2.2.2.1) (fun y44 => (bif (y41 != y44) then (some (([] : List Int), Bool.false))
 else (Option.bind (Tf.tapewrightref04_Right.f F x.2.2.2.2.1) (fun y50 => (some (x.2.2.2.2.1, y50)))))))))))))))
 else (bif (seqB x.1 (⟨#[115, 112, 114, 101, 97, 100]⟩ : ByteArray)) then (bif (((List.length x.2.2.2.2.2.2.2.2.2.1) : Int) != (0 : Int)) then (some (([] : List Int), Bool.false))
 else (Option.bind (Tf.tapewrightref04_Right.f F x.2.2.2.2.1) (fun y36 => (some (x.2.2.2.2.1, y36)))))
 else (bif (x.2.2.2.2.2.2.2.2.2.2 == (2 : Int)) then (Option.bind (Tf.tapewrightref04_Same.f F (x.2.2.2.2.2.2.2.2.2.1, x.2.2.2.2.2.2.2.2.1)) (fun y33 => (bif (!y33) then (some (([] : List Int), Bool.false))
 else (Option.bind (Tf.tapewrightref04_Right.f F x.2.2.2.2.2.2.2.2.2.1) (fun y39 => (some (x.2.2.2.2.2.2.2.2.2.1, y39)))))))
 else (Option.bind (Tf.tapewrightref04_Right.f F x.2.2.2.2.2.2.2.2.2.1) (fun y34 => (some (x.2.2.2.2.2.2.2.2.2.1, y34)))))))))))))))
theorem Tf.tapewrightref10_Shape.j16_eq (F : Nat) (a) : exec Go.VI.tyT (look [(34, Tf.tapewrightref08_Name.e F), (38, Tf.tapewrightref04_Size.e F), (40, Tf.tapewrightref04_Same.e F), (61, Tf.tapewrightref03_Read.e F), (62, Tf.tapewrightref04_Right.e F), (70, Tf.tapewrightref10_Parts.e F)] : Fns) 266 (look [(28, fun st κ => hand [.slot 165, .view 163 4, .view 9 0, .slot 164] [.int .i64, .sl 4, .sl 0, .int .i64] [⟨.ret, [.own 4 0, .slot 5], [.sl 0, .bool]⟩, ⟨.exit 1, [.view 9 0], [.sl 0]⟩] (Tf.tapewrightref10_Shape.l28 F) st κ)] : Loops) Tf.tapewrightref10_Shape.t16 (rebuild [.box 3 [none, none, none, none, none, none, none, none], .view 8 0, .view 7 0, .slot 6] (encKs [.str, .int .i64, .int .i64, .str, .sl 0, .str, .int .i64, .sl 4, .sl 0, .sl 0, .int .i64] a)) (bodyK [.box 3 [none, none, none, none, none, none, none, none], .view 8 0, .view 7 0, .slot 6] [.str, .int .i64, .int .i64, .str, .sl 0, .str, .int .i64, .sl 4, .sl 0, .sl 0, .int .i64] [⟨.ret, [.view 4 0, .slot 5], [.sl 0, .bool]⟩] (fun _ => none)) = Tf.tapewrightref10_Shape.j16 F a := by kernel_rfl
theorem Tf.tapewrightref10_Shape.j16_ok (F : Nat) : CutOk Go.Proofs.Tryz.prog Go.VI.tyT.G 266 Tf.tapewrightref10_Shape.t16 (fun st κ => hand [.box 3 [none, none, none, none, none, none, none, none], .view 8 0, .view 7 0, .slot 6] [.str, .int .i64, .int .i64, .str, .sl 0, .str, .int .i64, .sl 4, .sl 0, .sl 0, .int .i64] [⟨.ret, [.view 4 0, .slot 5], [.sl 0, .bool]⟩] (Tf.tapewrightref10_Shape.j16 F) st κ) :=
  cut_ok Go.VI.tyT_ok rfl mix (.cons (Tf.tapewrightref08_Name.ok F) (.cons (Tf.tapewrightref04_Size.ok F) (.cons (Tf.tapewrightref04_Same.ok F) (.cons (Tf.tapewrightref03_Read.ok F) (.cons (Tf.tapewrightref04_Right.ok F) (.cons (Tf.tapewrightref10_Parts.ok F) .nil)))))) (Λ := (look [(28, fun st κ => hand [.slot 165, .view 163 4, .view 9 0, .slot 164] [.int .i64, .sl 4, .sl 0, .int .i64] [⟨.ret, [.own 4 0, .slot 5], [.sl 0, .bool]⟩, ⟨.exit 1, [.view 9 0], [.sl 0]⟩] (Tf.tapewrightref10_Shape.l28 F) st κ)] : Loops)) (LoopsOk.of (bs := [Tf.tapewrightref10_Shape.b28]) (by kernel_rfl) (.cons rfl (Tf.tapewrightref10_Shape.l28_ok F) .nil)) (Tf.tapewrightref10_Shape.j16_eq F)
noncomputable def Tf.tapewrightref10_Shape.t14 : Code := codeAt [1, 1, 1, 1, 1, 1, 1] Tf.tapewrightref10_Shape.c
def Tf.tapewrightref10_Shape.j14 (F : Nat) (x : (ByteArray × (Int × (Int × (ByteArray × ((List Int) × (ByteArray × (Int × ((List ByteArray) × ((List Int) × (Int × ((List Go.VI.Node) × (List Int))))))))))))) : Option ((List Int) × Bool) :=
 (bif (decide (x.2.2.2.2.2.2.2.2.2.1 > (1 : Int))) then (bif (inR x.2.2.1 (List.length x.2.2.2.2.2.2.2.2.2.2.1)) then (Option.bind (Tf.tapewrightref10_Shape.j16 F (x.1, (x.2.1, (x.2.2.1, (x.2.2.2.1, (x.2.2.2.2.1, (x.2.2.2.2.2.1, (x.2.2.2.2.2.2.1, (x.2.2.2.2.2.2.2.1, ((List.getD x.2.2.2.2.2.2.2.2.2.2.1 (Int.toNat x.2.2.1) (dflt 6)).shape, (x.2.2.2.2.2.2.2.2.1, x.2.2.2.2.2.2.2.2.2.1))))))))))) (fun y12 => (some (y12.1, y12.2))))
 else none)
 else (Option.bind (Tf.tapewrightref10_Shape.j16 F (x.1, (x.2.1, (x.2.2.1, (x.2.2.2.1, (x.2.2.2.2.1, (x.2.2.2.2.2.1, (x.2.2.2.2.2.2.1, (x.2.2.2.2.2.2.2.1, (x.2.2.2.2.2.2.2.2.2.2.2, (x.2.2.2.2.2.2.2.2.1, x.2.2.2.2.2.2.2.2.2.1))))))))))) (fun y5 => (some (y5.1, y5.2)))))
theorem Tf.tapewrightref10_Shape.j14_eq (F : Nat) (a) : execP Go.VI.tyT (look [(34, Tf.tapewrightref08_Name.e F), (38, Tf.tapewrightref04_Size.e F), (40, Tf.tapewrightref04_Same.e F), (61, Tf.tapewrightref03_Read.e F), (62, Tf.tapewrightref04_Right.e F), (70, Tf.tapewrightref10_Parts.e F)] : Fns) 266 (look [(28, fun st κ => hand [.slot 165, .view 163 4, .view 9 0, .slot 164] [.int .i64, .sl 4, .sl 0, .int .i64] [⟨.ret, [.own 4 0, .slot 5], [.sl 0, .bool]⟩, ⟨.exit 1, [.view 9 0], [.sl 0]⟩] (Tf.tapewrightref10_Shape.l28 F) st κ)] : Loops) (fun st κ => hand [.box 3 [none, none, none, none, none, none, none, none], .view 8 0, .view 7 0, .slot 6] [.str, .int .i64, .int .i64, .str, .sl 0, .str, .int .i64, .sl 4, .sl 0, .sl 0, .int .i64] [⟨.ret, [.view 4 0, .slot 5], [.sl 0, .bool]⟩] (Tf.tapewrightref10_Shape.j16 F) st κ) 1 Tf.tapewrightref10_Shape.t14 (rebuild [.box 3 [none, none, none, none, none, none, none, none], .view 7 0, .slot 6, .view 0 6, .own 8 0] (encKs [.str, .int .i64, .int .i64, .str, .sl 0, .str, .int .i64, .sl 4, .sl 0, .int .i64, .sl 6, .sl 0] a)) (bodyK [.box 3 [none, none, none, none, none, none, none, none], .view 7 0, .slot 6, .view 0 6, .own 8 0] [.str, .int .i64, .int .i64, .str, .sl 0, .str, .int .i64, .sl 4, .sl 0, .int .i64, .sl 6, .sl 0] [⟨.ret, [.view 4 0, .slot 5], [.sl 0, .bool]⟩] (fun _ => none)) = Tf.tapewrightref10_Shape.j14 F a := by kernel_rfl
theorem Tf.tapewrightref10_Shape.j14_ok (F : Nat) : CutOk Go.Proofs.Tryz.prog Go.VI.tyT.G 266 Tf.tapewrightref10_Shape.t14 (fun st κ => hand [.box 3 [none, none, none, none, none, none, none, none], .view 7 0, .slot 6, .view 0 6, .own 8 0] [.str, .int .i64, .int .i64, .str, .sl 0, .str, .int .i64, .sl 4, .sl 0, .int .i64, .sl 6, .sl 0] [⟨.ret, [.view 4 0, .slot 5], [.sl 0, .bool]⟩] (Tf.tapewrightref10_Shape.j14 F) st κ) :=
  cut_okP Go.VI.tyT_ok rfl mix (.cons (Tf.tapewrightref08_Name.ok F) (.cons (Tf.tapewrightref04_Size.ok F) (.cons (Tf.tapewrightref04_Same.ok F) (.cons (Tf.tapewrightref03_Read.ok F) (.cons (Tf.tapewrightref04_Right.ok F) (.cons (Tf.tapewrightref10_Parts.ok F) .nil)))))) (Λ := (look [(28, fun st κ => hand [.slot 165, .view 163 4, .view 9 0, .slot 164] [.int .i64, .sl 4, .sl 0, .int .i64] [⟨.ret, [.own 4 0, .slot 5], [.sl 0, .bool]⟩, ⟨.exit 1, [.view 9 0], [.sl 0]⟩] (Tf.tapewrightref10_Shape.l28 F) st κ)] : Loops)) (LoopsOk.of (bs := [Tf.tapewrightref10_Shape.b28]) (by kernel_rfl) (.cons rfl (Tf.tapewrightref10_Shape.l28_ok F) .nil)) (Tf.tapewrightref10_Shape.j16_ok F) (n := 1) (by kernel_rfl) (Tf.tapewrightref10_Shape.j14_eq F)
noncomputable def Tf.tapewrightref10_Shape.t11 : Code := codeAt [1, 1, 1, 1, 1] Tf.tapewrightref10_Shape.c
def Tf.tapewrightref10_Shape.j11 (F : Nat) (x : (ByteArray × (Int × (Int × (ByteArray × ((List Int) × (ByteArray × (Int × ((List ByteArray) × (Int × (List Go.VI.Node))))))))))) : Option ((List Int) × Bool) :=
 (bif (decide (x.2.2.2.2.2.2.2.2.1 > (0 : Int))) then (bif (inR x.2.1 (List.length x.2.2.2.2.2.2.2.2.2)) then (Option.bind (Tf.tapewrightref10_Shape.j14 F (x.1, (x.2.1, (x.2.2.1, (x.2.2.2.1, (x.2.2.2.2.1, (x.2.2.2.2.2.1, (x.2.2.2.2.2.2.1, (x.2.2.2.2.2.2.2.1, ((List.getD x.2.2.2.2.2.2.2.2.2 (Int.toNat x.2.1) (dflt 6)).shape, (x.2.2.2.2.2.2.2.2.1, (x.2.2.2.2.2.2.2.2.2, ([] : List Int))))))))))))) (fun y14 => (some (y14.1, y14.2))))
 else none)
 else (Option.bind (Tf.tapewrightref10_Shape.j14 F (x.1, (x.2.1, (x.2.2.1, (x.2.2.2.1, (x.2.2.2.2.1, (x.2.2.2.2.2.1, (x.2.2.2.2.2.2.1, (x.2.2.2.2.2.2.2.1, (([] : List Int), (x.2.2.2.2.2.2.2.2.1, (x.2.2.2.2.2.2.2.2.2, ([] : List Int))))))))))))) (fun y7 => (some (y7.1, y7.2)))))
theorem Tf.tapewrightref10_Shape.j11_eq (F : Nat) (a) : execP Go.VI.tyT (look [(34, Tf.tapewrightref08_Name.e F), (38, Tf.tapewrightref04_Size.e F), (40, Tf.tapewrightref04_Same.e F), (61, Tf.tapewrightref03_Read.e F), (62, Tf.tapewrightref04_Right.e F), (70, Tf.tapewrightref10_Parts.e F)] : Fns) 266 (look [(28, fun st κ => hand [.slot 165, .view 163 4, .view 9 0, .slot 164] [.int .i64, .sl 4, .sl 0, .int .i64] [⟨.ret, [.own 4 0, .slot 5], [.sl 0, .bool]⟩, ⟨.exit 1, [.view 9 0], [.sl 0]⟩] (Tf.tapewrightref10_Shape.l28 F) st κ)] : Loops) (fun st κ => hand [.box 3 [none, none, none, none, none, none, none, none], .view 7 0, .slot 6, .view 0 6, .own 8 0] [.str, .int .i64, .int .i64, .str, .sl 0, .str, .int .i64, .sl 4, .sl 0, .int .i64, .sl 6, .sl 0] [⟨.ret, [.view 4 0, .slot 5], [.sl 0, .bool]⟩] (Tf.tapewrightref10_Shape.j14 F) st κ) 2 Tf.tapewrightref10_Shape.t11 (rebuild [.box 3 [none, none, none, none, none, none, none, none], .slot 6, .view 0 6] (encKs [.str, .int .i64, .int .i64, .str, .sl 0, .str, .int .i64, .sl 4, .int .i64, .sl 6] a)) (bodyK [.box 3 [none, none, none, none, none, none, none, none], .slot 6, .view 0 6] [.str, .int .i64, .int .i64, .str, .sl 0, .str, .int .i64, .sl 4, .int .i64, .sl 6] [⟨.ret, [.view 4 0, .slot 5], [.sl 0, .bool]⟩] (fun _ => none)) = Tf.tapewrightref10_Shape.j11 F a := by kernel_rfl
theorem Tf.tapewrightref10_Shape.j11_ok (F : Nat) : CutOk Go.Proofs.Tryz.prog Go.VI.tyT.G 266 Tf.tapewrightref10_Shape.t11 (fun st κ => hand [.box 3 [none, none, none, none, none, none, none, none], .slot 6, .view 0 6] [.str, .int .i64, .int .i64, .str, .sl 0, .str, .int .i64, .sl 4, .int .i64, .sl 6] [⟨.ret, [.view 4 0, .slot 5], [.sl 0, .bool]⟩] (Tf.tapewrightref10_Shape.j11 F) st κ) :=
  cut_okP Go.VI.tyT_ok rfl mix (.cons (Tf.tapewrightref08_Name.ok F) (.cons (Tf.tapewrightref04_Size.ok F) (.cons (Tf.tapewrightref04_Same.ok F) (.cons (Tf.tapewrightref03_Read.ok F) (.cons (Tf.tapewrightref04_Right.ok F) (.cons (Tf.tapewrightref10_Parts.ok F) .nil)))))) (Λ := (look [(28, fun st κ => hand [.slot 165, .view 163 4, .view 9 0, .slot 164] [.int .i64, .sl 4, .sl 0, .int .i64] [⟨.ret, [.own 4 0, .slot 5], [.sl 0, .bool]⟩, ⟨.exit 1, [.view 9 0], [.sl 0]⟩] (Tf.tapewrightref10_Shape.l28 F) st κ)] : Loops)) (LoopsOk.of (bs := [Tf.tapewrightref10_Shape.b28]) (by kernel_rfl) (.cons rfl (Tf.tapewrightref10_Shape.l28_ok F) .nil)) (Tf.tapewrightref10_Shape.j14_ok F) (n := 2) (by kernel_rfl) (Tf.tapewrightref10_Shape.j11_eq F)
noncomputable def Tf.tapewrightref10_Shape.t9 : Code := codeAt [1, 1, 1, 1] Tf.tapewrightref10_Shape.c
def Tf.tapewrightref10_Shape.j9 (F : Nat) (x : (ByteArray × (Int × (Int × (ByteArray × ((List Int) × (ByteArray × (Int × ((List ByteArray) × (Int × (List Go.VI.Node))))))))))) : Option ((List Int) × Bool) :=
 (bif (!(seqB x.1 (⟨#[115, 99, 97, 108, 101]⟩ : ByteArray))) then (bif (!(seqB x.2.2.2.2.2.1 (⟨#[]⟩ : ByteArray))) then (some (([] : List Int), Bool.false))
 else (bif (!(seqB x.1 (⟨#[112, 111, 119, 101, 114]⟩ : ByteArray))) then (bif (x.2.2.2.2.2.2.1 != (0 : Int)) then (some (([] : List Int), Bool.false))
 else (bif (!(seqB x.1 (⟨#[99, 111, 110, 115, 116]⟩ : ByteArray))) then (bif (decide (((List.length x.2.2.2.2.2.2.2.1) : Int) > (0 : Int))) then (some (([] : List Int), Bool.false))
 else (Option.bind (Tf.tapewrightref10_Shape.j11 F (x.1, (x.2.1, (x.2.2.1, (x.2.2.2.1, (x.2.2.2.2.1, (x.2.2.2.2.2.1, (x.2.2.2.2.2.2.1, (x.2.2.2.2.2.2.2.1, (x.2.2.2.2.2.2.2.2.1, x.2.2.2.2.2.2.2.2.2)))))))))) (fun y32 => (some (y32.1, y32.2)))))
 else (Option.bind (Tf.tapewrightref10_Shape.j11 F (x.1, (x.2.1, (x.2.2.1, (x.2.2.2.1, (x.2.2.2.2.1, (x.2.2.2.2.2.1, (x.2.2.2.2.2.2.1, (x.2.2.2.2.2.2.2.1, (x.2.2.2.2.2.2.2.2.1, x.2.2.2.2.2.2.2.2.2)))))))))) (fun y28 => (some (y28.1, y28.2))))))
 else (bif (!(seqB x.1 (⟨#[99, 111, 110, 115, 116]⟩ : ByteArray))) then (bif (decide (((List.length x.2.2.2.2.2.2.2.1) : Int) > (0 : Int))) then (some (([] : List Int), Bool.false))
 else (Option.bind (Tf.tapewrightref10_Shape.j11 F (x.1, (x.2.1, (x.2.2.1, (x.2.2.2.1, (x.2.2.2.2.1, (x.2.2.2.2.2.1, (x.2.2.2.2.2.2.1, (x.2.2.2.2.2.2.2.1, (x.2.2.2.2.2.2.2.2.1, x.2.2.2.2.2.2.2.2.2)))))))))) (fun y29 => (some (y29.1, y29.2)))))
 else (Option.bind (Tf.tapewrightref10_Shape.j11 F (x.1, (x.2.1, (x.2.2.1, (x.2.2.2.1, (x.2.2.2.2.1, (x.2.2.2.2.2.1, (x.2.2.2.2.2.2.1, (x.2.2.2.2.2.2.2.1, (x.2.2.2.2.2.2.2.2.1, x.2.2.2.2.2.2.2.2.2)))))))))) (fun y25 => (some (y25.1, y25.2)))))))
 else (bif (!(seqB x.1 (⟨#[112, 111, 119, 101, 114]⟩ : ByteArray))) then (bif (x.2.2.2.2.2.2.1 != (0 : Int)) then (some (([] : List Int), Bool.false))
 else (bif (!(seqB x.1 (⟨#[99, 111, 110, 115, 116]⟩ : ByteArray))) then (bif (decide (((List.length x.2.2.2.2.2.2.2.1) : Int) > (0 : Int))) then (some (([] : List Int), Bool.false))
 else (Option.bind (Tf.tapewrightref10_Shape.j11 F (x.1, (x.2.1, (x.2.2.1, (x.2.2.2.1, (x.2.2.2.2.1, (x.2.2.2.2.2.1, (x.2.2.2.2.2.2.1, (x.2.2.2.2.2.2.2.1, (x.2.2.2.2.2.2.2.2.1, x.2.2.2.2.2.2.2.2.2)))))))))) (fun y29 => (some (y29.1, y29.2)))))
 else (Option.bind (Tf.tapewrightref10_Shape.j11 F (x.1, (x.2.1, (x.2.2.1, (x.2.2.2.1, (x.2.2.2.2.1, (x.2.2.2.2.2.1, (x.2.2.2.2.2.2.1, (x.2.2.2.2.2.2.2.1, (x.2.2.2.2.2.2.2.2.1, x.2.2.2.2.2.2.2.2.2)))))))))) (fun y25 => (some (y25.1, y25.2))))))
 else (bif (!(seqB x.1 (⟨#[99, 111, 110, 115, 116]⟩ : ByteArray))) then (bif (decide (((List.length x.2.2.2.2.2.2.2.1) : Int) > (0 : Int))) then (some (([] : List Int), Bool.false))
 else (Option.bind (Tf.tapewrightref10_Shape.j11 F (x.1, (x.2.1, (x.2.2.1, (x.2.2.2.1, (x.2.2.2.2.1, (x.2.2.2.2.2.1, (x.2.2.2.2.2.2.1, (x.2.2.2.2.2.2.2.1, (x.2.2.2.2.2.2.2.2.1, x.2.2.2.2.2.2.2.2.2)))))))))) (fun y26 => (some (y26.1, y26.2)))))
 else (Option.bind (Tf.tapewrightref10_Shape.j11 F (x.1, (x.2.1, (x.2.2.1, (x.2.2.2.1, (x.2.2.2.2.1, (x.2.2.2.2.2.1, (x.2.2.2.2.2.2.1, (x.2.2.2.2.2.2.2.1, (x.2.2.2.2.2.2.2.2.1, x.2.2.2.2.2.2.2.2.2)))))))))) (fun y22 => (some (y22.1, y22.2)))))))
theorem Tf.tapewrightref10_Shape.j9_eq (F : Nat) (a) : execP Go.VI.tyT (look [(34, Tf.tapewrightref08_Name.e F), (38, Tf.tapewrightref04_Size.e F), (40, Tf.tapewrightref04_Same.e F), (61, Tf.tapewrightref03_Read.e F), (62, Tf.tapewrightref04_Right.e F), (70, Tf.tapewrightref10_Parts.e F)] : Fns) 266 (look [(28, fun st κ => hand [.slot 165, .view 163 4, .view 9 0, .slot 164] [.int .i64, .sl 4, .sl 0, .int .i64] [⟨.ret, [.own 4 0, .slot 5], [.sl 0, .bool]⟩, ⟨.exit 1, [.view 9 0], [.sl 0]⟩] (Tf.tapewrightref10_Shape.l28 F) st κ)] : Loops) (fun st κ => hand [.box 3 [none, none, none, none, none, none, none, none], .slot 6, .view 0 6] [.str, .int .i64, .int .i64, .str, .sl 0, .str, .int .i64, .sl 4, .int .i64, .sl 6] [⟨.ret, [.view 4 0, .slot 5], [.sl 0, .bool]⟩] (Tf.tapewrightref10_Shape.j11 F) st κ) 1 Tf.tapewrightref10_Shape.t9 (rebuild [.box 3 [none, none, none, none, none, none, none, none], .slot 6, .view 0 6] (encKs [.str, .int .i64, .int .i64, .str, .sl 0, .str, .int .i64, .sl 4, .int .i64, .sl 6] a)) (bodyK [.box 3 [none, none, none, none, none, none, none, none], .slot 6, .view 0 6] [.str, .int .i64, .int .i64, .str, .sl 0, .str, .int .i64, .sl 4, .int .i64, .sl 6] [⟨.ret, [.view 4 0, .slot 5], [.sl 0, .bool]⟩] (fun _ => none)) = Tf.tapewrightref10_Shape.j9 F a := by kernel_rfl
theorem Tf.tapewrightref10_Shape.j9_ok (F : Nat) : CutOk Go.Proofs.Tryz.prog Go.VI.tyT.G 266 Tf.tapewrightref10_Shape.t9 (fun st κ => hand [.box 3 [none, none, none, none, none, none, none, none], .slot 6, .view 0 6] [.str, .int .i64, .int .i64, .str, .sl 0, .str, .int .i64, .sl 4, .int .i64, .sl 6] [⟨.ret, [.view 4 0, .slot 5], [.sl 0, .bool]⟩] (Tf.tapewrightref10_Shape.j9 F) st κ) :=
  cut_okP Go.VI.tyT_ok rfl mix (.cons (Tf.tapewrightref08_Name.ok F) (.cons (Tf.tapewrightref04_Size.ok F) (.cons (Tf.tapewrightref04_Same.ok F) (.cons (Tf.tapewrightref03_Read.ok F) (.cons (Tf.tapewrightref04_Right.ok F) (.cons (Tf.tapewrightref10_Parts.ok F) .nil)))))) (Λ := (look [(28, fun st κ => hand [.slot 165, .view 163 4, .view 9 0, .slot 164] [.int .i64, .sl 4, .sl 0, .int .i64] [⟨.ret, [.own 4 0, .slot 5], [.sl 0, .bool]⟩, ⟨.exit 1, [.view 9 0], [.sl 0]⟩] (Tf.tapewrightref10_Shape.l28 F) st κ)] : Loops)) (LoopsOk.of (bs := [Tf.tapewrightref10_Shape.b28]) (by kernel_rfl) (.cons rfl (Tf.tapewrightref10_Shape.l28_ok F) .nil)) (Tf.tapewrightref10_Shape.j11_ok F) (n := 1) (by kernel_rfl) (Tf.tapewrightref10_Shape.j9_eq F)
noncomputable def Tf.tapewrightref10_Shape.t4 : Code := codeAt [1, 1, 1] Tf.tapewrightref10_Shape.c
def Tf.tapewrightref10_Shape.j4 (F : Nat) (x : (ByteArray × (Int × (Int × (ByteArray × ((List Int) × (ByteArray × (Int × ((List ByteArray) × (Int × (List Go.VI.Node))))))))))) : Option ((List Int) × Bool) :=
 (bif (seqB x.1 (⟨#[112, 97, 114, 97, 109]⟩ : ByteArray)) then (Option.bind (Tf.tapewrightref08_Name.f F x.2.2.2.1) (fun y11 => (bif (!y11) then (some (([] : List Int), Bool.false))
 else (Option.bind (Tf.tapewrightref10_Shape.j9 F (x.1, (x.2.1, (x.2.2.1, (x.2.2.2.1, (x.2.2.2.2.1, (x.2.2.2.2.2.1, (x.2.2.2.2.2.2.1, (x.2.2.2.2.2.2.2.1, (x.2.2.2.2.2.2.2.2.1, x.2.2.2.2.2.2.2.2.2)))))))))) (fun y13 => (some (y13.1, y13.2)))))))
 else (bif (seqB x.1 (⟨#[105, 110, 112, 117, 116]⟩ : ByteArray)) then (Option.bind (Tf.tapewrightref08_Name.f F x.2.2.2.1) (fun y14 => (bif (!y14) then (some (([] : List Int), Bool.false))
 else (Option.bind (Tf.tapewrightref10_Shape.j9 F (x.1, (x.2.1, (x.2.2.1, (x.2.2.2.1, (x.2.2.2.2.1, (x.2.2.2.2.2.1, (x.2.2.2.2.2.2.1, (x.2.2.2.2.2.2.2.1, (x.2.2.2.2.2.2.2.2.1, x.2.2.2.2.2.2.2.2.2)))))))))) (fun y16 => (some (y16.1, y16.2)))))))
 else (bif (!(seqB x.2.2.2.1 (⟨#[]⟩ : ByteArray))) then (some (([] : List Int), Bool.false))
 else (Option.bind (Tf.tapewrightref10_Shape.j9 F (x.1, (x.2.1, (x.2.2.1, (x.2.2.2.1, (x.2.2.2.2.1, (x.2.2.2.2.2.1, (x.2.2.2.2.2.2.1, (x.2.2.2.2.2.2.2.1, (x.2.2.2.2.2.2.2.2.1, x.2.2.2.2.2.2.2.2.2)))))))))) (fun y14 => (some (y14.1, y14.2)))))))
theorem Tf.tapewrightref10_Shape.j4_eq (F : Nat) (a) : execP Go.VI.tyT (look [(34, Tf.tapewrightref08_Name.e F), (38, Tf.tapewrightref04_Size.e F), (40, Tf.tapewrightref04_Same.e F), (61, Tf.tapewrightref03_Read.e F), (62, Tf.tapewrightref04_Right.e F), (70, Tf.tapewrightref10_Parts.e F)] : Fns) 266 (look [(28, fun st κ => hand [.slot 165, .view 163 4, .view 9 0, .slot 164] [.int .i64, .sl 4, .sl 0, .int .i64] [⟨.ret, [.own 4 0, .slot 5], [.sl 0, .bool]⟩, ⟨.exit 1, [.view 9 0], [.sl 0]⟩] (Tf.tapewrightref10_Shape.l28 F) st κ)] : Loops) (fun st κ => hand [.box 3 [none, none, none, none, none, none, none, none], .slot 6, .view 0 6] [.str, .int .i64, .int .i64, .str, .sl 0, .str, .int .i64, .sl 4, .int .i64, .sl 6] [⟨.ret, [.view 4 0, .slot 5], [.sl 0, .bool]⟩] (Tf.tapewrightref10_Shape.j9 F) st κ) 1 Tf.tapewrightref10_Shape.t4 (rebuild [.box 3 [none, none, none, none, none, none, none, none], .slot 6, .view 0 6] (encKs [.str, .int .i64, .int .i64, .str, .sl 0, .str, .int .i64, .sl 4, .int .i64, .sl 6] a)) (bodyK [.box 3 [none, none, none, none, none, none, none, none], .slot 6, .view 0 6] [.str, .int .i64, .int .i64, .str, .sl 0, .str, .int .i64, .sl 4, .int .i64, .sl 6] [⟨.ret, [.view 4 0, .slot 5], [.sl 0, .bool]⟩] (fun _ => none)) = Tf.tapewrightref10_Shape.j4 F a := by kernel_rfl
theorem Tf.tapewrightref10_Shape.j4_ok (F : Nat) : CutOk Go.Proofs.Tryz.prog Go.VI.tyT.G 266 Tf.tapewrightref10_Shape.t4 (fun st κ => hand [.box 3 [none, none, none, none, none, none, none, none], .slot 6, .view 0 6] [.str, .int .i64, .int .i64, .str, .sl 0, .str, .int .i64, .sl 4, .int .i64, .sl 6] [⟨.ret, [.view 4 0, .slot 5], [.sl 0, .bool]⟩] (Tf.tapewrightref10_Shape.j4 F) st κ) :=
  cut_okP Go.VI.tyT_ok rfl mix (.cons (Tf.tapewrightref08_Name.ok F) (.cons (Tf.tapewrightref04_Size.ok F) (.cons (Tf.tapewrightref04_Same.ok F) (.cons (Tf.tapewrightref03_Read.ok F) (.cons (Tf.tapewrightref04_Right.ok F) (.cons (Tf.tapewrightref10_Parts.ok F) .nil)))))) (Λ := (look [(28, fun st κ => hand [.slot 165, .view 163 4, .view 9 0, .slot 164] [.int .i64, .sl 4, .sl 0, .int .i64] [⟨.ret, [.own 4 0, .slot 5], [.sl 0, .bool]⟩, ⟨.exit 1, [.view 9 0], [.sl 0]⟩] (Tf.tapewrightref10_Shape.l28 F) st κ)] : Loops)) (LoopsOk.of (bs := [Tf.tapewrightref10_Shape.b28]) (by kernel_rfl) (.cons rfl (Tf.tapewrightref10_Shape.l28_ok F) .nil)) (Tf.tapewrightref10_Shape.j9_ok F) (n := 1) (by kernel_rfl) (Tf.tapewrightref10_Shape.j4_eq F)
def Tf.tapewrightref10_Shape.f (F : Nat) (a : ((List Go.VI.Node) × Go.VI.Node)) : Option ((List Int) × Bool) :=
 (Option.bind (Tf.tapewrightref10_Parts.f F a.2.op) (fun y9 => (bif (decide (y9 < (0 : Int))) then (some (([] : List Int), Bool.false))
 else (bif (y9 == (0 : Int)) then (bif (a.2.a != (0 : Int)) then (some (([] : List Int), Bool.false))
 else (bif (decide (y9 < (2 : Int))) then (bif (a.2.b != (0 : Int)) then (some (([] : List Int), Bool.false))
 else (bif (decide (y9 > (0 : Int))) then (bif (decide (a.2.a < (0 : Int))) then (some (([] : List Int), Bool.false))
 else (bif (decide (a.2.a ≥ ((List.length a.1) : Int))) then (some (([] : List Int), Bool.false))
 else (bif (decide (y9 > (1 : Int))) then (bif (decide (a.2.b < (0 : Int))) then (some (([] : List Int), Bool.false))
 else (bif (decide (a.2.b ≥ ((List.length a.1) : Int))) then (some (([] : List Int), Bool.false))
 else (Option.bind (Tf.tapewrightref10_Shape.j4 F (a.2.op, (a.2.a, (a.2.b, (a.2.name, (a.2.shape, (a.2.k, (a.2.n, (a.2.data, (y9, a.1)))))))))) (fun y63 => (some (y63.1, y63.2))))))
 else (Option.bind (Tf.tapewrightref10_Shape.j4 F (a.2.op, (a.2.a, (a.2.b, (a.2.name, (a.2.shape, (a.2.k, (a.2.n, (a.2.data, (y9, a.1)))))))))) (fun y53 => (some (y53.1, y53.2)))))))
 else (bif (decide (y9 > (1 : Int))) then (bif (decide (a.2.b < (0 : Int))) then (some (([] : List Int), Bool.false))
 else (bif (decide (a.2.b ≥ ((List.length a.1) : Int))) then (some (([] : List Int), Bool.false))
 else (Option.bind (Tf.tapewrightref10_Shape.j4 F (a.2.op, (a.2.a, (a.2.b, (a.2.name, (a.2.shape, (a.2.k, (a.2.n, (a.2.data, (y9, a.1)))))))))) (fun y53 => (some (y53.1, y53.2))))))
 else (Option.bind (Tf.tapewrightref10_Shape.j4 F (a.2.op, (a.2.a, (a.2.b, (a.2.name, (a.2.shape, (a.2.k, (a.2.n, (a.2.data, (y9, a.1)))))))))) (fun y43 => (some (y43.1, y43.2)))))))
 else (bif (decide (y9 > (0 : Int))) then (bif (decide (a.2.a < (0 : Int))) then (some (([] : List Int), Bool.false))
 else (bif (decide (a.2.a ≥ ((List.length a.1) : Int))) then (some (([] : List Int), Bool.false))
 else (bif (decide (y9 > (1 : Int))) then (bif (decide (a.2.b < (0 : Int))) then (some (([] : List Int), Bool.false))
 else (bif (decide (a.2.b ≥ ((List.length a.1) : Int))) then (some (([] : List Int), Bool.false))
 else (Option.bind (Tf.tapewrightref10_Shape.j4 F (a.2.op, (a.2.a, (a.2.b, (a.2.name, (a.2.shape, (a.2.k, (a.2.n, (a.2.data, (y9, a.1)))))))))) (fun y60 => (some (y60.1, y60.2))))))
 else (Option.bind (Tf.tapewrightref10_Shape.j4 F (a.2.op, (a.2.a, (a.2.b, (a.2.name, (a.2.shape, (a.2.k, (a.2.n, (a.2.data, (y9, a.1)))))))))) (fun y50 => (some (y50.1, y50.2)))))))
 else (bif (decide (y9 > (1 : Int))) then (bif (decide (a.2.b < (0 : Int))) then (some (([] : List Int), Bool.false))
 else (bif (decide (a.2.b ≥ ((List.length a.1) : Int))) then (some (([] : List Int), Bool.false))
 else (Option.bind (Tf.tapewrightref10_Shape.j4 F (a.2.op, (a.2.a, (a.2.b, (a.2.name, (a.2.shape, (a.2.k, (a.2.n, (a.2.data, (y9, a.1)))))))))) (fun y50 => (some (y50.1, y50.2))))))
 else (Option.bind (Tf.tapewrightref10_Shape.j4 F (a.2.op, (a.2.a, (a.2.b, (a.2.name, (a.2.shape, (a.2.k, (a.2.n, (a.2.data, (y9, a.1)))))))))) (fun y40 => (some (y40.1, y40.2))))))))
 else (bif (decide (y9 < (2 : Int))) then (bif (a.2.b != (0 : Int)) then (some (([] : List Int), Bool.false))
 else (bif (decide (y9 > (0 : Int))) then (bif (decide (a.2.a < (0 : Int))) then (some (([] : List Int), Bool.false))
 else (bif (decide (a.2.a ≥ ((List.length a.1) : Int))) then (some (([] : List Int), Bool.false))
 else (bif (decide (y9 > (1 : Int))) then (bif (decide (a.2.b < (0 : Int))) then (some (([] : List Int), Bool.false))
 else (bif (decide (a.2.b ≥ ((List.length a.1) : Int))) then (some (([] : List Int), Bool.false))
 else (Option.bind (Tf.tapewrightref10_Shape.j4 F (a.2.op, (a.2.a, (a.2.b, (a.2.name, (a.2.shape, (a.2.k, (a.2.n, (a.2.data, (y9, a.1)))))))))) (fun y60 => (some (y60.1, y60.2))))))
 else (Option.bind (Tf.tapewrightref10_Shape.j4 F (a.2.op, (a.2.a, (a.2.b, (a.2.name, (a.2.shape, (a.2.k, (a.2.n, (a.2.data, (y9, a.1)))))))))) (fun y50 => (some (y50.1, y50.2)))))))
 else (bif (decide (y9 > (1 : Int))) then (bif (decide (a.2.b < (0 : Int))) then (some (([] : List Int), Bool.false))
 else (bif (decide (a.2.b ≥ ((List.length a.1) : Int))) then (some (([] : List Int), Bool.false))
 else (Option.bind (Tf.tapewrightref10_Shape.j4 F (a.2.op, (a.2.a, (a.2.b, (a.2.name, (a.2.shape, (a.2.k, (a.2.n, (a.2.data, (y9, a.1)))))))))) (fun y50 => (some (y50.1, y50.2))))))
 else (Option.bind (Tf.tapewrightref10_Shape.j4 F (a.2.op, (a.2.a, (a.2.b, (a.2.name, (a.2.shape, (a.2.k, (a.2.n, (a.2.data, (y9, a.1)))))))))) (fun y40 => (some (y40.1, y40.2)))))))
 else (bif (decide (y9 > (0 : Int))) then (bif (decide (a.2.a < (0 : Int))) then (some (([] : List Int), Bool.false))
 else (bif (decide (a.2.a ≥ ((List.length a.1) : Int))) then (some (([] : List Int), Bool.false))
 else (bif (decide (y9 > (1 : Int))) then (bif (decide (a.2.b < (0 : Int))) then (some (([] : List Int), Bool.false))
 else (bif (decide (a.2.b ≥ ((List.length a.1) : Int))) then (some (([] : List Int), Bool.false))
 else (Option.bind (Tf.tapewrightref10_Shape.j4 F (a.2.op, (a.2.a, (a.2.b, (a.2.name, (a.2.shape, (a.2.k, (a.2.n, (a.2.data, (y9, a.1)))))))))) (fun y57 => (some (y57.1, y57.2))))))
 else (Option.bind (Tf.tapewrightref10_Shape.j4 F (a.2.op, (a.2.a, (a.2.b, (a.2.name, (a.2.shape, (a.2.k, (a.2.n, (a.2.data, (y9, a.1)))))))))) (fun y47 => (some (y47.1, y47.2)))))))
 else (bif (decide (y9 > (1 : Int))) then (bif (decide (a.2.b < (0 : Int))) then (some (([] : List Int), Bool.false))
 else (bif (decide (a.2.b ≥ ((List.length a.1) : Int))) then (some (([] : List Int), Bool.false))
 else (Option.bind (Tf.tapewrightref10_Shape.j4 F (a.2.op, (a.2.a, (a.2.b, (a.2.name, (a.2.shape, (a.2.k, (a.2.n, (a.2.data, (y9, a.1)))))))))) (fun y47 => (some (y47.1, y47.2))))))
 else (Option.bind (Tf.tapewrightref10_Shape.j4 F (a.2.op, (a.2.a, (a.2.b, (a.2.name, (a.2.shape, (a.2.k, (a.2.n, (a.2.data, (y9, a.1)))))))))) (fun y37 => (some (y37.1, y37.2)))))))))))
theorem Tf.tapewrightref10_Shape.f_ok (F : Nat) (a) : execP Go.VI.tyT (look [(34, Tf.tapewrightref08_Name.e F), (38, Tf.tapewrightref04_Size.e F), (40, Tf.tapewrightref04_Same.e F), (61, Tf.tapewrightref03_Read.e F), (62, Tf.tapewrightref04_Right.e F), (70, Tf.tapewrightref10_Parts.e F)] : Fns) 266 (look [(28, fun st κ => hand [.slot 165, .view 163 4, .view 9 0, .slot 164] [.int .i64, .sl 4, .sl 0, .int .i64] [⟨.ret, [.own 4 0, .slot 5], [.sl 0, .bool]⟩, ⟨.exit 1, [.view 9 0], [.sl 0]⟩] (Tf.tapewrightref10_Shape.l28 F) st κ)] : Loops) (fun st κ => hand [.box 3 [none, none, none, none, none, none, none, none], .slot 6, .view 0 6] [.str, .int .i64, .int .i64, .str, .sl 0, .str, .int .i64, .sl 4, .int .i64, .sl 6] [⟨.ret, [.view 4 0, .slot 5], [.sl 0, .bool]⟩] (Tf.tapewrightref10_Shape.j4 F) st κ) 3 Tf.tapewrightref10_Shape.c (init [.v 6, .v 206] (encKs [.sl 6, .rc 6] a)) (finT (look [(34, Tf.tapewrightref08_Name.e F), (38, Tf.tapewrightref04_Size.e F), (40, Tf.tapewrightref04_Same.e F), (61, Tf.tapewrightref03_Read.e F), (62, Tf.tapewrightref04_Right.e F), (70, Tf.tapewrightref10_Parts.e F)] : Fns) (⟨[.v 6, .v 206], [.v 0, .p]⟩ : Sig) [4, 5] [.pure, .pure] [.sl 0, .bool]) = Tf.tapewrightref10_Shape.f F a := by kernel_rfl
def Tf.tapewrightref10_Shape.e (F : Nat) : Fn := mkFn (⟨[.v 6, .v 206], [.v 0, .p]⟩ : Sig) [.sl 6, .rc 6] [.pure, .pure] [.sl 0, .bool] (Tf.tapewrightref10_Shape.f F)
theorem Tf.tapewrightref10_Shape.ok (F : Nat) : EntryOk Go.Proofs.Tryz.prog Go.VI.tyT.G 48 (Tf.tapewrightref10_Shape.e F) :=
  fn_okP Go.VI.tyT_ok rfl mix (.cons (Tf.tapewrightref08_Name.ok F) (.cons (Tf.tapewrightref04_Size.ok F) (.cons (Tf.tapewrightref04_Same.ok F) (.cons (Tf.tapewrightref03_Read.ok F) (.cons (Tf.tapewrightref04_Right.ok F) (.cons (Tf.tapewrightref10_Parts.ok F) .nil)))))) (Λ := (look [(28, fun st κ => hand [.slot 165, .view 163 4, .view 9 0, .slot 164] [.int .i64, .sl 4, .sl 0, .int .i64] [⟨.ret, [.own 4 0, .slot 5], [.sl 0, .bool]⟩, ⟨.exit 1, [.view 9 0], [.sl 0]⟩] (Tf.tapewrightref10_Shape.l28 F) st κ)] : Loops)) (fn := Go.Proofs.Tryz.f48) (c := Tf.tapewrightref10_Shape.c) (LoopsOk.of (bs := [Tf.tapewrightref10_Shape.b28]) (by kernel_rfl) (.cons rfl (Tf.tapewrightref10_Shape.l28_ok F) .nil)) (Tf.tapewrightref10_Shape.j4_ok F) (n := 3) (by kernel_rfl) (by kernel_rfl) (by kernel_rfl) (by kernel_rfl) (by kernel_rfl) (res2 (by kernel_rfl)) (by decide) (Tf.tapewrightref10_Shape.f_ok F)
end Go.VI

namespace Go.VI
open Go
noncomputable def Tf.tapewrightref10_Right.c : Code := (Go.Proofs.Tryz.f25.body).getD .skip
noncomputable def Tf.tapewrightref10_Right.b10 : Code := codeAt [1, 1, 0, 1, 0, 0, 1, 0, 0, 1, 1, 1, 0, 0] Tf.tapewrightref10_Right.c
def Tf.tapewrightref10_Right.s10 (F : Nat) (L : (Int × (Int × ((List Go.VI.Node) × Int))) → Option (Bool ⊕ ((List Go.VI.Node) × (Int × Int)))) (x : (Int × (Int × ((List Go.VI.Node) × Int)))) : Option (Bool ⊕ ((List Go.VI.Node) × (Int × Int))) :=
 (bif (decide (x.1 < x.2.1)) then (bif (inR x.2.1 (List.length x.2.2.1)) then (bif (!(seqB (List.getD x.2.2.1 (Int.toNat x.2.1) (dflt 6)).name (⟨#[]⟩ : ByteArray))) then (bif (inR x.1 (List.length x.2.2.1)) then (bif (inR x.2.1 (List.length x.2.2.1)) then (bif (seqB (List.getD x.2.2.1 (Int.toNat x.1) (dflt 6)).name (List.getD x.2.2.1 (Int.toNat x.2.1) (dflt 6)).name) then (some (.inl Bool.false))
 else (L ((Go.IntKind.wrap IntKind.i64 (x.1 + (1 : Int))), (x.2.1, (x.2.2.1, x.2.2.2)))))
 else none)
 else none)
 else (L ((Go.IntKind.wrap IntKind.i64 (x.1 + (1 : Int))), (x.2.1, (x.2.2.1, x.2.2.2)))))
 else none)
 else (some (.inr (x.2.2.1, (x.2.2.2, x.2.1)))))
def Tf.tapewrightref10_Right.l10 (F : Nat) : (Int × (Int × ((List Go.VI.Node) × Int))) → Option (Bool ⊕ ((List Go.VI.Node) × (Int × Int))) := iter (Tf.tapewrightref10_Right.s10 F) F
theorem Tf.tapewrightref10_Right.s10_ok (F : Nat) (L a) : exec Go.VI.tyT (look [(40, Tf.tapewrightref04_Same.e F), (48, Tf.tapewrightref10_Shape.e F)] : Fns) 101 (look [] : Loops) Tf.tapewrightref10_Right.b10 (rebuild [.slot 6, .slot 3, .box 1 [none, none]] (encKs [.int .i64, .int .i64, .sl 6, .int .i64] a)) (bodyK [.slot 6, .slot 3, .box 1 [none, none]] [.int .i64, .int .i64, .sl 6, .int .i64] [⟨.ret, [.slot 2], [.bool]⟩, ⟨.exit 2, [.box 1 [none, none], .slot 3], [.sl 6, .int .i64, .int .i64]⟩] L) = Tf.tapewrightref10_Right.s10 F L a := by kernel_rfl
theorem Tf.tapewrightref10_Right.l10_ok (F : Nat) : LoopOk Go.Proofs.Tryz.prog Go.VI.tyT.G 101 Tf.tapewrightref10_Right.b10 (fun st κ => hand [.slot 6, .slot 3, .box 1 [none, none]] [.int .i64, .int .i64, .sl 6, .int .i64] [⟨.ret, [.slot 2], [.bool]⟩, ⟨.exit 2, [.box 1 [none, none], .slot 3], [.sl 6, .int .i64, .int .i64]⟩] (Tf.tapewrightref10_Right.l10 F) st κ) :=
  loop_ok Go.VI.tyT_ok rfl mix (.cons (Tf.tapewrightref04_Same.ok F) (.cons (Tf.tapewrightref10_Shape.ok F) .nil)) (Λ := (look [] : Loops)) (LoopsOk.of (bs := []) (by kernel_rfl) .nil) (Tf.tapewrightref10_Right.s10_ok F) F
noncomputable def Tf.tapewrightref10_Right.b4 : Code := codeAt [1, 1, 0, 1, 0, 0] Tf.tapewrightref10_Right.c
def Tf.tapewrightref10_Right.s4 (F : Nat) (L : (Int × ((List Go.VI.Node) × Int)) → Option (Bool ⊕ Unit)) (x : (Int × ((List Go.VI.Node) × Int))) : Option (Bool ⊕ Unit) :=
 (bif (decide (x.1 < ((List.length x.2.1) : Int))) then (bif ((decide ((0 : Int) ≤ x.1)) && (decide (x.1 ≤ ((List.length x.2.1) : Int)))) then (bif (inR x.1 (List.length x.2.1)) then (Option.bind (Tf.tapewrightref10_Shape.f F ((List.drop 0 (List.take (Int.toNat x.1) x.2.1)), (Node.mk (List.getD x.2.1 (Int.toNat x.1) (dflt 6)).op (List.getD x.2.1 (Int.toNat x.1) (dflt 6)).a (List.getD x.2.1 (Int.toNat x.1) (dflt 6)).b (List.getD x.2.1 (Int.toNat x.1) (dflt 6)).name (List.getD x.2.1 (Int.toNat x.1) (dflt 6)).shape (List.getD x.2.1 (Int.toNat x.1) (dflt 6)).k (List.getD x.2.1 (Int.toNat x.1) (dflt 6)).n (List.getD x.2.1 (Int.toNat x.1) (dflt 6)).data))) (fun y56 => (bif (!y56.2) then (some (.inl Bool.false))
 else (bif (inR x.1 (List.length x.2.1)) then (Option.bind (Tf.tapewrightref04_Same.f F (y56.1, (List.getD x.2.1 (Int.toNat x.1) (dflt 6)).shape)) (fun y73 => (bif (!y73) then (some (.inl Bool.false))
 else (Option.bind (Tf.tapewrightref10_Right.l10 F ((0 : Int), (x.1, (x.2.1, x.2.2)))) (fun y77 => (sumE y77 (fun y78 => (some (.inl y78))) (fun y78 => (L ((Go.IntKind.wrap IntKind.i64 (y78.2.2 + (1 : Int))), (y78.1, y78.2.1))))))))))
 else none))))
 else none)
 else none)
 else (some (.inr ())))
def Tf.tapewrightref10_Right.l4 (F : Nat) : (Int × ((List Go.VI.Node) × Int)) → Option (Bool ⊕ Unit) := iter (Tf.tapewrightref10_Right.s4 F) F
theorem Tf.tapewrightref10_Right.s4_ok (F : Nat) (L a) : exec Go.VI.tyT (look [(40, Tf.tapewrightref04_Same.e F), (48, Tf.tapewrightref10_Shape.e F)] : Fns) 101 (look [(10, fun st κ => hand [.slot 6, .slot 3, .box 1 [none, none]] [.int .i64, .int .i64, .sl 6, .int .i64] [⟨.ret, [.slot 2], [.bool]⟩, ⟨.exit 2, [.box 1 [none, none], .slot 3], [.sl 6, .int .i64, .int .i64]⟩] (Tf.tapewrightref10_Right.l10 F) st κ)] : Loops) Tf.tapewrightref10_Right.b4 (rebuild [.slot 3, .box 1 [none, none]] (encKs [.int .i64, .sl 6, .int .i64] a)) (bodyK [.slot 3, .box 1 [none, none]] [.int .i64, .sl 6, .int .i64] [⟨.ret, [.slot 2], [.bool]⟩, ⟨.exit 0, [], []⟩] L) = Tf.tapewrightref10_Right.s4 F L a := by kernel_rfl
theorem Tf.tapewrightref10_Right.l4_ok (F : Nat) : LoopOk Go.Proofs.Tryz.prog Go.VI.tyT.G 101 Tf.tapewrightref10_Right.b4 (fun st κ => hand [.slot 3, .box 1 [none, none]] [.int .i64, .sl 6, .int .i64] [⟨.ret, [.slot 2], [.bool]⟩, ⟨.exit 0, [], []⟩] (Tf.tapewrightref10_Right.l4 F) st κ) :=
  loop_ok Go.VI.tyT_ok rfl mix (.cons (Tf.tapewrightref04_Same.ok F) (.cons (Tf.tapewrightref10_Shape.ok F) .nil)) (Λ := (look [(10, fun st κ => hand [.slot 6, .slot 3, .box 1 [none, none]] [.int .i64, .int .i64, .sl 6, .int .i64] [⟨.ret, [.slot 2], [.bool]⟩, ⟨.exit 2, [.box 1 [none, none], .slot 3], [.sl 6, .int .i64, .int .i64]⟩] (Tf.tapewrightref10_Right.l10 F) st κ)] : Loops)) (LoopsOk.of (bs := [Tf.tapewrightref10_Right.b10]) (by kernel_rfl) (.cons rfl (Tf.tapewrightref10_Right.l10_ok F) .nil)) (Tf.tapewrightref10_Right.s4_ok F) F
def Tf.tapewrightref10_Right.f (F : Nat) (a : ((List Go.VI.Node) × Int)) : Option Bool :=
 (bif (decide (((List.length a.1) : Int) < (1 : Int))) then (some Bool.false)
 else (bif (decide (((List.length a.1) : Int) > (200 : Int))) then (some Bool.false)
 else (bif (decide (a.2 < (0 : Int))) then (some Bool.false)
 else (bif (decide (a.2 ≥ ((List.length a.1) : Int))) then (some Bool.false)
 else (bif (inR a.2 (List.length a.1)) then (bif (decide (((List.length (List.getD a.1 (Int.toNat a.2) (dflt 6)).shape) : Int) > (0 : Int))) then (some Bool.false)
 else (Option.bind (Tf.tapewrightref10_Right.l4 F ((0 : Int), (a.1, a.2))) (fun y40 => (sumE y40 (fun y41 => (some y41)) (fun y41 => (some Bool.true))))))
 else none)))))
theorem Tf.tapewrightref10_Right.f_ok (F : Nat) (a) : exec Go.VI.tyT (look [(40, Tf.tapewrightref04_Same.e F), (48, Tf.tapewrightref10_Shape.e F)] : Fns) 101 (look [(4, fun st κ => hand [.slot 3, .box 1 [none, none]] [.int .i64, .sl 6, .int .i64] [⟨.ret, [.slot 2], [.bool]⟩, ⟨.exit 0, [], []⟩] (Tf.tapewrightref10_Right.l4 F) st κ)] : Loops) Tf.tapewrightref10_Right.c (init [.v 301] (encKs [.st [.sl 6, .int .i64]] a)) (finT (look [(40, Tf.tapewrightref04_Same.e F), (48, Tf.tapewrightref10_Shape.e F)] : Fns) (⟨[.v 301], [.p]⟩ : Sig) [2] [.pure] [.bool]) = Tf.tapewrightref10_Right.f F a := by kernel_rfl
def Tf.tapewrightref10_Right.e (F : Nat) : Fn := mkFn (⟨[.v 301], [.p]⟩ : Sig) [.st [.sl 6, .int .i64]] [.pure] [.bool] (Tf.tapewrightref10_Right.f F)
theorem Tf.tapewrightref10_Right.ok (F : Nat) : EntryOk Go.Proofs.Tryz.prog Go.VI.tyT.G 25 (Tf.tapewrightref10_Right.e F) :=
  fn_ok Go.VI.tyT_ok rfl mix (.cons (Tf.tapewrightref04_Same.ok F) (.cons (Tf.tapewrightref10_Shape.ok F) .nil)) (Λ := (look [(4, fun st κ => hand [.slot 3, .box 1 [none, none]] [.int .i64, .sl 6, .int .i64] [⟨.ret, [.slot 2], [.bool]⟩, ⟨.exit 0, [], []⟩] (Tf.tapewrightref10_Right.l4 F) st κ)] : Loops)) (fn := Go.Proofs.Tryz.f25) (c := Tf.tapewrightref10_Right.c) (LoopsOk.of (bs := [Tf.tapewrightref10_Right.b4]) (by kernel_rfl) (.cons rfl (Tf.tapewrightref10_Right.l4_ok F) .nil)) (by kernel_rfl) (by kernel_rfl) (by kernel_rfl) (by kernel_rfl) (res1 (by kernel_rfl)) (by decide) (Tf.tapewrightref10_Right.f_ok F)
end Go.VI

namespace Go.VI
open Go
noncomputable def Tf.tapewrightref11_Digits.c : Code := (Go.Proofs.Tryz.f52.body).getD .skip
noncomputable def Tf.tapewrightref11_Digits.b2 : Code := codeAt [1, 1, 0, 0, 0] Tf.tapewrightref11_Digits.c
def Tf.tapewrightref11_Digits.s2 (F : Nat) (L : (ByteArray × Int) → Option ByteArray) (x : (ByteArray × Int)) : Option ByteArray :=
 (bif (decide (x.2 > (9 : Int))) then (bif (Nat.ble ((ByteArray.size (strOf (List.set (List.replicate 1 (0 : Int)) 0 (Go.IntKind.wrap IntKind.u8 (Go.IntKind.wrap IntKind.i64 ((48 : Int) + (Int.tmod (Go.IntKind.wrap IntKind.i64 (Int.tdiv x.2 (10 : Int))) (10 : Int)))))))) + (ByteArray.size x.1)) 4611686018427387904) then (L (((strOf (List.set (List.replicate 1 (0 : Int)) 0 (Go.IntKind.wrap IntKind.u8 (Go.IntKind.wrap IntKind.i64 ((48 : Int) + (Int.tmod (Go.IntKind.wrap IntKind.i64 (Int.tdiv x.2 (10 : Int))) (10 : Int))))))) ++ x.1), (Go.IntKind.wrap IntKind.i64 (Int.tdiv x.2 (10 : Int)))))
 else none)
 else (some x.1))
def Tf.tapewrightref11_Digits.l2 (F : Nat) : (ByteArray × Int) → Option ByteArray := iter (Tf.tapewrightref11_Digits.s2 F) F
theorem Tf.tapewrightref11_Digits.s2_ok (F : Nat) (L a) : exec Go.VI.tyT (look [] : Fns) 23 (look [] : Loops) Tf.tapewrightref11_Digits.b2 (rebuild [.slot 3, .slot 0] (encKs [.str, .int .i64] a)) (bodyK [.slot 3, .slot 0] [.str, .int .i64] [⟨.exit 0, [.slot 3], [.str]⟩] L) = Tf.tapewrightref11_Digits.s2 F L a := by kernel_rfl
theorem Tf.tapewrightref11_Digits.l2_ok (F : Nat) : LoopOk Go.Proofs.Tryz.prog Go.VI.tyT.G 23 Tf.tapewrightref11_Digits.b2 (fun st κ => hand [.slot 3, .slot 0] [.str, .int .i64] [⟨.exit 0, [.slot 3], [.str]⟩] (Tf.tapewrightref11_Digits.l2 F) st κ) :=
  loop_ok Go.VI.tyT_ok rfl mix .nil (Λ := (look [] : Loops)) (LoopsOk.of (bs := []) (by kernel_rfl) .nil) (Tf.tapewrightref11_Digits.s2_ok F) F
def Tf.tapewrightref11_Digits.f (F : Nat) (a : Int) : Option ByteArray :=
 (Option.bind (Tf.tapewrightref11_Digits.l2 F ((strOf (List.set (List.replicate 1 (0 : Int)) 0 (Go.IntKind.wrap IntKind.u8 (Go.IntKind.wrap IntKind.i64 ((48 : Int) + (Int.tmod a (10 : Int))))))), a)) (fun y11 => (some y11)))
theorem Tf.tapewrightref11_Digits.f_ok (F : Nat) (a) : exec Go.VI.tyT (look [] : Fns) 23 (look [(2, fun st κ => hand [.slot 3, .slot 0] [.str, .int .i64] [⟨.exit 0, [.slot 3], [.str]⟩] (Tf.tapewrightref11_Digits.l2 F) st κ)] : Loops) Tf.tapewrightref11_Digits.c (init [.p] (encKs [.int .i64] a)) (finT (look [] : Fns) (⟨[.p], [.p]⟩ : Sig) [2] [.pure] [.str]) = Tf.tapewrightref11_Digits.f F a := by kernel_rfl
def Tf.tapewrightref11_Digits.e (F : Nat) : Fn := mkFn (⟨[.p], [.p]⟩ : Sig) [.int .i64] [.pure] [.str] (Tf.tapewrightref11_Digits.f F)
theorem Tf.tapewrightref11_Digits.ok (F : Nat) : EntryOk Go.Proofs.Tryz.prog Go.VI.tyT.G 52 (Tf.tapewrightref11_Digits.e F) :=
  fn_ok Go.VI.tyT_ok rfl mix .nil (Λ := (look [(2, fun st κ => hand [.slot 3, .slot 0] [.str, .int .i64] [⟨.exit 0, [.slot 3], [.str]⟩] (Tf.tapewrightref11_Digits.l2 F) st κ)] : Loops)) (fn := Go.Proofs.Tryz.f52) (c := Tf.tapewrightref11_Digits.c) (LoopsOk.of (bs := [Tf.tapewrightref11_Digits.b2]) (by kernel_rfl) (.cons rfl (Tf.tapewrightref11_Digits.l2_ok F) .nil)) (by kernel_rfl) (by kernel_rfl) (by kernel_rfl) (by kernel_rfl) (res1 (by kernel_rfl)) (by decide) (Tf.tapewrightref11_Digits.f_ok F)
end Go.VI

namespace Go.VI
open Go
noncomputable def Tf.tapewrightref11_Name.c : Code := (Go.Proofs.Tryz.f50.body).getD .skip
def Tf.tapewrightref11_Name.f (F : Nat) (a : (((List Go.VI.Node) × Int) × (ByteArray × Int))) : Option ByteArray :=
 (bif (inR a.2.2 (List.length a.1.1)) then (bif (!(seqB (List.getD a.1.1 (Int.toNat a.2.2) (dflt 6)).name (⟨#[]⟩ : ByteArray))) then (bif (inR a.2.2 (List.length a.1.1)) then (some (List.getD a.1.1 (Int.toNat a.2.2) (dflt 6)).name)
 else none)
 else (Option.bind (Tf.tapewrightref11_Digits.f F a.2.2) (fun y15 => (bif (Nat.ble ((ByteArray.size a.2.1) + (ByteArray.size y15)) 4611686018427387904) then (some (a.2.1 ++ y15))
 else none))))
 else none)
theorem Tf.tapewrightref11_Name.f_ok (F : Nat) (a) : exec Go.VI.tyT (look [(52, Tf.tapewrightref11_Digits.e F)] : Fns) 24 (look [] : Loops) Tf.tapewrightref11_Name.c (init [.v 301, .p, .p] (encKs [.st [.sl 6, .int .i64], .str, .int .i64] a)) (finT (look [(52, Tf.tapewrightref11_Digits.e F)] : Fns) (⟨[.v 301, .p, .p], [.p]⟩ : Sig) [6] [.pure] [.str]) = Tf.tapewrightref11_Name.f F a := by kernel_rfl
def Tf.tapewrightref11_Name.e (F : Nat) : Fn := mkFn (⟨[.v 301, .p, .p], [.p]⟩ : Sig) [.st [.sl 6, .int .i64], .str, .int .i64] [.pure] [.str] (Tf.tapewrightref11_Name.f F)
theorem Tf.tapewrightref11_Name.ok (F : Nat) : EntryOk Go.Proofs.Tryz.prog Go.VI.tyT.G 50 (Tf.tapewrightref11_Name.e F) :=
  fn_ok Go.VI.tyT_ok rfl mix (.cons (Tf.tapewrightref11_Digits.ok F) .nil) (Λ := (look [] : Loops)) (fn := Go.Proofs.Tryz.f50) (c := Tf.tapewrightref11_Name.c) (LoopsOk.of (bs := []) (by kernel_rfl) .nil) (by kernel_rfl) (by kernel_rfl) (by kernel_rfl) (by kernel_rfl) (res1 (by kernel_rfl)) (by decide) (Tf.tapewrightref11_Name.f_ok F)
end Go.VI

namespace Go.VI
open Go
noncomputable def Tf.tapewrightref11_unlike.c : Code := (Go.Proofs.Tryz.f49.body).getD .skip
noncomputable def Tf.tapewrightref11_unlike.b5 : Code := codeAt [1, 0, 1, 0, 0, 1, 0, 0, 1, 0, 0] Tf.tapewrightref11_unlike.c
def Tf.tapewrightref11_unlike.s5 (F : Nat) (L : (Int × (ByteArray × ((List Go.VI.Node) × (Int × Int)))) → Option (Bool ⊕ (ByteArray × ((List Go.VI.Node) × (Int × Int))))) (x : (Int × (ByteArray × ((List Go.VI.Node) × (Int × Int))))) : Option (Bool ⊕ (ByteArray × ((List Go.VI.Node) × (Int × Int)))) :=
 (bif (decide (x.1 < x.2.2.2.2)) then (Option.bind (Tf.tapewrightref11_Name.f F ((x.2.2.1, x.2.2.2.1), (x.2.1, x.2.2.2.2))) (fun y22 => (Option.bind (Tf.tapewrightref11_Name.f F ((x.2.2.1, x.2.2.2.1), (x.2.1, x.1))) (fun y27 => (bif (seqB y22 y27) then (some (.inl Bool.false))
 else (L ((Go.IntKind.wrap IntKind.i64 (x.1 + (1 : Int))), (x.2.1, (x.2.2.1, (x.2.2.2.1, x.2.2.2.2))))))))))
 else (some (.inr (x.2.1, (x.2.2.1, (x.2.2.2.1, x.2.2.2.2))))))
def Tf.tapewrightref11_unlike.l5 (F : Nat) : (Int × (ByteArray × ((List Go.VI.Node) × (Int × Int)))) → Option (Bool ⊕ (ByteArray × ((List Go.VI.Node) × (Int × Int)))) := iter (Tf.tapewrightref11_unlike.s5 F) F
theorem Tf.tapewrightref11_unlike.s5_ok (F : Nat) (L a) : exec Go.VI.tyT (look [(50, Tf.tapewrightref11_Name.e F)] : Fns) 28 (look [] : Loops) Tf.tapewrightref11_unlike.b5 (rebuild [.slot 6, .slot 1, .box 2 [none, none], .slot 5] (encKs [.int .i64, .str, .sl 6, .int .i64, .int .i64] a)) (bodyK [.slot 6, .slot 1, .box 2 [none, none], .slot 5] [.int .i64, .str, .sl 6, .int .i64, .int .i64] [⟨.ret, [.slot 4], [.bool]⟩, ⟨.exit 2, [.slot 1, .box 2 [none, none], .slot 5], [.str, .sl 6, .int .i64, .int .i64]⟩] L) = Tf.tapewrightref11_unlike.s5 F L a := by kernel_rfl
theorem Tf.tapewrightref11_unlike.l5_ok (F : Nat) : LoopOk Go.Proofs.Tryz.prog Go.VI.tyT.G 28 Tf.tapewrightref11_unlike.b5 (fun st κ => hand [.slot 6, .slot 1, .box 2 [none, none], .slot 5] [.int .i64, .str, .sl 6, .int .i64, .int .i64] [⟨.ret, [.slot 4], [.bool]⟩, ⟨.exit 2, [.slot 1, .box 2 [none, none], .slot 5], [.str, .sl 6, .int .i64, .int .i64]⟩] (Tf.tapewrightref11_unlike.l5 F) st κ) :=
  loop_ok Go.VI.tyT_ok rfl mix (.cons (Tf.tapewrightref11_Name.ok F) .nil) (Λ := (look [] : Loops)) (LoopsOk.of (bs := []) (by kernel_rfl) .nil) (Tf.tapewrightref11_unlike.s5_ok F) F
noncomputable def Tf.tapewrightref11_unlike.b2 : Code := codeAt [1, 0, 1, 0, 0] Tf.tapewrightref11_unlike.c
def Tf.tapewrightref11_unlike.s2 (F : Nat) (L : (ByteArray × ((List Go.VI.Node) × (Int × Int))) → Option (Bool ⊕ Unit)) (x : (ByteArray × ((List Go.VI.Node) × (Int × Int)))) : Option (Bool ⊕ Unit) :=
 (bif (decide (x.2.2.2 < ((List.length x.2.1) : Int))) then (Option.bind (Tf.tapewrightref11_unlike.l5 F ((0 : Int), (x.1, (x.2.1, (x.2.2.1, x.2.2.2))))) (fun y13 => (sumE y13 (fun y14 => (some (.inl y14))) (fun y14 => (L (y14.1, (y14.2.1, (y14.2.2.1, (Go.IntKind.wrap IntKind.i64 (y14.2.2.2 + (1 : Int)))))))))))
 else (some (.inr ())))
def Tf.tapewrightref11_unlike.l2 (F : Nat) : (ByteArray × ((List Go.VI.Node) × (Int × Int))) → Option (Bool ⊕ Unit) := iter (Tf.tapewrightref11_unlike.s2 F) F
theorem Tf.tapewrightref11_unlike.s2_ok (F : Nat) (L a) : exec Go.VI.tyT (look [(50, Tf.tapewrightref11_Name.e F)] : Fns) 28 (look [(5, fun st κ => hand [.slot 6, .slot 1, .box 2 [none, none], .slot 5] [.int .i64, .str, .sl 6, .int .i64, .int .i64] [⟨.ret, [.slot 4], [.bool]⟩, ⟨.exit 2, [.slot 1, .box 2 [none, none], .slot 5], [.str, .sl 6, .int .i64, .int .i64]⟩] (Tf.tapewrightref11_unlike.l5 F) st κ)] : Loops) Tf.tapewrightref11_unlike.b2 (rebuild [.slot 1, .box 2 [none, none], .slot 5] (encKs [.str, .sl 6, .int .i64, .int .i64] a)) (bodyK [.slot 1, .box 2 [none, none], .slot 5] [.str, .sl 6, .int .i64, .int .i64] [⟨.ret, [.slot 4], [.bool]⟩, ⟨.exit 0, [], []⟩] L) = Tf.tapewrightref11_unlike.s2 F L a := by kernel_rfl
theorem Tf.tapewrightref11_unlike.l2_ok (F : Nat) : LoopOk Go.Proofs.Tryz.prog Go.VI.tyT.G 28 Tf.tapewrightref11_unlike.b2 (fun st κ => hand [.slot 1, .box 2 [none, none], .slot 5] [.str, .sl 6, .int .i64, .int .i64] [⟨.ret, [.slot 4], [.bool]⟩, ⟨.exit 0, [], []⟩] (Tf.tapewrightref11_unlike.l2 F) st κ) :=
  loop_ok Go.VI.tyT_ok rfl mix (.cons (Tf.tapewrightref11_Name.ok F) .nil) (Λ := (look [(5, fun st κ => hand [.slot 6, .slot 1, .box 2 [none, none], .slot 5] [.int .i64, .str, .sl 6, .int .i64, .int .i64] [⟨.ret, [.slot 4], [.bool]⟩, ⟨.exit 2, [.slot 1, .box 2 [none, none], .slot 5], [.str, .sl 6, .int .i64, .int .i64]⟩] (Tf.tapewrightref11_unlike.l5 F) st κ)] : Loops)) (LoopsOk.of (bs := [Tf.tapewrightref11_unlike.b5]) (by kernel_rfl) (.cons rfl (Tf.tapewrightref11_unlike.l5_ok F) .nil)) (Tf.tapewrightref11_unlike.s2_ok F) F
def Tf.tapewrightref11_unlike.f (F : Nat) (a : (((List Go.VI.Node) × Int) × ByteArray)) : Option Bool :=
 (Option.bind (Tf.tapewrightref11_unlike.l2 F (a.2, (a.1.1, (a.1.2, (0 : Int))))) (fun y6 => (sumE y6 (fun y7 => (some y7)) (fun y7 => (some Bool.true)))))
theorem Tf.tapewrightref11_unlike.f_ok (F : Nat) (a) : exec Go.VI.tyT (look [(50, Tf.tapewrightref11_Name.e F)] : Fns) 28 (look [(2, fun st κ => hand [.slot 1, .box 2 [none, none], .slot 5] [.str, .sl 6, .int .i64, .int .i64] [⟨.ret, [.slot 4], [.bool]⟩, ⟨.exit 0, [], []⟩] (Tf.tapewrightref11_unlike.l2 F) st κ)] : Loops) Tf.tapewrightref11_unlike.c (init [.v 301, .p] (encKs [.st [.sl 6, .int .i64], .str] a)) (finT (look [(50, Tf.tapewrightref11_Name.e F)] : Fns) (⟨[.v 301, .p], [.p]⟩ : Sig) [4] [.pure] [.bool]) = Tf.tapewrightref11_unlike.f F a := by kernel_rfl
def Tf.tapewrightref11_unlike.e (F : Nat) : Fn := mkFn (⟨[.v 301, .p], [.p]⟩ : Sig) [.st [.sl 6, .int .i64], .str] [.pure] [.bool] (Tf.tapewrightref11_unlike.f F)
theorem Tf.tapewrightref11_unlike.ok (F : Nat) : EntryOk Go.Proofs.Tryz.prog Go.VI.tyT.G 49 (Tf.tapewrightref11_unlike.e F) :=
  fn_ok Go.VI.tyT_ok rfl mix (.cons (Tf.tapewrightref11_Name.ok F) .nil) (Λ := (look [(2, fun st κ => hand [.slot 1, .box 2 [none, none], .slot 5] [.str, .sl 6, .int .i64, .int .i64] [⟨.ret, [.slot 4], [.bool]⟩, ⟨.exit 0, [], []⟩] (Tf.tapewrightref11_unlike.l2 F) st κ)] : Loops)) (fn := Go.Proofs.Tryz.f49) (c := Tf.tapewrightref11_unlike.c) (LoopsOk.of (bs := [Tf.tapewrightref11_unlike.b2]) (by kernel_rfl) (.cons rfl (Tf.tapewrightref11_unlike.l2_ok F) .nil)) (by kernel_rfl) (by kernel_rfl) (by kernel_rfl) (by kernel_rfl) (res1 (by kernel_rfl)) (by decide) (Tf.tapewrightref11_unlike.f_ok F)
end Go.VI

namespace Go.VI
open Go
noncomputable def Tf.tapewrightref11_numbers.c : Code := (Go.Proofs.Tryz.f51.body).getD .skip
noncomputable def Tf.tapewrightref11_numbers.b3 : Code := codeAt [1, 1, 0, 1, 0, 0] Tf.tapewrightref11_numbers.c
def Tf.tapewrightref11_numbers.s3 (F : Nat) (L : (Int × ((List Int) × ByteArray)) → Option ByteArray) (x : (Int × ((List Int) × ByteArray))) : Option ByteArray :=
 (bif (decide (x.1 < ((List.length x.2.1) : Int))) then (bif (Nat.ble ((ByteArray.size x.2.2) + 1) 4611686018427387904) then (bif (inR x.1 (List.length x.2.1)) then (Option.bind (Tf.tapewrightref11_Digits.f F (List.getD x.2.1 (Int.toNat x.1) (0 : Int))) (fun y18 => (bif (Nat.ble ((ByteArray.size (x.2.2 ++ (⟨#[32]⟩ : ByteArray))) + (ByteArray.size y18)) 4611686018427387904) then (L ((Go.IntKind.wrap IntKind.i64 (x.1 + (1 : Int))), (x.2.1, ((x.2.2 ++ (⟨#[32]⟩ : ByteArray)) ++ y18))))
 else none)))
 else none)
 else none)
 else (some x.2.2))
def Tf.tapewrightref11_numbers.l3 (F : Nat) : (Int × ((List Int) × ByteArray)) → Option ByteArray := iter (Tf.tapewrightref11_numbers.s3 F) F
theorem Tf.tapewrightref11_numbers.s3_ok (F : Nat) (L a) : exec Go.VI.tyT (look [(52, Tf.tapewrightref11_Digits.e F)] : Fns) 20 (look [] : Loops) Tf.tapewrightref11_numbers.b3 (rebuild [.slot 4, .view 0 0, .slot 3] (encKs [.int .i64, .sl 0, .str] a)) (bodyK [.slot 4, .view 0 0, .slot 3] [.int .i64, .sl 0, .str] [⟨.exit 0, [.slot 3], [.str]⟩] L) = Tf.tapewrightref11_numbers.s3 F L a := by kernel_rfl
theorem Tf.tapewrightref11_numbers.l3_ok (F : Nat) : LoopOk Go.Proofs.Tryz.prog Go.VI.tyT.G 20 Tf.tapewrightref11_numbers.b3 (fun st κ => hand [.slot 4, .view 0 0, .slot 3] [.int .i64, .sl 0, .str] [⟨.exit 0, [.slot 3], [.str]⟩] (Tf.tapewrightref11_numbers.l3 F) st κ) :=
  loop_ok Go.VI.tyT_ok rfl mix (.cons (Tf.tapewrightref11_Digits.ok F) .nil) (Λ := (look [] : Loops)) (LoopsOk.of (bs := []) (by kernel_rfl) .nil) (Tf.tapewrightref11_numbers.s3_ok F) F
def Tf.tapewrightref11_numbers.f (F : Nat) (a : (List Int)) : Option ByteArray :=
 (Option.bind (Tf.tapewrightref11_numbers.l3 F ((0 : Int), (a, (⟨#[]⟩ : ByteArray)))) (fun y6 => (some y6)))
theorem Tf.tapewrightref11_numbers.f_ok (F : Nat) (a) : exec Go.VI.tyT (look [(52, Tf.tapewrightref11_Digits.e F)] : Fns) 20 (look [(3, fun st κ => hand [.slot 4, .view 0 0, .slot 3] [.int .i64, .sl 0, .str] [⟨.exit 0, [.slot 3], [.str]⟩] (Tf.tapewrightref11_numbers.l3 F) st κ)] : Loops) Tf.tapewrightref11_numbers.c (init [.v 0] (encKs [.sl 0] a)) (finT (look [(52, Tf.tapewrightref11_Digits.e F)] : Fns) (⟨[.v 0], [.p]⟩ : Sig) [2] [.pure] [.str]) = Tf.tapewrightref11_numbers.f F a := by kernel_rfl
def Tf.tapewrightref11_numbers.e (F : Nat) : Fn := mkFn (⟨[.v 0], [.p]⟩ : Sig) [.sl 0] [.pure] [.str] (Tf.tapewrightref11_numbers.f F)
theorem Tf.tapewrightref11_numbers.ok (F : Nat) : EntryOk Go.Proofs.Tryz.prog Go.VI.tyT.G 51 (Tf.tapewrightref11_numbers.e F) :=
  fn_ok Go.VI.tyT_ok rfl mix (.cons (Tf.tapewrightref11_Digits.ok F) .nil) (Λ := (look [(3, fun st κ => hand [.slot 4, .view 0 0, .slot 3] [.int .i64, .sl 0, .str] [⟨.exit 0, [.slot 3], [.str]⟩] (Tf.tapewrightref11_numbers.l3 F) st κ)] : Loops)) (fn := Go.Proofs.Tryz.f51) (c := Tf.tapewrightref11_numbers.c) (LoopsOk.of (bs := [Tf.tapewrightref11_numbers.b3]) (by kernel_rfl) (.cons rfl (Tf.tapewrightref11_numbers.l3_ok F) .nil)) (by kernel_rfl) (by kernel_rfl) (by kernel_rfl) (by kernel_rfl) (res1 (by kernel_rfl)) (by decide) (Tf.tapewrightref11_numbers.f_ok F)
end Go.VI

namespace Go.VI
open Go
noncomputable def Tf.tapewrightref11_Text.c : Code := (Go.Proofs.Tryz.f26.body).getD .skip
noncomputable def Tf.tapewrightref11_Text.b2 : Code := codeAt [1, 1, 0, 0, 0] Tf.tapewrightref11_Text.c
def Tf.tapewrightref11_Text.s2 (F : Nat) (L : (ByteArray × ((List Go.VI.Node) × Int)) → Option (ByteArray × ((List Go.VI.Node) × Int))) (x : (ByteArray × ((List Go.VI.Node) × Int))) : Option (ByteArray × ((List Go.VI.Node) × Int)) :=
 (Option.bind (Tf.tapewrightref11_unlike.f F ((x.2.1, x.2.2), x.1)) (fun y11 => (bif (!y11) then (bif (Nat.ble ((ByteArray.size x.1) + 1) 4611686018427387904) then (L ((x.1 ++ (⟨#[122]⟩ : ByteArray)), (x.2.1, x.2.2)))
 else none)
 else (some (x.1, (x.2.1, x.2.2))))))
def Tf.tapewrightref11_Text.l2 (F : Nat) : (ByteArray × ((List Go.VI.Node) × Int)) → Option (ByteArray × ((List Go.VI.Node) × Int)) := iter (Tf.tapewrightref11_Text.s2 F) F
theorem Tf.tapewrightref11_Text.s2_ok (F : Nat) (L a) : exec Go.VI.tyT (look [(49, Tf.tapewrightref11_unlike.e F), (50, Tf.tapewrightref11_Name.e F), (51, Tf.tapewrightref11_numbers.e F), (52, Tf.tapewrightref11_Digits.e F)] : Fns) 153 (look [] : Loops) Tf.tapewrightref11_Text.b2 (rebuild [.slot 4, .box 1 [none, none]] (encKs [.str, .sl 6, .int .i64] a)) (bodyK [.slot 4, .box 1 [none, none]] [.str, .sl 6, .int .i64] [⟨.exit 0, [.slot 4, .box 1 [none, none]], [.str, .sl 6, .int .i64]⟩] L) = Tf.tapewrightref11_Text.s2 F L a := by kernel_rfl
theorem Tf.tapewrightref11_Text.l2_ok (F : Nat) : LoopOk Go.Proofs.Tryz.prog Go.VI.tyT.G 153 Tf.tapewrightref11_Text.b2 (fun st κ => hand [.slot 4, .box 1 [none, none]] [.str, .sl 6, .int .i64] [⟨.exit 0, [.slot 4, .box 1 [none, none]], [.str, .sl 6, .int .i64]⟩] (Tf.tapewrightref11_Text.l2 F) st κ) :=
  loop_ok Go.VI.tyT_ok rfl mix (.cons (Tf.tapewrightref11_unlike.ok F) (.cons (Tf.tapewrightref11_Name.ok F) (.cons (Tf.tapewrightref11_numbers.ok F) (.cons (Tf.tapewrightref11_Digits.ok F) .nil)))) (Λ := (look [] : Loops)) (LoopsOk.of (bs := []) (by kernel_rfl) .nil) (Tf.tapewrightref11_Text.s2_ok F) F
noncomputable def Tf.tapewrightref11_Text.b17 : Code := codeAt [1, 1, 1, 1, 0, 1, 0, 0, 1, 0, 0, 1, 1, 1, 0, 1, 0, 1, 1, 0, 1, 1, 0, 0] Tf.tapewrightref11_Text.c
def Tf.tapewrightref11_Text.s17 (F : Nat) (L : (Int × (ByteArray × ((List ByteArray) × (ByteArray × ((List Go.VI.Node) × (Int × (Int × Int))))))) → Option (ByteArray × ((List Go.VI.Node) × (Int × (Int × ByteArray))))) (x : (Int × (ByteArray × ((List ByteArray) × (ByteArray × ((List Go.VI.Node) × (Int × (Int × Int)))))))) : Option (ByteArray × ((List Go.VI.Node) × (Int × (Int × ByteArray)))) :=
 (bif (decide (x.1 < x.2.2.2.2.2.2.2)) then (bif (inR x.1 (List.length x.2.2.1)) then (bif (Nat.ble ((ByteArray.size x.2.1) + 1) 4611686018427387904) then (bif (Nat.ble ((ByteArray.size (x.2.1 ++ (⟨#[32]⟩ : ByteArray))) + (ByteArray.size (List.getD x.2.2.1 (Int.toNat x.1) (dflt 4)))) 4611686018427387904) then (L ((Go.IntKind.wrap IntKind.i64 (x.1 + (1 : Int))), (((x.2.1 ++ (⟨#[32]⟩ : ByteArray)) ++ (List.getD x.2.2.1 (Int.toNat x.1) (dflt 4))), (x.2.2.1, (x.2.2.2.1, (x.2.2.2.2.1, (x.2.2.2.2.2.1, (x.2.2.2.2.2.2.1, x.2.2.2.2.2.2.2))))))))
 else none)
 else none)
 else none)
 else (some (x.2.2.2.1, (x.2.2.2.2.1, (x.2.2.2.2.2.1, (x.2.2.2.2.2.2.1, x.2.1))))))
def Tf.tapewrightref11_Text.l17 (F : Nat) : (Int × (ByteArray × ((List ByteArray) × (ByteArray × ((List Go.VI.Node) × (Int × (Int × Int))))))) → Option (ByteArray × ((List Go.VI.Node) × (Int × (Int × ByteArray)))) := iter (Tf.tapewrightref11_Text.s17 F) F
theorem Tf.tapewrightref11_Text.s17_ok (F : Nat) (L a) : exec Go.VI.tyT (look [(49, Tf.tapewrightref11_unlike.e F), (50, Tf.tapewrightref11_Name.e F), (51, Tf.tapewrightref11_numbers.e F), (52, Tf.tapewrightref11_Digits.e F)] : Fns) 153 (look [] : Loops) Tf.tapewrightref11_Text.b17 (rebuild [.slot 70, .slot 5, .view 68 4, .slot 4, .box 1 [none, none], .slot 6, .slot 69] (encKs [.int .i64, .str, .sl 4, .str, .sl 6, .int .i64, .int .i64, .int .i64] a)) (bodyK [.slot 70, .slot 5, .view 68 4, .slot 4, .box 1 [none, none], .slot 6, .slot 69] [.int .i64, .str, .sl 4, .str, .sl 6, .int .i64, .int .i64, .int .i64] [⟨.exit 4, [.slot 4, .box 1 [none, none], .slot 6, .slot 5], [.str, .sl 6, .int .i64, .int .i64, .str]⟩] L) = Tf.tapewrightref11_Text.s17 F L a := by kernel_rfl
theorem Tf.tapewrightref11_Text.l17_ok (F : Nat) : LoopOk Go.Proofs.Tryz.prog Go.VI.tyT.G 153 Tf.tapewrightref11_Text.b17 (fun st κ => hand [.slot 70, .slot 5, .view 68 4, .slot 4, .box 1 [none, none], .slot 6, .slot 69] [.int .i64, .str, .sl 4, .str, .sl 6, .int .i64, .int .i64, .int .i64] [⟨.exit 4, [.slot 4, .box 1 [none, none], .slot 6, .slot 5], [.str, .sl 6, .int .i64, .int .i64, .str]⟩] (Tf.tapewrightref11_Text.l17 F) st κ) :=
  loop_ok Go.VI.tyT_ok rfl mix (.cons (Tf.tapewrightref11_unlike.ok F) (.cons (Tf.tapewrightref11_Name.ok F) (.cons (Tf.tapewrightref11_numbers.ok F) (.cons (Tf.tapewrightref11_Digits.ok F) .nil)))) (Λ := (look [] : Loops)) (LoopsOk.of (bs := []) (by kernel_rfl) .nil) (Tf.tapewrightref11_Text.s17_ok F) F
noncomputable def Tf.tapewrightref11_Text.b23 : Code := codeAt [1, 1, 1, 1, 0, 1, 0, 0, 1, 0, 0, 1, 1, 1, 0, 1, 1, 1, 0, 1, 0, 0] Tf.tapewrightref11_Text.c
def Tf.tapewrightref11_Text.s23 (F : Nat) (L : (Int × (ByteArray × (Int × (Int × (ByteArray × ((List Int) × (ByteArray × (Int × ((List ByteArray) × (ByteArray × ((List Go.VI.Node) × (Int × (ByteArray × ((List ByteArray) × (Int × Int))))))))))))))) → Option (ByteArray × ((List Go.VI.Node) × (Int × (Int × (ByteArray × (Int × (Int × (ByteArray × ((List Int) × (ByteArray × (Int × ((List ByteArray) × ByteArray))))))))))))) (x : (Int × (ByteArray × (Int × (Int × (ByteArray × ((List Int) × (ByteArray × (Int × ((List ByteArray) × (ByteArray × ((List Go.VI.Node) × (Int × (ByteArray × ((List ByteArray) × (Int × Int)))))))))))))))) : Option (ByteArray × ((List Go.VI.Node) × (Int × (Int × (ByteArray × (Int × (Int × (ByteArray × ((List Int) × (ByteArray × (Int × ((List ByteArray) × ByteArray)))))))))))) :=
 (bif (decide (x.1 < x.2.2.2.2.2.2.2.2.2.2.2.2.2.2.2)) then (bif (inR x.1 (List.length x.2.2.2.2.2.2.2.2.2.2.2.2.2.1)) then (bif (seqB x.2.1 (List.getD x.2.2.2.2.2.2.2.2.2.2.2.2.2.1 (Int.toNat x.1) (dflt 4))) then (bif (Nat.ble ((ByteArray.size x.2.2.2.2.2.2.2.2.2.2.2.2.1) + 1) 4611686018427387904) then (Option.bind (Tf.tapewrightref11_Name.f F ((x.2.2.2.2.2.2.2.2.2.2.1, x.2.2.2.2.2.2.2.2.2.2.2.1), (x.2.2.2.2.2.2.2.2.2.1, x.2.2.2.1))) (fun y81 => (bif (Nat.ble ((ByteArray.size (x.2.2.2.2.2.2.2.2.2.2.2.2.1 ++ (⟨#[32]⟩ : ByteArray))) + (ByteArray.size y81)) 4611686018427387904) then (L ((Go.IntKind.wrap IntKind.i64 (x.1 + (1 : Int))), (x.2.1, (x.2.2.1, (x.2.2.2.1, (x.2.2.2.2.1, (x.2.2.2.2.2.1, (x.2.2.2.2.2.2.1, (x.2.2.2.2.2.2.2.1, (x.2.2.2.2.2.2.2.2.1, (x.2.2.2.2.2.2.2.2.2.1, (x.2.2.2.2.2.2.2.2.2.2.1, (x.2.2.2.2.2.2.2.2.2.2.2.1, (((x.2.2.2.2.2.2.2.2.2.2.2.2.1 ++ (⟨#[32]⟩ : ByteArray)) ++ y81), (x.2.2.2.2.2.2.2.2.2.2.2.2.2.1, (x.2.2.2.2.2.2.2.2.2.2.2.2.2.2.1, x.2.2.2.2.2.2.2.2.2.2.2.2.2.2.2))))))))))))))))
 else none)))
 else none)
 else (L ((Go.IntKind.wrap IntKind.i64 (x.1 + (1 : Int))), (x.2.1, (x.2.2.1, (x.2.2.2.1, (x.2.2.2.2.1, (x.2.2.2.2.2.1, (x.2.2.2.2.2.2.1, (x.2.2.2.2.2.2.2.1, (x.2.2.2.2.2.2.2.2.1, (x.2.2.2.2.2.2.2.2.2.1, (x.2.2.2.2.2.2.2.2.2.2.1, (x.2.2.2.2.2.2.2.2.2.2.2.1, (x.2.2.2.2.2.2.2.2.2.2.2.2.1, (x.2.2.2.2.2.2.2.2.2.2.2.2.2.1, (x.2.2.2.2.2.2.2.2.2.2.2.2.2.2.1, x.2.2.2.2.2.2.2.2.2.2.2.2.2.2.2)))))))))))))))))
 else none)
 else (some (x.2.2.2.2.2.2.2.2.2.1, (x.2.2.2.2.2.2.2.2.2.2.1, (x.2.2.2.2.2.2.2.2.2.2.2.1, (x.2.2.2.2.2.2.2.2.2.2.2.2.2.2.1, (x.2.1, (x.2.2.1, (x.2.2.2.1, (x.2.2.2.2.1, (x.2.2.2.2.2.1, (x.2.2.2.2.2.2.1, (x.2.2.2.2.2.2.2.1, (x.2.2.2.2.2.2.2.2.1, x.2.2.2.2.2.2.2.2.2.2.2.2.1))))))))))))))
def Tf.tapewrightref11_Text.l23 (F : Nat) : (Int × (ByteArray × (Int × (Int × (ByteArray × ((List Int) × (ByteArray × (Int × ((List ByteArray) × (ByteArray × ((List Go.VI.Node) × (Int × (ByteArray × ((List ByteArray) × (Int × Int))))))))))))))) → Option (ByteArray × ((List Go.VI.Node) × (Int × (Int × (ByteArray × (Int × (Int × (ByteArray × ((List Int) × (ByteArray × (Int × ((List ByteArray) × ByteArray)))))))))))) := iter (Tf.tapewrightref11_Text.s23 F) F
theorem Tf.tapewrightref11_Text.s23_ok (F : Nat) (L a) : exec Go.VI.tyT (look [(49, Tf.tapewrightref11_unlike.e F), (50, Tf.tapewrightref11_Name.e F), (51, Tf.tapewrightref11_numbers.e F), (52, Tf.tapewrightref11_Digits.e F)] : Fns) 153 (look [] : Loops) Tf.tapewrightref11_Text.b23 (rebuild [.slot 95, .box 7 [none, none, none, none, none, none, none, none], .slot 4, .box 1 [none, none], .slot 5, .own 93 4, .slot 6, .slot 94] (encKs [.int .i64, .str, .int .i64, .int .i64, .str, .sl 0, .str, .int .i64, .sl 4, .str, .sl 6, .int .i64, .str, .sl 4, .int .i64, .int .i64] a)) (bodyK [.slot 95, .box 7 [none, none, none, none, none, none, none, none], .slot 4, .box 1 [none, none], .slot 5, .own 93 4, .slot 6, .slot 94] [.int .i64, .str, .int .i64, .int .i64, .str, .sl 0, .str, .int .i64, .sl 4, .str, .sl 6, .int .i64, .str, .sl 4, .int .i64, .int .i64] [⟨.exit 6, [.slot 4, .box 1 [none, none], .slot 6, .box 7 [none, none, none, none, none, none, none, none], .slot 5], [.str, .sl 6, .int .i64, .int .i64, .str, .int .i64, .int .i64, .str, .sl 0, .str, .int .i64, .sl 4, .str]⟩] L) = Tf.tapewrightref11_Text.s23 F L a := by kernel_rfl
theorem Tf.tapewrightref11_Text.l23_ok (F : Nat) : LoopOk Go.Proofs.Tryz.prog Go.VI.tyT.G 153 Tf.tapewrightref11_Text.b23 (fun st κ => hand [.slot 95, .box 7 [none, none, none, none, none, none, none, none], .slot 4, .box 1 [none, none], .slot 5, .own 93 4, .slot 6, .slot 94] [.int .i64, .str, .int .i64, .int .i64, .str, .sl 0, .str, .int .i64, .sl 4, .str, .sl 6, .int .i64, .str, .sl 4, .int .i64, .int .i64] [⟨.exit 6, [.slot 4, .box 1 [none, none], .slot 6, .box 7 [none, none, none, none, none, none, none, none], .slot 5], [.str, .sl 6, .int .i64, .int .i64, .str, .int .i64, .int .i64, .str, .sl 0, .str, .int .i64, .sl 4, .str]⟩] (Tf.tapewrightref11_Text.l23 F) st κ) :=
  loop_ok Go.VI.tyT_ok rfl mix (.cons (Tf.tapewrightref11_unlike.ok F) (.cons (Tf.tapewrightref11_Name.ok F) (.cons (Tf.tapewrightref11_numbers.ok F) (.cons (Tf.tapewrightref11_Digits.ok F) .nil)))) (Λ := (look [] : Loops)) (LoopsOk.of (bs := []) (by kernel_rfl) .nil) (Tf.tapewrightref11_Text.s23_ok F) F
noncomputable def Tf.tapewrightref11_Text.b6 : Code := codeAt [1, 1, 1, 1, 0, 1, 0, 0] Tf.tapewrightref11_Text.c
def Tf.tapewrightref11_Text.s6 (F : Nat) (L : (Int × (ByteArray × (ByteArray × ((List Go.VI.Node) × Int)))) → Option ((ByteArray × Bool) ⊕ ((List Go.VI.Node) × (Int × (ByteArray × ByteArray))))) (x : (Int × (ByteArray × (ByteArray × ((List Go.VI.Node) × Int))))) : Option ((ByteArray × Bool) ⊕ ((List Go.VI.Node) × (Int × (ByteArray × ByteArray)))) :=
 (bif (decide (x.1 < ((List.length x.2.2.2.1) : Int))) then (bif (inR x.1 (List.length x.2.2.2.1)) then (Option.bind (Tf.tapewrightref11_Name.f F ((x.2.2.2.1, x.2.2.2.2), (x.2.2.1, x.1))) (fun y27 => (bif (decide (((ByteArray.size y27) : Int) > (8 : Int))) then (some (.inl ((⟨#[]⟩ : ByteArray), Bool.false)))
 else (bif (seqB (List.getD x.2.2.2.1 (Int.toNat x.1) (dflt 6)).op (⟨#[112, 97, 114, 97, 109]⟩ : ByteArray)) then (bif (Nat.ble ((ByteArray.size x.2.1) + (ByteArray.size (List.getD x.2.2.2.1 (Int.toNat x.1) (dflt 6)).op)) 4611686018427387904) then (bif (Nat.ble ((ByteArray.size (x.2.1 ++ (List.getD x.2.2.2.1 (Int.toNat x.1) (dflt 6)).op)) + 1) 4611686018427387904) then (bif (Nat.ble ((ByteArray.size ((x.2.1 ++ (List.getD x.2.2.2.1 (Int.toNat x.1) (dflt 6)).op) ++ (⟨#[32]⟩ : ByteArray))) + (ByteArray.size y27)) 4611686018427387904) then (Option.bind (Tf.tapewrightref11_numbers.f F (List.getD x.2.2.2.1 (Int.toNat x.1) (dflt 6)).shape) (fun y49 => (bif (Nat.ble ((ByteArray.size (((x.2.1 ++ (List.getD x.2.2.2.1 (Int.toNat x.1) (dflt 6)).op) ++ (⟨#[32]⟩ : ByteArray)) ++ y27)) + (ByteArray.size y49)) 4611686018427387904) then (bif (seqB (List.getD x.2.2.2.1 (Int.toNat x.1) (dflt 6)).op (⟨#[99, 111, 110, 115, 116]⟩ : ByteArray)) then (bif (Nat.ble ((ByteArray.size ((((x.2.1 ++ (List.getD x.2.2.2.1 (Int.toNat x.1) (dflt 6)).op) ++ (⟨#[32]⟩ : ByteArray)) ++ y27) ++ y49)) + 2) 4611686018427387904) then (Option.bind (Tf.tapewrightref11_Text.l17 F ((0 : Int), ((((((x.2.1 ++ (List.getD x.2.2.2.1 (Int.toNat x.1) (dflt 6)).op) ++ (⟨#[32]⟩ : ByteArray)) ++ y27) ++ y49) ++ (⟨#[32, 61]⟩ : ByteArray)), ((List.getD x.2.2.2.1 (Int.toNat x.1) (dflt 6)).data, (x.2.2.1, (x.2.2.2.1, (x.2.2.2.2, (x.1, ((List.length (List.getD x.2.2.2.1 (Int.toNat x.1) (dflt 6)).data) : Int))))))))) (fun y62 => (bif (Nat.ble ((ByteArray.size y62.2.2.2.2) + 1) 4611686018427387904) then (L ((Go.IntKind.wrap IntKind.i64 (y62.2.2.2.1 + (1 : Int))), ((y62.2.2.2.2 ++ (⟨#[10]⟩ : ByteArray)), (y62.1, (y62.2.1, y62.2.2.1)))))
 else none)))
 else none)
 else (bif (Nat.ble ((ByteArray.size ((((x.2.1 ++ (List.getD x.2.2.2.1 (Int.toNat x.1) (dflt 6)).op) ++ (⟨#[32]⟩ : ByteArray)) ++ y27) ++ y49)) + 1) 4611686018427387904) then (L ((Go.IntKind.wrap IntKind.i64 (x.1 + (1 : Int))), ((((((x.2.1 ++ (List.getD x.2.2.2.1 (Int.toNat x.1) (dflt 6)).op) ++ (⟨#[32]⟩ : ByteArray)) ++ y27) ++ y49) ++ (⟨#[10]⟩ : ByteArray)), (x.2.2.1, (x.2.2.2.1, x.2.2.2.2)))))
 else none))
 else none)))
 else none)
 else none)
 else none)
 else (bif (seqB (List.getD x.2.2.2.1 (Int.toNat x.1) (dflt 6)).op (⟨#[105, 110, 112, 117, 116]⟩ : ByteArray)) then (bif (Nat.ble ((ByteArray.size x.2.1) + (ByteArray.size (List.getD x.2.2.2.1 (Int.toNat x.1) (dflt 6)).op)) 4611686018427387904) then (bif (Nat.ble ((ByteArray.size (x.2.1 ++ (List.getD x.2.2.2.1 (Int.toNat x.1) (dflt 6)).op)) + 1) 4611686018427387904) then (bif (Nat.ble ((ByteArray.size ((x.2.1 ++ (List.getD x.2.2.2.1 (Int.toNat x.1) (dflt 6)).op) ++ (⟨#[32]⟩ : ByteArray))) + (ByteArray.size y27)) 4611686018427387904) then (Option.bind (Tf.tapewrightref11_numbers.f F (List.getD x.2.2.2.1 (Int.toNat x.1) (dflt 6)).shape) (fun y52 => (bif (Nat.ble ((ByteArray.size (((x.2.1 ++ (List.getD x.2.2.2.1 (Int.toNat x.1) (dflt 6)).op) ++ (⟨#[32]⟩ : ByteArray)) ++ y27)) + (ByteArray.size y52)) 4611686018427387904) then (bif (seqB (List.getD x.2.2.2.1 (Int.toNat x.1) (dflt 6)).op (⟨#[99, 111, 110, 115, 116]⟩ : ByteArray)) then (bif (Nat.ble ((ByteArray.size ((((x.2.1 ++ (List.getD x.2.2.2.1 (Int.toNat x.1) (dflt 6)).op) ++ (⟨#[32]⟩ : ByteArray)) ++ y27) ++ y52)) + 2) 4611686018427387904) then (Option.bind (Tf.tapewrightref11_Text.l17 F ((0 : Int), ((((((x.2.1 ++ (List.getD x.2.2.2.1 (Int.toNat x.1) (dflt 6)).op) ++ (⟨#[32]⟩ : ByteArray)) ++ y27) ++ y52) ++ (⟨#[32, 61]⟩ : ByteArray)), ((List.getD x.2.2.2.1 (Int.toNat x.1) (dflt 6)).data, (x.2.2.1, (x.2.2.2.1, (x.2.2.2.2, (x.1, ((List.length (List.getD x.2.2.2.1 (Int.toNat x.1) (dflt 6)).data) : Int))))))))) (fun y65 => (bif (Nat.ble ((ByteArray.size y65.2.2.2.2) + 1) 4611686018427387904) then (L ((Go.IntKind.wrap IntKind.i64 (y65.2.2.2.1 + (1 : Int))), ((y65.2.2.2.2 ++ (⟨#[10]⟩ : ByteArray)), (y65.1, (y65.2.1, y65.2.2.1)))))
 else none)))
 else none)
 else (bif (Nat.ble ((ByteArray.size ((((x.2.1 ++ (List.getD x.2.2.2.1 (Int.toNat x.1) (dflt 6)).op) ++ (⟨#[32]⟩ : ByteArray)) ++ y27) ++ y52)) + 1) 4611686018427387904) then (L ((Go.IntKind.wrap IntKind.i64 (x.1 + (1 : Int))), ((((((x.2.1 ++ (List.getD x.2.2.2.1 (Int.toNat x.1) (dflt 6)).op) ++ (⟨#[32]⟩ : ByteArray)) ++ y27) ++ y52) ++ (⟨#[10]⟩ : ByteArray)), (x.2.2.1, (x.2.2.2.1, x.2.2.2.2)))))
 else none))
 else none)))
 else none)
 else none)
 else none)
 else (bif (seqB (List.getD x.2.2.2.1 (Int.toNat x.1) (dflt 6)).op (⟨#[99, 111, 110, 115, 116]⟩ : ByteArray)) then (bif (Nat.ble ((ByteArray.size x.2.1) + (ByteArray.size (List.getD x.2.2.2.1 (Int.toNat x.1) (dflt 6)).op)) 4611686018427387904) then (bif (Nat.ble ((ByteArray.size (x.2.1 ++ (List.getD x.2.2.2.1 (Int.toNat x.1) (dflt 6)).op)) + 1) 4611686018427387904) then (bif (Nat.ble ((ByteArray.size ((x.2.1 ++ (List.getD x.2.2.2.1 (Int.toNat x.1) (dflt 6)).op) ++ (⟨#[32]⟩ : ByteArray))) + (ByteArray.size y27)) 4611686018427387904) then (Option.bind (Tf.tapewrightref11_numbers.f F (List.getD x.2.2.2.1 (Int.toNat x.1) (dflt 6)).shape) (fun y55 => (bif (Nat.ble ((ByteArray.size (((x.2.1 ++ (List.getD x.2.2.2.1 (Int.toNat x.1) (dflt 6)).op) ++ (⟨#[32]⟩ : ByteArray)) ++ y27)) + (ByteArray.size y55)) 4611686018427387904) then (bif (seqB (List.getD x.2.2.2.1 (Int.toNat x.1) (dflt 6)).op (⟨#[99, 111, 110, 115, 116]⟩ : ByteArray)) then (bif (Nat.ble ((ByteArray.size ((((x.2.1 ++ (List.getD x.2.2.2.1 (Int.toNat x.1) (dflt 6)).op) ++ (⟨#[32]⟩ : ByteArray)) ++ y27) ++ y55)) + 2) 4611686018427387904) then (Option.bind (Tf.tapewrightref11_Text.l17 F ((0 : Int), ((((((x.2.1 ++ (List.getD x.2.2.2.1 (Int.toNat x.1) (dflt 6)).op) ++ (⟨#[32]⟩ : ByteArray)) ++ y27) ++ y55) ++ (⟨#[32, 61]⟩ : ByteArray)), ((List.getD x.2.2.2.1 (Int.toNat x.1) (dflt 6)).data, (x.2.2.1, (x.2.2.2.1, (x.2.2.2.2, (x.1, ((List.length (List.getD x.2.2.2.1 (Int.toNat x.1) (dflt 6)).data) : Int))))))))) (fun y68 => (bif (Nat.ble ((ByteArray.size y68.2.2.2.2) + 1) 4611686018427387904) then (L ((Go.IntKind.wrap IntKind.i64 (y68.2.2.2.1 + (1 : Int))), ((y68.2.2.2.2 ++ (⟨#[10]⟩ : ByteArray)), (y68.1, (y68.2.1, y68.2.2.1)))))
 else none)))
 else none)
 else (bif (Nat.ble ((ByteArray.size ((((x.2.1 ++ (List.getD x.2.2.2.1 (Int.toNat x.1) (dflt 6)).op) ++ (⟨#[32]⟩ : ByteArray)) ++ y27) ++ y55)) + 1) 4611686018427387904) then (L ((Go.IntKind.wrap IntKind.i64 (x.1 + (1 : Int))), ((((((x.2.1 ++ (List.getD x.2.2.2.1 (Int.toNat x.1) (dflt 6)).op) ++ (⟨#[32]⟩ : ByteArray)) ++ y27) ++ y55) ++ (⟨#[10]⟩ : ByteArray)), (x.2.2.1, (x.2.2.2.1, x.2.2.2.2)))))
 else none))
 else none)))
 else none)
 else none)
 else none)
 else (bif (Nat.ble ((ByteArray.size x.2.1) + (ByteArray.size y27)) 4611686018427387904) then (bif (Nat.ble ((ByteArray.size (x.2.1 ++ y27)) + 3) 4611686018427387904) then (bif (Nat.ble ((ByteArray.size ((x.2.1 ++ y27) ++ (⟨#[32, 61, 32]⟩ : ByteArray))) + (ByteArray.size (List.getD x.2.2.2.1 (Int.toNat x.1) (dflt 6)).op)) 4611686018427387904) then (bif (Nat.ble ((ByteArray.size (((x.2.1 ++ y27) ++ (⟨#[32, 61, 32]⟩ : ByteArray)) ++ (List.getD x.2.2.2.1 (Int.toNat x.1) (dflt 6)).op)) + 1) 4611686018427387904) then (Option.bind (Tf.tapewrightref11_Name.f F ((x.2.2.2.1, x.2.2.2.2), (x.2.2.1, (List.getD x.2.2.2.1 (Int.toNat x.1) (dflt 6)).a))) (fun y58 => (bif (Nat.ble ((ByteArray.size ((((x.2.1 ++ y27) ++ (⟨#[32, 61, 32]⟩ : ByteArray)) ++ (List.getD x.2.2.2.1 (Int.toNat x.1) (dflt 6)).op) ++ (⟨#[32]⟩ : ByteArray))) + (ByteArray.size y58)) 4611686018427387904) then (Option.bind (Tf.tapewrightref11_Text.l23 F ((0 : Int), ((List.getD x.2.2.2.1 (Int.toNat x.1) (dflt 6)).op, ((List.getD x.2.2.2.1 (Int.toNat x.1) (dflt 6)).a, ((List.getD x.2.2.2.1 (Int.toNat x.1) (dflt 6)).b, ((List.getD x.2.2.2.1 (Int.toNat x.1) (dflt 6)).name, ((List.getD x.2.2.2.1 (Int.toNat x.1) (dflt 6)).shape, ((List.getD x.2.2.2.1 (Int.toNat x.1) (dflt 6)).k, ((List.getD x.2.2.2.1 (Int.toNat x.1) (dflt 6)).n, ((List.getD x.2.2.2.1 (Int.toNat x.1) (dflt 6)).data, (x.2.2.1, (x.2.2.2.1, (x.2.2.2.2, ((((((x.2.1 ++ y27) ++ (⟨#[32, 61, 32]⟩ : ByteArray)) ++ (List.getD x.2.2.2.1 (Int.toNat x.1) (dflt 6)).op) ++ (⟨#[32]⟩ : ByteArray)) ++ y58), ((List.set (List.set (List.set (List.set (List.set (List.set (List.replicate 6 ByteArray.empty) 0 (⟨#[97, 100, 100]⟩ : ByteArray)) 1 (⟨#[115, 117, 98]⟩ : ByteArray)) 2 (⟨#[109, 117, 108]⟩ : ByteArray)) 3 (⟨#[109, 97, 120]⟩ : ByteArray)) 4 (⟨#[97, 98, 111, 118, 101]⟩ : ByteArray)) 5 (⟨#[109, 97, 116, 109, 117, 108]⟩ : ByteArray)), (x.1, (6 : Int))))))))))))))))) (fun y64 => (bif (seqB y64.2.2.2.2.1 (⟨#[115, 99, 97, 108, 101]⟩ : ByteArray)) then (bif (Nat.ble ((ByteArray.size y64.2.2.2.2.2.2.2.2.2.2.2.2) + 1) 4611686018427387904) then (bif (Nat.ble ((ByteArray.size (y64.2.2.2.2.2.2.2.2.2.2.2.2 ++ (⟨#[32]⟩ : ByteArray))) + (ByteArray.size y64.2.2.2.2.2.2.2.2.2.1)) 4611686018427387904) then (bif (seqB y64.2.2.2.2.1 (⟨#[112, 111, 119, 101, 114]⟩ : ByteArray)) then (bif (Nat.ble ((ByteArray.size ((y64.2.2.2.2.2.2.2.2.2.2.2.2 ++ (⟨#[32]⟩ : ByteArray)) ++ y64.2.2.2.2.2.2.2.2.2.1)) + 1) 4611686018427387904) then (Option.bind (Tf.tapewrightref11_Digits.f F y64.2.2.2.2.2.2.2.2.2.2.1) (fun y82 => (bif (Nat.ble ((ByteArray.size (((y64.2.2.2.2.2.2.2.2.2.2.2.2 ++ (⟨#[32]⟩ : ByteArray)) ++ y64.2.2.2.2.2.2.2.2.2.1) ++ (⟨#[32]⟩ : ByteArray))) + (ByteArray.size y82)) 4611686018427387904) then (bif (seqB y64.2.2.2.2.1 (⟨#[114, 101, 115, 104, 97, 112, 101]⟩ : ByteArray)) then (Option.bind (Tf.tapewrightref11_numbers.f F y64.2.2.2.2.2.2.2.2.1) (fun y94 => (bif (Nat.ble ((ByteArray.size ((((y64.2.2.2.2.2.2.2.2.2.2.2.2 ++ (⟨#[32]⟩ : ByteArray)) ++ y64.2.2.2.2.2.2.2.2.2.1) ++ (⟨#[32]⟩ : ByteArray)) ++ y82)) + (ByteArray.size y94)) 4611686018427387904) then (bif (Nat.ble ((ByteArray.size (((((y64.2.2.2.2.2.2.2.2.2.2.2.2 ++ (⟨#[32]⟩ : ByteArray)) ++ y64.2.2.2.2.2.2.2.2.2.1) ++ (⟨#[32]⟩ : ByteArray)) ++ y82) ++ y94)) + 1) 4611686018427387904) then (L ((Go.IntKind.wrap IntKind.i64 (y64.2.2.2.1 + (1 : Int))), (((((((y64.2.2.2.2.2.2.2.2.2.2.2.2 ++ (⟨#[32]⟩ : ByteArray)) ++ y64.2.2.2.2.2.2.2.2.2.1) ++ (⟨#[32]⟩ : ByteArray)) ++ y82) ++ y94) ++ (⟨#[10]⟩ : ByteArray)), (y64.1, (y64.2.1, y64.2.2.1)))))
 else none)
 else none)))
 else (bif (seqB y64.2.2.2.2.1 (⟨#[115, 112, 114, 101, 97, 100]⟩ : ByteArray)) then (Option.bind (Tf.tapewrightref11_numbers.f F y64.2.2.2.2.2.2.2.2.1) (fun y97 => (bif (Nat.ble ((ByteArray.size ((((y64.2.2.2.2.2.2.2.2.2.2.2.2 ++ (⟨#[32]⟩ : ByteArray)) ++ y64.2.2.2.2.2.2.2.2.2.1) ++ (⟨#[32]⟩ : ByteArray)) ++ y82)) + (ByteArray.size y97)) 4611686018427387904) then (bif (Nat.ble ((ByteArray.size (((((y64.2.2.2.2.2.2.2.2.2.2.2.2 ++ (⟨#[32]⟩ : ByteArray)) ++ y64.2.2.2.2.2.2.2.2.2.1) ++ (⟨#[32]⟩ : ByteArray)) ++ y82) ++ y97)) + 1) 4611686018427387904) then (L ((Go.IntKind.wrap IntKind.i64 (y64.2.2.2.1 + (1 : Int))), (((((((y64.2.2.2.2.2.2.2.2.2.2.2.2 ++ (⟨#[32]⟩ : ByteArray)) ++ y64.2.2.2.2.2.2.2.2.2.1) ++ (⟨#[32]⟩ : ByteArray)) ++ y82) ++ y97) ++ (⟨#[10]⟩ : ByteArray)), (y64.1, (y64.2.1, y64.2.2.1)))))
 else none)
 else none)))
 else (bif (Nat.ble ((ByteArray.size ((((y64.2.2.2.2.2.2.2.2.2.2.2.2 ++ (⟨#[32]⟩ : ByteArray)) ++ y64.2.2.2.2.2.2.2.2.2.1) ++ (⟨#[32]⟩ : ByteArray)) ++ y82)) + 1) 4611686018427387904) then (L ((Go.IntKind.wrap IntKind.i64 (y64.2.2.2.1 + (1 : Int))), ((((((y64.2.2.2.2.2.2.2.2.2.2.2.2 ++ (⟨#[32]⟩ : ByteArray)) ++ y64.2.2.2.2.2.2.2.2.2.1) ++ (⟨#[32]⟩ : ByteArray)) ++ y82) ++ (⟨#[10]⟩ : ByteArray)), (y64.1, (y64.2.1, y64.2.2.1)))))
 else none)))
 else none)))
 else none)
 else (bif (seqB y64.2.2.2.2.1 (⟨#[114, 101, 115, 104, 97, 112, 101]⟩ : ByteArray)) then (Option.bind (Tf.tapewrightref11_numbers.f F y64.2.2.2.2.2.2.2.2.1) (fun y86 => (bif (Nat.ble ((ByteArray.size ((y64.2.2.2.2.2.2.2.2.2.2.2.2 ++ (⟨#[32]⟩ : ByteArray)) ++ y64.2.2.2.2.2.2.2.2.2.1)) + (ByteArray.size y86)) 4611686018427387904) then (bif (Nat.ble ((ByteArray.size (((y64.2.2.2.2.2.2.2.2.2.2.2.2 ++ (⟨#[32]⟩ : ByteArray)) ++ y64.2.2.2.2.2.2.2.2.2.1) ++ y86)) + 1) 4611686018427387904) then (L ((Go.IntKind.wrap IntKind.i64 (y64.2.2.2.1 + (1 : Int))), (((((y64.2.2.2.2.2.2.2.2.2.2.2.2 ++ (⟨#[32]⟩ : ByteArray)) ++ y64.2.2.2.2.2.2.2.2.2.1) ++ y86) ++ (⟨#[10]⟩ : ByteArray)), (y64.1, (y64.2.1, y64.2.2.1)))))
 else none)
 else none)))
 else (bif (seqB y64.2.2.2.2.1 (⟨#[115, 112, 114, 101, 97, 100]⟩ : ByteArray)) then (Option.bind (Tf.tapewrightref11_numbers.f F y64.2.2.2.2.2.2.2.2.1) (fun y89 => (bif (Nat.ble ((ByteArray.size ((y64.2.2.2.2.2.2.2.2.2.2.2.2 ++ (⟨#[32]⟩ : ByteArray)) ++ y64.2.2.2.2.2.2.2.2.2.1)) + (ByteArray.size y89)) 4611686018427387904) then (bif (Nat.ble ((ByteArray.size (((y64.2.2.2.2.2.2.2.2.2.2.2.2 ++ (⟨#[32]⟩ : ByteArray)) ++ y64.2.2.2.2.2.2.2.2.2.1) ++ y89)) + 1) 4611686018427387904) then (L ((Go.IntKind.wrap IntKind.i64 (y64.2.2.2.1 + (1 : Int))), (((((y64.2.2.2.2.2.2.2.2.2.2.2.2 ++ (⟨#[32]⟩ : ByteArray)) ++ y64.2.2.2.2.2.2.2.2.2.1) ++ y89) ++ (⟨#[10]⟩ : ByteArray)), (y64.1, (y64.2.1, y64.2.2.1)))))
 else none)
 else none)))
 else (bif (Nat.ble ((ByteArray.size ((y64.2.2.2.2.2.2.2.2.2.2.2.2 ++ (⟨#[32]⟩ : ByteArray)) ++ y64.2.2.2.2.2.2.2.2.2.1)) + 1) 4611686018427387904) then (L ((Go.IntKind.wrap IntKind.i64 (y64.2.2.2.1 + (1 : Int))), ((((y64.2.2.2.2.2.2.2.2.2.2.2.2 ++ (⟨#[32]⟩ : ByteArray)) ++ y64.2.2.2.2.2.2.2.2.2.1) ++ (⟨#[10]⟩ : ByteArray)), (y64.1, (y64.2.1, y64.2.2.1)))))
 else none))))
 else none)
 else none)
 else (bif (seqB y64.2.2.2.2.1 (⟨#[112, 111, 119, 101, 114]⟩ : ByteArray)) then (bif (Nat.ble ((ByteArray.size y64.2.2.2.2.2.2.2.2.2.2.2.2) + 1) 4611686018427387904) then (Option.bind (Tf.tapewrightref11_Digits.f F y64.2.2.2.2.2.2.2.2.2.2.1) (fun y76 => (bif (Nat.ble ((ByteArray.size (y64.2.2.2.2.2.2.2.2.2.2.2.2 ++ (⟨#[32]⟩ : ByteArray))) + (ByteArray.size y76)) 4611686018427387904) then (bif (seqB y64.2.2.2.2.1 (⟨#[114, 101, 115, 104, 97, 112, 101]⟩ : ByteArray)) then (Option.bind (Tf.tapewrightref11_numbers.f F y64.2.2.2.2.2.2.2.2.1) (fun y88 => (bif (Nat.ble ((ByteArray.size ((y64.2.2.2.2.2.2.2.2.2.2.2.2 ++ (⟨#[32]⟩ : ByteArray)) ++ y76)) + (ByteArray.size y88)) 4611686018427387904) then (bif (Nat.ble ((ByteArray.size (((y64.2.2.2.2.2.2.2.2.2.2.2.2 ++ (⟨#[32]⟩ : ByteArray)) ++ y76) ++ y88)) + 1) 4611686018427387904) then (L ((Go.IntKind.wrap IntKind.i64 (y64.2.2.2.1 + (1 : Int))), (((((y64.2.2.2.2.2.2.2.2.2.2.2.2 ++ (⟨#[32]⟩ : ByteArray)) ++ y76) ++ y88) ++ (⟨#[10]⟩ : ByteArray)), (y64.1, (y64.2.1, y64.2.2.1)))))
 else none)
 else none)))
 else (bif (seqB y64.2.2.2.2.1 (⟨#[115, 112, 114, 101, 97, 100]⟩ : ByteArray)) then (Option.bind (Tf.tapewrightref11_numbers.f F y64.2.2.2.2.2.2.2.2.1) (fun y91 => (bif (Nat.ble ((ByteArray.size ((y64.2.2.2.2.2.2.2.2.2.2.2.2 ++ (⟨#[32]⟩ : ByteArray)) ++ y76)) + (ByteArray.size y91)) 4611686018427387904) then (bif (Nat.ble ((ByteArray.size (((y64.2.2.2.2.2.2.2.2.2.2.2.2 ++ (⟨#[32]⟩ : ByteArray)) ++ y76) ++ y91)) + 1) 4611686018427387904) then (L ((Go.IntKind.wrap IntKind.i64 (y64.2.2.2.1 + (1 : Int))), (((((y64.2.2.2.2.2.2.2.2.2.2.2.2 ++ (⟨#[32]⟩ : ByteArray)) ++ y76) ++ y91) ++ (⟨#[10]⟩ : ByteArray)), (y64.1, (y64.2.1, y64.2.2.1)))))
 else none)
 else none)))
 else (bif (Nat.ble ((ByteArray.size ((y64.2.2.2.2.2.2.2.2.2.2.2.2 ++ (⟨#[32]⟩ : ByteArray)) ++ y76)) + 1) 4611686018427387904) then (L ((Go.IntKind.wrap IntKind.i64 (y64.2.2.2.1 + (1 : Int))), ((((y64.2.2.2.2.2.2.2.2.2.2.2.2 ++ (⟨#[32]⟩ : ByteArray)) ++ y76) ++ (⟨#[10]⟩ : ByteArray)), (y64.1, (y64.2.1, y64.2.2.1)))))
 else none)))
 else none)))
 else none)
 else (bif (seqB y64.2.2.2.2.1 (⟨#[114, 101, 115, 104, 97, 112, 101]⟩ : ByteArray)) then (Option.bind (Tf.tapewrightref11_numbers.f F y64.2.2.2.2.2.2.2.2.1) (fun y80 => (bif (Nat.ble ((ByteArray.size y64.2.2.2.2.2.2.2.2.2.2.2.2) + (ByteArray.size y80)) 4611686018427387904) then (bif (Nat.ble ((ByteArray.size (y64.2.2.2.2.2.2.2.2.2.2.2.2 ++ y80)) + 1) 4611686018427387904) then (L ((Go.IntKind.wrap IntKind.i64 (y64.2.2.2.1 + (1 : Int))), (((y64.2.2.2.2.2.2.2.2.2.2.2.2 ++ y80) ++ (⟨#[10]⟩ : ByteArray)), (y64.1, (y64.2.1, y64.2.2.1)))))
 else none)
 else none)))
 else (bif (seqB y64.2.2.2.2.1 (⟨#[115, 112, 114, 101, 97, 100]⟩ : ByteArray)) then (Option.bind (Tf.tapewrightref11_numbers.f F y64.2.2.2.2.2.2.2.2.1) (fun y83 => (bif (Nat.ble ((ByteArray.size y64.2.2.2.2.2.2.2.2.2.2.2.2) + (ByteArray.size y83)) 4611686018427387904) then (bif (Nat.ble ((ByteArray.size (y64.2.2.2.2.2.2.2.2.2.2.2.2 ++ y83)) + 1) 4611686018427387904) then (L ((Go.IntKind.wrap IntKind.i64 (y64.2.2.2.1 + (1 : Int))), (((y64.2.2.2.2.2.2.2.2.2.2.2.2 ++ y83) ++ (⟨#[10]⟩ : ByteArray)), (y64.1, (y64.2.1, y64.2.2.1)))))
 else none)
 else none)))
 else (bif (Nat.ble ((ByteArray.size y64.2.2.2.2.2.2.2.2.2.2.2.2) + 1) 4611686018427387904) then (L ((Go.IntKind.wrap IntKind.i64 (y64.2.2.2.1 + (1 : Int))), ((y64.2.2.2.2.2.2.2.2.2.2.2.2 ++ (⟨#[10]⟩ : ByteArray)), (y64.1, (y64.2.1, y64.2.2.1)))))
 else none)))))))
 else none)))
 else none)
 else none)
 else none)
 else none)))))))
 else none)
 else (some (.inr (x.2.2.2.1, (x.2.2.2.2, (x.2.2.1, x.2.1))))))
def Tf.tapewrightref11_Text.l6 (F : Nat) : (Int × (ByteArray × (ByteArray × ((List Go.VI.Node) × Int)))) → Option ((ByteArray × Bool) ⊕ ((List Go.VI.Node) × (Int × (ByteArray × ByteArray)))) := iter (Tf.tapewrightref11_Text.s6 F) F
theorem Tf.tapewrightref11_Text.s6_ok (F : Nat) (L a) : exec Go.VI.tyT (look [(49, Tf.tapewrightref11_unlike.e F), (50, Tf.tapewrightref11_Name.e F), (51, Tf.tapewrightref11_numbers.e F), (52, Tf.tapewrightref11_Digits.e F)] : Fns) 153 (look [(17, fun st κ => hand [.slot 70, .slot 5, .view 68 4, .slot 4, .box 1 [none, none], .slot 6, .slot 69] [.int .i64, .str, .sl 4, .str, .sl 6, .int .i64, .int .i64, .int .i64] [⟨.exit 4, [.slot 4, .box 1 [none, none], .slot 6, .slot 5], [.str, .sl 6, .int .i64, .int .i64, .str]⟩] (Tf.tapewrightref11_Text.l17 F) st κ), (23, fun st κ => hand [.slot 95, .box 7 [none, none, none, none, none, none, none, none], .slot 4, .box 1 [none, none], .slot 5, .own 93 4, .slot 6, .slot 94] [.int .i64, .str, .int .i64, .int .i64, .str, .sl 0, .str, .int .i64, .sl 4, .str, .sl 6, .int .i64, .str, .sl 4, .int .i64, .int .i64] [⟨.exit 6, [.slot 4, .box 1 [none, none], .slot 6, .box 7 [none, none, none, none, none, none, none, none], .slot 5], [.str, .sl 6, .int .i64, .int .i64, .str, .int .i64, .int .i64, .str, .sl 0, .str, .int .i64, .sl 4, .str]⟩] (Tf.tapewrightref11_Text.l23 F) st κ)] : Loops) Tf.tapewrightref11_Text.b6 (rebuild [.slot 6, .slot 5, .slot 4, .box 1 [none, none]] (encKs [.int .i64, .str, .str, .sl 6, .int .i64] a)) (bodyK [.slot 6, .slot 5, .slot 4, .box 1 [none, none]] [.int .i64, .str, .str, .sl 6, .int .i64] [⟨.ret, [.slot 2, .slot 3], [.str, .bool]⟩, ⟨.exit 2, [.box 1 [none, none], .slot 4, .slot 5], [.sl 6, .int .i64, .str, .str]⟩] L) = Tf.tapewrightref11_Text.s6 F L a := by kernel_rfl
theorem Tf.tapewrightref11_Text.l6_ok (F : Nat) : LoopOk Go.Proofs.Tryz.prog Go.VI.tyT.G 153 Tf.tapewrightref11_Text.b6 (fun st κ => hand [.slot 6, .slot 5, .slot 4, .box 1 [none, none]] [.int .i64, .str, .str, .sl 6, .int .i64] [⟨.ret, [.slot 2, .slot 3], [.str, .bool]⟩, ⟨.exit 2, [.box 1 [none, none], .slot 4, .slot 5], [.sl 6, .int .i64, .str, .str]⟩] (Tf.tapewrightref11_Text.l6 F) st κ) :=
  loop_ok Go.VI.tyT_ok rfl mix (.cons (Tf.tapewrightref11_unlike.ok F) (.cons (Tf.tapewrightref11_Name.ok F) (.cons (Tf.tapewrightref11_numbers.ok F) (.cons (Tf.tapewrightref11_Digits.ok F) .nil)))) (Λ := (look [(17, fun st κ => hand [.slot 70, .slot 5, .view 68 4, .slot 4, .box 1 [none, none], .slot 6, .slot 69] [.int .i64, .str, .sl 4, .str, .sl 6, .int .i64, .int .i64, .int .i64] [⟨.exit 4, [.slot 4, .box 1 [none, none], .slot 6, .slot 5], [.str, .sl 6, .int .i64, .int .i64, .str]⟩] (Tf.tapewrightref11_Text.l17 F) st κ), (23, fun st κ => hand [.slot 95, .box 7 [none, none, none, none, none, none, none, none], .slot 4, .box 1 [none, none], .slot 5, .own 93 4, .slot 6, .slot 94] [.int .i64, .str, .int .i64, .int .i64, .str, .sl 0, .str, .int .i64, .sl 4, .str, .sl 6, .int .i64, .str, .sl 4, .int .i64, .int .i64] [⟨.exit 6, [.slot 4, .box 1 [none, none], .slot 6, .box 7 [none, none, none, none, none, none, none, none], .slot 5], [.str, .sl 6, .int .i64, .int .i64, .str, .int .i64, .int .i64, .str, .sl 0, .str, .int .i64, .sl 4, .str]⟩] (Tf.tapewrightref11_Text.l23 F) st κ)] : Loops)) (LoopsOk.of (bs := [Tf.tapewrightref11_Text.b17, Tf.tapewrightref11_Text.b23]) (by kernel_rfl) (.cons rfl (Tf.tapewrightref11_Text.l17_ok F) (.cons rfl (Tf.tapewrightref11_Text.l23_ok F) .nil))) (Tf.tapewrightref11_Text.s6_ok F) F
def Tf.tapewrightref11_Text.f (F : Nat) (a : ((List Go.VI.Node) × Int)) : Option (ByteArray × Bool) :=
 (Option.bind (Tf.tapewrightref11_Text.l2 F ((⟨#[110]⟩ : ByteArray), (a.1, a.2))) (fun y7 => (Option.bind (Tf.tapewrightref11_Text.l6 F ((0 : Int), ((⟨#[]⟩ : ByteArray), (y7.1, (y7.2.1, y7.2.2))))) (fun y10 => (sumE y10 (fun y11 => (some (y11.1, y11.2))) (fun y11 => (bif (Nat.ble ((ByteArray.size y11.2.2.2) + 5) 4611686018427387904) then (Option.bind (Tf.tapewrightref11_Name.f F ((y11.1, y11.2.1), (y11.2.2.1, y11.2.1))) (fun y19 => (bif (Nat.ble ((ByteArray.size (y11.2.2.2 ++ (⟨#[108, 111, 115, 115, 32]⟩ : ByteArray))) + (ByteArray.size y19)) 4611686018427387904) then (bif (Nat.ble ((ByteArray.size ((y11.2.2.2 ++ (⟨#[108, 111, 115, 115, 32]⟩ : ByteArray)) ++ y19)) + 1) 4611686018427387904) then (some ((((y11.2.2.2 ++ (⟨#[108, 111, 115, 115, 32]⟩ : ByteArray)) ++ y19) ++ (⟨#[10]⟩ : ByteArray)), Bool.true))
 else none)
 else none)))
 else none)))))))
theorem Tf.tapewrightref11_Text.f_ok (F : Nat) (a) : exec Go.VI.tyT (look [(49, Tf.tapewrightref11_unlike.e F), (50, Tf.tapewrightref11_Name.e F), (51, Tf.tapewrightref11_numbers.e F), (52, Tf.tapewrightref11_Digits.e F)] : Fns) 153 (look [(2, fun st κ => hand [.slot 4, .box 1 [none, none]] [.str, .sl 6, .int .i64] [⟨.exit 0, [.slot 4, .box 1 [none, none]], [.str, .sl 6, .int .i64]⟩] (Tf.tapewrightref11_Text.l2 F) st κ), (6, fun st κ => hand [.slot 6, .slot 5, .slot 4, .box 1 [none, none]] [.int .i64, .str, .str, .sl 6, .int .i64] [⟨.ret, [.slot 2, .slot 3], [.str, .bool]⟩, ⟨.exit 2, [.box 1 [none, none], .slot 4, .slot 5], [.sl 6, .int .i64, .str, .str]⟩] (Tf.tapewrightref11_Text.l6 F) st κ)] : Loops) Tf.tapewrightref11_Text.c (init [.v 301] (encKs [.st [.sl 6, .int .i64]] a)) (finT (look [(49, Tf.tapewrightref11_unlike.e F), (50, Tf.tapewrightref11_Name.e F), (51, Tf.tapewrightref11_numbers.e F), (52, Tf.tapewrightref11_Digits.e F)] : Fns) (⟨[.v 301], [.p, .p]⟩ : Sig) [2, 3] [.pure, .pure] [.str, .bool]) = Tf.tapewrightref11_Text.f F a := by kernel_rfl
def Tf.tapewrightref11_Text.e (F : Nat) : Fn := mkFn (⟨[.v 301], [.p, .p]⟩ : Sig) [.st [.sl 6, .int .i64]] [.pure, .pure] [.str, .bool] (Tf.tapewrightref11_Text.f F)
theorem Tf.tapewrightref11_Text.ok (F : Nat) : EntryOk Go.Proofs.Tryz.prog Go.VI.tyT.G 26 (Tf.tapewrightref11_Text.e F) :=
  fn_ok Go.VI.tyT_ok rfl mix (.cons (Tf.tapewrightref11_unlike.ok F) (.cons (Tf.tapewrightref11_Name.ok F) (.cons (Tf.tapewrightref11_numbers.ok F) (.cons (Tf.tapewrightref11_Digits.ok F) .nil)))) (Λ := (look [(2, fun st κ => hand [.slot 4, .box 1 [none, none]] [.str, .sl 6, .int .i64] [⟨.exit 0, [.slot 4, .box 1 [none, none]], [.str, .sl 6, .int .i64]⟩] (Tf.tapewrightref11_Text.l2 F) st κ), (6, fun st κ => hand [.slot 6, .slot 5, .slot 4, .box 1 [none, none]] [.int .i64, .str, .str, .sl 6, .int .i64] [⟨.ret, [.slot 2, .slot 3], [.str, .bool]⟩, ⟨.exit 2, [.box 1 [none, none], .slot 4, .slot 5], [.sl 6, .int .i64, .str, .str]⟩] (Tf.tapewrightref11_Text.l6 F) st κ)] : Loops)) (fn := Go.Proofs.Tryz.f26) (c := Tf.tapewrightref11_Text.c) (LoopsOk.of (bs := [Tf.tapewrightref11_Text.b2, Tf.tapewrightref11_Text.b6]) (by kernel_rfl) (.cons rfl (Tf.tapewrightref11_Text.l2_ok F) (.cons rfl (Tf.tapewrightref11_Text.l6_ok F) .nil))) (by kernel_rfl) (by kernel_rfl) (by kernel_rfl) (by kernel_rfl) (res2 (by kernel_rfl)) (by decide) (Tf.tapewrightref11_Text.f_ok F)
end Go.VI

namespace Go.VI
open Go
noncomputable def Tf.tapewrightlaw11_ShowTells.c : Code := (Go.Proofs.Tryz.f8.body).getD .skip
def Tf.tapewrightlaw11_ShowTells.f (F : Nat) (a : ((List Go.VI.Node) × Int)) : Option Bool :=
 (Option.bind (Tf.tapewrightref10_Small.f F (a.1, a.2)) (fun y7 => (bif (!y7) then (Option.bind (Tf.tapewrightlaw11_awake.f F ()) (fun y10 => (some y10)))
 else (Option.bind (Tf.show_Text.f F (a.1, a.2)) (fun y11 => (Option.bind (Tf.tapewrightref10_Right.f F (a.1, a.2)) (fun y19 => (bif (!y19) then (bif (seqB y11.1 (⟨#[]⟩ : ByteArray)) then (bif (y11.2 == (1 : Int)) then (Option.bind (Tf.tapewrightlaw11_awake.f F ()) (fun y29 => (some y29)))
 else (some Bool.false))
 else (some Bool.false))
 else (Option.bind (Tf.tapewrightref11_Text.f F (a.1, a.2)) (fun y23 => (bif (!y23.2) then (bif (seqB y11.1 (⟨#[]⟩ : ByteArray)) then (bif (y11.2 == (1 : Int)) then (Option.bind (Tf.tapewrightlaw11_awake.f F ()) (fun y39 => (some y39)))
 else (some Bool.false))
 else (some Bool.false))
 else (bif (seqB y11.1 y23.1) then (bif (y11.2 == (0 : Int)) then (Option.bind (Tf.tapewrightlaw11_awake.f F ()) (fun y40 => (some y40)))
 else (some Bool.false))
 else (some Bool.false)))))))))))))
theorem Tf.tapewrightlaw11_ShowTells.f_ok (F : Nat) (a) : exec Go.VI.tyT (look [(22, Tf.tapewrightref10_Small.e F), (23, Tf.tapewrightlaw11_awake.e F), (24, Tf.show_Text.e F), (25, Tf.tapewrightref10_Right.e F), (26, Tf.tapewrightref11_Text.e F)] : Fns) 54 (look [] : Loops) Tf.tapewrightlaw11_ShowTells.c (init [.v 301] (encKs [.st [.sl 6, .int .i64]] a)) (finT (look [(22, Tf.tapewrightref10_Small.e F), (23, Tf.tapewrightlaw11_awake.e F), (24, Tf.show_Text.e F), (25, Tf.tapewrightref10_Right.e F), (26, Tf.tapewrightref11_Text.e F)] : Fns) (⟨[.v 301], [.p]⟩ : Sig) [2] [.pure] [.bool]) = Tf.tapewrightlaw11_ShowTells.f F a := by kernel_rfl
def Tf.tapewrightlaw11_ShowTells.e (F : Nat) : Fn := mkFn (⟨[.v 301], [.p]⟩ : Sig) [.st [.sl 6, .int .i64]] [.pure] [.bool] (Tf.tapewrightlaw11_ShowTells.f F)
theorem Tf.tapewrightlaw11_ShowTells.ok (F : Nat) : EntryOk Go.Proofs.Tryz.prog Go.VI.tyT.G 8 (Tf.tapewrightlaw11_ShowTells.e F) :=
  fn_ok Go.VI.tyT_ok rfl mix (.cons (Tf.tapewrightref10_Small.ok F) (.cons (Tf.tapewrightlaw11_awake.ok F) (.cons (Tf.show_Text.ok F) (.cons (Tf.tapewrightref10_Right.ok F) (.cons (Tf.tapewrightref11_Text.ok F) .nil))))) (Λ := (look [] : Loops)) (fn := Go.Proofs.Tryz.f8) (c := Tf.tapewrightlaw11_ShowTells.c) (LoopsOk.of (bs := []) (by kernel_rfl) .nil) (by kernel_rfl) (by kernel_rfl) (by kernel_rfl) (by kernel_rfl) (res1 (by kernel_rfl)) (by decide) (Tf.tapewrightlaw11_ShowTells.f_ok F)
end Go.VI

namespace Go.VI
open Go Go.Proofs
def nodeBs : List B := [.str, .int .i64, .int .i64, .str, .sl 0, .str, .int .i64, .sl 4]
def nodeOf (y : BTys nodeBs) : Rho 6 := (⟨y.1, y.2.1, y.2.2.1, y.2.2.2.1, y.2.2.2.2.1, y.2.2.2.2.2.1, y.2.2.2.2.2.2.1, y.2.2.2.2.2.2.2⟩ : Node)
theorem opInt : OpB Tryz.prog 3 (.int .i64) := OpB.int Tryz.underlying3
theorem opStr : OpB Tryz.prog 9 .str := OpB.str Tryz.underlying9
theorem opInts : OpB Tryz.prog 24 (.sl 0) := OpB.sl Tryz.underlying24 (by kernel_rfl) (opInt.toT (r := 0) id fun _ => rfl)
theorem opStrs : OpB Tryz.prog 22 (.sl 4) := OpB.sl Tryz.underlying22 (by kernel_rfl) (opStr.toT (r := 4) id fun _ => rfl)
theorem opNode : OpBs Tryz.prog 75 nodeBs :=
  OpBs.struct Tryz.underlying75 rfl (by kernel_rfl) (by kernel_rfl) fun i f b hf hb => by
    match i, hf, hb with
    | 0, hf, hb => cases hf; cases hb; exact opStr
    | 1, hf, hb => cases hf; cases hb; exact opInt
    | 2, hf, hb => cases hf; cases hb; exact opInt
    | 3, hf, hb => cases hf; cases hb; exact opStr
    | 4, hf, hb => cases hf; cases hb; exact opInts
    | 5, hf, hb => cases hf; cases hb; exact opStr
    | 6, hf, hb => cases hf; cases hb; exact opInt
    | 7, hf, hb => cases hf; cases hb; exact opStrs
    | _ + 8, hf, hb => cases hb
theorem opNodes : OpB Tryz.prog 48 (.sl 6) := OpB.sl Tryz.underlying48 (by kernel_rfl) (opNode.toT (r := 6) nodeOf (fun _ => rfl) rfl)
theorem opGraph : OpBs Tryz.prog 50 [.sl 6, .int .i64] :=
  OpBs.struct Tryz.underlying50 rfl (by kernel_rfl) (by kernel_rfl) fun i f b hf hb => by
    match i, hf, hb with
    | 0, hf, hb => cases hf; cases hb; exact opNodes
    | 1, hf, hb => cases hf; cases hb; exact opInt
    | _ + 2, hf, hb => cases hb
theorem argGraph : OpK Tryz.prog 50 (.st [.sl 6, .int .i64]) := OpK.st Tryz.underlying50 opGraph
end Go.VI

