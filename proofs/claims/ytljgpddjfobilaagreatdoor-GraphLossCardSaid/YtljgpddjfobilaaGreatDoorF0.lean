import Derived.Test.YtljgpddjfobilaaGreatDoorR1
import Derived.Test.YtljgpddjfobilaaGreatDoorProg
import Derived.Shelf.GgClosure.StringsIndexFuncTop
import Derived.Ground.GgwProg
import Derived.Shelf.Strings.SlTrimAscii
import Derived.Lib.IndexBytes
import Derived.Shelf.Strings.Search2
import Derived.Lib.SplitLaws
import Derived.Laws.RangeString
import Derived.Laws.RangeAny
import Derived.Lib.SliceRun
import Derived.WalkKit
import Derived.WalkSpells
set_option linter.unusedVariables false
set_option linter.unusedSimpArgs false
open Go
namespace Go.VI
open Go.Proofs
def tyL : List (Nat × TI) := [(2, ⟨1, [.int .i64 0], 8, .int .i64⟩),
 (3, ⟨1, [.int .i64 0], 8, .int .i64⟩),
 (4, ⟨1, [.bool false], 1, .bool⟩),
 (5, ⟨1, [.int .u8 0], 1, .int .u8⟩),
 (6, ⟨1, [.int .u8 0], 1, .int .u8⟩),
 (8, ⟨4, [.int .i64 0, .int .i64 0, .bool false, .int .u8 0], 24, .struct [(0, 1, false), (1, 1, false), (2, 1, false), (3, 1, false)]⟩),
 (9, ⟨1, [.str ByteArray.empty], 16, .str⟩),
 (10, ⟨1, [.str ByteArray.empty], 16, .str⟩),
 (11, ⟨1, [.str ByteArray.empty], 16, .str⟩),
 (12, ⟨1, [.int .u64 0], 8, .int .u64⟩),
 (14, ⟨2, [.str ByteArray.empty, .int .u64 0], 24, .struct [(0, 1, false), (1, 1, false)]⟩),
 (15, ⟨1, [.nilp], 8, .ptr⟩),
 (16, ⟨1, [.nilp], 8, .ptr⟩),
 (17, ⟨1, [.nilp], 8, .ptr⟩),
 (19, ⟨1, [.nilp], 8, .struct [(0, 1, false)]⟩),
 (21, ⟨1, [.int .i32 0], 4, .int .i32⟩),
 (22, ⟨1, [.nils], 24, .slice 6 28⟩),
 (24, ⟨2, [.nils, .int .i64 0], 32, .struct [(0, 1, false), (1, 1, false)]⟩),
 (25, ⟨1, [.nils], 24, .slice 0 3⟩),
 (26, ⟨1, [.nils], 24, .slice 4 9⟩),
 (28, ⟨8, [.str ByteArray.empty, .int .i64 0, .int .i64 0, .str ByteArray.empty, .nils, .str ByteArray.empty, .int .i64 0, .nils], 120, .struct [(0, 1, false), (1, 1, false), (2, 1, false), (3, 1, false), (4, 1, false), (5, 1, false), (6, 1, false), (7, 1, false)]⟩),
 (36, ⟨1, [.int .i64 0], 8, .int .i64⟩),
 (40, ⟨2, [.nils, .int .i64 0], 32, .struct [(0, 1, false), (1, 1, false)]⟩),
 (43, ⟨1, [.nils], 24, .slice 5 4⟩),
 (53, ⟨7, [.str ByteArray.empty, .str ByteArray.empty, .nils, .nils, .str ByteArray.empty, .int .i64 0, .nils], 128, .struct [(0, 1, false), (1, 1, false), (2, 1, false), (3, 1, false), (4, 1, false), (5, 1, false), (6, 1, false)]⟩),
 (54, ⟨1, [.nils], 24, .slice 7 53⟩),
 (55, ⟨1, [.nilm], 8, .map⟩),
 (63, ⟨1, [.nilfn], 8, .func⟩),
 (66, ⟨2, [.str ByteArray.empty, .str ByteArray.empty], 32, .struct [(0, 1, false), (1, 1, false)]⟩),
 (72, ⟨1, [.nilfn], 8, .func⟩),
 (86, ⟨2, [.str ByteArray.empty, .str ByteArray.empty], 32, .struct [(0, 1, false), (1, 1, false)]⟩),
 (88, ⟨1, [.niliface], 16, .iface⟩),
 (100, ⟨1, [.nilp], 8, .ptr⟩),
 (103, ⟨1, [.nilp], 8, .ptr⟩),
 (105, ⟨2, [.str ByteArray.empty, .niliface], 32, .struct [(0, 1, false), (1, 1, false)]⟩),
 (110, ⟨1, [.nils], 24, .slice 1 5⟩),
 (116, ⟨2, [.bool false, .str ByteArray.empty], 24, .struct [(0, 1, false), (1, 1, false)]⟩),
 (120, ⟨1, [.nilfn], 8, .func⟩),
 (125, ⟨1, [.nilp], 8, .ptr⟩),
 (127, ⟨1, [.int .i64 0], 8, .struct [(0, 1, false)]⟩),
 (137, ⟨1, [.nils], 24, .slice 2 156⟩),
 (144, ⟨1, [.int .u64 0], 8, .int .u64⟩),
 (146, ⟨2, [.int .u8 0, .int .u8 0], 2, .struct [(0, 1, false), (1, 1, false)]⟩),
 (153, ⟨1, [.int .u64 0], 8, .int .u64⟩),
 (156, ⟨1, [.int .u32 0], 4, .int .u32⟩),
 (164, ⟨1, [.nilp], 8, .ptr⟩),
 (172, ⟨1, [.int .u8 0], 1, .int .u8⟩),
 (180, ⟨1, [.str ByteArray.empty], 16, .struct [(0, 1, false)]⟩)]
def tyT : Ty := ⟨look tyL, [0, 1]⟩
theorem tyT_ok : TyOk Tryz.prog tyT := tableOk_ok (show tableOk Tryz.prog tyL = true by kernel_rfl)
theorem mix : Tryz.prog.follows .mixedOrders = true := by kernel_rfl
end Go.VI
namespace Go.VI
open Go
noncomputable def Tf.graph_parts.c : Code := (Go.Proofs.Tryz.f21.body).getD .skip
def Tf.graph_parts.f (F : Nat) (a : ByteArray) : Option (Int × Bool) :=
 (bif (seqB a (⟨#[112, 97, 114, 97, 109]⟩ : ByteArray)) then (some ((0 : Int), Bool.true))
 else (bif (seqB a (⟨#[105, 110, 112, 117, 116]⟩ : ByteArray)) then (some ((0 : Int), Bool.true))
 else (bif (seqB a (⟨#[99, 111, 110, 115, 116]⟩ : ByteArray)) then (some ((0 : Int), Bool.true))
 else (bif (seqB a (⟨#[114, 101, 108, 117]⟩ : ByteArray)) then (some ((1 : Int), Bool.true))
 else (bif (seqB a (⟨#[97, 98, 115]⟩ : ByteArray)) then (some ((1 : Int), Bool.true))
 else (bif (seqB a (⟨#[115, 116, 101, 112]⟩ : ByteArray)) then (some ((1 : Int), Bool.true))
 else (bif (seqB a (⟨#[115, 105, 103, 110]⟩ : ByteArray)) then (some ((1 : Int), Bool.true))
 else (bif (seqB a (⟨#[115, 99, 97, 108, 101]⟩ : ByteArray)) then (some ((1 : Int), Bool.true))
 else (bif (seqB a (⟨#[112, 111, 119, 101, 114]⟩ : ByteArray)) then (some ((1 : Int), Bool.true))
 else (bif (seqB a (⟨#[116, 114, 97, 110, 115, 112, 111, 115, 101]⟩ : ByteArray)) then (some ((1 : Int), Bool.true))
 else (bif (seqB a (⟨#[115, 117, 109]⟩ : ByteArray)) then (some ((1 : Int), Bool.true))
 else (bif (seqB a (⟨#[114, 101, 115, 104, 97, 112, 101]⟩ : ByteArray)) then (some ((1 : Int), Bool.true))
 else (bif (seqB a (⟨#[115, 112, 114, 101, 97, 100]⟩ : ByteArray)) then (some ((1 : Int), Bool.true))
 else (bif (seqB a (⟨#[97, 100, 100]⟩ : ByteArray)) then (some ((2 : Int), Bool.true))
 else (bif (seqB a (⟨#[115, 117, 98]⟩ : ByteArray)) then (some ((2 : Int), Bool.true))
 else (bif (seqB a (⟨#[109, 117, 108]⟩ : ByteArray)) then (some ((2 : Int), Bool.true))
 else (bif (seqB a (⟨#[109, 97, 120]⟩ : ByteArray)) then (some ((2 : Int), Bool.true))
 else (bif (seqB a (⟨#[97, 98, 111, 118, 101]⟩ : ByteArray)) then (some ((2 : Int), Bool.true))
 else (bif (seqB a (⟨#[109, 97, 116, 109, 117, 108]⟩ : ByteArray)) then (some ((2 : Int), Bool.true))
 else (some ((0 : Int), Bool.false)))))))))))))))))))))
theorem Tf.graph_parts.f_ok (F : Nat) (a) : exec Go.VI.tyT (look [] : Fns) 27 (look [] : Loops) Tf.graph_parts.c (init [.p] (encKs [.str] a)) (finT (look [] : Fns) (⟨[.p], [.p, .p]⟩ : Sig) [2, 3] [.pure, .pure] [.int .i64, .bool]) = Tf.graph_parts.f F a := by kernel_rfl
def Tf.graph_parts.e (F : Nat) : Fn := mkFn (⟨[.p], [.p, .p]⟩ : Sig) [.str] [.pure, .pure] [.int .i64, .bool] (Tf.graph_parts.f F)
theorem Tf.graph_parts.ok (F : Nat) : EntryOk Go.Proofs.Tryz.prog Go.VI.tyT.G 21 (Tf.graph_parts.e F) :=
  fn_ok Go.VI.tyT_ok rfl mix .nil (Λ := (look [] : Loops)) (fn := Go.Proofs.Tryz.f21) (c := Tf.graph_parts.c) (LoopsOk.of (bs := []) (by kernel_rfl) .nil) (by kernel_rfl) (by kernel_rfl) (by kernel_rfl) (by kernel_rfl) (res2 (by kernel_rfl)) (by decide) (Tf.graph_parts.f_ok F)
end Go.VI
namespace Go.Proofs
open Go.Shelf
def Tryz.laysGw15_ren : Go.Shelf.Ren := ⟨fun | 15 => 82 | 20 => 96 | n => n, fun | 9 => 9 | 23 => 120 | 3 => 3 | 4 => 4 | 0 => 0 | 21 => 21 | n => n, fun | n => n⟩
theorem Tryz.laysGw15 : Go.Proofs.LaysGw.n15 Tryz.prog Tryz.laysGw15_ren := {
  mixed := by kernel_rfl
  f15 := Tryz.func82.trans (congrArg some (by kernel_rfl))
  f20 := Tryz.func96.trans (congrArg some (by kernel_rfl))
  t0 := Tryz.underlying0
  a0 := Tryz.isAgg0
  z0 := Tryz.sizeOf0
  v0 := Tryz.zeroValue0
  i0 := by kernel_rfl
  t3 := Tryz.underlying3
  a3 := Tryz.isAgg3
  z3 := Tryz.sizeOf3
  v3 := Tryz.zeroValue3
  i3 := by kernel_rfl
  t4 := Tryz.underlying4
  a4 := Tryz.isAgg4
  z4 := Tryz.sizeOf4
  v4 := Tryz.zeroValue4
  i4 := by kernel_rfl
  t9 := Tryz.underlying9
  a9 := Tryz.isAgg9
  z9 := Tryz.sizeOf9
  v9 := Tryz.zeroValue9
  i9 := by kernel_rfl
  t21 := Tryz.underlying21
  a21 := Tryz.isAgg21
  z21 := Tryz.sizeOf21
  v21 := Tryz.zeroValue21
  i21 := by kernel_rfl
  t23 := Tryz.underlying120
  a23 := Tryz.isAgg120
  z23 := Tryz.sizeOf120
  v23 := Tryz.zeroValue120
  i23 := by kernel_rfl }
def Tryz.lays160_ren : Go.Shelf.Ren := ⟨fun | 160 => 52 | 232 => 61 | 231 => 60 | 227 => 62 | 234 => 64 | 233 => 63 | 236 => 66 | 235 => 65 | 228 => 76 | 271 => 79 | 151 => 78 | 197 => 77 | 120 => 93 | 152 => 92 | 260 => 91 | 137 => 103 | 119 => 104 | 224 => 105 | 225 => 106 | 217 => 107 | 266 => 119 | n => n, fun | 9 => 9 | 4 => 4 | 3 => 3 | 5 => 5 | 117 => 97 | 116 => 96 | 0 => 0 | 124 => 100 | 21 => 21 | 105 => 112 | 46 => 144 | 119 => 143 | 139 => 147 | 138 => 146 | n => n, fun | 3 => 2 | 4 => 3 | n => n⟩
theorem Tryz.lays160 : Go.Proofs.Lays.n160 Tryz.prog Tryz.lays160_ren := {
  mixed := by kernel_rfl
  f119 := Tryz.func104.trans (congrArg some (by kernel_rfl))
  f120 := Tryz.func93.trans (congrArg some (by kernel_rfl))
  f137 := Tryz.func103.trans (congrArg some (by kernel_rfl))
  f151 := Tryz.func78.trans (congrArg some (by kernel_rfl))
  f152 := Tryz.func92.trans (congrArg some (by kernel_rfl))
  f160 := Tryz.func52.trans (congrArg some (by kernel_rfl))
  f197 := Tryz.func77.trans (congrArg some (by kernel_rfl))
  f217 := Tryz.func107.trans (congrArg some (by kernel_rfl))
  f224 := Tryz.func105.trans (congrArg some (by kernel_rfl))
  f225 := Tryz.func106.trans (congrArg some (by kernel_rfl))
  f227 := Tryz.func62.trans (congrArg some (by kernel_rfl))
  f228 := Tryz.func76.trans (congrArg some (by kernel_rfl))
  f231 := Tryz.func60.trans (congrArg some (by kernel_rfl))
  f232 := Tryz.func61.trans (congrArg some (by kernel_rfl))
  f233 := Tryz.func63.trans (congrArg some (by kernel_rfl))
  f234 := Tryz.func64.trans (congrArg some (by kernel_rfl))
  f235 := Tryz.func65.trans (congrArg some (by kernel_rfl))
  f236 := Tryz.func66.trans (congrArg some (by kernel_rfl))
  f260 := Tryz.func91.trans (congrArg some (by kernel_rfl))
  f266 := Tryz.func119.trans (congrArg some (by kernel_rfl))
  f271 := Tryz.func79.trans (congrArg some (by kernel_rfl))
  t0 := Tryz.underlying0
  a0 := Tryz.isAgg0
  z0 := Tryz.sizeOf0
  v0 := Tryz.zeroValue0
  t3 := Tryz.underlying3
  a3 := Tryz.isAgg3
  z3 := Tryz.sizeOf3
  v3 := Tryz.zeroValue3
  t4 := Tryz.underlying4
  a4 := Tryz.isAgg4
  z4 := Tryz.sizeOf4
  v4 := Tryz.zeroValue4
  t5 := Tryz.underlying5
  a5 := Tryz.isAgg5
  z5 := Tryz.sizeOf5
  v5 := Tryz.zeroValue5
  t9 := Tryz.underlying9
  a9 := Tryz.isAgg9
  z9 := Tryz.sizeOf9
  v9 := Tryz.zeroValue9
  t21 := Tryz.underlying21
  a21 := Tryz.isAgg21
  z21 := Tryz.sizeOf21
  v21 := Tryz.zeroValue21
  t46 := Tryz.underlying144
  a46 := Tryz.isAgg144
  z46 := Tryz.sizeOf144
  v46 := Tryz.zeroValue144
  t105 := Tryz.underlying112
  a105 := Tryz.isAgg112
  z105 := Tryz.sizeOf112
  v105 := Tryz.zeroValue112
  t116 := Tryz.underlying96
  a116 := Tryz.isAgg96
  z116 := Tryz.sizeOf96
  t117 := Tryz.underlying97
  a117 := Tryz.isAgg97
  z117 := Tryz.sizeOf97
  v117 := Tryz.zeroValue97
  t119 := Tryz.underlying143
  a119 := Tryz.isAgg143
  z119 := Tryz.sizeOf143
  t124 := Tryz.underlying100
  a124 := Tryz.isAgg100
  z124 := Tryz.sizeOf100
  v124 := Tryz.zeroValue100
  t138 := Tryz.underlying146
  a138 := Tryz.isAgg146
  z138 := Tryz.sizeOf146
  v138 := Tryz.zeroValue146
  t139 := Tryz.underlying147
  a139 := Tryz.isAgg147
  z139 := Tryz.sizeOf147
  v139 := Tryz.zeroValue147
  g3 := by kernel_rfl
  g4 := by kernel_rfl }
def Tryz.lays219_ren : Go.Shelf.Ren := ⟨fun | 219 => 94 | 217 => 107 | 225 => 106 | 224 => 105 | 267 => 108 | 266 => 119 | 314 => 120 | n => n, fun | 9 => 9 | 3 => 3 | 4 => 4 | 5 => 5 | 46 => 144 | 146 => 160 | 51 => 156 | n => n, fun | 1 => 4 | n => n⟩
theorem Tryz.lays219 : Go.Proofs.Lays.n219 Tryz.prog Tryz.lays219_ren := {
  mixed := by kernel_rfl
  f217 := Tryz.func107.trans (congrArg some (by kernel_rfl))
  f219 := Tryz.func94.trans (congrArg some (by kernel_rfl))
  f224 := Tryz.func105.trans (congrArg some (by kernel_rfl))
  f225 := Tryz.func106.trans (congrArg some (by kernel_rfl))
  f266 := Tryz.func119.trans (congrArg some (by kernel_rfl))
  f267 := Tryz.func108.trans (congrArg some (by kernel_rfl))
  f314 := Tryz.func120.trans (congrArg some (by kernel_rfl))
  t3 := Tryz.underlying3
  a3 := Tryz.isAgg3
  z3 := Tryz.sizeOf3
  v3 := Tryz.zeroValue3
  t4 := Tryz.underlying4
  a4 := Tryz.isAgg4
  z4 := Tryz.sizeOf4
  v4 := Tryz.zeroValue4
  t5 := Tryz.underlying5
  a5 := Tryz.isAgg5
  z5 := Tryz.sizeOf5
  v5 := Tryz.zeroValue5
  t9 := Tryz.underlying9
  a9 := Tryz.isAgg9
  z9 := Tryz.sizeOf9
  v9 := Tryz.zeroValue9
  t46 := Tryz.underlying144
  a46 := Tryz.isAgg144
  z46 := Tryz.sizeOf144
  v46 := Tryz.zeroValue144
  t51 := Tryz.underlying156
  a51 := Tryz.isAgg156
  z51 := Tryz.sizeOf156
  v51 := Tryz.zeroValue156
  t146 := Tryz.underlying160
  a146 := Tryz.isAgg160
  z146 := Tryz.sizeOf160
  v146 := Tryz.zeroValue160
  g1 := by kernel_rfl }
end Go.Proofs
namespace Go.VI
open Go Go.Proofs Go.RowKit
theorem lt_of_blt {a b : Nat} (h : Nat.blt a b = true) : a < b := Nat.le_of_ble_eq_true h
def Tf.strings_Trim.f (F : Nat) (a : ByteArray × ByteArray) : Option ByteArray := bif Nat.ble a.1.size 9223372036854775807 && Nat.blt a.2.size 4294967281 && a.2.data.toList.all (fun b => Nat.blt b.toNat 128) then some ⟨(Go.Lib.trimS a.1.data.toList a.2.data.toList).toArray⟩ else none
def Tf.strings_Trim.e (F : Nat) : Fn := mkFn (⟨[.p, .p], [.p]⟩ : Sig) [.str, .str] [.pure] [.str] (Tf.strings_Trim.f F)
theorem Tf.strings_Trim.ok (F : Nat) : EntryOk Tryz.prog tyT.G 52 (Tf.strings_Trim.e F) := by
  refine entry_pure (aks := [.str, .str]) (rt := .str) (enters_of Tryz.func52 (by kernel_rfl) rfl) rfl (fun a => rfl) (fun y => rfl) fun a y w h => ?_
  unfold Tf.strings_Trim.f at h
  cases hc : Nat.ble a.1.size 9223372036854775807 && Nat.blt a.2.size 4294967281 && a.2.data.toList.all (fun b => Nat.blt b.toNat 128) with
  | false => rw [hc] at h; cases h
  | true =>
    rw [hc] at h
    cases h
    simp only [Bool.and_eq_true] at hc
    exact Any.strings_Trim_laid Tryz.lays160 (by kernel_rfl) a.1 a.2 w (Nat.le_of_ble_eq_true hc.1.1) (lt_of_blt hc.1.2) (fun j b hb => lt_of_blt (List.all_eq_true.1 hc.2 b (List.mem_of_getElem? hb)))
def Tf.internal_stringslite_Index.f (F : Nat) (a : ByteArray × ByteArray) : Option Int := bif Nat.beq a.2.size 1 then some (Go.Lib.indexByte a.1.data.toList (a.2.data.toList.getD 0 0)) else none
def Tf.internal_stringslite_Index.e (F : Nat) : Fn := mkFn (⟨[.p, .p], [.p]⟩ : Sig) [.str, .str] [.pure] [.int .i64] (Tf.internal_stringslite_Index.f F)
theorem Tf.internal_stringslite_Index.ok (F : Nat) : EntryOk Tryz.prog tyT.G 94 (Tf.internal_stringslite_Index.e F) := by
  refine entry_pure (aks := [.str, .str]) (rt := .int .i64) (enters_of Tryz.func94 (by kernel_rfl) rfl) rfl (fun a => rfl) (fun y => rfl) fun a y w h => ?_
  unfold Tf.internal_stringslite_Index.f at h
  cases hc : Nat.beq a.2.size 1 with
  | false => rw [hc] at h; cases h
  | true =>
    rw [hc] at h
    cases h
    obtain ⟨c, hc'⟩ := Go.Lib.one_byte a.2 (Nat.eq_of_beq_eq_true hc)
    have h1 := (Any.stringslite_Index_one { Tryz.lays219 with } a.1 c w).mono (R' := fun e w' => e = .returned (zval (.int .i64 (Go.Lib.indexByte a.1.data.toList (a.2.data.toList.getD 0 0)))) ∧ Below w.heap.size w w') (by
      rintro e w' ⟨rfl, rfl⟩
      exact ⟨by rw [hc']; rfl, Below.refl _ _⟩)
    rw [← hc'] at h1
    exact h1
theorem nat_right_closure (w : World) : PredAt Tryz.prog 83 #[] encR (fun r => decide (r < 48) || decide (57 < r)) w := fun W r _ => by
  unfold FnGives
  by_cases h1 : r < 48 <;> by_cases h2 : 57 < r
  all_goals
    have z1 : (r : Int) < 48 ↔ r < 48 := by omega
    have z2 : (57 : Int) < (r : Int) ↔ 57 < r := by omega
    go_enter Tryz.func83, Tryz.ntmps83
    go_wp2
    all_goals first | (exfalso; omega) | (go_ret; exact ⟨by simp [h1, h2], 0, rfl⟩)
def Tf.strings_IndexFunc_nat_Right_1.f (F : Nat) (a : ByteArray × Unit) : Option Int := some (Go.Lib.idxFunc (fun r => decide (r < 48) || decide (57 < r)) true a.1)
def Tf.strings_IndexFunc_nat_Right_1.e (F : Nat) : Fn := mkFn (⟨[.p, .p], [.p]⟩ : Sig) [.str, .fn0 83] [.pure] [.int .i64] (Tf.strings_IndexFunc_nat_Right_1.f F)
theorem Tf.strings_IndexFunc_nat_Right_1.ok (F : Nat) : EntryOk Tryz.prog tyT.G 82 (Tf.strings_IndexFunc_nat_Right_1.e F) := by
  refine entry_pure (aks := [.str, .fn0 83]) (rt := .int .i64) (enters_of Tryz.func82 (by kernel_rfl) rfl) rfl (fun a => rfl) (fun y => rfl) fun a y w h => ?_
  cases h
  exact Any.strings_IndexFunc Tryz.laysGw15 83 #[] (enters_of Tryz.func83 (by kernel_rfl) rfl) _ a.1 w (nat_right_closure w)
end Go.VI
namespace Go.VI
open Go
noncomputable def Tf.lex_Name.c : Code := (Go.Proofs.Tryz.f38.body).getD .skip
def Tf.lex_Name.f (F : Nat) (a : ByteArray) : Option Bool :=
 (bif (seqB a (⟨#[]⟩ : ByteArray)) then (some Bool.false)
 else (bif (decide (((ByteArray.size a) : Int) > (8 : Int))) then (some Bool.false)
 else (bif (inR (0 : Int) (ByteArray.size a)) then (bif (decide ((byteAt a (0 : Int)) < (97 : Int))) then (some Bool.false)
 else (bif (inR (0 : Int) (ByteArray.size a)) then (bif (decide ((byteAt a (0 : Int)) > (122 : Int))) then (some Bool.false)
 else (Option.bind (Tf.strings_Trim.f F (a, (⟨#[97, 98, 99, 100, 101, 102, 103, 104, 105, 106, 107, 108, 109, 110, 111, 112, 113, 114, 115, 116, 117, 118, 119, 120, 121, 122, 48, 49, 50, 51, 52, 53, 54, 55, 56, 57]⟩ : ByteArray))) (fun y23 => (some (seqB y23 (⟨#[]⟩ : ByteArray))))))
 else none))
 else none)))
theorem Tf.lex_Name.f_ok (F : Nat) (a) : exec Go.VI.tyT (look [(52, Tf.strings_Trim.e F)] : Fns) 23 (look [] : Loops) Tf.lex_Name.c (init [.p] (encKs [.str] a)) (finT (look [(52, Tf.strings_Trim.e F)] : Fns) (⟨[.p], [.p]⟩ : Sig) [2] [.pure] [.bool]) = Tf.lex_Name.f F a := by kernel_rfl
def Tf.lex_Name.e (F : Nat) : Fn := mkFn (⟨[.p], [.p]⟩ : Sig) [.str] [.pure] [.bool] (Tf.lex_Name.f F)
theorem Tf.lex_Name.ok (F : Nat) : EntryOk Go.Proofs.Tryz.prog Go.VI.tyT.G 38 (Tf.lex_Name.e F) :=
  fn_ok Go.VI.tyT_ok rfl mix (.cons (Tf.strings_Trim.ok F) .nil) (Λ := (look [] : Loops)) (fn := Go.Proofs.Tryz.f38) (c := Tf.lex_Name.c) (LoopsOk.of (bs := []) (by kernel_rfl) .nil) (by kernel_rfl) (by kernel_rfl) (by kernel_rfl) (by kernel_rfl) (res1 (by kernel_rfl)) (by decide) (Tf.lex_Name.f_ok F)
end Go.VI
namespace Go.VI
open Go
noncomputable def Tf.graph_bare.c : Code := (Go.Proofs.Tryz.f22.body).getD .skip
def Tf.graph_bare.f (F : Nat) (a : (Go.VI.Node × Int)) : Option Bool :=
 (bif (seqB a.1.op (⟨#[112, 97, 114, 97, 109]⟩ : ByteArray)) then (bif (decide (a.2 > (0 : Int))) then (bif (decide (a.2 > (1 : Int))) then (Option.bind (Tf.lex_Name.f F a.1.name) (fun y25 => (bif (y25 == Bool.true) then (bif (seqB a.1.k (⟨#[]⟩ : ByteArray)) then (bif (a.1.n == (0 : Int)) then (bif (((List.length a.1.data) : Int) == (0 : Int)) then (some Bool.true)
 else (some (seqB a.1.op (⟨#[99, 111, 110, 115, 116]⟩ : ByteArray))))
 else (bif (seqB a.1.op (⟨#[112, 111, 119, 101, 114]⟩ : ByteArray)) then (bif (((List.length a.1.data) : Int) == (0 : Int)) then (some Bool.true)
 else (some (seqB a.1.op (⟨#[99, 111, 110, 115, 116]⟩ : ByteArray))))
 else (some Bool.false)))
 else (bif (seqB a.1.op (⟨#[115, 99, 97, 108, 101]⟩ : ByteArray)) then (bif (a.1.n == (0 : Int)) then (bif (((List.length a.1.data) : Int) == (0 : Int)) then (some Bool.true)
 else (some (seqB a.1.op (⟨#[99, 111, 110, 115, 116]⟩ : ByteArray))))
 else (bif (seqB a.1.op (⟨#[112, 111, 119, 101, 114]⟩ : ByteArray)) then (bif (((List.length a.1.data) : Int) == (0 : Int)) then (some Bool.true)
 else (some (seqB a.1.op (⟨#[99, 111, 110, 115, 116]⟩ : ByteArray))))
 else (some Bool.false)))
 else (some Bool.false)))
 else (some Bool.false))))
 else (bif (a.1.b == (0 : Int)) then (Option.bind (Tf.lex_Name.f F a.1.name) (fun y28 => (bif (y28 == Bool.true) then (bif (seqB a.1.k (⟨#[]⟩ : ByteArray)) then (bif (a.1.n == (0 : Int)) then (bif (((List.length a.1.data) : Int) == (0 : Int)) then (some Bool.true)
 else (some (seqB a.1.op (⟨#[99, 111, 110, 115, 116]⟩ : ByteArray))))
 else (bif (seqB a.1.op (⟨#[112, 111, 119, 101, 114]⟩ : ByteArray)) then (bif (((List.length a.1.data) : Int) == (0 : Int)) then (some Bool.true)
 else (some (seqB a.1.op (⟨#[99, 111, 110, 115, 116]⟩ : ByteArray))))
 else (some Bool.false)))
 else (bif (seqB a.1.op (⟨#[115, 99, 97, 108, 101]⟩ : ByteArray)) then (bif (a.1.n == (0 : Int)) then (bif (((List.length a.1.data) : Int) == (0 : Int)) then (some Bool.true)
 else (some (seqB a.1.op (⟨#[99, 111, 110, 115, 116]⟩ : ByteArray))))
 else (bif (seqB a.1.op (⟨#[112, 111, 119, 101, 114]⟩ : ByteArray)) then (bif (((List.length a.1.data) : Int) == (0 : Int)) then (some Bool.true)
 else (some (seqB a.1.op (⟨#[99, 111, 110, 115, 116]⟩ : ByteArray))))
 else (some Bool.false)))
 else (some Bool.false)))
 else (some Bool.false))))
 else (some Bool.false)))
 else (bif (a.1.a == (0 : Int)) then (bif (decide (a.2 > (1 : Int))) then (Option.bind (Tf.lex_Name.f F a.1.name) (fun y28 => (bif (y28 == Bool.true) then (bif (seqB a.1.k (⟨#[]⟩ : ByteArray)) then (bif (a.1.n == (0 : Int)) then (bif (((List.length a.1.data) : Int) == (0 : Int)) then (some Bool.true)
 else (some (seqB a.1.op (⟨#[99, 111, 110, 115, 116]⟩ : ByteArray))))
 else (bif (seqB a.1.op (⟨#[112, 111, 119, 101, 114]⟩ : ByteArray)) then (bif (((List.length a.1.data) : Int) == (0 : Int)) then (some Bool.true)
 else (some (seqB a.1.op (⟨#[99, 111, 110, 115, 116]⟩ : ByteArray))))
 else (some Bool.false)))
 else (bif (seqB a.1.op (⟨#[115, 99, 97, 108, 101]⟩ : ByteArray)) then (bif (a.1.n == (0 : Int)) then (bif (((List.length a.1.data) : Int) == (0 : Int)) then (some Bool.true)
 else (some (seqB a.1.op (⟨#[99, 111, 110, 115, 116]⟩ : ByteArray))))
 else (bif (seqB a.1.op (⟨#[112, 111, 119, 101, 114]⟩ : ByteArray)) then (bif (((List.length a.1.data) : Int) == (0 : Int)) then (some Bool.true)
 else (some (seqB a.1.op (⟨#[99, 111, 110, 115, 116]⟩ : ByteArray))))
 else (some Bool.false)))
 else (some Bool.false)))
 else (some Bool.false))))
 else (bif (a.1.b == (0 : Int)) then (Option.bind (Tf.lex_Name.f F a.1.name) (fun y31 => (bif (y31 == Bool.true) then (bif (seqB a.1.k (⟨#[]⟩ : ByteArray)) then (bif (a.1.n == (0 : Int)) then (bif (((List.length a.1.data) : Int) == (0 : Int)) then (some Bool.true)
 else (some (seqB a.1.op (⟨#[99, 111, 110, 115, 116]⟩ : ByteArray))))
 else (bif (seqB a.1.op (⟨#[112, 111, 119, 101, 114]⟩ : ByteArray)) then (bif (((List.length a.1.data) : Int) == (0 : Int)) then (some Bool.true)
 else (some (seqB a.1.op (⟨#[99, 111, 110, 115, 116]⟩ : ByteArray))))
 else (some Bool.false)))
 else (bif (seqB a.1.op (⟨#[115, 99, 97, 108, 101]⟩ : ByteArray)) then (bif (a.1.n == (0 : Int)) then (bif (((List.length a.1.data) : Int) == (0 : Int)) then (some Bool.true)
 else (some (seqB a.1.op (⟨#[99, 111, 110, 115, 116]⟩ : ByteArray))))
 else (bif (seqB a.1.op (⟨#[112, 111, 119, 101, 114]⟩ : ByteArray)) then (bif (((List.length a.1.data) : Int) == (0 : Int)) then (some Bool.true)
 else (some (seqB a.1.op (⟨#[99, 111, 110, 115, 116]⟩ : ByteArray))))
 else (some Bool.false)))
 else (some Bool.false)))
 else (some Bool.false))))
 else (some Bool.false)))
 else (some Bool.false)))
 else (bif (decide (a.2 > (0 : Int))) then (bif (decide (a.2 > (1 : Int))) then (Option.bind (Tf.lex_Name.f F a.1.name) (fun y28 => (bif (y28 == (seqB a.1.op (⟨#[105, 110, 112, 117, 116]⟩ : ByteArray))) then (bif (seqB a.1.op (⟨#[105, 110, 112, 117, 116]⟩ : ByteArray)) then (bif (seqB a.1.k (⟨#[]⟩ : ByteArray)) then (bif (a.1.n == (0 : Int)) then (bif (((List.length a.1.data) : Int) == (0 : Int)) then (some Bool.true)
 else (some (seqB a.1.op (⟨#[99, 111, 110, 115, 116]⟩ : ByteArray))))
 else (bif (seqB a.1.op (⟨#[112, 111, 119, 101, 114]⟩ : ByteArray)) then (bif (((List.length a.1.data) : Int) == (0 : Int)) then (some Bool.true)
 else (some (seqB a.1.op (⟨#[99, 111, 110, 115, 116]⟩ : ByteArray))))
 else (some Bool.false)))
 else (bif (seqB a.1.op (⟨#[115, 99, 97, 108, 101]⟩ : ByteArray)) then (bif (a.1.n == (0 : Int)) then (bif (((List.length a.1.data) : Int) == (0 : Int)) then (some Bool.true)
 else (some (seqB a.1.op (⟨#[99, 111, 110, 115, 116]⟩ : ByteArray))))
 else (bif (seqB a.1.op (⟨#[112, 111, 119, 101, 114]⟩ : ByteArray)) then (bif (((List.length a.1.data) : Int) == (0 : Int)) then (some Bool.true)
 else (some (seqB a.1.op (⟨#[99, 111, 110, 115, 116]⟩ : ByteArray))))
 else (some Bool.false)))
 else (some Bool.false)))
 else (bif (seqB a.1.name (⟨#[]⟩ : ByteArray)) then (bif (seqB a.1.k (⟨#[]⟩ : ByteArray)) then (bif (a.1.n == (0 : Int)) then (bif (((List.length a.1.data) : Int) == (0 : Int)) then (some Bool.true)
 else (some (seqB a.1.op (⟨#[99, 111, 110, 115, 116]⟩ : ByteArray))))
 else (bif (seqB a.1.op (⟨#[112, 111, 119, 101, 114]⟩ : ByteArray)) then (bif (((List.length a.1.data) : Int) == (0 : Int)) then (some Bool.true)
 else (some (seqB a.1.op (⟨#[99, 111, 110, 115, 116]⟩ : ByteArray))))
 else (some Bool.false)))
 else (bif (seqB a.1.op (⟨#[115, 99, 97, 108, 101]⟩ : ByteArray)) then (bif (a.1.n == (0 : Int)) then (bif (((List.length a.1.data) : Int) == (0 : Int)) then (some Bool.true)
 else (some (seqB a.1.op (⟨#[99, 111, 110, 115, 116]⟩ : ByteArray))))
 else (bif (seqB a.1.op (⟨#[112, 111, 119, 101, 114]⟩ : ByteArray)) then (bif (((List.length a.1.data) : Int) == (0 : Int)) then (some Bool.true)
 else (some (seqB a.1.op (⟨#[99, 111, 110, 115, 116]⟩ : ByteArray))))
 else (some Bool.false)))
 else (some Bool.false)))
 else (some Bool.false)))
 else (some Bool.false))))
 else (bif (a.1.b == (0 : Int)) then (Option.bind (Tf.lex_Name.f F a.1.name) (fun y31 => (bif (y31 == (seqB a.1.op (⟨#[105, 110, 112, 117, 116]⟩ : ByteArray))) then (bif (seqB a.1.op (⟨#[105, 110, 112, 117, 116]⟩ : ByteArray)) then (bif (seqB a.1.k (⟨#[]⟩ : ByteArray)) then (bif (a.1.n == (0 : Int)) then (bif (((List.length a.1.data) : Int) == (0 : Int)) then (some Bool.true)
 else (some (seqB a.1.op (⟨#[99, 111, 110, 115, 116]⟩ : ByteArray))))
 else (bif (seqB a.1.op (⟨#[112, 111, 119, 101, 114]⟩ : ByteArray)) then (bif (((List.length a.1.data) : Int) == (0 : Int)) then (some Bool.true)
 else (some (seqB a.1.op (⟨#[99, 111, 110, 115, 116]⟩ : ByteArray))))
 else (some Bool.false)))
 else (bif (seqB a.1.op (⟨#[115, 99, 97, 108, 101]⟩ : ByteArray)) then (bif (a.1.n == (0 : Int)) then (bif (((List.length a.1.data) : Int) == (0 : Int)) then (some Bool.true)
 else (some (seqB a.1.op (⟨#[99, 111, 110, 115, 116]⟩ : ByteArray))))
 else (bif (seqB a.1.op (⟨#[112, 111, 119, 101, 114]⟩ : ByteArray)) then (bif (((List.length a.1.data) : Int) == (0 : Int)) then (some Bool.true)
 else (some (seqB a.1.op (⟨#[99, 111, 110, 115, 116]⟩ : ByteArray))))
 else (some Bool.false)))
 else (some Bool.false)))
 else (bif (seqB a.1.name (⟨#[]⟩ : ByteArray)) then (bif (seqB a.1.k (⟨#[]⟩ : ByteArray)) then (bif (a.1.n == (0 : Int)) then (bif (((List.length a.1.data) : Int) == (0 : Int)) then (some Bool.true)
 else (some (seqB a.1.op (⟨#[99, 111, 110, 115, 116]⟩ : ByteArray))))
 else (bif (seqB a.1.op (⟨#[112, 111, 119, 101, 114]⟩ : ByteArray)) then (bif (((List.length a.1.data) : Int) == (0 : Int)) then (some Bool.true)
 else (some (seqB a.1.op (⟨#[99, 111, 110, 115, 116]⟩ : ByteArray))))
 else (some Bool.false)))
 else (bif (seqB a.1.op (⟨#[115, 99, 97, 108, 101]⟩ : ByteArray)) then (bif (a.1.n == (0 : Int)) then (bif (((List.length a.1.data) : Int) == (0 : Int)) then (some Bool.true)
 else (some (seqB a.1.op (⟨#[99, 111, 110, 115, 116]⟩ : ByteArray))))
 else (bif (seqB a.1.op (⟨#[112, 111, 119, 101, 114]⟩ : ByteArray)) then (bif (((List.length a.1.data) : Int) == (0 : Int)) then (some Bool.true)
 else (some (seqB a.1.op (⟨#[99, 111, 110, 115, 116]⟩ : ByteArray))))
 else (some Bool.false)))
 else (some Bool.false)))
 else (some Bool.false)))
 else (some Bool.false))))
 else (some Bool.false)))
 else (bif (a.1.a == (0 : Int)) then (bif (decide (a.2 > (1 : Int))) then (Option.bind (Tf.lex_Name.f F a.1.name) (fun y31 => (bif (y31 == (seqB a.1.op (⟨#[105, 110, 112, 117, 116]⟩ : ByteArray))) then (bif (seqB a.1.op (⟨#[105, 110, 112, 117, 116]⟩ : ByteArray)) then (bif (seqB a.1.k (⟨#[]⟩ : ByteArray)) then (bif (a.1.n == (0 : Int)) then (bif (((List.length a.1.data) : Int) == (0 : Int)) then (some Bool.true)
 else (some (seqB a.1.op (⟨#[99, 111, 110, 115, 116]⟩ : ByteArray))))
 else (bif (seqB a.1.op (⟨#[112, 111, 119, 101, 114]⟩ : ByteArray)) then (bif (((List.length a.1.data) : Int) == (0 : Int)) then (some Bool.true)
 else (some (seqB a.1.op (⟨#[99, 111, 110, 115, 116]⟩ : ByteArray))))
 else (some Bool.false)))
 else (bif (seqB a.1.op (⟨#[115, 99, 97, 108, 101]⟩ : ByteArray)) then (bif (a.1.n == (0 : Int)) then (bif (((List.length a.1.data) : Int) == (0 : Int)) then (some Bool.true)
 else (some (seqB a.1.op (⟨#[99, 111, 110, 115, 116]⟩ : ByteArray))))
 else (bif (seqB a.1.op (⟨#[112, 111, 119, 101, 114]⟩ : ByteArray)) then (bif (((List.length a.1.data) : Int) == (0 : Int)) then (some Bool.true)
 else (some (seqB a.1.op (⟨#[99, 111, 110, 115, 116]⟩ : ByteArray))))
 else (some Bool.false)))
 else (some Bool.false)))
 else (bif (seqB a.1.name (⟨#[]⟩ : ByteArray)) then (bif (seqB a.1.k (⟨#[]⟩ : ByteArray)) then (bif (a.1.n == (0 : Int)) then (bif (((List.length a.1.data) : Int) == (0 : Int)) then (some Bool.true)
 else (some (seqB a.1.op (⟨#[99, 111, 110, 115, 116]⟩ : ByteArray))))
 else (bif (seqB a.1.op (⟨#[112, 111, 119, 101, 114]⟩ : ByteArray)) then (bif (((List.length a.1.data) : Int) == (0 : Int)) then (some Bool.true)
 else (some (seqB a.1.op (⟨#[99, 111, 110, 115, 116]⟩ : ByteArray))))
 else (some Bool.false)))
 else (bif (seqB a.1.op (⟨#[115, 99, 97, 108, 101]⟩ : ByteArray)) then (bif (a.1.n == (0 : Int)) then (bif (((List.length a.1.data) : Int) == (0 : Int)) then (some Bool.true)
 else (some (seqB a.1.op (⟨#[99, 111, 110, 115, 116]⟩ : ByteArray))))
 else (bif (seqB a.1.op (⟨#[112, 111, 119, 101, 114]⟩ : ByteArray)) then (bif (((List.length a.1.data) : Int) == (0 : Int)) then (some Bool.true)
 else (some (seqB a.1.op (⟨#[99, 111, 110, 115, 116]⟩ : ByteArray))))
 else (some Bool.false)))
 else (some Bool.false)))
 else (some Bool.false)))
 else (some Bool.false))))
 else (bif (a.1.b == (0 : Int)) then (Option.bind (Tf.lex_Name.f F a.1.name) (fun y34 => (bif (y34 == (seqB a.1.op (⟨#[105, 110, 112, 117, 116]⟩ : ByteArray))) then (bif (seqB a.1.op (⟨#[105, 110, 112, 117, 116]⟩ : ByteArray)) then (bif (seqB a.1.k (⟨#[]⟩ : ByteArray)) then (bif (a.1.n == (0 : Int)) then (bif (((List.length a.1.data) : Int) == (0 : Int)) then (some Bool.true)
 else (some (seqB a.1.op (⟨#[99, 111, 110, 115, 116]⟩ : ByteArray))))
 else (bif (seqB a.1.op (⟨#[112, 111, 119, 101, 114]⟩ : ByteArray)) then (bif (((List.length a.1.data) : Int) == (0 : Int)) then (some Bool.true)
 else (some (seqB a.1.op (⟨#[99, 111, 110, 115, 116]⟩ : ByteArray))))
 else (some Bool.false)))
 else (bif (seqB a.1.op (⟨#[115, 99, 97, 108, 101]⟩ : ByteArray)) then (bif (a.1.n == (0 : Int)) then (bif (((List.length a.1.data) : Int) == (0 : Int)) then (some Bool.true)
 else (some (seqB a.1.op (⟨#[99, 111, 110, 115, 116]⟩ : ByteArray))))
 else (bif (seqB a.1.op (⟨#[112, 111, 119, 101, 114]⟩ : ByteArray)) then (bif (((List.length a.1.data) : Int) == (0 : Int)) then (some Bool.true)
 else (some (seqB a.1.op (⟨#[99, 111, 110, 115, 116]⟩ : ByteArray))))
 else (some Bool.false)))
 else (some Bool.false)))
 else (bif (seqB a.1.name (⟨#[]⟩ : ByteArray)) then (bif (seqB a.1.k (⟨#[]⟩ : ByteArray)) then (bif (a.1.n == (0 : Int)) then (bif (((List.length a.1.data) : Int) == (0 : Int)) then (some Bool.true)
 else (some (seqB a.1.op (⟨#[99, 111, 110, 115, 116]⟩ : ByteArray))))
 else (bif (seqB a.1.op (⟨#[112, 111, 119, 101, 114]⟩ : ByteArray)) then (bif (((List.length a.1.data) : Int) == (0 : Int)) then (some Bool.true)
 else (some (seqB a.1.op (⟨#[99, 111, 110, 115, 116]⟩ : ByteArray))))
 else (some Bool.false)))
 else (bif (seqB a.1.op (⟨#[115, 99, 97, 108, 101]⟩ : ByteArray)) then (bif (a.1.n == (0 : Int)) then (bif (((List.length a.1.data) : Int) == (0 : Int)) then (some Bool.true)
 else (some (seqB a.1.op (⟨#[99, 111, 110, 115, 116]⟩ : ByteArray))))
 else (bif (seqB a.1.op (⟨#[112, 111, 119, 101, 114]⟩ : ByteArray)) then (bif (((List.length a.1.data) : Int) == (0 : Int)) then (some Bool.true)
 else (some (seqB a.1.op (⟨#[99, 111, 110, 115, 116]⟩ : ByteArray))))
 else (some Bool.false)))
 else (some Bool.false)))
 else (some Bool.false)))
 else (some Bool.false))))
 else (some Bool.false)))
 else (some Bool.false))))
theorem Tf.graph_bare.f_ok (F : Nat) (a) : exec Go.VI.tyT (look [(38, Tf.lex_Name.e F)] : Fns) 76 (look [] : Loops) Tf.graph_bare.c (init [.v 206, .p] (encKs [.rc 6, .int .i64] a)) (finT (look [(38, Tf.lex_Name.e F)] : Fns) (⟨[.v 206, .p], [.p]⟩ : Sig) [4] [.pure] [.bool]) = Tf.graph_bare.f F a := by kernel_rfl
def Tf.graph_bare.e (F : Nat) : Fn := mkFn (⟨[.v 206, .p], [.p]⟩ : Sig) [.rc 6, .int .i64] [.pure] [.bool] (Tf.graph_bare.f F)
theorem Tf.graph_bare.ok (F : Nat) : EntryOk Go.Proofs.Tryz.prog Go.VI.tyT.G 22 (Tf.graph_bare.e F) :=
  fn_ok Go.VI.tyT_ok rfl mix (.cons (Tf.lex_Name.ok F) .nil) (Λ := (look [] : Loops)) (fn := Go.Proofs.Tryz.f22) (c := Tf.graph_bare.c) (LoopsOk.of (bs := []) (by kernel_rfl) .nil) (by kernel_rfl) (by kernel_rfl) (by kernel_rfl) (by kernel_rfl) (res1 (by kernel_rfl)) (by decide) (Tf.graph_bare.f_ok F)
end Go.VI
namespace Go.VI
open Go
noncomputable def Tf.slices_Equal___int_int_.c : Code := (Go.Proofs.Tryz.f37.body).getD .skip
noncomputable def Tf.slices_Equal___int_int_.b4 : Code := codeAt [1, 1, 0, 1, 0, 0] Tf.slices_Equal___int_int_.c
def Tf.slices_Equal___int_int_.s4 (F : Nat) (L : (Int × ((List Int) × ((List Int) × Int))) → Option (Bool ⊕ Unit)) (x : (Int × ((List Int) × ((List Int) × Int)))) : Option (Bool ⊕ Unit) :=
 (bif (decide (x.1 < x.2.2.2)) then (bif (inR x.1 (List.length x.2.2.1)) then (bif (inR x.1 (List.length x.2.1)) then (bif ((List.getD x.2.2.1 (Int.toNat x.1) (0 : Int)) != (List.getD x.2.1 (Int.toNat x.1) (0 : Int))) then (some (.inl Bool.false))
 else (L ((Go.IntKind.wrap IntKind.i64 (x.1 + (1 : Int))), (x.2.1, (x.2.2.1, x.2.2.2)))))
 else none)
 else none)
 else (some (.inr ())))
def Tf.slices_Equal___int_int_.l4 (F : Nat) : (Int × ((List Int) × ((List Int) × Int))) → Option (Bool ⊕ Unit) := iter (Tf.slices_Equal___int_int_.s4 F) F
theorem Tf.slices_Equal___int_int_.s4_ok (F : Nat) (L a) : exec Go.VI.tyT (look [] : Fns) 26 (look [] : Loops) Tf.slices_Equal___int_int_.b4 (rebuild [.slot 13, .view 1 0, .view 0 0, .slot 12] (encKs [.int .i64, .sl 0, .sl 0, .int .i64] a)) (bodyK [.slot 13, .view 1 0, .view 0 0, .slot 12] [.int .i64, .sl 0, .sl 0, .int .i64] [⟨.ret, [.slot 4], [.bool]⟩, ⟨.exit 0, [], []⟩] L) = Tf.slices_Equal___int_int_.s4 F L a := by kernel_rfl
theorem Tf.slices_Equal___int_int_.l4_ok (F : Nat) : LoopOk Go.Proofs.Tryz.prog Go.VI.tyT.G 26 Tf.slices_Equal___int_int_.b4 (fun st κ => hand [.slot 13, .view 1 0, .view 0 0, .slot 12] [.int .i64, .sl 0, .sl 0, .int .i64] [⟨.ret, [.slot 4], [.bool]⟩, ⟨.exit 0, [], []⟩] (Tf.slices_Equal___int_int_.l4 F) st κ) :=
  loop_ok Go.VI.tyT_ok rfl mix .nil (Λ := (look [] : Loops)) (LoopsOk.of (bs := []) (by kernel_rfl) .nil) (Tf.slices_Equal___int_int_.s4_ok F) F
def Tf.slices_Equal___int_int_.f (F : Nat) (a : ((List Int) × (List Int))) : Option Bool :=
 (bif (((List.length a.1) : Int) != ((List.length a.2) : Int)) then (some Bool.false)
 else (Option.bind (Tf.slices_Equal___int_int_.l4 F ((0 : Int), (a.2, (a.1, ((List.length a.1) : Int))))) (fun y12 => (sumE y12 (fun y13 => (some y13)) (fun y13 => (some Bool.true))))))
theorem Tf.slices_Equal___int_int_.f_ok (F : Nat) (a) : exec Go.VI.tyT (look [] : Fns) 26 (look [(4, fun st κ => hand [.slot 13, .view 1 0, .view 0 0, .slot 12] [.int .i64, .sl 0, .sl 0, .int .i64] [⟨.ret, [.slot 4], [.bool]⟩, ⟨.exit 0, [], []⟩] (Tf.slices_Equal___int_int_.l4 F) st κ)] : Loops) Tf.slices_Equal___int_int_.c (init [.v 0, .v 0] (encKs [.sl 0, .sl 0] a)) (finT (look [] : Fns) (⟨[.v 0, .v 0], [.p]⟩ : Sig) [4] [.pure] [.bool]) = Tf.slices_Equal___int_int_.f F a := by kernel_rfl
def Tf.slices_Equal___int_int_.e (F : Nat) : Fn := mkFn (⟨[.v 0, .v 0], [.p]⟩ : Sig) [.sl 0, .sl 0] [.pure] [.bool] (Tf.slices_Equal___int_int_.f F)
theorem Tf.slices_Equal___int_int_.ok (F : Nat) : EntryOk Go.Proofs.Tryz.prog Go.VI.tyT.G 37 (Tf.slices_Equal___int_int_.e F) :=
  fn_ok Go.VI.tyT_ok rfl mix .nil (Λ := (look [(4, fun st κ => hand [.slot 13, .view 1 0, .view 0 0, .slot 12] [.int .i64, .sl 0, .sl 0, .int .i64] [⟨.ret, [.slot 4], [.bool]⟩, ⟨.exit 0, [], []⟩] (Tf.slices_Equal___int_int_.l4 F) st κ)] : Loops)) (fn := Go.Proofs.Tryz.f37) (c := Tf.slices_Equal___int_int_.c) (LoopsOk.of (bs := [Tf.slices_Equal___int_int_.b4]) (by kernel_rfl) (.cons rfl (Tf.slices_Equal___int_int_.l4_ok F) .nil)) (by kernel_rfl) (by kernel_rfl) (by kernel_rfl) (by kernel_rfl) (res1 (by kernel_rfl)) (by decide) (Tf.slices_Equal___int_int_.f_ok F)
end Go.VI
namespace Go.VI
open Go
noncomputable def Tf.shape_Same.c : Code := (Go.Proofs.Tryz.f20.body).getD .skip
def Tf.shape_Same.f (F : Nat) (a : ((List Int) × (List Int))) : Option Bool :=
 (Option.bind (Tf.slices_Equal___int_int_.f F (a.1, a.2)) (fun y7 => (some y7)))
theorem Tf.shape_Same.f_ok (F : Nat) (a) : exec Go.VI.tyT (look [(37, Tf.slices_Equal___int_int_.e F)] : Fns) 8 (look [] : Loops) Tf.shape_Same.c (init [.v 0, .v 0] (encKs [.sl 0, .sl 0] a)) (finT (look [(37, Tf.slices_Equal___int_int_.e F)] : Fns) (⟨[.v 0, .v 0], [.p]⟩ : Sig) [4] [.pure] [.bool]) = Tf.shape_Same.f F a := by kernel_rfl
def Tf.shape_Same.e (F : Nat) : Fn := mkFn (⟨[.v 0, .v 0], [.p]⟩ : Sig) [.sl 0, .sl 0] [.pure] [.bool] (Tf.shape_Same.f F)
theorem Tf.shape_Same.ok (F : Nat) : EntryOk Go.Proofs.Tryz.prog Go.VI.tyT.G 20 (Tf.shape_Same.e F) :=
  fn_ok Go.VI.tyT_ok rfl mix (.cons (Tf.slices_Equal___int_int_.ok F) .nil) (Λ := (look [] : Loops)) (fn := Go.Proofs.Tryz.f20) (c := Tf.shape_Same.c) (LoopsOk.of (bs := []) (by kernel_rfl) .nil) (by kernel_rfl) (by kernel_rfl) (by kernel_rfl) (by kernel_rfl) (res1 (by kernel_rfl)) (by decide) (Tf.shape_Same.f_ok F)
end Go.VI
namespace Go.VI
open Go
noncomputable def Tf.shape_Right.c : Code := (Go.Proofs.Tryz.f24.body).getD .skip
noncomputable def Tf.shape_Right.b3 : Code := codeAt [1, 1, 0, 1, 0, 0] Tf.shape_Right.c
def Tf.shape_Right.s3 (F : Nat) (L : (Int × (Int × ((List Int) × ((List Int) × Int)))) → Option (Bool ⊕ Int)) (x : (Int × (Int × ((List Int) × ((List Int) × Int))))) : Option (Bool ⊕ Int) :=
 (bif (decide (x.1 < x.2.2.2.2)) then (bif (inR x.1 (List.length x.2.2.2.1)) then (bif (decide ((List.getD x.2.2.2.1 (Int.toNat x.1) (0 : Int)) < (1 : Int))) then (some (.inl Bool.false))
 else (bif (decide ((List.getD x.2.2.2.1 (Int.toNat x.1) (0 : Int)) > (64 : Int))) then (some (.inl Bool.false))
 else (bif (decide (((List.length x.2.2.1) : Int) > (4 : Int))) then (some (.inl Bool.false))
 else (L ((Go.IntKind.wrap IntKind.i64 (x.1 + (1 : Int))), ((Go.IntKind.wrap IntKind.i64 (x.2.1 * (List.getD x.2.2.2.1 (Int.toNat x.1) (0 : Int)))), (x.2.2.1, (x.2.2.2.1, x.2.2.2.2))))))))
 else none)
 else (some (.inr x.2.1)))
def Tf.shape_Right.l3 (F : Nat) : (Int × (Int × ((List Int) × ((List Int) × Int)))) → Option (Bool ⊕ Int) := iter (Tf.shape_Right.s3 F) F
theorem Tf.shape_Right.s3_ok (F : Nat) (L a) : exec Go.VI.tyT (look [] : Fns) 29 (look [] : Loops) Tf.shape_Right.b3 (rebuild [.slot 8, .slot 3, .view 0 0, .view 6 0, .slot 7] (encKs [.int .i64, .int .i64, .sl 0, .sl 0, .int .i64] a)) (bodyK [.slot 8, .slot 3, .view 0 0, .view 6 0, .slot 7] [.int .i64, .int .i64, .sl 0, .sl 0, .int .i64] [⟨.ret, [.slot 2], [.bool]⟩, ⟨.exit 0, [.slot 3], [.int .i64]⟩] L) = Tf.shape_Right.s3 F L a := by kernel_rfl
theorem Tf.shape_Right.l3_ok (F : Nat) : LoopOk Go.Proofs.Tryz.prog Go.VI.tyT.G 29 Tf.shape_Right.b3 (fun st κ => hand [.slot 8, .slot 3, .view 0 0, .view 6 0, .slot 7] [.int .i64, .int .i64, .sl 0, .sl 0, .int .i64] [⟨.ret, [.slot 2], [.bool]⟩, ⟨.exit 0, [.slot 3], [.int .i64]⟩] (Tf.shape_Right.l3 F) st κ) :=
  loop_ok Go.VI.tyT_ok rfl mix .nil (Λ := (look [] : Loops)) (LoopsOk.of (bs := []) (by kernel_rfl) .nil) (Tf.shape_Right.s3_ok F) F
def Tf.shape_Right.f (F : Nat) (a : (List Int)) : Option Bool :=
 (Option.bind (Tf.shape_Right.l3 F ((0 : Int), ((1 : Int), (a, (a, ((List.length a) : Int)))))) (fun y8 => (sumE y8 (fun y9 => (some y9)) (fun y9 => (some (decide (y9 ≤ (64 : Int))))))))
theorem Tf.shape_Right.f_ok (F : Nat) (a) : exec Go.VI.tyT (look [] : Fns) 29 (look [(3, fun st κ => hand [.slot 8, .slot 3, .view 0 0, .view 6 0, .slot 7] [.int .i64, .int .i64, .sl 0, .sl 0, .int .i64] [⟨.ret, [.slot 2], [.bool]⟩, ⟨.exit 0, [.slot 3], [.int .i64]⟩] (Tf.shape_Right.l3 F) st κ)] : Loops) Tf.shape_Right.c (init [.v 0] (encKs [.sl 0] a)) (finT (look [] : Fns) (⟨[.v 0], [.p]⟩ : Sig) [2] [.pure] [.bool]) = Tf.shape_Right.f F a := by kernel_rfl
def Tf.shape_Right.e (F : Nat) : Fn := mkFn (⟨[.v 0], [.p]⟩ : Sig) [.sl 0] [.pure] [.bool] (Tf.shape_Right.f F)
theorem Tf.shape_Right.ok (F : Nat) : EntryOk Go.Proofs.Tryz.prog Go.VI.tyT.G 24 (Tf.shape_Right.e F) :=
  fn_ok Go.VI.tyT_ok rfl mix .nil (Λ := (look [(3, fun st κ => hand [.slot 8, .slot 3, .view 0 0, .view 6 0, .slot 7] [.int .i64, .int .i64, .sl 0, .sl 0, .int .i64] [⟨.ret, [.slot 2], [.bool]⟩, ⟨.exit 0, [.slot 3], [.int .i64]⟩] (Tf.shape_Right.l3 F) st κ)] : Loops)) (fn := Go.Proofs.Tryz.f24) (c := Tf.shape_Right.c) (LoopsOk.of (bs := [Tf.shape_Right.b3]) (by kernel_rfl) (.cons rfl (Tf.shape_Right.l3_ok F) .nil)) (by kernel_rfl) (by kernel_rfl) (by kernel_rfl) (by kernel_rfl) (res1 (by kernel_rfl)) (by decide) (Tf.shape_Right.f_ok F)
end Go.VI
namespace Go.VI
open Go
noncomputable def Tf.shape_Size.c : Code := (Go.Proofs.Tryz.f39.body).getD .skip
noncomputable def Tf.shape_Size.b5 : Code := codeAt [1, 1, 1, 0, 1, 0, 0] Tf.shape_Size.c
def Tf.shape_Size.s5 (F : Nat) (L : (Int × (Int × ((List Int) × Int))) → Option Int) (x : (Int × (Int × ((List Int) × Int)))) : Option Int :=
 (bif (decide (x.1 < x.2.2.2)) then (bif (inR x.1 (List.length x.2.2.1)) then (L ((Go.IntKind.wrap IntKind.i64 (x.1 + (1 : Int))), ((Go.IntKind.wrap IntKind.i64 (x.2.1 * (List.getD x.2.2.1 (Int.toNat x.1) (0 : Int)))), (x.2.2.1, x.2.2.2))))
 else none)
 else (some x.2.1))
def Tf.shape_Size.l5 (F : Nat) : (Int × (Int × ((List Int) × Int))) → Option Int := iter (Tf.shape_Size.s5 F) F
theorem Tf.shape_Size.s5_ok (F : Nat) (L a) : exec Go.VI.tyT (look [(24, Tf.shape_Right.e F)] : Fns) 20 (look [] : Loops) Tf.shape_Size.b5 (rebuild [.slot 11, .slot 3, .view 9 0, .slot 10] (encKs [.int .i64, .int .i64, .sl 0, .int .i64] a)) (bodyK [.slot 11, .slot 3, .view 9 0, .slot 10] [.int .i64, .int .i64, .sl 0, .int .i64] [⟨.exit 0, [.slot 3], [.int .i64]⟩] L) = Tf.shape_Size.s5 F L a := by kernel_rfl
theorem Tf.shape_Size.l5_ok (F : Nat) : LoopOk Go.Proofs.Tryz.prog Go.VI.tyT.G 20 Tf.shape_Size.b5 (fun st κ => hand [.slot 11, .slot 3, .view 9 0, .slot 10] [.int .i64, .int .i64, .sl 0, .int .i64] [⟨.exit 0, [.slot 3], [.int .i64]⟩] (Tf.shape_Size.l5 F) st κ) :=
  loop_ok Go.VI.tyT_ok rfl mix (.cons (Tf.shape_Right.ok F) .nil) (Λ := (look [] : Loops)) (LoopsOk.of (bs := []) (by kernel_rfl) .nil) (Tf.shape_Size.s5_ok F) F
def Tf.shape_Size.f (F : Nat) (a : (List Int)) : Option Int :=
 (Option.bind (Tf.shape_Right.f F a) (fun y6 => (bif (!y6) then (some (0 : Int))
 else (Option.bind (Tf.shape_Size.l5 F ((0 : Int), ((1 : Int), (a, ((List.length a) : Int))))) (fun y12 => (some y12))))))
theorem Tf.shape_Size.f_ok (F : Nat) (a) : exec Go.VI.tyT (look [(24, Tf.shape_Right.e F)] : Fns) 20 (look [(5, fun st κ => hand [.slot 11, .slot 3, .view 9 0, .slot 10] [.int .i64, .int .i64, .sl 0, .int .i64] [⟨.exit 0, [.slot 3], [.int .i64]⟩] (Tf.shape_Size.l5 F) st κ)] : Loops) Tf.shape_Size.c (init [.v 0] (encKs [.sl 0] a)) (finT (look [(24, Tf.shape_Right.e F)] : Fns) (⟨[.v 0], [.p]⟩ : Sig) [2] [.pure] [.int .i64]) = Tf.shape_Size.f F a := by kernel_rfl
def Tf.shape_Size.e (F : Nat) : Fn := mkFn (⟨[.v 0], [.p]⟩ : Sig) [.sl 0] [.pure] [.int .i64] (Tf.shape_Size.f F)
theorem Tf.shape_Size.ok (F : Nat) : EntryOk Go.Proofs.Tryz.prog Go.VI.tyT.G 39 (Tf.shape_Size.e F) :=
  fn_ok Go.VI.tyT_ok rfl mix (.cons (Tf.shape_Right.ok F) .nil) (Λ := (look [(5, fun st κ => hand [.slot 11, .slot 3, .view 9 0, .slot 10] [.int .i64, .int .i64, .sl 0, .int .i64] [⟨.exit 0, [.slot 3], [.int .i64]⟩] (Tf.shape_Size.l5 F) st κ)] : Loops)) (fn := Go.Proofs.Tryz.f39) (c := Tf.shape_Size.c) (LoopsOk.of (bs := [Tf.shape_Size.b5]) (by kernel_rfl) (.cons rfl (Tf.shape_Size.l5_ok F) .nil)) (by kernel_rfl) (by kernel_rfl) (by kernel_rfl) (by kernel_rfl) (res1 (by kernel_rfl)) (by decide) (Tf.shape_Size.f_ok F)
end Go.VI
namespace Go.VI
open Go
noncomputable def Tf.internal_stringslite_Cut.c : Code := (Go.Proofs.Tryz.f80.body).getD .skip
def Tf.internal_stringslite_Cut.f (F : Nat) (a : (ByteArray × ByteArray)) : Option (ByteArray × (ByteArray × Bool)) :=
 (Option.bind (Tf.internal_stringslite_Index.f F (a.1, a.2)) (fun y9 => (bif (decide (y9 ≥ (0 : Int))) then (bif ((decide ((0 : Int) ≤ y9)) && (decide (y9 ≤ ((ByteArray.size a.1) : Int)))) then (bif ((decide ((0 : Int) ≤ (Go.IntKind.wrap IntKind.i64 (y9 + ((ByteArray.size a.2) : Int))))) && (decide ((Go.IntKind.wrap IntKind.i64 (y9 + ((ByteArray.size a.2) : Int))) ≤ ((ByteArray.size a.1) : Int)))) then (some ((ByteArray.extract a.1 0 (Int.toNat y9)), ((ByteArray.extract a.1 (Int.toNat (Go.IntKind.wrap IntKind.i64 (y9 + ((ByteArray.size a.2) : Int)))) (ByteArray.size a.1)), Bool.true)))
 else none)
 else none)
 else (some (a.1, ((⟨#[]⟩ : ByteArray), Bool.false))))))
theorem Tf.internal_stringslite_Cut.f_ok (F : Nat) (a) : exec Go.VI.tyT (look [(94, Tf.internal_stringslite_Index.e F)] : Fns) 23 (look [] : Loops) Tf.internal_stringslite_Cut.c (init [.p, .p] (encKs [.str, .str] a)) (finT (look [(94, Tf.internal_stringslite_Index.e F)] : Fns) (⟨[.p, .p], [.p, .p, .p]⟩ : Sig) [4, 5, 6] [.pure, .pure, .pure] [.str, .str, .bool]) = Tf.internal_stringslite_Cut.f F a := by kernel_rfl
def Tf.internal_stringslite_Cut.e (F : Nat) : Fn := mkFn (⟨[.p, .p], [.p, .p, .p]⟩ : Sig) [.str, .str] [.pure, .pure, .pure] [.str, .str, .bool] (Tf.internal_stringslite_Cut.f F)
theorem Tf.internal_stringslite_Cut.ok (F : Nat) : EntryOk Go.Proofs.Tryz.prog Go.VI.tyT.G 80 (Tf.internal_stringslite_Cut.e F) :=
  fn_ok Go.VI.tyT_ok rfl mix (.cons (Tf.internal_stringslite_Index.ok F) .nil) (Λ := (look [] : Loops)) (fn := Go.Proofs.Tryz.f80) (c := Tf.internal_stringslite_Cut.c) (LoopsOk.of (bs := []) (by kernel_rfl) .nil) (by kernel_rfl) (by kernel_rfl) (by kernel_rfl) (by kernel_rfl) (res3 (by kernel_rfl)) (by decide) (Tf.internal_stringslite_Cut.f_ok F)
end Go.VI
namespace Go.VI
open Go
noncomputable def Tf.strings_Cut.c : Code := (Go.Proofs.Tryz.f67.body).getD .skip
def Tf.strings_Cut.f (F : Nat) (a : (ByteArray × ByteArray)) : Option (ByteArray × (ByteArray × Bool)) :=
 (Option.bind (Tf.internal_stringslite_Cut.f F (a.1, a.2)) (fun y9 => (some (y9.1, (y9.2.1, y9.2.2)))))
theorem Tf.strings_Cut.f_ok (F : Nat) (a) : exec Go.VI.tyT (look [(80, Tf.internal_stringslite_Cut.e F)] : Fns) 13 (look [] : Loops) Tf.strings_Cut.c (init [.p, .p] (encKs [.str, .str] a)) (finT (look [(80, Tf.internal_stringslite_Cut.e F)] : Fns) (⟨[.p, .p], [.p, .p, .p]⟩ : Sig) [4, 5, 6] [.pure, .pure, .pure] [.str, .str, .bool]) = Tf.strings_Cut.f F a := by kernel_rfl
def Tf.strings_Cut.e (F : Nat) : Fn := mkFn (⟨[.p, .p], [.p, .p, .p]⟩ : Sig) [.str, .str] [.pure, .pure, .pure] [.str, .str, .bool] (Tf.strings_Cut.f F)
theorem Tf.strings_Cut.ok (F : Nat) : EntryOk Go.Proofs.Tryz.prog Go.VI.tyT.G 67 (Tf.strings_Cut.e F) :=
  fn_ok Go.VI.tyT_ok rfl mix (.cons (Tf.internal_stringslite_Cut.ok F) .nil) (Λ := (look [] : Loops)) (fn := Go.Proofs.Tryz.f67) (c := Tf.strings_Cut.c) (LoopsOk.of (bs := []) (by kernel_rfl) .nil) (by kernel_rfl) (by kernel_rfl) (by kernel_rfl) (by kernel_rfl) (res3 (by kernel_rfl)) (by decide) (Tf.strings_Cut.f_ok F)
end Go.VI
namespace Go.VI
open Go
noncomputable def Tf.nat_Right_1.c : Code := (Go.Proofs.Tryz.f83.body).getD .skip
def Tf.nat_Right_1.f (F : Nat) (a : Int) : Option Bool :=
 (bif (decide (a < (48 : Int))) then (some Bool.true)
 else (some (decide (a > (57 : Int)))))
theorem Tf.nat_Right_1.f_ok (F : Nat) (a) : exec Go.VI.tyT (look [] : Fns) 9 (look [] : Loops) Tf.nat_Right_1.c (init [.p] (encKs [.int .i32] a)) (finT (look [] : Fns) (⟨[.p], [.p]⟩ : Sig) [2] [.pure] [.bool]) = Tf.nat_Right_1.f F a := by kernel_rfl
def Tf.nat_Right_1.e (F : Nat) : Fn := mkFn (⟨[.p], [.p]⟩ : Sig) [.int .i32] [.pure] [.bool] (Tf.nat_Right_1.f F)
theorem Tf.nat_Right_1.ok (F : Nat) : EntryOk Go.Proofs.Tryz.prog Go.VI.tyT.G 83 (Tf.nat_Right_1.e F) :=
  fn_ok Go.VI.tyT_ok rfl mix .nil (Λ := (look [] : Loops)) (fn := Go.Proofs.Tryz.f83) (c := Tf.nat_Right_1.c) (LoopsOk.of (bs := []) (by kernel_rfl) .nil) (by kernel_rfl) (by kernel_rfl) (by kernel_rfl) (by kernel_rfl) (res1 (by kernel_rfl)) (by decide) (Tf.nat_Right_1.f_ok F)
end Go.VI
namespace Go.VI
open Go
noncomputable def Tf.nat_Right.c : Code := (Go.Proofs.Tryz.f69.body).getD .skip
def Tf.nat_Right.f (F : Nat) (a : ByteArray) : Option Bool :=
 (bif (seqB a (⟨#[]⟩ : ByteArray)) then (some Bool.false)
 else (bif (inR (0 : Int) (ByteArray.size a)) then (bif ((byteAt a (0 : Int)) == (48 : Int)) then (bif (decide (((ByteArray.size a) : Int) > (1 : Int))) then (some Bool.false)
 else (Option.bind (Tf.strings_IndexFunc_nat_Right_1.f F (a, ())) (fun y18 => (some (decide (y18 < (0 : Int)))))))
 else (Option.bind (Tf.strings_IndexFunc_nat_Right_1.f F (a, ())) (fun y15 => (some (decide (y15 < (0 : Int)))))))
 else none))
theorem Tf.nat_Right.f_ok (F : Nat) (a) : exec Go.VI.tyT (look [(82, Tf.strings_IndexFunc_nat_Right_1.e F), (83, Tf.nat_Right_1.e F)] : Fns) 18 (look [] : Loops) Tf.nat_Right.c (init [.p] (encKs [.str] a)) (finT (look [(82, Tf.strings_IndexFunc_nat_Right_1.e F), (83, Tf.nat_Right_1.e F)] : Fns) (⟨[.p], [.p]⟩ : Sig) [2] [.pure] [.bool]) = Tf.nat_Right.f F a := by kernel_rfl
def Tf.nat_Right.e (F : Nat) : Fn := mkFn (⟨[.p], [.p]⟩ : Sig) [.str] [.pure] [.bool] (Tf.nat_Right.f F)
theorem Tf.nat_Right.ok (F : Nat) : EntryOk Go.Proofs.Tryz.prog Go.VI.tyT.G 69 (Tf.nat_Right.e F) :=
  fn_ok Go.VI.tyT_ok rfl mix (.cons (Tf.strings_IndexFunc_nat_Right_1.ok F) (.cons (Tf.nat_Right_1.ok F) .nil)) (Λ := (look [] : Loops)) (fn := Go.Proofs.Tryz.f69) (c := Tf.nat_Right.c) (LoopsOk.of (bs := []) (by kernel_rfl) .nil) (by kernel_rfl) (by kernel_rfl) (by kernel_rfl) (by kernel_rfl) (res1 (by kernel_rfl)) (by decide) (Tf.nat_Right.f_ok F)
end Go.VI
namespace Go.VI
open Go
noncomputable def Tf.internal_stringslite_HasPrefix.c : Code := (Go.Proofs.Tryz.f97.body).getD .skip
def Tf.internal_stringslite_HasPrefix.f (F : Nat) (a : (ByteArray × ByteArray)) : Option Bool :=
 (bif (decide (((ByteArray.size a.1) : Int) ≥ ((ByteArray.size a.2) : Int))) then (bif ((decide ((0 : Int) ≤ ((ByteArray.size a.2) : Int))) && (decide (((ByteArray.size a.2) : Int) ≤ ((ByteArray.size a.1) : Int)))) then (some (seqB (ByteArray.extract a.1 0 (Int.toNat ((ByteArray.size a.2) : Int))) a.2))
 else none)
 else (some Bool.false))
theorem Tf.internal_stringslite_HasPrefix.f_ok (F : Nat) (a) : exec Go.VI.tyT (look [] : Fns) 18 (look [] : Loops) Tf.internal_stringslite_HasPrefix.c (init [.p, .p] (encKs [.str, .str] a)) (finT (look [] : Fns) (⟨[.p, .p], [.p]⟩ : Sig) [4] [.pure] [.bool]) = Tf.internal_stringslite_HasPrefix.f F a := by kernel_rfl
def Tf.internal_stringslite_HasPrefix.e (F : Nat) : Fn := mkFn (⟨[.p, .p], [.p]⟩ : Sig) [.str, .str] [.pure] [.bool] (Tf.internal_stringslite_HasPrefix.f F)
theorem Tf.internal_stringslite_HasPrefix.ok (F : Nat) : EntryOk Go.Proofs.Tryz.prog Go.VI.tyT.G 97 (Tf.internal_stringslite_HasPrefix.e F) :=
  fn_ok Go.VI.tyT_ok rfl mix .nil (Λ := (look [] : Loops)) (fn := Go.Proofs.Tryz.f97) (c := Tf.internal_stringslite_HasPrefix.c) (LoopsOk.of (bs := []) (by kernel_rfl) .nil) (by kernel_rfl) (by kernel_rfl) (by kernel_rfl) (by kernel_rfl) (res1 (by kernel_rfl)) (by decide) (Tf.internal_stringslite_HasPrefix.f_ok F)
end Go.VI
namespace Go.VI
open Go
noncomputable def Tf.internal_stringslite_CutPrefix.c : Code := (Go.Proofs.Tryz.f109.body).getD .skip
def Tf.internal_stringslite_CutPrefix.f (F : Nat) (a : (ByteArray × ByteArray)) : Option (ByteArray × Bool) :=
 (Option.bind (Tf.internal_stringslite_HasPrefix.f F (a.1, a.2)) (fun y8 => (bif (!y8) then (some (a.1, Bool.false))
 else (bif ((decide ((0 : Int) ≤ ((ByteArray.size a.2) : Int))) && (decide (((ByteArray.size a.2) : Int) ≤ ((ByteArray.size a.1) : Int)))) then (some ((ByteArray.extract a.1 (Int.toNat ((ByteArray.size a.2) : Int)) (ByteArray.size a.1)), Bool.true))
 else none))))
theorem Tf.internal_stringslite_CutPrefix.f_ok (F : Nat) (a) : exec Go.VI.tyT (look [(97, Tf.internal_stringslite_HasPrefix.e F)] : Fns) 15 (look [] : Loops) Tf.internal_stringslite_CutPrefix.c (init [.p, .p] (encKs [.str, .str] a)) (finT (look [(97, Tf.internal_stringslite_HasPrefix.e F)] : Fns) (⟨[.p, .p], [.p, .p]⟩ : Sig) [4, 5] [.pure, .pure] [.str, .bool]) = Tf.internal_stringslite_CutPrefix.f F a := by kernel_rfl
def Tf.internal_stringslite_CutPrefix.e (F : Nat) : Fn := mkFn (⟨[.p, .p], [.p, .p]⟩ : Sig) [.str, .str] [.pure, .pure] [.str, .bool] (Tf.internal_stringslite_CutPrefix.f F)
theorem Tf.internal_stringslite_CutPrefix.ok (F : Nat) : EntryOk Go.Proofs.Tryz.prog Go.VI.tyT.G 109 (Tf.internal_stringslite_CutPrefix.e F) :=
  fn_ok Go.VI.tyT_ok rfl mix (.cons (Tf.internal_stringslite_HasPrefix.ok F) .nil) (Λ := (look [] : Loops)) (fn := Go.Proofs.Tryz.f109) (c := Tf.internal_stringslite_CutPrefix.c) (LoopsOk.of (bs := []) (by kernel_rfl) .nil) (by kernel_rfl) (by kernel_rfl) (by kernel_rfl) (by kernel_rfl) (res2 (by kernel_rfl)) (by decide) (Tf.internal_stringslite_CutPrefix.f_ok F)
end Go.VI
namespace Go.VI
open Go
noncomputable def Tf.strings_CutPrefix.c : Code := (Go.Proofs.Tryz.f95.body).getD .skip
def Tf.strings_CutPrefix.f (F : Nat) (a : (ByteArray × ByteArray)) : Option (ByteArray × Bool) :=
 (Option.bind (Tf.internal_stringslite_CutPrefix.f F (a.1, a.2)) (fun y8 => (some (y8.1, y8.2))))
theorem Tf.strings_CutPrefix.f_ok (F : Nat) (a) : exec Go.VI.tyT (look [(109, Tf.internal_stringslite_CutPrefix.e F)] : Fns) 11 (look [] : Loops) Tf.strings_CutPrefix.c (init [.p, .p] (encKs [.str, .str] a)) (finT (look [(109, Tf.internal_stringslite_CutPrefix.e F)] : Fns) (⟨[.p, .p], [.p, .p]⟩ : Sig) [4, 5] [.pure, .pure] [.str, .bool]) = Tf.strings_CutPrefix.f F a := by kernel_rfl
def Tf.strings_CutPrefix.e (F : Nat) : Fn := mkFn (⟨[.p, .p], [.p, .p]⟩ : Sig) [.str, .str] [.pure, .pure] [.str, .bool] (Tf.strings_CutPrefix.f F)
theorem Tf.strings_CutPrefix.ok (F : Nat) : EntryOk Go.Proofs.Tryz.prog Go.VI.tyT.G 95 (Tf.strings_CutPrefix.e F) :=
  fn_ok Go.VI.tyT_ok rfl mix (.cons (Tf.internal_stringslite_CutPrefix.ok F) .nil) (Λ := (look [] : Loops)) (fn := Go.Proofs.Tryz.f95) (c := Tf.strings_CutPrefix.c) (LoopsOk.of (bs := []) (by kernel_rfl) .nil) (by kernel_rfl) (by kernel_rfl) (by kernel_rfl) (by kernel_rfl) (res2 (by kernel_rfl)) (by decide) (Tf.strings_CutPrefix.f_ok F)
end Go.VI
namespace Go.VI
open Go
noncomputable def Tf.whole_read.c : Code := (Go.Proofs.Tryz.f81.body).getD .skip
def Tf.whole_read.f (F : Nat) (a : ByteArray) : Option ((Bool × ByteArray) × Bool) :=
 (Option.bind (Tf.strings_CutPrefix.f F (a, (⟨#[45]⟩ : ByteArray))) (fun y7 => (Option.bind (Tf.nat_Right.f F y7.1) (fun y18 => (bif y18 then (bif y7.2 then (some ((y7.2, y7.1), (!(seqB y7.1 (⟨#[48]⟩ : ByteArray)))))
 else (some ((y7.2, y7.1), Bool.true)))
 else (some ((y7.2, y7.1), Bool.false)))))))
theorem Tf.whole_read.f_ok (F : Nat) (a) : exec Go.VI.tyT (look [(69, Tf.nat_Right.e F), (95, Tf.strings_CutPrefix.e F)] : Fns) 24 (look [] : Loops) Tf.whole_read.c (init [.p] (encKs [.str] a)) (finC Go.VI.tyT (look [(69, Tf.nat_Right.e F), (95, Tf.strings_CutPrefix.e F)] : Fns) 24 2 116 (⟨[.p], [.p, .p]⟩ : Sig) [2, 3] [.pure, .pure] [.st [.bool, .str], .bool]) = Tf.whole_read.f F a := by kernel_rfl
def Tf.whole_read.e (F : Nat) : Fn := mkFn (⟨[.p], [.p, .p]⟩ : Sig) [.str] [.pure, .pure] [.st [.bool, .str], .bool] (Tf.whole_read.f F)
theorem Tf.whole_read.ok (F : Nat) : EntryOk Go.Proofs.Tryz.prog Go.VI.tyT.G 81 (Tf.whole_read.e F) :=
  fn_okC Go.VI.tyT_ok rfl mix (.cons (Tf.nat_Right.ok F) (.cons (Tf.strings_CutPrefix.ok F) .nil)) (Λ := (look [] : Loops)) (fn := Go.Proofs.Tryz.f81) (c := Tf.whole_read.c) (LoopsOk.of (bs := []) (by kernel_rfl) .nil) (by kernel_rfl) (by kernel_rfl) (by kernel_rfl) (by kernel_rfl) (resC1 (by kernel_rfl) (by kernel_rfl)) (by decide) (Tf.whole_read.f_ok F)
end Go.VI
namespace Go.VI
open Go
noncomputable def Tf.whole_Right.c : Code := (Go.Proofs.Tryz.f68.body).getD .skip
def Tf.whole_Right.f (F : Nat) (a : ByteArray) : Option Bool :=
 (Option.bind (Tf.whole_read.f F a) (fun y6 => (some y6.2)))
theorem Tf.whole_Right.f_ok (F : Nat) (a) : exec Go.VI.tyT (look [(81, Tf.whole_read.e F)] : Fns) 11 (look [] : Loops) Tf.whole_Right.c (init [.p] (encKs [.str] a)) (finT (look [(81, Tf.whole_read.e F)] : Fns) (⟨[.p], [.p]⟩ : Sig) [2] [.pure] [.bool]) = Tf.whole_Right.f F a := by kernel_rfl
def Tf.whole_Right.e (F : Nat) : Fn := mkFn (⟨[.p], [.p]⟩ : Sig) [.str] [.pure] [.bool] (Tf.whole_Right.f F)
theorem Tf.whole_Right.ok (F : Nat) : EntryOk Go.Proofs.Tryz.prog Go.VI.tyT.G 68 (Tf.whole_Right.e F) :=
  fn_ok Go.VI.tyT_ok rfl mix (.cons (Tf.whole_read.ok F) .nil) (Λ := (look [] : Loops)) (fn := Go.Proofs.Tryz.f68) (c := Tf.whole_Right.c) (LoopsOk.of (bs := []) (by kernel_rfl) .nil) (by kernel_rfl) (by kernel_rfl) (by kernel_rfl) (by kernel_rfl) (res1 (by kernel_rfl)) (by decide) (Tf.whole_Right.f_ok F)
end Go.VI
namespace Go.VI
open Go
noncomputable def Tf.strings_HasPrefix.c : Code := (Go.Proofs.Tryz.f84.body).getD .skip
def Tf.strings_HasPrefix.f (F : Nat) (a : (ByteArray × ByteArray)) : Option Bool :=
 (Option.bind (Tf.internal_stringslite_HasPrefix.f F (a.1, a.2)) (fun y7 => (some y7)))
theorem Tf.strings_HasPrefix.f_ok (F : Nat) (a) : exec Go.VI.tyT (look [(97, Tf.internal_stringslite_HasPrefix.e F)] : Fns) 8 (look [] : Loops) Tf.strings_HasPrefix.c (init [.p, .p] (encKs [.str, .str] a)) (finT (look [(97, Tf.internal_stringslite_HasPrefix.e F)] : Fns) (⟨[.p, .p], [.p]⟩ : Sig) [4] [.pure] [.bool]) = Tf.strings_HasPrefix.f F a := by kernel_rfl
def Tf.strings_HasPrefix.e (F : Nat) : Fn := mkFn (⟨[.p, .p], [.p]⟩ : Sig) [.str, .str] [.pure] [.bool] (Tf.strings_HasPrefix.f F)
theorem Tf.strings_HasPrefix.ok (F : Nat) : EntryOk Go.Proofs.Tryz.prog Go.VI.tyT.G 84 (Tf.strings_HasPrefix.e F) :=
  fn_ok Go.VI.tyT_ok rfl mix (.cons (Tf.internal_stringslite_HasPrefix.ok F) .nil) (Λ := (look [] : Loops)) (fn := Go.Proofs.Tryz.f84) (c := Tf.strings_HasPrefix.c) (LoopsOk.of (bs := []) (by kernel_rfl) .nil) (by kernel_rfl) (by kernel_rfl) (by kernel_rfl) (by kernel_rfl) (res1 (by kernel_rfl)) (by decide) (Tf.strings_HasPrefix.f_ok F)
end Go.VI
namespace Go.VI
open Go
noncomputable def Tf._whole_number__text.c : Code := (Go.Proofs.Tryz.f98.body).getD .skip
def Tf._whole_number__text.f (F : Nat) (a : (Bool × ByteArray)) : Option ByteArray :=
 (bif a.1 then (bif (!(seqB a.2 (⟨#[48]⟩ : ByteArray))) then (bif (Nat.ble (1 + (ByteArray.size a.2)) 4611686018427387904) then (some ((⟨#[45]⟩ : ByteArray) ++ a.2))
 else none)
 else (some a.2))
 else (some a.2))
theorem Tf._whole_number__text.f_ok (F : Nat) (a) : exec Go.VI.tyT (look [] : Fns) 15 (look [] : Loops) Tf._whole_number__text.c (init [.p] (encKs [.st [.bool, .str]] a)) (finT (look [] : Fns) (⟨[.p], [.p]⟩ : Sig) [2] [.pure] [.str]) = Tf._whole_number__text.f F a := by kernel_rfl
def Tf._whole_number__text.e (F : Nat) : Fn := mkFn (⟨[.p], [.p]⟩ : Sig) [.st [.bool, .str]] [.pure] [.str] (Tf._whole_number__text.f F)
theorem Tf._whole_number__text.ok (F : Nat) : EntryOk Go.Proofs.Tryz.prog Go.VI.tyT.G 98 (Tf._whole_number__text.e F) :=
  fn_ok Go.VI.tyT_ok rfl mix .nil (Λ := (look [] : Loops)) (fn := Go.Proofs.Tryz.f98) (c := Tf._whole_number__text.c) (LoopsOk.of (bs := []) (by kernel_rfl) .nil) (by kernel_rfl) (by kernel_rfl) (by kernel_rfl) (by kernel_rfl) (res1 (by kernel_rfl)) (by decide) (Tf._whole_number__text.f_ok F)
end Go.VI
namespace Go.VI
open Go
noncomputable def Tf.whole_Neg.c : Code := (Go.Proofs.Tryz.f85.body).getD .skip
def Tf.whole_Neg.f (F : Nat) (a : ByteArray) : Option (ByteArray × Int) :=
 (Option.bind (Tf.whole_read.f F a) (fun y7 => (bif (!y7.2) then (some ((⟨#[]⟩ : ByteArray), (2 : Int)))
 else (Option.bind (Tf._whole_number__text.f F ((!y7.1.1), y7.1.2)) (fun y23 => (some (y23, (0 : Int))))))))
theorem Tf.whole_Neg.f_ok (F : Nat) (a) : exec Go.VI.tyT (look [(81, Tf.whole_read.e F), (98, Tf._whole_number__text.e F)] : Fns) 19 (look [] : Loops) Tf.whole_Neg.c (init [.p] (encKs [.str] a)) (finT (look [(81, Tf.whole_read.e F), (98, Tf._whole_number__text.e F)] : Fns) (⟨[.p], [.p, .p]⟩ : Sig) [2, 3] [.pure, .pure] [.str, .int .i64]) = Tf.whole_Neg.f F a := by kernel_rfl
def Tf.whole_Neg.e (F : Nat) : Fn := mkFn (⟨[.p], [.p, .p]⟩ : Sig) [.str] [.pure, .pure] [.str, .int .i64] (Tf.whole_Neg.f F)
theorem Tf.whole_Neg.ok (F : Nat) : EntryOk Go.Proofs.Tryz.prog Go.VI.tyT.G 85 (Tf.whole_Neg.e F) :=
  fn_ok Go.VI.tyT_ok rfl mix (.cons (Tf.whole_read.ok F) (.cons (Tf._whole_number__text.ok F) .nil)) (Λ := (look [] : Loops)) (fn := Go.Proofs.Tryz.f85) (c := Tf.whole_Neg.c) (LoopsOk.of (bs := []) (by kernel_rfl) .nil) (by kernel_rfl) (by kernel_rfl) (by kernel_rfl) (by kernel_rfl) (res2 (by kernel_rfl)) (by decide) (Tf.whole_Neg.f_ok F)
end Go.VI
namespace Go.VI
open Go
noncomputable def Tf.internal_stringslite_TrimPrefix.c : Code := (Go.Proofs.Tryz.f110.body).getD .skip
def Tf.internal_stringslite_TrimPrefix.f (F : Nat) (a : (ByteArray × ByteArray)) : Option ByteArray :=
 (Option.bind (Tf.internal_stringslite_HasPrefix.f F (a.1, a.2)) (fun y7 => (bif y7 then (bif ((decide ((0 : Int) ≤ ((ByteArray.size a.2) : Int))) && (decide (((ByteArray.size a.2) : Int) ≤ ((ByteArray.size a.1) : Int)))) then (some (ByteArray.extract a.1 (Int.toNat ((ByteArray.size a.2) : Int)) (ByteArray.size a.1)))
 else none)
 else (some a.1))))
theorem Tf.internal_stringslite_TrimPrefix.f_ok (F : Nat) (a) : exec Go.VI.tyT (look [(97, Tf.internal_stringslite_HasPrefix.e F)] : Fns) 13 (look [] : Loops) Tf.internal_stringslite_TrimPrefix.c (init [.p, .p] (encKs [.str, .str] a)) (finT (look [(97, Tf.internal_stringslite_HasPrefix.e F)] : Fns) (⟨[.p, .p], [.p]⟩ : Sig) [4] [.pure] [.str]) = Tf.internal_stringslite_TrimPrefix.f F a := by kernel_rfl
def Tf.internal_stringslite_TrimPrefix.e (F : Nat) : Fn := mkFn (⟨[.p, .p], [.p]⟩ : Sig) [.str, .str] [.pure] [.str] (Tf.internal_stringslite_TrimPrefix.f F)
theorem Tf.internal_stringslite_TrimPrefix.ok (F : Nat) : EntryOk Go.Proofs.Tryz.prog Go.VI.tyT.G 110 (Tf.internal_stringslite_TrimPrefix.e F) :=
  fn_ok Go.VI.tyT_ok rfl mix (.cons (Tf.internal_stringslite_HasPrefix.ok F) .nil) (Λ := (look [] : Loops)) (fn := Go.Proofs.Tryz.f110) (c := Tf.internal_stringslite_TrimPrefix.c) (LoopsOk.of (bs := []) (by kernel_rfl) .nil) (by kernel_rfl) (by kernel_rfl) (by kernel_rfl) (by kernel_rfl) (res1 (by kernel_rfl)) (by decide) (Tf.internal_stringslite_TrimPrefix.f_ok F)
end Go.VI
namespace Go.VI
open Go
noncomputable def Tf.strings_TrimPrefix.c : Code := (Go.Proofs.Tryz.f99.body).getD .skip
def Tf.strings_TrimPrefix.f (F : Nat) (a : (ByteArray × ByteArray)) : Option ByteArray :=
 (Option.bind (Tf.internal_stringslite_TrimPrefix.f F (a.1, a.2)) (fun y7 => (some y7)))
theorem Tf.strings_TrimPrefix.f_ok (F : Nat) (a) : exec Go.VI.tyT (look [(110, Tf.internal_stringslite_TrimPrefix.e F)] : Fns) 8 (look [] : Loops) Tf.strings_TrimPrefix.c (init [.p, .p] (encKs [.str, .str] a)) (finT (look [(110, Tf.internal_stringslite_TrimPrefix.e F)] : Fns) (⟨[.p, .p], [.p]⟩ : Sig) [4] [.pure] [.str]) = Tf.strings_TrimPrefix.f F a := by kernel_rfl
def Tf.strings_TrimPrefix.e (F : Nat) : Fn := mkFn (⟨[.p, .p], [.p]⟩ : Sig) [.str, .str] [.pure] [.str] (Tf.strings_TrimPrefix.f F)
theorem Tf.strings_TrimPrefix.ok (F : Nat) : EntryOk Go.Proofs.Tryz.prog Go.VI.tyT.G 99 (Tf.strings_TrimPrefix.e F) :=
  fn_ok Go.VI.tyT_ok rfl mix (.cons (Tf.internal_stringslite_TrimPrefix.ok F) .nil) (Λ := (look [] : Loops)) (fn := Go.Proofs.Tryz.f99) (c := Tf.strings_TrimPrefix.c) (LoopsOk.of (bs := []) (by kernel_rfl) .nil) (by kernel_rfl) (by kernel_rfl) (by kernel_rfl) (by kernel_rfl) (res1 (by kernel_rfl)) (by decide) (Tf.strings_TrimPrefix.f_ok F)
end Go.VI
namespace Go.VI
open Go
noncomputable def Tf.rat_size.c : Code := (Go.Proofs.Tryz.f86.body).getD .skip
def Tf.rat_size.f (F : Nat) (a : ByteArray) : Option ByteArray :=
 (Option.bind (Tf.strings_TrimPrefix.f F (a, (⟨#[45]⟩ : ByteArray))) (fun y6 => (some y6)))
theorem Tf.rat_size.f_ok (F : Nat) (a) : exec Go.VI.tyT (look [(99, Tf.strings_TrimPrefix.e F)] : Fns) 5 (look [] : Loops) Tf.rat_size.c (init [.p] (encKs [.str] a)) (finT (look [(99, Tf.strings_TrimPrefix.e F)] : Fns) (⟨[.p], [.p]⟩ : Sig) [2] [.pure] [.str]) = Tf.rat_size.f F a := by kernel_rfl
def Tf.rat_size.e (F : Nat) : Fn := mkFn (⟨[.p], [.p]⟩ : Sig) [.str] [.pure] [.str] (Tf.rat_size.f F)
theorem Tf.rat_size.ok (F : Nat) : EntryOk Go.Proofs.Tryz.prog Go.VI.tyT.G 86 (Tf.rat_size.e F) :=
  fn_ok Go.VI.tyT_ok rfl mix (.cons (Tf.strings_TrimPrefix.ok F) .nil) (Λ := (look [] : Loops)) (fn := Go.Proofs.Tryz.f86) (c := Tf.rat_size.c) (LoopsOk.of (bs := []) (by kernel_rfl) .nil) (by kernel_rfl) (by kernel_rfl) (by kernel_rfl) (by kernel_rfl) (res1 (by kernel_rfl)) (by decide) (Tf.rat_size.f_ok F)
end Go.VI
namespace Go.VI
open Go
noncomputable def Tf.nat_trim.c : Code := (Go.Proofs.Tryz.f111.body).getD .skip
noncomputable def Tf.nat_trim.b1 : Code := codeAt [1, 0, 0, 0] Tf.nat_trim.c
def Tf.nat_trim.s1 (F : Nat) (L : (List Int) → Option (List Int)) (x : (List Int)) : Option (List Int) :=
 (bif (decide (((List.length x) : Int) > (0 : Int))) then (bif (inR (Go.IntKind.wrap IntKind.i64 (((List.length x) : Int) - (1 : Int))) (List.length x)) then (bif ((List.getD x (Int.toNat (Go.IntKind.wrap IntKind.i64 (((List.length x) : Int) - (1 : Int)))) (0 : Int)) == (0 : Int)) then (bif ((decide ((0 : Int) ≤ (Go.IntKind.wrap IntKind.i64 (((List.length x) : Int) - (1 : Int))))) && (decide ((Go.IntKind.wrap IntKind.i64 (((List.length x) : Int) - (1 : Int))) ≤ ((List.length x) : Int)))) then (L (List.take ((Int.toNat (Go.IntKind.wrap IntKind.i64 (((List.length x) : Int) - (1 : Int)))) - 0) x))
 else none)
 else (some x))
 else none)
 else (some x))
def Tf.nat_trim.l1 (F : Nat) : (List Int) → Option (List Int) := iter (Tf.nat_trim.s1 F) F
theorem Tf.nat_trim.s1_ok (F : Nat) (L a) : exec Go.VI.tyT (look [] : Fns) 21 (look [] : Loops) Tf.nat_trim.b1 (rebuild [.own 0 2] (encKs [.sl 2] a)) (bodyK [.own 0 2] [.sl 2] [⟨.exit 0, [.own 0 2], [.sl 2]⟩] L) = Tf.nat_trim.s1 F L a := by kernel_rfl
theorem Tf.nat_trim.l1_ok (F : Nat) : LoopOk Go.Proofs.Tryz.prog Go.VI.tyT.G 21 Tf.nat_trim.b1 (fun st κ => hand [.own 0 2] [.sl 2] [⟨.exit 0, [.own 0 2], [.sl 2]⟩] (Tf.nat_trim.l1 F) st κ) :=
  loop_ok Go.VI.tyT_ok rfl mix .nil (Λ := (look [] : Loops)) (LoopsOk.of (bs := []) (by kernel_rfl) .nil) (Tf.nat_trim.s1_ok F) F
def Tf.nat_trim.f (F : Nat) (a : (List Int)) : Option (List Int) :=
 (Option.bind (Tf.nat_trim.l1 F a) (fun y4 => (some y4)))
theorem Tf.nat_trim.f_ok (F : Nat) (a) : exec Go.VI.tyT (look [] : Fns) 21 (look [(1, fun st κ => hand [.own 0 2] [.sl 2] [⟨.exit 0, [.own 0 2], [.sl 2]⟩] (Tf.nat_trim.l1 F) st κ)] : Loops) Tf.nat_trim.c (init [.o 2] (encKs [.sl 2] a)) (finT (look [] : Fns) (⟨[.o 2], [.o 2]⟩ : Sig) [2] [.own] [.sl 2]) = Tf.nat_trim.f F a := by kernel_rfl
def Tf.nat_trim.e (F : Nat) : Fn := mkFn (⟨[.o 2], [.o 2]⟩ : Sig) [.sl 2] [.own] [.sl 2] (Tf.nat_trim.f F)
theorem Tf.nat_trim.ok (F : Nat) : EntryOk Go.Proofs.Tryz.prog Go.VI.tyT.G 111 (Tf.nat_trim.e F) :=
  fn_ok Go.VI.tyT_ok rfl mix .nil (Λ := (look [(1, fun st κ => hand [.own 0 2] [.sl 2] [⟨.exit 0, [.own 0 2], [.sl 2]⟩] (Tf.nat_trim.l1 F) st κ)] : Loops)) (fn := Go.Proofs.Tryz.f111) (c := Tf.nat_trim.c) (LoopsOk.of (bs := [Tf.nat_trim.b1]) (by kernel_rfl) (.cons rfl (Tf.nat_trim.l1_ok F) .nil)) (by kernel_rfl) (by kernel_rfl) (by kernel_rfl) (by kernel_rfl) (res1 (by kernel_rfl)) (by decide) (Tf.nat_trim.f_ok F)
end Go.VI
namespace Go.VI
open Go
noncomputable def Tf.nat_step.c : Code := (Go.Proofs.Tryz.f121.body).getD .skip
noncomputable def Tf.nat_step.b3 : Code := codeAt [1, 1, 0, 1, 0, 0] Tf.nat_step.c
def Tf.nat_step.s3 (F : Nat) (L : (Int × ((List Int) × (Int × (Int × ((List Int) × Int))))) → Option (Int × (List Int))) (x : (Int × ((List Int) × (Int × (Int × ((List Int) × Int)))))) : Option (Int × (List Int)) :=
 (bif (decide (x.1 < x.2.2.2.2.2)) then (bif (inR x.1 (List.length x.2.2.2.2.1)) then (bif (Nat.ble ((List.length x.2.1) + 1) 1099511627776) then (L ((Go.IntKind.wrap IntKind.i64 (x.1 + (1 : Int))), ((x.2.1 ++ (List.set (List.replicate 1 (0 : Int)) 0 (Go.IntKind.wrap IntKind.u32 (Go.IntKind.wrap IntKind.u64 (x.2.2.2.1 + (Go.IntKind.wrap IntKind.u64 ((Go.IntKind.wrap IntKind.u64 (List.getD x.2.2.2.2.1 (Int.toNat x.1) (0 : Int))) * x.2.2.1))))))), (x.2.2.1, ((Int.fdiv (Go.IntKind.wrap IntKind.u64 (x.2.2.2.1 + (Go.IntKind.wrap IntKind.u64 ((Go.IntKind.wrap IntKind.u64 (List.getD x.2.2.2.2.1 (Int.toNat x.1) (0 : Int))) * x.2.2.1)))) (4294967296 : Int)), (x.2.2.2.2.1, x.2.2.2.2.2))))))
 else none)
 else none)
 else (some (x.2.2.2.1, x.2.1)))
def Tf.nat_step.l3 (F : Nat) : (Int × ((List Int) × (Int × (Int × ((List Int) × Int))))) → Option (Int × (List Int)) := iter (Tf.nat_step.s3 F) F
theorem Tf.nat_step.s3_ok (F : Nat) (L a) : exec Go.VI.tyT (look [(111, Tf.nat_trim.e F)] : Fns) 40 (look [] : Loops) Tf.nat_step.b3 (rebuild [.slot 16, .own 7 2, .slot 1, .slot 2, .view 14 2, .slot 15] (encKs [.int .i64, .sl 2, .int .u64, .int .u64, .sl 2, .int .i64] a)) (bodyK [.slot 16, .own 7 2, .slot 1, .slot 2, .view 14 2, .slot 15] [.int .i64, .sl 2, .int .u64, .int .u64, .sl 2, .int .i64] [⟨.exit 0, [.slot 2, .own 7 2], [.int .u64, .sl 2]⟩] L) = Tf.nat_step.s3 F L a := by kernel_rfl
theorem Tf.nat_step.l3_ok (F : Nat) : LoopOk Go.Proofs.Tryz.prog Go.VI.tyT.G 40 Tf.nat_step.b3 (fun st κ => hand [.slot 16, .own 7 2, .slot 1, .slot 2, .view 14 2, .slot 15] [.int .i64, .sl 2, .int .u64, .int .u64, .sl 2, .int .i64] [⟨.exit 0, [.slot 2, .own 7 2], [.int .u64, .sl 2]⟩] (Tf.nat_step.l3 F) st κ) :=
  loop_ok Go.VI.tyT_ok rfl mix (.cons (Tf.nat_trim.ok F) .nil) (Λ := (look [] : Loops)) (LoopsOk.of (bs := []) (by kernel_rfl) .nil) (Tf.nat_step.s3_ok F) F
def Tf.nat_step.f (F : Nat) (a : ((List Int) × (Int × Int))) : Option (List Int) :=
 (bif ((Bool.true && (decide ((0 : Int) ≤ (Go.IntKind.wrap IntKind.i64 (((List.length a.1) : Int) + (1 : Int)))))) && (decide ((Go.IntKind.wrap IntKind.i64 (((List.length a.1) : Int) + (1 : Int))) ≤ (1099511627776 : Int)))) then (Option.bind (Tf.nat_step.l3 F ((0 : Int), ((List.replicate 0 (0 : Int)), (a.2.1, (a.2.2, (a.1, ((List.length a.1) : Int))))))) (fun y12 => (bif (Nat.ble ((List.length y12.2) + 1) 1099511627776) then (Option.bind (Tf.nat_trim.f F (y12.2 ++ (List.set (List.replicate 1 (0 : Int)) 0 (Go.IntKind.wrap IntKind.u32 y12.1)))) (fun y19 => (some y19)))
 else none)))
 else none)
theorem Tf.nat_step.f_ok (F : Nat) (a) : exec Go.VI.tyT (look [(111, Tf.nat_trim.e F)] : Fns) 40 (look [(3, fun st κ => hand [.slot 16, .own 7 2, .slot 1, .slot 2, .view 14 2, .slot 15] [.int .i64, .sl 2, .int .u64, .int .u64, .sl 2, .int .i64] [⟨.exit 0, [.slot 2, .own 7 2], [.int .u64, .sl 2]⟩] (Tf.nat_step.l3 F) st κ)] : Loops) Tf.nat_step.c (init [.v 2, .p, .p] (encKs [.sl 2, .int .u64, .int .u64] a)) (finT (look [(111, Tf.nat_trim.e F)] : Fns) (⟨[.v 2, .p, .p], [.o 2]⟩ : Sig) [6] [.own] [.sl 2]) = Tf.nat_step.f F a := by kernel_rfl
def Tf.nat_step.e (F : Nat) : Fn := mkFn (⟨[.v 2, .p, .p], [.o 2]⟩ : Sig) [.sl 2, .int .u64, .int .u64] [.own] [.sl 2] (Tf.nat_step.f F)
theorem Tf.nat_step.ok (F : Nat) : EntryOk Go.Proofs.Tryz.prog Go.VI.tyT.G 121 (Tf.nat_step.e F) :=
  fn_ok Go.VI.tyT_ok rfl mix (.cons (Tf.nat_trim.ok F) .nil) (Λ := (look [(3, fun st κ => hand [.slot 16, .own 7 2, .slot 1, .slot 2, .view 14 2, .slot 15] [.int .i64, .sl 2, .int .u64, .int .u64, .sl 2, .int .i64] [⟨.exit 0, [.slot 2, .own 7 2], [.int .u64, .sl 2]⟩] (Tf.nat_step.l3 F) st κ)] : Loops)) (fn := Go.Proofs.Tryz.f121) (c := Tf.nat_step.c) (LoopsOk.of (bs := [Tf.nat_step.b3]) (by kernel_rfl) (.cons rfl (Tf.nat_step.l3_ok F) .nil)) (by kernel_rfl) (by kernel_rfl) (by kernel_rfl) (by kernel_rfl) (res1 (by kernel_rfl)) (by decide) (Tf.nat_step.f_ok F)
end Go.VI
namespace Go.VI
open Go
noncomputable def Tf.nat_read.c : Code := (Go.Proofs.Tryz.f112.body).getD .skip
noncomputable def Tf.nat_read.b6 : Code := codeAt [1, 1, 0, 0, 0, 1, 0, 1, 1, 0, 1, 0, 0] Tf.nat_read.c
def Tf.nat_read.s6 (F : Nat) (L : (Int × (ByteArray × (Int × (Int × ((List Int) × Int))))) → Option (Int × (ByteArray × (Int × (List Int))))) (x : (Int × (ByteArray × (Int × (Int × ((List Int) × Int)))))) : Option (Int × (ByteArray × (Int × (List Int)))) :=
 (bif (decide (x.1 < x.2.2.2.2.2)) then (bif (inR x.1 (ByteArray.size x.2.1)) then (L ((Go.IntKind.wrap IntKind.i64 (x.1 + (1 : Int))), (x.2.1, ((Go.IntKind.wrap IntKind.u64 ((Go.IntKind.wrap IntKind.u64 ((10 : Int) * x.2.2.1)) + (Go.IntKind.wrap IntKind.u64 (Go.IntKind.wrap IntKind.u8 ((byteAt x.2.1 x.1) - (48 : Int)))))), (x.2.2.2.1, (x.2.2.2.2.1, x.2.2.2.2.2))))))
 else none)
 else (some (x.2.2.2.1, (x.2.1, (x.2.2.1, x.2.2.2.2.1)))))
def Tf.nat_read.l6 (F : Nat) : (Int × (ByteArray × (Int × (Int × ((List Int) × Int))))) → Option (Int × (ByteArray × (Int × (List Int)))) := iter (Tf.nat_read.s6 F) F
theorem Tf.nat_read.s6_ok (F : Nat) (L a) : exec Go.VI.tyT (look [(121, Tf.nat_step.e F)] : Fns) 35 (look [] : Loops) Tf.nat_read.b6 (rebuild [.slot 16, .slot 0, .slot 5, .slot 4, .own 3 2, .slot 15] (encKs [.int .i64, .str, .int .u64, .int .i64, .sl 2, .int .i64] a)) (bodyK [.slot 16, .slot 0, .slot 5, .slot 4, .own 3 2, .slot 15] [.int .i64, .str, .int .u64, .int .i64, .sl 2, .int .i64] [⟨.exit 2, [.slot 4, .slot 0, .slot 5, .own 3 2], [.int .i64, .str, .int .u64, .sl 2]⟩] L) = Tf.nat_read.s6 F L a := by kernel_rfl
theorem Tf.nat_read.l6_ok (F : Nat) : LoopOk Go.Proofs.Tryz.prog Go.VI.tyT.G 35 Tf.nat_read.b6 (fun st κ => hand [.slot 16, .slot 0, .slot 5, .slot 4, .own 3 2, .slot 15] [.int .i64, .str, .int .u64, .int .i64, .sl 2, .int .i64] [⟨.exit 2, [.slot 4, .slot 0, .slot 5, .own 3 2], [.int .i64, .str, .int .u64, .sl 2]⟩] (Tf.nat_read.l6 F) st κ) :=
  loop_ok Go.VI.tyT_ok rfl mix (.cons (Tf.nat_step.ok F) .nil) (Λ := (look [] : Loops)) (LoopsOk.of (bs := []) (by kernel_rfl) .nil) (Tf.nat_read.s6_ok F) F
noncomputable def Tf.nat_read.b2 : Code := codeAt [1, 1, 0, 0, 0] Tf.nat_read.c
def Tf.nat_read.s2 (F : Nat) (L : (ByteArray × (List Int)) → Option (List Int)) (x : (ByteArray × (List Int))) : Option (List Int) :=
 (bif (decide (((ByteArray.size x.1) : Int) > (0 : Int))) then (Option.bind (Tf.nat_read.l6 F ((0 : Int), (x.1, ((0 : Int), ((Go.IntKind.wrap IntKind.i64 ((Int.tmod (Go.IntKind.wrap IntKind.i64 (((ByteArray.size x.1) : Int) - (1 : Int))) (9 : Int)) + (1 : Int))), (x.2, (Go.IntKind.wrap IntKind.i64 ((Int.tmod (Go.IntKind.wrap IntKind.i64 (((ByteArray.size x.1) : Int) - (1 : Int))) (9 : Int)) + (1 : Int))))))))) (fun y18 => (Option.bind (Tf.nat_step.f F (y18.2.2.2, ((1000000000 : Int), y18.2.2.1))) (fun y22 => (bif ((decide ((0 : Int) ≤ y18.1)) && (decide (y18.1 ≤ ((ByteArray.size y18.2.1) : Int)))) then (L ((ByteArray.extract y18.2.1 (Int.toNat y18.1) (ByteArray.size y18.2.1)), y22))
 else none)))))
 else (some x.2))
def Tf.nat_read.l2 (F : Nat) : (ByteArray × (List Int)) → Option (List Int) := iter (Tf.nat_read.s2 F) F
theorem Tf.nat_read.s2_ok (F : Nat) (L a) : exec Go.VI.tyT (look [(121, Tf.nat_step.e F)] : Fns) 35 (look [(6, fun st κ => hand [.slot 16, .slot 0, .slot 5, .slot 4, .own 3 2, .slot 15] [.int .i64, .str, .int .u64, .int .i64, .sl 2, .int .i64] [⟨.exit 2, [.slot 4, .slot 0, .slot 5, .own 3 2], [.int .i64, .str, .int .u64, .sl 2]⟩] (Tf.nat_read.l6 F) st κ)] : Loops) Tf.nat_read.b2 (rebuild [.slot 0, .own 3 2] (encKs [.str, .sl 2] a)) (bodyK [.slot 0, .own 3 2] [.str, .sl 2] [⟨.exit 0, [.own 3 2], [.sl 2]⟩] L) = Tf.nat_read.s2 F L a := by kernel_rfl
theorem Tf.nat_read.l2_ok (F : Nat) : LoopOk Go.Proofs.Tryz.prog Go.VI.tyT.G 35 Tf.nat_read.b2 (fun st κ => hand [.slot 0, .own 3 2] [.str, .sl 2] [⟨.exit 0, [.own 3 2], [.sl 2]⟩] (Tf.nat_read.l2 F) st κ) :=
  loop_ok Go.VI.tyT_ok rfl mix (.cons (Tf.nat_step.ok F) .nil) (Λ := (look [(6, fun st κ => hand [.slot 16, .slot 0, .slot 5, .slot 4, .own 3 2, .slot 15] [.int .i64, .str, .int .u64, .int .i64, .sl 2, .int .i64] [⟨.exit 2, [.slot 4, .slot 0, .slot 5, .own 3 2], [.int .i64, .str, .int .u64, .sl 2]⟩] (Tf.nat_read.l6 F) st κ)] : Loops)) (LoopsOk.of (bs := [Tf.nat_read.b6]) (by kernel_rfl) (.cons rfl (Tf.nat_read.l6_ok F) .nil)) (Tf.nat_read.s2_ok F) F
def Tf.nat_read.f (F : Nat) (a : ByteArray) : Option (List Int) :=
 (Option.bind (Tf.nat_read.l2 F (a, ([] : List Int))) (fun y5 => (some y5)))
theorem Tf.nat_read.f_ok (F : Nat) (a) : exec Go.VI.tyT (look [(121, Tf.nat_step.e F)] : Fns) 35 (look [(2, fun st κ => hand [.slot 0, .own 3 2] [.str, .sl 2] [⟨.exit 0, [.own 3 2], [.sl 2]⟩] (Tf.nat_read.l2 F) st κ)] : Loops) Tf.nat_read.c (init [.p] (encKs [.str] a)) (finT (look [(121, Tf.nat_step.e F)] : Fns) (⟨[.p], [.o 2]⟩ : Sig) [2] [.own] [.sl 2]) = Tf.nat_read.f F a := by kernel_rfl
def Tf.nat_read.e (F : Nat) : Fn := mkFn (⟨[.p], [.o 2]⟩ : Sig) [.str] [.own] [.sl 2] (Tf.nat_read.f F)
theorem Tf.nat_read.ok (F : Nat) : EntryOk Go.Proofs.Tryz.prog Go.VI.tyT.G 112 (Tf.nat_read.e F) :=
  fn_ok Go.VI.tyT_ok rfl mix (.cons (Tf.nat_step.ok F) .nil) (Λ := (look [(2, fun st κ => hand [.slot 0, .own 3 2] [.str, .sl 2] [⟨.exit 0, [.own 3 2], [.sl 2]⟩] (Tf.nat_read.l2 F) st κ)] : Loops)) (fn := Go.Proofs.Tryz.f112) (c := Tf.nat_read.c) (LoopsOk.of (bs := [Tf.nat_read.b2]) (by kernel_rfl) (.cons rfl (Tf.nat_read.l2_ok F) .nil)) (by kernel_rfl) (by kernel_rfl) (by kernel_rfl) (by kernel_rfl) (res1 (by kernel_rfl)) (by decide) (Tf.nat_read.f_ok F)
end Go.VI
namespace Go.VI
open Go
noncomputable def Tf.nat_both.c : Code := (Go.Proofs.Tryz.f100.body).getD .skip
def Tf.nat_both.f (F : Nat) (a : (ByteArray × ByteArray)) : Option ((List Int) × ((List Int) × Bool)) :=
 (Option.bind (Tf.nat_Right.f F a.1) (fun y8 => (bif (!y8) then (some (([] : List Int), (([] : List Int), Bool.false)))
 else (Option.bind (Tf.nat_Right.f F a.2) (fun y13 => (bif (!y13) then (some (([] : List Int), (([] : List Int), Bool.false)))
 else (Option.bind (Tf.nat_read.f F a.1) (fun y18 => (Option.bind (Tf.nat_trim.f F y18) (fun y20 => (Option.bind (Tf.nat_read.f F a.2) (fun y23 => (Option.bind (Tf.nat_trim.f F y23) (fun y25 => (some (y20, (y25, Bool.true)))))))))))))))))
theorem Tf.nat_both.f_ok (F : Nat) (a) : exec Go.VI.tyT (look [(69, Tf.nat_Right.e F), (111, Tf.nat_trim.e F), (112, Tf.nat_read.e F)] : Fns) 21 (look [] : Loops) Tf.nat_both.c (init [.p, .p] (encKs [.str, .str] a)) (finT (look [(69, Tf.nat_Right.e F), (111, Tf.nat_trim.e F), (112, Tf.nat_read.e F)] : Fns) (⟨[.p, .p], [.o 2, .o 2, .p]⟩ : Sig) [4, 5, 6] [.own, .own, .pure] [.sl 2, .sl 2, .bool]) = Tf.nat_both.f F a := by kernel_rfl
def Tf.nat_both.e (F : Nat) : Fn := mkFn (⟨[.p, .p], [.o 2, .o 2, .p]⟩ : Sig) [.str, .str] [.own, .own, .pure] [.sl 2, .sl 2, .bool] (Tf.nat_both.f F)
theorem Tf.nat_both.ok (F : Nat) : EntryOk Go.Proofs.Tryz.prog Go.VI.tyT.G 100 (Tf.nat_both.e F) :=
  fn_ok Go.VI.tyT_ok rfl mix (.cons (Tf.nat_Right.ok F) (.cons (Tf.nat_trim.ok F) (.cons (Tf.nat_read.ok F) .nil))) (Λ := (look [] : Loops)) (fn := Go.Proofs.Tryz.f100) (c := Tf.nat_both.c) (LoopsOk.of (bs := []) (by kernel_rfl) .nil) (by kernel_rfl) (by kernel_rfl) (by kernel_rfl) (by kernel_rfl) (res3 (by kernel_rfl)) (by decide) (Tf.nat_both.f_ok F)
end Go.VI
namespace Go.VI
open Go
noncomputable def Tf.nat_compare.c : Code := (Go.Proofs.Tryz.f113.body).getD .skip
noncomputable def Tf.nat_compare.b6 : Code := codeAt [1, 1, 0, 1, 0, 0] Tf.nat_compare.c
def Tf.nat_compare.s6 (F : Nat) (L : (Int × ((List Int) × (List Int))) → Option (Int ⊕ Unit)) (x : (Int × ((List Int) × (List Int)))) : Option (Int ⊕ Unit) :=
 (bif (decide (x.1 ≥ (0 : Int))) then (bif (inR x.1 (List.length x.2.2)) then (bif (inR x.1 (List.length x.2.1)) then (bif ((List.getD x.2.2 (Int.toNat x.1) (0 : Int)) != (List.getD x.2.1 (Int.toNat x.1) (0 : Int))) then (bif (inR x.1 (List.length x.2.2)) then (bif (inR x.1 (List.length x.2.1)) then (bif (decide ((List.getD x.2.2 (Int.toNat x.1) (0 : Int)) < (List.getD x.2.1 (Int.toNat x.1) (0 : Int)))) then (some (.inl (-(1 : Int))))
 else (some (.inl (1 : Int))))
 else none)
 else none)
 else (L ((Go.IntKind.wrap IntKind.i64 (x.1 - (1 : Int))), (x.2.1, x.2.2))))
 else none)
 else none)
 else (some (.inr ())))
def Tf.nat_compare.l6 (F : Nat) : (Int × ((List Int) × (List Int))) → Option (Int ⊕ Unit) := iter (Tf.nat_compare.s6 F) F
theorem Tf.nat_compare.s6_ok (F : Nat) (L a) : exec Go.VI.tyT (look [] : Fns) 41 (look [] : Loops) Tf.nat_compare.b6 (rebuild [.slot 5, .view 1 2, .view 0 2] (encKs [.int .i64, .sl 2, .sl 2] a)) (bodyK [.slot 5, .view 1 2, .view 0 2] [.int .i64, .sl 2, .sl 2] [⟨.ret, [.slot 4], [.int .i64]⟩, ⟨.exit 0, [], []⟩] L) = Tf.nat_compare.s6 F L a := by kernel_rfl
theorem Tf.nat_compare.l6_ok (F : Nat) : LoopOk Go.Proofs.Tryz.prog Go.VI.tyT.G 41 Tf.nat_compare.b6 (fun st κ => hand [.slot 5, .view 1 2, .view 0 2] [.int .i64, .sl 2, .sl 2] [⟨.ret, [.slot 4], [.int .i64]⟩, ⟨.exit 0, [], []⟩] (Tf.nat_compare.l6 F) st κ) :=
  loop_ok Go.VI.tyT_ok rfl mix .nil (Λ := (look [] : Loops)) (LoopsOk.of (bs := []) (by kernel_rfl) .nil) (Tf.nat_compare.s6_ok F) F
def Tf.nat_compare.f (F : Nat) (a : ((List Int) × (List Int))) : Option Int :=
 (bif (((List.length a.1) : Int) != ((List.length a.2) : Int)) then (bif (decide (((List.length a.1) : Int) < ((List.length a.2) : Int))) then (some (-(1 : Int)))
 else (some (1 : Int)))
 else (Option.bind (Tf.nat_compare.l6 F ((Go.IntKind.wrap IntKind.i64 (((List.length a.1) : Int) - (1 : Int))), (a.2, a.1))) (fun y13 => (sumE y13 (fun y14 => (some y14)) (fun y14 => (some (0 : Int)))))))
theorem Tf.nat_compare.f_ok (F : Nat) (a) : exec Go.VI.tyT (look [] : Fns) 41 (look [(6, fun st κ => hand [.slot 5, .view 1 2, .view 0 2] [.int .i64, .sl 2, .sl 2] [⟨.ret, [.slot 4], [.int .i64]⟩, ⟨.exit 0, [], []⟩] (Tf.nat_compare.l6 F) st κ)] : Loops) Tf.nat_compare.c (init [.v 2, .v 2] (encKs [.sl 2, .sl 2] a)) (finT (look [] : Fns) (⟨[.v 2, .v 2], [.p]⟩ : Sig) [4] [.pure] [.int .i64]) = Tf.nat_compare.f F a := by kernel_rfl
def Tf.nat_compare.e (F : Nat) : Fn := mkFn (⟨[.v 2, .v 2], [.p]⟩ : Sig) [.sl 2, .sl 2] [.pure] [.int .i64] (Tf.nat_compare.f F)
theorem Tf.nat_compare.ok (F : Nat) : EntryOk Go.Proofs.Tryz.prog Go.VI.tyT.G 113 (Tf.nat_compare.e F) :=
  fn_ok Go.VI.tyT_ok rfl mix .nil (Λ := (look [(6, fun st κ => hand [.slot 5, .view 1 2, .view 0 2] [.int .i64, .sl 2, .sl 2] [⟨.ret, [.slot 4], [.int .i64]⟩, ⟨.exit 0, [], []⟩] (Tf.nat_compare.l6 F) st κ)] : Loops)) (fn := Go.Proofs.Tryz.f113) (c := Tf.nat_compare.c) (LoopsOk.of (bs := [Tf.nat_compare.b6]) (by kernel_rfl) (.cons rfl (Tf.nat_compare.l6_ok F) .nil)) (by kernel_rfl) (by kernel_rfl) (by kernel_rfl) (by kernel_rfl) (res1 (by kernel_rfl)) (by decide) (Tf.nat_compare.f_ok F)
end Go.VI
namespace Go.VI
open Go
noncomputable def Tf.slices_Clone_limbs.c : Code := (Go.Proofs.Tryz.f117.body).getD .skip
def Tf.slices_Clone_limbs.f (F : Nat) (a : List Int) : Option (List Int) := cloneT 2 a
def Tf.slices_Clone_limbs.e (F : Nat) : Fn := mkFn (⟨[.v 2], [.o 2]⟩ : Sig) [.sl 2] [.own] [.sl 2] (Tf.slices_Clone_limbs.f F)
theorem Tf.slices_Clone_limbs.ok (F : Nat) : EntryOk Go.Proofs.Tryz.prog tyT.G 117 (Tf.slices_Clone_limbs.e F) :=
  clone_ok tyT_ok rfl mix (fn := Go.Proofs.Tryz.f117) (t := 2) (T := 137) (T' := 137) (e := 156) (r0 := codeAt [0] Tf.slices_Clone_limbs.c) (A := codeAt [1, 0, 1, 0] Tf.slices_Clone_limbs.c) (B := codeAt [1, 1] Tf.slices_Clone_limbs.c) (id := 1)
    (o1 := nthOp (codeAt [1, 0, 0] Tf.slices_Clone_limbs.c) 0) (o2 := nthOp (codeAt [1, 0, 0] Tf.slices_Clone_limbs.c) 1) (by kernel_rfl) (by kernel_rfl) (by kernel_rfl) (by kernel_rfl) (res1 (by kernel_rfl))
    (by kernel_rfl) (by kernel_rfl) (by kernel_rfl) (by kernel_rfl) (by kernel_rfl) (by kernel_rfl) (by kernel_rfl) (by kernel_rfl) (by kernel_rfl)
    (S0 := fun l => stAt tyT 8 (codeAt [0] Tf.slices_Clone_limbs.c) [.v 2] [.sl 2 l]) (fun l => by kernel_rfl) (fun l => by kernel_rfl) (fun l => by kernel_rfl) (by kernel_rfl)
end Go.VI
namespace Go.VI
open Go
noncomputable def Tf.nat_small.c : Code := (Go.Proofs.Tryz.f114.body).getD .skip
noncomputable def Tf.nat_small.b4 : Code := codeAt [1, 1, 1, 0, 1, 0, 0] Tf.nat_small.c
def Tf.nat_small.s4 (F : Nat) (L : (Int × (Int × ((List Int) × Int))) → Option (Int × (List Int))) (x : (Int × (Int × ((List Int) × Int)))) : Option (Int × (List Int)) :=
 (bif (decide (x.1 ≥ (0 : Int))) then (bif (inR x.1 (List.length x.2.2.1)) then (bif (!(x.2.1 == (0 : Int))) then (bif (inR x.1 (List.length x.2.2.1)) then (bif (!(x.2.1 == (0 : Int))) then (L ((Go.IntKind.wrap IntKind.i64 (x.1 - (1 : Int))), (x.2.1, ((List.set x.2.2.1 (Int.toNat x.1) (Go.IntKind.wrap IntKind.u32 (Go.IntKind.wrap IntKind.u64 (Int.tdiv (Go.IntKind.wrap IntKind.u64 ((BitVec.toNat (HOr.hOr (BitVec.ofInt 64 (Go.IntKind.wrap IntKind.u64 (x.2.2.2 * (4294967296 : Int)))) (BitVec.ofInt 64 (Go.IntKind.wrap IntKind.u64 (List.getD x.2.2.1 (Int.toNat x.1) (0 : Int)))))) : Int)) x.2.1)))), (Int.tmod (Go.IntKind.wrap IntKind.u64 ((BitVec.toNat (HOr.hOr (BitVec.ofInt 64 (Go.IntKind.wrap IntKind.u64 (x.2.2.2 * (4294967296 : Int)))) (BitVec.ofInt 64 (Go.IntKind.wrap IntKind.u64 (List.getD x.2.2.1 (Int.toNat x.1) (0 : Int)))))) : Int)) x.2.1)))))
 else none)
 else none)
 else none)
 else none)
 else (some (x.2.2.2, x.2.2.1)))
def Tf.nat_small.l4 (F : Nat) : (Int × (Int × ((List Int) × Int))) → Option (Int × (List Int)) := iter (Tf.nat_small.s4 F) F
theorem Tf.nat_small.s4_ok (F : Nat) (L a) : exec Go.VI.tyT (look [(111, Tf.nat_trim.e F), (117, Tf.slices_Clone_limbs.e F)] : Fns) 39 (look [] : Loops) Tf.nat_small.b4 (rebuild [.slot 8, .slot 1, .own 6 2, .slot 7] (encKs [.int .i64, .int .u64, .sl 2, .int .u64] a)) (bodyK [.slot 8, .slot 1, .own 6 2, .slot 7] [.int .i64, .int .u64, .sl 2, .int .u64] [⟨.exit 0, [.slot 7, .own 6 2], [.int .u64, .sl 2]⟩] L) = Tf.nat_small.s4 F L a := by kernel_rfl
theorem Tf.nat_small.l4_ok (F : Nat) : LoopOk Go.Proofs.Tryz.prog Go.VI.tyT.G 39 Tf.nat_small.b4 (fun st κ => hand [.slot 8, .slot 1, .own 6 2, .slot 7] [.int .i64, .int .u64, .sl 2, .int .u64] [⟨.exit 0, [.slot 7, .own 6 2], [.int .u64, .sl 2]⟩] (Tf.nat_small.l4 F) st κ) :=
  loop_ok Go.VI.tyT_ok rfl mix (.cons (Tf.nat_trim.ok F) (.cons (Tf.slices_Clone_limbs.ok F) .nil)) (Λ := (look [] : Loops)) (LoopsOk.of (bs := []) (by kernel_rfl) .nil) (Tf.nat_small.s4_ok F) F
def Tf.nat_small.f (F : Nat) (a : ((List Int) × Int)) : Option ((List Int) × Int) :=
 (Option.bind (Tf.slices_Clone_limbs.f F a.1) (fun y7 => (Option.bind (Tf.nat_small.l4 F ((Go.IntKind.wrap IntKind.i64 (((List.length y7) : Int) - (1 : Int))), (a.2, (y7, (0 : Int))))) (fun y14 => (Option.bind (Tf.nat_trim.f F y14.2) (fun y17 => (some (y17, y14.1))))))))
theorem Tf.nat_small.f_ok (F : Nat) (a) : exec Go.VI.tyT (look [(111, Tf.nat_trim.e F), (117, Tf.slices_Clone_limbs.e F)] : Fns) 39 (look [(4, fun st κ => hand [.slot 8, .slot 1, .own 6 2, .slot 7] [.int .i64, .int .u64, .sl 2, .int .u64] [⟨.exit 0, [.slot 7, .own 6 2], [.int .u64, .sl 2]⟩] (Tf.nat_small.l4 F) st κ)] : Loops) Tf.nat_small.c (init [.v 2, .p] (encKs [.sl 2, .int .u64] a)) (finT (look [(111, Tf.nat_trim.e F), (117, Tf.slices_Clone_limbs.e F)] : Fns) (⟨[.v 2, .p], [.o 2, .p]⟩ : Sig) [4, 5] [.own, .pure] [.sl 2, .int .u64]) = Tf.nat_small.f F a := by kernel_rfl
def Tf.nat_small.e (F : Nat) : Fn := mkFn (⟨[.v 2, .p], [.o 2, .p]⟩ : Sig) [.sl 2, .int .u64] [.own, .pure] [.sl 2, .int .u64] (Tf.nat_small.f F)
theorem Tf.nat_small.ok (F : Nat) : EntryOk Go.Proofs.Tryz.prog Go.VI.tyT.G 114 (Tf.nat_small.e F) :=
  fn_ok Go.VI.tyT_ok rfl mix (.cons (Tf.nat_trim.ok F) (.cons (Tf.slices_Clone_limbs.ok F) .nil)) (Λ := (look [(4, fun st κ => hand [.slot 8, .slot 1, .own 6 2, .slot 7] [.int .i64, .int .u64, .sl 2, .int .u64] [⟨.exit 0, [.slot 7, .own 6 2], [.int .u64, .sl 2]⟩] (Tf.nat_small.l4 F) st κ)] : Loops)) (fn := Go.Proofs.Tryz.f114) (c := Tf.nat_small.c) (LoopsOk.of (bs := [Tf.nat_small.b4]) (by kernel_rfl) (.cons rfl (Tf.nat_small.l4_ok F) .nil)) (by kernel_rfl) (by kernel_rfl) (by kernel_rfl) (by kernel_rfl) (res2 (by kernel_rfl)) (by decide) (Tf.nat_small.f_ok F)
end Go.VI
namespace Go.VI
open Go
noncomputable def Tf.nat_shift.c : Code := (Go.Proofs.Tryz.f115.body).getD .skip
def Tf.nat_shift.f (F : Nat) (a : ((List Int) × Int)) : Option (List Int) :=
 (bif (decide ((0 : Int) ≤ a.2)) then (Option.bind (Tf.nat_step.f F (a.1, ((Go.IntKind.wrap IntKind.u64 ((1 : Int) * ((2 : Int) ^ (Min.min (Int.toNat a.2) 64)))), (0 : Int)))) (fun y8 => (some y8)))
 else none)
theorem Tf.nat_shift.f_ok (F : Nat) (a) : exec Go.VI.tyT (look [(121, Tf.nat_step.e F)] : Fns) 9 (look [] : Loops) Tf.nat_shift.c (init [.v 2, .p] (encKs [.sl 2, .int .u64] a)) (finT (look [(121, Tf.nat_step.e F)] : Fns) (⟨[.v 2, .p], [.o 2]⟩ : Sig) [4] [.own] [.sl 2]) = Tf.nat_shift.f F a := by kernel_rfl
def Tf.nat_shift.e (F : Nat) : Fn := mkFn (⟨[.v 2, .p], [.o 2]⟩ : Sig) [.sl 2, .int .u64] [.own] [.sl 2] (Tf.nat_shift.f F)
theorem Tf.nat_shift.ok (F : Nat) : EntryOk Go.Proofs.Tryz.prog Go.VI.tyT.G 115 (Tf.nat_shift.e F) :=
  fn_ok Go.VI.tyT_ok rfl mix (.cons (Tf.nat_step.ok F) .nil) (Λ := (look [] : Loops)) (fn := Go.Proofs.Tryz.f115) (c := Tf.nat_shift.c) (LoopsOk.of (bs := []) (by kernel_rfl) .nil) (by kernel_rfl) (by kernel_rfl) (by kernel_rfl) (by kernel_rfl) (res1 (by kernel_rfl)) (by decide) (Tf.nat_shift.f_ok F)
end Go.VI
namespace Go.VI
open Go
noncomputable def Tf.nat_sub.c : Code := (Go.Proofs.Tryz.f122.body).getD .skip
noncomputable def Tf.nat_sub.b4 : Code := codeAt [1, 1, 1, 0, 1, 0, 0] Tf.nat_sub.c
def Tf.nat_sub.s4 (F : Nat) (L : (Int × ((List Int) × ((List Int) × (Int × Int)))) → Option (List Int)) (x : (Int × ((List Int) × ((List Int) × (Int × Int))))) : Option (List Int) :=
 (bif (decide (x.1 < x.2.2.2.2)) then (bif (decide (x.1 < ((List.length x.2.2.1) : Int))) then (bif (inR x.1 (List.length x.2.2.1)) then (bif (inR x.1 (List.length x.2.1)) then (bif (decide ((Go.IntKind.wrap IntKind.u64 (List.getD x.2.1 (Int.toNat x.1) (0 : Int))) < (Go.IntKind.wrap IntKind.u64 (x.2.2.2.1 + (Go.IntKind.wrap IntKind.u64 (List.getD x.2.2.1 (Int.toNat x.1) (0 : Int))))))) then (bif (inR x.1 (List.length x.2.1)) then (bif (inR x.1 (List.length x.2.1)) then (L ((Go.IntKind.wrap IntKind.i64 (x.1 + (1 : Int))), ((List.set x.2.1 (Int.toNat x.1) (Go.IntKind.wrap IntKind.u32 (Go.IntKind.wrap IntKind.u64 ((Go.IntKind.wrap IntKind.u64 ((Go.IntKind.wrap IntKind.u64 (List.getD x.2.1 (Int.toNat x.1) (0 : Int))) + (4294967296 : Int))) - (Go.IntKind.wrap IntKind.u64 (x.2.2.2.1 + (Go.IntKind.wrap IntKind.u64 (List.getD x.2.2.1 (Int.toNat x.1) (0 : Int))))))))), (x.2.2.1, ((1 : Int), x.2.2.2.2)))))
 else none)
 else none)
 else (bif (inR x.1 (List.length x.2.1)) then (bif (inR x.1 (List.length x.2.1)) then (L ((Go.IntKind.wrap IntKind.i64 (x.1 + (1 : Int))), ((List.set x.2.1 (Int.toNat x.1) (Go.IntKind.wrap IntKind.u32 (Go.IntKind.wrap IntKind.u64 ((Go.IntKind.wrap IntKind.u64 ((Go.IntKind.wrap IntKind.u64 (List.getD x.2.1 (Int.toNat x.1) (0 : Int))) + (0 : Int))) - (Go.IntKind.wrap IntKind.u64 (x.2.2.2.1 + (Go.IntKind.wrap IntKind.u64 (List.getD x.2.2.1 (Int.toNat x.1) (0 : Int))))))))), (x.2.2.1, ((0 : Int), x.2.2.2.2)))))
 else none)
 else none))
 else none)
 else none)
 else (bif (inR x.1 (List.length x.2.1)) then (bif (decide ((Go.IntKind.wrap IntKind.u64 (List.getD x.2.1 (Int.toNat x.1) (0 : Int))) < x.2.2.2.1)) then (bif (inR x.1 (List.length x.2.1)) then (bif (inR x.1 (List.length x.2.1)) then (L ((Go.IntKind.wrap IntKind.i64 (x.1 + (1 : Int))), ((List.set x.2.1 (Int.toNat x.1) (Go.IntKind.wrap IntKind.u32 (Go.IntKind.wrap IntKind.u64 ((Go.IntKind.wrap IntKind.u64 ((Go.IntKind.wrap IntKind.u64 (List.getD x.2.1 (Int.toNat x.1) (0 : Int))) + (4294967296 : Int))) - x.2.2.2.1)))), (x.2.2.1, ((1 : Int), x.2.2.2.2)))))
 else none)
 else none)
 else (bif (inR x.1 (List.length x.2.1)) then (bif (inR x.1 (List.length x.2.1)) then (L ((Go.IntKind.wrap IntKind.i64 (x.1 + (1 : Int))), ((List.set x.2.1 (Int.toNat x.1) (Go.IntKind.wrap IntKind.u32 (Go.IntKind.wrap IntKind.u64 ((Go.IntKind.wrap IntKind.u64 ((Go.IntKind.wrap IntKind.u64 (List.getD x.2.1 (Int.toNat x.1) (0 : Int))) + (0 : Int))) - x.2.2.2.1)))), (x.2.2.1, ((0 : Int), x.2.2.2.2)))))
 else none)
 else none))
 else none))
 else (some x.2.1))
def Tf.nat_sub.l4 (F : Nat) : (Int × ((List Int) × ((List Int) × (Int × Int)))) → Option (List Int) := iter (Tf.nat_sub.s4 F) F
theorem Tf.nat_sub.s4_ok (F : Nat) (L a) : exec Go.VI.tyT (look [(111, Tf.nat_trim.e F), (117, Tf.slices_Clone_limbs.e F)] : Fns) 52 (look [] : Loops) Tf.nat_sub.b4 (rebuild [.slot 13, .own 5 2, .view 1 2, .slot 6, .slot 12] (encKs [.int .i64, .sl 2, .sl 2, .int .u64, .int .i64] a)) (bodyK [.slot 13, .own 5 2, .view 1 2, .slot 6, .slot 12] [.int .i64, .sl 2, .sl 2, .int .u64, .int .i64] [⟨.exit 0, [.own 5 2], [.sl 2]⟩] L) = Tf.nat_sub.s4 F L a := by kernel_rfl
theorem Tf.nat_sub.l4_ok (F : Nat) : LoopOk Go.Proofs.Tryz.prog Go.VI.tyT.G 52 Tf.nat_sub.b4 (fun st κ => hand [.slot 13, .own 5 2, .view 1 2, .slot 6, .slot 12] [.int .i64, .sl 2, .sl 2, .int .u64, .int .i64] [⟨.exit 0, [.own 5 2], [.sl 2]⟩] (Tf.nat_sub.l4 F) st κ) :=
  loop_ok Go.VI.tyT_ok rfl mix (.cons (Tf.nat_trim.ok F) (.cons (Tf.slices_Clone_limbs.ok F) .nil)) (Λ := (look [] : Loops)) (LoopsOk.of (bs := []) (by kernel_rfl) .nil) (Tf.nat_sub.s4_ok F) F
def Tf.nat_sub.f (F : Nat) (a : ((List Int) × (List Int))) : Option (List Int) :=
 (Option.bind (Tf.slices_Clone_limbs.f F a.1) (fun y6 => (Option.bind (Tf.nat_sub.l4 F ((0 : Int), (y6, (a.2, ((0 : Int), ((List.length y6) : Int)))))) (fun y12 => (Option.bind (Tf.nat_trim.f F y12) (fun y15 => (some y15)))))))
theorem Tf.nat_sub.f_ok (F : Nat) (a) : exec Go.VI.tyT (look [(111, Tf.nat_trim.e F), (117, Tf.slices_Clone_limbs.e F)] : Fns) 52 (look [(4, fun st κ => hand [.slot 13, .own 5 2, .view 1 2, .slot 6, .slot 12] [.int .i64, .sl 2, .sl 2, .int .u64, .int .i64] [⟨.exit 0, [.own 5 2], [.sl 2]⟩] (Tf.nat_sub.l4 F) st κ)] : Loops) Tf.nat_sub.c (init [.v 2, .v 2] (encKs [.sl 2, .sl 2] a)) (finT (look [(111, Tf.nat_trim.e F), (117, Tf.slices_Clone_limbs.e F)] : Fns) (⟨[.v 2, .v 2], [.o 2]⟩ : Sig) [4] [.own] [.sl 2]) = Tf.nat_sub.f F a := by kernel_rfl
def Tf.nat_sub.e (F : Nat) : Fn := mkFn (⟨[.v 2, .v 2], [.o 2]⟩ : Sig) [.sl 2, .sl 2] [.own] [.sl 2] (Tf.nat_sub.f F)
theorem Tf.nat_sub.ok (F : Nat) : EntryOk Go.Proofs.Tryz.prog Go.VI.tyT.G 122 (Tf.nat_sub.e F) :=
  fn_ok Go.VI.tyT_ok rfl mix (.cons (Tf.nat_trim.ok F) (.cons (Tf.slices_Clone_limbs.ok F) .nil)) (Λ := (look [(4, fun st κ => hand [.slot 13, .own 5 2, .view 1 2, .slot 6, .slot 12] [.int .i64, .sl 2, .sl 2, .int .u64, .int .i64] [⟨.exit 0, [.own 5 2], [.sl 2]⟩] (Tf.nat_sub.l4 F) st κ)] : Loops)) (fn := Go.Proofs.Tryz.f122) (c := Tf.nat_sub.c) (LoopsOk.of (bs := [Tf.nat_sub.b4]) (by kernel_rfl) (.cons rfl (Tf.nat_sub.l4_ok F) .nil)) (by kernel_rfl) (by kernel_rfl) (by kernel_rfl) (by kernel_rfl) (res1 (by kernel_rfl)) (by decide) (Tf.nat_sub.f_ok F)
end Go.VI
namespace Go.VI
open Go
noncomputable def Tf.nat_guess.c : Code := (Go.Proofs.Tryz.f116.body).getD .skip
noncomputable def Tf.nat_guess.b6 : Code := codeAt [1, 1, 1, 1, 1, 1, 0, 0, 0] Tf.nat_guess.c
def Tf.nat_guess.s6 (F : Nat) (L : ((List Int) × ((List Int) × (Int × (Int × ((List Int) × (List Int)))))) → Option (Int × ((List Int) × (Int × ((List Int) × (List Int)))))) (x : ((List Int) × ((List Int) × (Int × (Int × ((List Int) × (List Int))))))) : Option (Int × ((List Int) × (Int × ((List Int) × (List Int))))) :=
 (Option.bind (Tf.slices_Clone_limbs.f F x.2.2.2.2.2) (fun y49 => (Option.bind (Tf.nat_trim.f F y49) (fun y51 => (Option.bind (Tf.nat_compare.f F (x.2.1, y51)) (fun y53 => (bif (decide (y53 > (0 : Int))) then (Option.bind (Tf.nat_sub.f F (x.2.1, x.1)) (fun y61 => (L (x.1, (y61, ((Go.IntKind.wrap IntKind.u64 (x.2.2.1 - (1 : Int))), (x.2.2.2.1, (x.2.2.2.2.1, x.2.2.2.2.2))))))))
 else (some (x.2.2.2.1, (x.2.2.2.2.1, (x.2.2.1, (x.2.2.2.2.2, x.2.1))))))))))))
def Tf.nat_guess.l6 (F : Nat) : ((List Int) × ((List Int) × (Int × (Int × ((List Int) × (List Int)))))) → Option (Int × ((List Int) × (Int × ((List Int) × (List Int))))) := iter (Tf.nat_guess.s6 F) F
theorem Tf.nat_guess.s6_ok (F : Nat) (L a) : exec Go.VI.tyT (look [(111, Tf.nat_trim.e F), (113, Tf.nat_compare.e F), (117, Tf.slices_Clone_limbs.e F), (121, Tf.nat_step.e F), (122, Tf.nat_sub.e F)] : Fns) 90 (look [] : Loops) Tf.nat_guess.b6 (rebuild [.view 1 2, .own 13 2, .slot 11, .slot 2, .io 0 2, .own 12 2] (encKs [.sl 2, .sl 2, .int .u64, .int .i64, .sl 2, .sl 2] a)) (bodyK [.view 1 2, .own 13 2, .slot 11, .slot 2, .io 0 2, .own 12 2] [.sl 2, .sl 2, .int .u64, .int .i64, .sl 2, .sl 2] [⟨.exit 0, [.slot 2, .io 0 2, .slot 11, .own 12 2, .own 13 2], [.int .i64, .sl 2, .int .u64, .sl 2, .sl 2]⟩] L) = Tf.nat_guess.s6 F L a := by kernel_rfl
theorem Tf.nat_guess.l6_ok (F : Nat) : LoopOk Go.Proofs.Tryz.prog Go.VI.tyT.G 90 Tf.nat_guess.b6 (fun st κ => hand [.view 1 2, .own 13 2, .slot 11, .slot 2, .io 0 2, .own 12 2] [.sl 2, .sl 2, .int .u64, .int .i64, .sl 2, .sl 2] [⟨.exit 0, [.slot 2, .io 0 2, .slot 11, .own 12 2, .own 13 2], [.int .i64, .sl 2, .int .u64, .sl 2, .sl 2]⟩] (Tf.nat_guess.l6 F) st κ) :=
  loop_ok Go.VI.tyT_ok rfl mix (.cons (Tf.nat_trim.ok F) (.cons (Tf.nat_compare.ok F) (.cons (Tf.slices_Clone_limbs.ok F) (.cons (Tf.nat_step.ok F) (.cons (Tf.nat_sub.ok F) .nil))))) (Λ := (look [] : Loops)) (LoopsOk.of (bs := []) (by kernel_rfl) .nil) (Tf.nat_guess.s6_ok F) F
noncomputable def Tf.nat_guess.b11 : Code := codeAt [1, 1, 1, 1, 1, 1, 1, 1, 0, 1, 0, 0] Tf.nat_guess.c
def Tf.nat_guess.s11 (F : Nat) (L : (Int × ((List Int) × (Int × ((List Int) × (Int × Int))))) → Option ((List Int) × Int)) (x : (Int × ((List Int) × (Int × ((List Int) × (Int × Int)))))) : Option ((List Int) × Int) :=
 (bif (decide (x.1 < x.2.2.2.2.2)) then (bif (inR (Go.IntKind.wrap IntKind.i64 (x.2.2.1 + x.1)) (List.length x.2.2.2.1)) then (bif (decide (x.1 < ((List.length x.2.1) : Int))) then (bif (inR x.1 (List.length x.2.1)) then (bif (inR (Go.IntKind.wrap IntKind.i64 (x.2.2.1 + x.1)) (List.length (List.set x.2.2.2.1 (Int.toNat (Go.IntKind.wrap IntKind.i64 (x.2.2.1 + x.1))) (0 : Int)))) then (L ((Go.IntKind.wrap IntKind.i64 (x.1 + (1 : Int))), (x.2.1, (x.2.2.1, ((List.set (List.set x.2.2.2.1 (Int.toNat (Go.IntKind.wrap IntKind.i64 (x.2.2.1 + x.1))) (0 : Int)) (Int.toNat (Go.IntKind.wrap IntKind.i64 (x.2.2.1 + x.1))) (List.getD x.2.1 (Int.toNat x.1) (0 : Int))), (x.2.2.2.2.1, x.2.2.2.2.2))))))
 else none)
 else none)
 else (L ((Go.IntKind.wrap IntKind.i64 (x.1 + (1 : Int))), (x.2.1, (x.2.2.1, ((List.set x.2.2.2.1 (Int.toNat (Go.IntKind.wrap IntKind.i64 (x.2.2.1 + x.1))) (0 : Int)), (x.2.2.2.2.1, x.2.2.2.2.2)))))))
 else none)
 else (some (x.2.2.2.1, x.2.2.2.2.1)))
def Tf.nat_guess.l11 (F : Nat) : (Int × ((List Int) × (Int × ((List Int) × (Int × Int))))) → Option ((List Int) × Int) := iter (Tf.nat_guess.s11 F) F
theorem Tf.nat_guess.s11_ok (F : Nat) (L a) : exec Go.VI.tyT (look [(111, Tf.nat_trim.e F), (113, Tf.nat_compare.e F), (117, Tf.slices_Clone_limbs.e F), (121, Tf.nat_step.e F), (122, Tf.nat_sub.e F)] : Fns) 90 (look [] : Loops) Tf.nat_guess.b11 (rebuild [.slot 66, .own 14 2, .slot 2, .io 0 2, .slot 11, .slot 65] (encKs [.int .i64, .sl 2, .int .i64, .sl 2, .int .u64, .int .i64] a)) (bodyK [.slot 66, .own 14 2, .slot 2, .io 0 2, .slot 11, .slot 65] [.int .i64, .sl 2, .int .i64, .sl 2, .int .u64, .int .i64] [⟨.exit 2, [.io 0 2, .slot 11], [.sl 2, .int .u64]⟩] L) = Tf.nat_guess.s11 F L a := by kernel_rfl
theorem Tf.nat_guess.l11_ok (F : Nat) : LoopOk Go.Proofs.Tryz.prog Go.VI.tyT.G 90 Tf.nat_guess.b11 (fun st κ => hand [.slot 66, .own 14 2, .slot 2, .io 0 2, .slot 11, .slot 65] [.int .i64, .sl 2, .int .i64, .sl 2, .int .u64, .int .i64] [⟨.exit 2, [.io 0 2, .slot 11], [.sl 2, .int .u64]⟩] (Tf.nat_guess.l11 F) st κ) :=
  loop_ok Go.VI.tyT_ok rfl mix (.cons (Tf.nat_trim.ok F) (.cons (Tf.nat_compare.ok F) (.cons (Tf.slices_Clone_limbs.ok F) (.cons (Tf.nat_step.ok F) (.cons (Tf.nat_sub.ok F) .nil))))) (Λ := (look [] : Loops)) (LoopsOk.of (bs := []) (by kernel_rfl) .nil) (Tf.nat_guess.s11_ok F) F
def Tf.nat_guess.f (F : Nat) (a : ((List Int) × ((List Int) × (Int × Int)))) : Option (Int × (List Int)) :=
 (bif (inR (Go.IntKind.wrap IntKind.i64 (a.2.2.1 + ((List.length a.2.1) : Int))) (List.length a.1)) then (bif (inR (Go.IntKind.wrap IntKind.i64 ((Go.IntKind.wrap IntKind.i64 (a.2.2.1 + ((List.length a.2.1) : Int))) - (1 : Int))) (List.length a.1)) then (bif (!(a.2.2.2 == (0 : Int))) then (bif ((decide ((0 : Int) ≤ (Go.IntKind.wrap IntKind.i64 ((Go.IntKind.wrap IntKind.i64 (a.2.2.1 + ((List.length a.2.1) : Int))) + (1 : Int))))) && (decide ((Go.IntKind.wrap IntKind.i64 ((Go.IntKind.wrap IntKind.i64 (a.2.2.1 + ((List.length a.2.1) : Int))) + (1 : Int))) ≤ ((List.length a.1) : Int)))) then (bif ((decide ((0 : Int) ≤ a.2.2.1)) && (decide (a.2.2.1 ≤ ((Int.toNat (Go.IntKind.wrap IntKind.i64 ((Go.IntKind.wrap IntKind.i64 (a.2.2.1 + ((List.length a.2.1) : Int))) + (1 : Int)))) : Int)))) then (Option.bind (Tf.slices_Clone_limbs.f F (List.take ((Int.toNat (Go.IntKind.wrap IntKind.i64 ((Go.IntKind.wrap IntKind.i64 (a.2.2.1 + ((List.length a.2.1) : Int))) + (1 : Int)))) - (Int.toNat a.2.2.1)) (List.drop (Int.toNat a.2.2.1) a.1))) (fun y38 => (Option.bind (Tf.nat_step.f F (a.2.1, ((mnI (Go.IntKind.wrap IntKind.u64 (Int.tdiv (Go.IntKind.wrap IntKind.u64 ((BitVec.toNat (HOr.hOr (BitVec.ofInt 64 (Go.IntKind.wrap IntKind.u64 ((Go.IntKind.wrap IntKind.u64 (List.getD a.1 (Int.toNat (Go.IntKind.wrap IntKind.i64 (a.2.2.1 + ((List.length a.2.1) : Int)))) (0 : Int))) * (4294967296 : Int)))) (BitVec.ofInt 64 (Go.IntKind.wrap IntKind.u64 (List.getD a.1 (Int.toNat (Go.IntKind.wrap IntKind.i64 ((Go.IntKind.wrap IntKind.i64 (a.2.2.1 + ((List.length a.2.1) : Int))) - (1 : Int)))) (0 : Int)))))) : Int)) a.2.2.2)) (4294967295 : Int)), (0 : Int)))) (fun y43 => (Option.bind (Tf.nat_guess.l6 F (a.2.1, (y43, ((mnI (Go.IntKind.wrap IntKind.u64 (Int.tdiv (Go.IntKind.wrap IntKind.u64 ((BitVec.toNat (HOr.hOr (BitVec.ofInt 64 (Go.IntKind.wrap IntKind.u64 ((Go.IntKind.wrap IntKind.u64 (List.getD a.1 (Int.toNat (Go.IntKind.wrap IntKind.i64 (a.2.2.1 + ((List.length a.2.1) : Int)))) (0 : Int))) * (4294967296 : Int)))) (BitVec.ofInt 64 (Go.IntKind.wrap IntKind.u64 (List.getD a.1 (Int.toNat (Go.IntKind.wrap IntKind.i64 ((Go.IntKind.wrap IntKind.i64 (a.2.2.1 + ((List.length a.2.1) : Int))) - (1 : Int)))) (0 : Int)))))) : Int)) a.2.2.2)) (4294967295 : Int)), (a.2.2.1, (a.1, y38)))))) (fun y45 => (Option.bind (Tf.nat_sub.f F (y45.2.2.2.1, y45.2.2.2.2)) (fun y49 => (Option.bind (Tf.nat_guess.l11 F ((0 : Int), (y49, (y45.1, (y45.2.1, (y45.2.2.1, ((List.length y45.2.2.2.1) : Int))))))) (fun y54 => (some ((Go.IntKind.wrap IntKind.u32 y54.2), y54.1))))))))))))
 else none)
 else none)
 else none)
 else none)
 else none)
theorem Tf.nat_guess.f_ok (F : Nat) (a) : exec Go.VI.tyT (look [(111, Tf.nat_trim.e F), (113, Tf.nat_compare.e F), (117, Tf.slices_Clone_limbs.e F), (121, Tf.nat_step.e F), (122, Tf.nat_sub.e F)] : Fns) 90 (look [(6, fun st κ => hand [.view 1 2, .own 13 2, .slot 11, .slot 2, .io 0 2, .own 12 2] [.sl 2, .sl 2, .int .u64, .int .i64, .sl 2, .sl 2] [⟨.exit 0, [.slot 2, .io 0 2, .slot 11, .own 12 2, .own 13 2], [.int .i64, .sl 2, .int .u64, .sl 2, .sl 2]⟩] (Tf.nat_guess.l6 F) st κ), (11, fun st κ => hand [.slot 66, .own 14 2, .slot 2, .io 0 2, .slot 11, .slot 65] [.int .i64, .sl 2, .int .i64, .sl 2, .int .u64, .int .i64] [⟨.exit 2, [.io 0 2, .slot 11], [.sl 2, .int .u64]⟩] (Tf.nat_guess.l11 F) st κ)] : Loops) Tf.nat_guess.c (init [.m 2, .v 2, .p, .p] (encKs [.sl 2, .sl 2, .int .i64, .int .u64] a)) (finT (look [(111, Tf.nat_trim.e F), (113, Tf.nat_compare.e F), (117, Tf.slices_Clone_limbs.e F), (121, Tf.nat_step.e F), (122, Tf.nat_sub.e F)] : Fns) (⟨[.m 2, .v 2, .p, .p], [.p]⟩ : Sig) [8] [.pure, .row] [.int .u32, .sl 2]) = Tf.nat_guess.f F a := by kernel_rfl
def Tf.nat_guess.e (F : Nat) : Fn := mkFn (⟨[.m 2, .v 2, .p, .p], [.p]⟩ : Sig) [.sl 2, .sl 2, .int .i64, .int .u64] [.pure, .row] [.int .u32, .sl 2] (Tf.nat_guess.f F)
theorem Tf.nat_guess.ok (F : Nat) : EntryOk Go.Proofs.Tryz.prog Go.VI.tyT.G 116 (Tf.nat_guess.e F) :=
  fn_ok Go.VI.tyT_ok rfl mix (.cons (Tf.nat_trim.ok F) (.cons (Tf.nat_compare.ok F) (.cons (Tf.slices_Clone_limbs.ok F) (.cons (Tf.nat_step.ok F) (.cons (Tf.nat_sub.ok F) .nil))))) (Λ := (look [(6, fun st κ => hand [.view 1 2, .own 13 2, .slot 11, .slot 2, .io 0 2, .own 12 2] [.sl 2, .sl 2, .int .u64, .int .i64, .sl 2, .sl 2] [⟨.exit 0, [.slot 2, .io 0 2, .slot 11, .own 12 2, .own 13 2], [.int .i64, .sl 2, .int .u64, .sl 2, .sl 2]⟩] (Tf.nat_guess.l6 F) st κ), (11, fun st κ => hand [.slot 66, .own 14 2, .slot 2, .io 0 2, .slot 11, .slot 65] [.int .i64, .sl 2, .int .i64, .sl 2, .int .u64, .int .i64] [⟨.exit 2, [.io 0 2, .slot 11], [.sl 2, .int .u64]⟩] (Tf.nat_guess.l11 F) st κ)] : Loops)) (fn := Go.Proofs.Tryz.f116) (c := Tf.nat_guess.c) (LoopsOk.of (bs := [Tf.nat_guess.b6, Tf.nat_guess.b11]) (by kernel_rfl) (.cons rfl (Tf.nat_guess.l6_ok F) (.cons rfl (Tf.nat_guess.l11_ok F) .nil))) (by kernel_rfl) (by kernel_rfl) (by kernel_rfl) (by kernel_rfl) (res1 (by kernel_rfl)) (by decide) (Tf.nat_guess.f_ok F)
end Go.VI
namespace Go.VI
open Go
noncomputable def Tf.nat_divide.c : Code := (Go.Proofs.Tryz.f101.body).getD .skip
noncomputable def Tf.nat_divide.b7 : Code := codeAt [1, 1, 1, 1, 0, 0, 0] Tf.nat_divide.c
def Tf.nat_divide.s7 (F : Nat) (L : (Int × ((List Int) × (List Int))) → Option (Int × ((List Int) × (List Int)))) (x : (Int × ((List Int) × (List Int)))) : Option (Int × ((List Int) × (List Int))) :=
 (bif (inR (Go.IntKind.wrap IntKind.i64 (((List.length x.2.2) : Int) - (1 : Int))) (List.length x.2.2)) then (bif (decide ((0 : Int) ≤ x.1)) then (bif ((Int.fdiv (Go.IntKind.wrap IntKind.u32 ((List.getD x.2.2 (Int.toNat (Go.IntKind.wrap IntKind.i64 (((List.length x.2.2) : Int) - (1 : Int)))) (0 : Int)) * ((2 : Int) ^ (Min.min (Int.toNat x.1) 32)))) (2147483648 : Int)) == (0 : Int)) then (L ((Go.IntKind.wrap IntKind.u64 (x.1 + (1 : Int))), (x.2.1, x.2.2)))
 else (some (x.1, (x.2.1, x.2.2))))
 else none)
 else none)
def Tf.nat_divide.l7 (F : Nat) : (Int × ((List Int) × (List Int))) → Option (Int × ((List Int) × (List Int))) := iter (Tf.nat_divide.s7 F) F
theorem Tf.nat_divide.s7_ok (F : Nat) (L a) : exec Go.VI.tyT (look [(111, Tf.nat_trim.e F), (113, Tf.nat_compare.e F), (114, Tf.nat_small.e F), (115, Tf.nat_shift.e F), (116, Tf.nat_guess.e F), (117, Tf.slices_Clone_limbs.e F)] : Fns) 108 (look [] : Loops) Tf.nat_divide.b7 (rebuild [.slot 8, .view 0 2, .view 1 2] (encKs [.int .u64, .sl 2, .sl 2] a)) (bodyK [.slot 8, .view 0 2, .view 1 2] [.int .u64, .sl 2, .sl 2] [⟨.exit 0, [.slot 8, .view 0 2, .view 1 2], [.int .u64, .sl 2, .sl 2]⟩] L) = Tf.nat_divide.s7 F L a := by kernel_rfl
theorem Tf.nat_divide.l7_ok (F : Nat) : LoopOk Go.Proofs.Tryz.prog Go.VI.tyT.G 108 Tf.nat_divide.b7 (fun st κ => hand [.slot 8, .view 0 2, .view 1 2] [.int .u64, .sl 2, .sl 2] [⟨.exit 0, [.slot 8, .view 0 2, .view 1 2], [.int .u64, .sl 2, .sl 2]⟩] (Tf.nat_divide.l7 F) st κ) :=
  loop_ok Go.VI.tyT_ok rfl mix (.cons (Tf.nat_trim.ok F) (.cons (Tf.nat_compare.ok F) (.cons (Tf.nat_small.ok F) (.cons (Tf.nat_shift.ok F) (.cons (Tf.nat_guess.ok F) (.cons (Tf.slices_Clone_limbs.ok F) .nil)))))) (Λ := (look [] : Loops)) (LoopsOk.of (bs := []) (by kernel_rfl) .nil) (Tf.nat_divide.s7_ok F) F
noncomputable def Tf.nat_divide.b15 : Code := codeAt [1, 1, 1, 1, 1, 1, 1, 1, 1, 0, 1, 0, 0] Tf.nat_divide.c
def Tf.nat_divide.s15 (F : Nat) (L : (Int × (Int × ((List Int) × ((List Int) × ((List Int) × Int))))) → Option ((List Int) × (Int × (List Int)))) (x : (Int × (Int × ((List Int) × ((List Int) × ((List Int) × Int)))))) : Option ((List Int) × (Int × (List Int))) :=
 (bif (decide (x.1 ≥ (0 : Int))) then (Option.bind (Tf.nat_guess.f F (x.2.2.2.1, (x.2.2.1, (x.1, x.2.1)))) (fun y65 => (bif (inR x.1 (List.length x.2.2.2.2.1)) then (L ((Go.IntKind.wrap IntKind.i64 (x.1 - (1 : Int))), (x.2.1, (x.2.2.1, (y65.2, ((List.set x.2.2.2.2.1 (Int.toNat x.1) y65.1), x.2.2.2.2.2))))))
 else none)))
 else (some (x.2.2.2.2.1, (x.2.2.2.2.2, x.2.2.2.1))))
def Tf.nat_divide.l15 (F : Nat) : (Int × (Int × ((List Int) × ((List Int) × ((List Int) × Int))))) → Option ((List Int) × (Int × (List Int))) := iter (Tf.nat_divide.s15 F) F
theorem Tf.nat_divide.s15_ok (F : Nat) (L a) : exec Go.VI.tyT (look [(111, Tf.nat_trim.e F), (113, Tf.nat_compare.e F), (114, Tf.nat_small.e F), (115, Tf.nat_shift.e F), (116, Tf.nat_guess.e F), (117, Tf.slices_Clone_limbs.e F)] : Fns) 108 (look [] : Loops) Tf.nat_divide.b15 (rebuild [.slot 13, .slot 12, .own 10 2, .own 9 2, .own 11 2, .slot 8] (encKs [.int .i64, .int .u64, .sl 2, .sl 2, .sl 2, .int .u64] a)) (bodyK [.slot 13, .slot 12, .own 10 2, .own 9 2, .own 11 2, .slot 8] [.int .i64, .int .u64, .sl 2, .sl 2, .sl 2, .int .u64] [⟨.exit 2, [.own 11 2, .slot 8, .own 9 2], [.sl 2, .int .u64, .sl 2]⟩] L) = Tf.nat_divide.s15 F L a := by kernel_rfl
theorem Tf.nat_divide.l15_ok (F : Nat) : LoopOk Go.Proofs.Tryz.prog Go.VI.tyT.G 108 Tf.nat_divide.b15 (fun st κ => hand [.slot 13, .slot 12, .own 10 2, .own 9 2, .own 11 2, .slot 8] [.int .i64, .int .u64, .sl 2, .sl 2, .sl 2, .int .u64] [⟨.exit 2, [.own 11 2, .slot 8, .own 9 2], [.sl 2, .int .u64, .sl 2]⟩] (Tf.nat_divide.l15 F) st κ) :=
  loop_ok Go.VI.tyT_ok rfl mix (.cons (Tf.nat_trim.ok F) (.cons (Tf.nat_compare.ok F) (.cons (Tf.nat_small.ok F) (.cons (Tf.nat_shift.ok F) (.cons (Tf.nat_guess.ok F) (.cons (Tf.slices_Clone_limbs.ok F) .nil)))))) (Λ := (look [] : Loops)) (LoopsOk.of (bs := []) (by kernel_rfl) .nil) (Tf.nat_divide.s15_ok F) F
def Tf.nat_divide.f (F : Nat) (a : ((List Int) × (List Int))) : Option ((List Int) × (List Int)) :=
 (Option.bind (Tf.nat_compare.f F (a.1, a.2)) (fun y8 => (bif (decide (y8 < (0 : Int))) then (some (([] : List Int), a.1))
 else (bif (((List.length a.2) : Int) == (1 : Int)) then (bif (inR (0 : Int) (List.length a.2)) then (Option.bind (Tf.nat_small.f F (a.1, (Go.IntKind.wrap IntKind.u64 (List.getD a.2 0 (0 : Int))))) (fun y19 => (Option.bind (Tf.nat_trim.f F (List.set (List.replicate 1 (0 : Int)) 0 (Go.IntKind.wrap IntKind.u32 y19.2))) (fun y30 => (some (y19.1, y30))))))
 else none)
 else (Option.bind (Tf.nat_divide.l7 F ((0 : Int), (a.1, a.2))) (fun y14 => (Option.bind (Tf.nat_shift.f F (y14.2.1, y14.1)) (fun y18 => (bif (Nat.ble ((List.length y18) + 1) 1099511627776) then (Option.bind (Tf.nat_shift.f F (y14.2.2, y14.1)) (fun y24 => (bif (((List.length (y18 ++ (List.set (List.replicate 1 (0 : Int)) 0 (0 : Int)))) : Int) == ((List.length y14.2.1) : Int)) then (bif (Nat.ble ((List.length (y18 ++ (List.set (List.replicate 1 (0 : Int)) 0 (0 : Int)))) + 1) 1099511627776) then (bif (((decide ((0 : Int) ≤ (Go.IntKind.wrap IntKind.i64 (((List.length ((y18 ++ (List.set (List.replicate 1 (0 : Int)) 0 (0 : Int))) ++ (List.set (List.replicate 1 (0 : Int)) 0 (0 : Int)))) : Int) - ((List.length y24) : Int))))) && (decide ((Go.IntKind.wrap IntKind.i64 (((List.length ((y18 ++ (List.set (List.replicate 1 (0 : Int)) 0 (0 : Int))) ++ (List.set (List.replicate 1 (0 : Int)) 0 (0 : Int)))) : Int) - ((List.length y24) : Int))) ≤ (Go.IntKind.wrap IntKind.i64 (((List.length ((y18 ++ (List.set (List.replicate 1 (0 : Int)) 0 (0 : Int))) ++ (List.set (List.replicate 1 (0 : Int)) 0 (0 : Int)))) : Int) - ((List.length y24) : Int)))))) && (decide ((Go.IntKind.wrap IntKind.i64 (((List.length ((y18 ++ (List.set (List.replicate 1 (0 : Int)) 0 (0 : Int))) ++ (List.set (List.replicate 1 (0 : Int)) 0 (0 : Int)))) : Int) - ((List.length y24) : Int))) ≤ (1099511627776 : Int)))) then (bif (inR (Go.IntKind.wrap IntKind.i64 (((List.length y24) : Int) - (1 : Int))) (List.length y24)) then (Option.bind (Tf.nat_divide.l15 F ((Go.IntKind.wrap IntKind.i64 (((List.length (List.replicate (Int.toNat (Go.IntKind.wrap IntKind.i64 (((List.length ((y18 ++ (List.set (List.replicate 1 (0 : Int)) 0 (0 : Int))) ++ (List.set (List.replicate 1 (0 : Int)) 0 (0 : Int)))) : Int) - ((List.length y24) : Int)))) (0 : Int))) : Int) - (1 : Int))), ((Go.IntKind.wrap IntKind.u64 (List.getD y24 (Int.toNat (Go.IntKind.wrap IntKind.i64 (((List.length y24) : Int) - (1 : Int)))) (0 : Int))), (y24, (((y18 ++ (List.set (List.replicate 1 (0 : Int)) 0 (0 : Int))) ++ (List.set (List.replicate 1 (0 : Int)) 0 (0 : Int))), ((List.replicate (Int.toNat (Go.IntKind.wrap IntKind.i64 (((List.length ((y18 ++ (List.set (List.replicate 1 (0 : Int)) 0 (0 : Int))) ++ (List.set (List.replicate 1 (0 : Int)) 0 (0 : Int)))) : Int) - ((List.length y24) : Int)))) (0 : Int)), y14.1)))))) (fun y55 => (Option.bind (Tf.slices_Clone_limbs.f F y55.2.2) (fun y58 => (Option.bind (Tf.nat_trim.f F y58) (fun y60 => (bif (decide ((0 : Int) ≤ y55.2.1)) then (Option.bind (Tf.nat_small.f F (y60, (Go.IntKind.wrap IntKind.u64 ((1 : Int) * ((2 : Int) ^ (Min.min (Int.toNat y55.2.1) 64)))))) (fun y66 => (Option.bind (Tf.nat_trim.f F y55.1) (fun y74 => (some (y74, y66.1))))))
 else none)))))))
 else none)
 else none)
 else none)
 else (bif (((decide ((0 : Int) ≤ (Go.IntKind.wrap IntKind.i64 (((List.length (y18 ++ (List.set (List.replicate 1 (0 : Int)) 0 (0 : Int)))) : Int) - ((List.length y24) : Int))))) && (decide ((Go.IntKind.wrap IntKind.i64 (((List.length (y18 ++ (List.set (List.replicate 1 (0 : Int)) 0 (0 : Int)))) : Int) - ((List.length y24) : Int))) ≤ (Go.IntKind.wrap IntKind.i64 (((List.length (y18 ++ (List.set (List.replicate 1 (0 : Int)) 0 (0 : Int)))) : Int) - ((List.length y24) : Int)))))) && (decide ((Go.IntKind.wrap IntKind.i64 (((List.length (y18 ++ (List.set (List.replicate 1 (0 : Int)) 0 (0 : Int)))) : Int) - ((List.length y24) : Int))) ≤ (1099511627776 : Int)))) then (bif (inR (Go.IntKind.wrap IntKind.i64 (((List.length y24) : Int) - (1 : Int))) (List.length y24)) then (Option.bind (Tf.nat_divide.l15 F ((Go.IntKind.wrap IntKind.i64 (((List.length (List.replicate (Int.toNat (Go.IntKind.wrap IntKind.i64 (((List.length (y18 ++ (List.set (List.replicate 1 (0 : Int)) 0 (0 : Int)))) : Int) - ((List.length y24) : Int)))) (0 : Int))) : Int) - (1 : Int))), ((Go.IntKind.wrap IntKind.u64 (List.getD y24 (Int.toNat (Go.IntKind.wrap IntKind.i64 (((List.length y24) : Int) - (1 : Int)))) (0 : Int))), (y24, ((y18 ++ (List.set (List.replicate 1 (0 : Int)) 0 (0 : Int))), ((List.replicate (Int.toNat (Go.IntKind.wrap IntKind.i64 (((List.length (y18 ++ (List.set (List.replicate 1 (0 : Int)) 0 (0 : Int)))) : Int) - ((List.length y24) : Int)))) (0 : Int)), y14.1)))))) (fun y51 => (Option.bind (Tf.slices_Clone_limbs.f F y51.2.2) (fun y54 => (Option.bind (Tf.nat_trim.f F y54) (fun y56 => (bif (decide ((0 : Int) ≤ y51.2.1)) then (Option.bind (Tf.nat_small.f F (y56, (Go.IntKind.wrap IntKind.u64 ((1 : Int) * ((2 : Int) ^ (Min.min (Int.toNat y51.2.1) 64)))))) (fun y62 => (Option.bind (Tf.nat_trim.f F y51.1) (fun y70 => (some (y70, y62.1))))))
 else none)))))))
 else none)
 else none))))
 else none)))))))))
theorem Tf.nat_divide.f_ok (F : Nat) (a) : exec Go.VI.tyT (look [(111, Tf.nat_trim.e F), (113, Tf.nat_compare.e F), (114, Tf.nat_small.e F), (115, Tf.nat_shift.e F), (116, Tf.nat_guess.e F), (117, Tf.slices_Clone_limbs.e F)] : Fns) 108 (look [(7, fun st κ => hand [.slot 8, .view 0 2, .view 1 2] [.int .u64, .sl 2, .sl 2] [⟨.exit 0, [.slot 8, .view 0 2, .view 1 2], [.int .u64, .sl 2, .sl 2]⟩] (Tf.nat_divide.l7 F) st κ), (15, fun st κ => hand [.slot 13, .slot 12, .own 10 2, .own 9 2, .own 11 2, .slot 8] [.int .i64, .int .u64, .sl 2, .sl 2, .sl 2, .int .u64] [⟨.exit 2, [.own 11 2, .slot 8, .own 9 2], [.sl 2, .int .u64, .sl 2]⟩] (Tf.nat_divide.l15 F) st κ)] : Loops) Tf.nat_divide.c (init [.v 2, .v 2] (encKs [.sl 2, .sl 2] a)) (finT (look [(111, Tf.nat_trim.e F), (113, Tf.nat_compare.e F), (114, Tf.nat_small.e F), (115, Tf.nat_shift.e F), (116, Tf.nat_guess.e F), (117, Tf.slices_Clone_limbs.e F)] : Fns) (⟨[.v 2, .v 2], [.o 2, .v 2]⟩ : Sig) [4, 5] [.own, .pure] [.sl 2, .sl 2]) = Tf.nat_divide.f F a := by kernel_rfl
def Tf.nat_divide.e (F : Nat) : Fn := mkFn (⟨[.v 2, .v 2], [.o 2, .v 2]⟩ : Sig) [.sl 2, .sl 2] [.own, .pure] [.sl 2, .sl 2] (Tf.nat_divide.f F)
theorem Tf.nat_divide.ok (F : Nat) : EntryOk Go.Proofs.Tryz.prog Go.VI.tyT.G 101 (Tf.nat_divide.e F) :=
  fn_ok Go.VI.tyT_ok rfl mix (.cons (Tf.nat_trim.ok F) (.cons (Tf.nat_compare.ok F) (.cons (Tf.nat_small.ok F) (.cons (Tf.nat_shift.ok F) (.cons (Tf.nat_guess.ok F) (.cons (Tf.slices_Clone_limbs.ok F) .nil)))))) (Λ := (look [(7, fun st κ => hand [.slot 8, .view 0 2, .view 1 2] [.int .u64, .sl 2, .sl 2] [⟨.exit 0, [.slot 8, .view 0 2, .view 1 2], [.int .u64, .sl 2, .sl 2]⟩] (Tf.nat_divide.l7 F) st κ), (15, fun st κ => hand [.slot 13, .slot 12, .own 10 2, .own 9 2, .own 11 2, .slot 8] [.int .i64, .int .u64, .sl 2, .sl 2, .sl 2, .int .u64] [⟨.exit 2, [.own 11 2, .slot 8, .own 9 2], [.sl 2, .int .u64, .sl 2]⟩] (Tf.nat_divide.l15 F) st κ)] : Loops)) (fn := Go.Proofs.Tryz.f101) (c := Tf.nat_divide.c) (LoopsOk.of (bs := [Tf.nat_divide.b7, Tf.nat_divide.b15]) (by kernel_rfl) (.cons rfl (Tf.nat_divide.l7_ok F) (.cons rfl (Tf.nat_divide.l15_ok F) .nil))) (by kernel_rfl) (by kernel_rfl) (by kernel_rfl) (by kernel_rfl) (res2 (by kernel_rfl)) (by decide) (Tf.nat_divide.f_ok F)
end Go.VI
namespace Go.VI
open Go
noncomputable def Tf.slices_Reverse___byte_byte_.c : Code := (Go.Proofs.Tryz.f118.body).getD .skip
noncomputable def Tf.slices_Reverse___byte_byte_.b1 : Code := codeAt [1, 0, 0] Tf.slices_Reverse___byte_byte_.c
def Tf.slices_Reverse___byte_byte_.s1 (F : Nat) (L : (Int × (Int × (List Int))) → Option (List Int)) (x : (Int × (Int × (List Int)))) : Option (List Int) :=
 (bif (decide (x.2.1 < x.1)) then (bif (inR x.1 (List.length x.2.2)) then (bif (inR x.2.1 (List.length x.2.2)) then (bif (inR x.2.1 (List.length x.2.2)) then (bif (inR x.1 (List.length (List.set x.2.2 (Int.toNat x.2.1) (List.getD x.2.2 (Int.toNat x.1) (0 : Int))))) then (L ((Go.IntKind.wrap IntKind.i64 (x.1 - (1 : Int))), ((Go.IntKind.wrap IntKind.i64 (x.2.1 + (1 : Int))), (List.set (List.set x.2.2 (Int.toNat x.2.1) (List.getD x.2.2 (Int.toNat x.1) (0 : Int))) (Int.toNat x.1) (List.getD x.2.2 (Int.toNat x.2.1) (0 : Int))))))
 else none)
 else none)
 else none)
 else none)
 else (some x.2.2))
def Tf.slices_Reverse___byte_byte_.l1 (F : Nat) : (Int × (Int × (List Int))) → Option (List Int) := iter (Tf.slices_Reverse___byte_byte_.s1 F) F
theorem Tf.slices_Reverse___byte_byte_.s1_ok (F : Nat) (L a) : exec Go.VI.tyT (look [] : Fns) 28 (look [] : Loops) Tf.slices_Reverse___byte_byte_.b1 (rebuild [.slot 3, .slot 2, .io 0 1] (encKs [.int .i64, .int .i64, .sl 1] a)) (bodyK [.slot 3, .slot 2, .io 0 1] [.int .i64, .int .i64, .sl 1] [⟨.exit 0, [.io 0 1], [.sl 1]⟩] L) = Tf.slices_Reverse___byte_byte_.s1 F L a := by kernel_rfl
theorem Tf.slices_Reverse___byte_byte_.l1_ok (F : Nat) : LoopOk Go.Proofs.Tryz.prog Go.VI.tyT.G 28 Tf.slices_Reverse___byte_byte_.b1 (fun st κ => hand [.slot 3, .slot 2, .io 0 1] [.int .i64, .int .i64, .sl 1] [⟨.exit 0, [.io 0 1], [.sl 1]⟩] (Tf.slices_Reverse___byte_byte_.l1 F) st κ) :=
  loop_ok Go.VI.tyT_ok rfl mix .nil (Λ := (look [] : Loops)) (LoopsOk.of (bs := []) (by kernel_rfl) .nil) (Tf.slices_Reverse___byte_byte_.s1_ok F) F
def Tf.slices_Reverse___byte_byte_.f (F : Nat) (a : (List Int)) : Option (List Int) :=
 (Option.bind (Tf.slices_Reverse___byte_byte_.l1 F ((Go.IntKind.wrap IntKind.i64 (((List.length a) : Int) - (1 : Int))), ((0 : Int), a))) (fun y8 => (some y8)))
theorem Tf.slices_Reverse___byte_byte_.f_ok (F : Nat) (a) : exec Go.VI.tyT (look [] : Fns) 28 (look [(1, fun st κ => hand [.slot 3, .slot 2, .io 0 1] [.int .i64, .int .i64, .sl 1] [⟨.exit 0, [.io 0 1], [.sl 1]⟩] (Tf.slices_Reverse___byte_byte_.l1 F) st κ)] : Loops) Tf.slices_Reverse___byte_byte_.c (init [.m 1] (encKs [.sl 1] a)) (finT (look [] : Fns) (⟨[.m 1], []⟩ : Sig) [] [.row] [.sl 1]) = Tf.slices_Reverse___byte_byte_.f F a := by kernel_rfl
def Tf.slices_Reverse___byte_byte_.e (F : Nat) : Fn := mkFn (⟨[.m 1], []⟩ : Sig) [.sl 1] [.row] [.sl 1] (Tf.slices_Reverse___byte_byte_.f F)
theorem Tf.slices_Reverse___byte_byte_.ok (F : Nat) : EntryOk Go.Proofs.Tryz.prog Go.VI.tyT.G 118 (Tf.slices_Reverse___byte_byte_.e F) :=
  fn_ok Go.VI.tyT_ok rfl mix .nil (Λ := (look [(1, fun st κ => hand [.slot 3, .slot 2, .io 0 1] [.int .i64, .int .i64, .sl 1] [⟨.exit 0, [.io 0 1], [.sl 1]⟩] (Tf.slices_Reverse___byte_byte_.l1 F) st κ)] : Loops)) (fn := Go.Proofs.Tryz.f118) (c := Tf.slices_Reverse___byte_byte_.c) (LoopsOk.of (bs := [Tf.slices_Reverse___byte_byte_.b1]) (by kernel_rfl) (.cons rfl (Tf.slices_Reverse___byte_byte_.l1_ok F) .nil)) (by kernel_rfl) (by kernel_rfl) (by kernel_rfl) (by kernel_rfl) (res0 (by kernel_rfl)) (by decide) (Tf.slices_Reverse___byte_byte_.f_ok F)
end Go.VI
namespace Go.VI
open Go
noncomputable def Tf.nat_text.c : Code := (Go.Proofs.Tryz.f102.body).getD .skip
noncomputable def Tf.nat_text.b7 : Code := codeAt [1, 1, 1, 0, 0, 0, 1, 0, 1, 0, 1, 0, 0] Tf.nat_text.c
def Tf.nat_text.s7 (F : Nat) (L : (Int × (Int × ((List Int) × (List Int)))) → Option ((List Int) × (List Int))) (x : (Int × (Int × ((List Int) × (List Int))))) : Option ((List Int) × (List Int)) :=
 (bif (decide (x.1 < (9 : Int))) then (bif (decide (((List.length x.2.2.2) : Int) > (0 : Int))) then (bif (Nat.ble ((List.length x.2.2.1) + 1) 1099511627776) then (L ((Go.IntKind.wrap IntKind.i64 (x.1 + (1 : Int))), ((Go.IntKind.wrap IntKind.u64 (Int.tdiv x.2.1 (10 : Int))), ((x.2.2.1 ++ (List.set (List.replicate 1 (0 : Int)) 0 (Go.IntKind.wrap IntKind.u8 (Go.IntKind.wrap IntKind.u64 ((48 : Int) + (Int.tmod x.2.1 (10 : Int))))))), x.2.2.2))))
 else none)
 else (bif (decide (x.2.1 > (0 : Int))) then (bif (Nat.ble ((List.length x.2.2.1) + 1) 1099511627776) then (L ((Go.IntKind.wrap IntKind.i64 (x.1 + (1 : Int))), ((Go.IntKind.wrap IntKind.u64 (Int.tdiv x.2.1 (10 : Int))), ((x.2.2.1 ++ (List.set (List.replicate 1 (0 : Int)) 0 (Go.IntKind.wrap IntKind.u8 (Go.IntKind.wrap IntKind.u64 ((48 : Int) + (Int.tmod x.2.1 (10 : Int))))))), x.2.2.2))))
 else none)
 else (some (x.2.2.1, x.2.2.2))))
 else (some (x.2.2.1, x.2.2.2)))
def Tf.nat_text.l7 (F : Nat) : (Int × (Int × ((List Int) × (List Int)))) → Option ((List Int) × (List Int)) := iter (Tf.nat_text.s7 F) F
theorem Tf.nat_text.s7_ok (F : Nat) (L a) : exec Go.VI.tyT (look [(114, Tf.nat_small.e F), (118, Tf.slices_Reverse___byte_byte_.e F)] : Fns) 45 (look [] : Loops) Tf.nat_text.b7 (rebuild [.slot 6, .slot 5, .own 3 1, .own 4 2] (encKs [.int .i64, .int .u64, .sl 1, .sl 2] a)) (bodyK [.slot 6, .slot 5, .own 3 1, .own 4 2] [.int .i64, .int .u64, .sl 1, .sl 2] [⟨.exit 2, [.own 3 1, .own 4 2], [.sl 1, .sl 2]⟩] L) = Tf.nat_text.s7 F L a := by kernel_rfl
theorem Tf.nat_text.l7_ok (F : Nat) : LoopOk Go.Proofs.Tryz.prog Go.VI.tyT.G 45 Tf.nat_text.b7 (fun st κ => hand [.slot 6, .slot 5, .own 3 1, .own 4 2] [.int .i64, .int .u64, .sl 1, .sl 2] [⟨.exit 2, [.own 3 1, .own 4 2], [.sl 1, .sl 2]⟩] (Tf.nat_text.l7 F) st κ) :=
  loop_ok Go.VI.tyT_ok rfl mix (.cons (Tf.nat_small.ok F) (.cons (Tf.slices_Reverse___byte_byte_.ok F) .nil)) (Λ := (look [] : Loops)) (LoopsOk.of (bs := []) (by kernel_rfl) .nil) (Tf.nat_text.s7_ok F) F
noncomputable def Tf.nat_text.b4 : Code := codeAt [1, 1, 1, 0, 0, 0] Tf.nat_text.c
def Tf.nat_text.s4 (F : Nat) (L : ((List Int) × (List Int)) → Option (List Int)) (x : ((List Int) × (List Int))) : Option (List Int) :=
 (bif (decide (((List.length x.2) : Int) > (0 : Int))) then (Option.bind (Tf.nat_small.f F (x.2, (1000000000 : Int))) (fun y14 => (Option.bind (Tf.nat_text.l7 F ((0 : Int), (y14.2, (x.1, y14.1)))) (fun y21 => (L (y21.1, y21.2))))))
 else (some x.1))
def Tf.nat_text.l4 (F : Nat) : ((List Int) × (List Int)) → Option (List Int) := iter (Tf.nat_text.s4 F) F
theorem Tf.nat_text.s4_ok (F : Nat) (L a) : exec Go.VI.tyT (look [(114, Tf.nat_small.e F), (118, Tf.slices_Reverse___byte_byte_.e F)] : Fns) 45 (look [(7, fun st κ => hand [.slot 6, .slot 5, .own 3 1, .own 4 2] [.int .i64, .int .u64, .sl 1, .sl 2] [⟨.exit 2, [.own 3 1, .own 4 2], [.sl 1, .sl 2]⟩] (Tf.nat_text.l7 F) st κ)] : Loops) Tf.nat_text.b4 (rebuild [.own 3 1, .view 0 2] (encKs [.sl 1, .sl 2] a)) (bodyK [.own 3 1, .view 0 2] [.sl 1, .sl 2] [⟨.exit 0, [.own 3 1], [.sl 1]⟩] L) = Tf.nat_text.s4 F L a := by kernel_rfl
theorem Tf.nat_text.l4_ok (F : Nat) : LoopOk Go.Proofs.Tryz.prog Go.VI.tyT.G 45 Tf.nat_text.b4 (fun st κ => hand [.own 3 1, .view 0 2] [.sl 1, .sl 2] [⟨.exit 0, [.own 3 1], [.sl 1]⟩] (Tf.nat_text.l4 F) st κ) :=
  loop_ok Go.VI.tyT_ok rfl mix (.cons (Tf.nat_small.ok F) (.cons (Tf.slices_Reverse___byte_byte_.ok F) .nil)) (Λ := (look [(7, fun st κ => hand [.slot 6, .slot 5, .own 3 1, .own 4 2] [.int .i64, .int .u64, .sl 1, .sl 2] [⟨.exit 2, [.own 3 1, .own 4 2], [.sl 1, .sl 2]⟩] (Tf.nat_text.l7 F) st κ)] : Loops)) (LoopsOk.of (bs := [Tf.nat_text.b7]) (by kernel_rfl) (.cons rfl (Tf.nat_text.l7_ok F) .nil)) (Tf.nat_text.s4_ok F) F
def Tf.nat_text.f (F : Nat) (a : (List Int)) : Option ByteArray :=
 (bif (((List.length a) : Int) == (0 : Int)) then (some (⟨#[48]⟩ : ByteArray))
 else (Option.bind (Tf.nat_text.l4 F (([] : List Int), a)) (fun y8 => (Option.bind (Tf.slices_Reverse___byte_byte_.f F y8) (fun y11 => (some (strOf y11)))))))
theorem Tf.nat_text.f_ok (F : Nat) (a) : exec Go.VI.tyT (look [(114, Tf.nat_small.e F), (118, Tf.slices_Reverse___byte_byte_.e F)] : Fns) 45 (look [(4, fun st κ => hand [.own 3 1, .view 0 2] [.sl 1, .sl 2] [⟨.exit 0, [.own 3 1], [.sl 1]⟩] (Tf.nat_text.l4 F) st κ)] : Loops) Tf.nat_text.c (init [.v 2] (encKs [.sl 2] a)) (finT (look [(114, Tf.nat_small.e F), (118, Tf.slices_Reverse___byte_byte_.e F)] : Fns) (⟨[.v 2], [.p]⟩ : Sig) [2] [.pure] [.str]) = Tf.nat_text.f F a := by kernel_rfl
def Tf.nat_text.e (F : Nat) : Fn := mkFn (⟨[.v 2], [.p]⟩ : Sig) [.sl 2] [.pure] [.str] (Tf.nat_text.f F)
theorem Tf.nat_text.ok (F : Nat) : EntryOk Go.Proofs.Tryz.prog Go.VI.tyT.G 102 (Tf.nat_text.e F) :=
  fn_ok Go.VI.tyT_ok rfl mix (.cons (Tf.nat_small.ok F) (.cons (Tf.slices_Reverse___byte_byte_.ok F) .nil)) (Λ := (look [(4, fun st κ => hand [.own 3 1, .view 0 2] [.sl 1, .sl 2] [⟨.exit 0, [.own 3 1], [.sl 1]⟩] (Tf.nat_text.l4 F) st κ)] : Loops)) (fn := Go.Proofs.Tryz.f102) (c := Tf.nat_text.c) (LoopsOk.of (bs := [Tf.nat_text.b4]) (by kernel_rfl) (.cons rfl (Tf.nat_text.l4_ok F) .nil)) (by kernel_rfl) (by kernel_rfl) (by kernel_rfl) (by kernel_rfl) (res1 (by kernel_rfl)) (by decide) (Tf.nat_text.f_ok F)
end Go.VI
namespace Go.VI
open Go
noncomputable def Tf.nat_Gcd.c : Code := (Go.Proofs.Tryz.f87.body).getD .skip
noncomputable def Tf.nat_Gcd.b4 : Code := codeAt [1, 1, 1, 0, 0, 0] Tf.nat_Gcd.c
def Tf.nat_Gcd.s4 (F : Nat) (L : ((List Int) × (List Int)) → Option (List Int)) (x : ((List Int) × (List Int))) : Option (List Int) :=
 (bif (decide (((List.length x.1) : Int) > (0 : Int))) then (Option.bind (Tf.nat_divide.f F (x.2, x.1)) (fun y25 => (L (y25.2, x.1))))
 else (some x.2))
def Tf.nat_Gcd.l4 (F : Nat) : ((List Int) × (List Int)) → Option (List Int) := iter (Tf.nat_Gcd.s4 F) F
theorem Tf.nat_Gcd.s4_ok (F : Nat) (L a) : exec Go.VI.tyT (look [(100, Tf.nat_both.e F), (101, Tf.nat_divide.e F), (102, Tf.nat_text.e F)] : Fns) 33 (look [] : Loops) Tf.nat_Gcd.b4 (rebuild [.view 7 2, .view 6 2] (encKs [.sl 2, .sl 2] a)) (bodyK [.view 7 2, .view 6 2] [.sl 2, .sl 2] [⟨.exit 0, [.view 6 2], [.sl 2]⟩] L) = Tf.nat_Gcd.s4 F L a := by kernel_rfl
theorem Tf.nat_Gcd.l4_ok (F : Nat) : LoopOk Go.Proofs.Tryz.prog Go.VI.tyT.G 33 Tf.nat_Gcd.b4 (fun st κ => hand [.view 7 2, .view 6 2] [.sl 2, .sl 2] [⟨.exit 0, [.view 6 2], [.sl 2]⟩] (Tf.nat_Gcd.l4 F) st κ) :=
  loop_ok Go.VI.tyT_ok rfl mix (.cons (Tf.nat_both.ok F) (.cons (Tf.nat_divide.ok F) (.cons (Tf.nat_text.ok F) .nil))) (Λ := (look [] : Loops)) (LoopsOk.of (bs := []) (by kernel_rfl) .nil) (Tf.nat_Gcd.s4_ok F) F
def Tf.nat_Gcd.f (F : Nat) (a : (ByteArray × ByteArray)) : Option (ByteArray × Int) :=
 (Option.bind (Tf.nat_both.f F (a.1, a.2)) (fun y8 => (bif (!y8.2.2) then (some ((⟨#[]⟩ : ByteArray), (2 : Int)))
 else (Option.bind (Tf.nat_Gcd.l4 F (y8.2.1, y8.1)) (fun y18 => (Option.bind (Tf.nat_text.f F y18) (fun y21 => (some (y21, (0 : Int))))))))))
theorem Tf.nat_Gcd.f_ok (F : Nat) (a) : exec Go.VI.tyT (look [(100, Tf.nat_both.e F), (101, Tf.nat_divide.e F), (102, Tf.nat_text.e F)] : Fns) 33 (look [(4, fun st κ => hand [.view 7 2, .view 6 2] [.sl 2, .sl 2] [⟨.exit 0, [.view 6 2], [.sl 2]⟩] (Tf.nat_Gcd.l4 F) st κ)] : Loops) Tf.nat_Gcd.c (init [.p, .p] (encKs [.str, .str] a)) (finT (look [(100, Tf.nat_both.e F), (101, Tf.nat_divide.e F), (102, Tf.nat_text.e F)] : Fns) (⟨[.p, .p], [.p, .p]⟩ : Sig) [4, 5] [.pure, .pure] [.str, .int .i64]) = Tf.nat_Gcd.f F a := by kernel_rfl
def Tf.nat_Gcd.e (F : Nat) : Fn := mkFn (⟨[.p, .p], [.p, .p]⟩ : Sig) [.str, .str] [.pure, .pure] [.str, .int .i64] (Tf.nat_Gcd.f F)
theorem Tf.nat_Gcd.ok (F : Nat) : EntryOk Go.Proofs.Tryz.prog Go.VI.tyT.G 87 (Tf.nat_Gcd.e F) :=
  fn_ok Go.VI.tyT_ok rfl mix (.cons (Tf.nat_both.ok F) (.cons (Tf.nat_divide.ok F) (.cons (Tf.nat_text.ok F) .nil))) (Λ := (look [(4, fun st κ => hand [.view 7 2, .view 6 2] [.sl 2, .sl 2] [⟨.exit 0, [.view 6 2], [.sl 2]⟩] (Tf.nat_Gcd.l4 F) st κ)] : Loops)) (fn := Go.Proofs.Tryz.f87) (c := Tf.nat_Gcd.c) (LoopsOk.of (bs := [Tf.nat_Gcd.b4]) (by kernel_rfl) (.cons rfl (Tf.nat_Gcd.l4_ok F) .nil)) (by kernel_rfl) (by kernel_rfl) (by kernel_rfl) (by kernel_rfl) (res2 (by kernel_rfl)) (by decide) (Tf.nat_Gcd.f_ok F)
end Go.VI
namespace Go.VI
open Go
noncomputable def Tf.nat_Div.c : Code := (Go.Proofs.Tryz.f88.body).getD .skip
def Tf.nat_Div.f (F : Nat) (a : (ByteArray × ByteArray)) : Option (ByteArray × (ByteArray × Int)) :=
 (Option.bind (Tf.nat_both.f F (a.1, a.2)) (fun y9 => (bif (!y9.2.2) then (some ((⟨#[]⟩ : ByteArray), ((⟨#[]⟩ : ByteArray), (2 : Int))))
 else (bif (((List.length y9.2.1) : Int) == (0 : Int)) then (some ((⟨#[]⟩ : ByteArray), ((⟨#[]⟩ : ByteArray), (3 : Int))))
 else (Option.bind (Tf.nat_divide.f F (y9.1, y9.2.1)) (fun y27 => (Option.bind (Tf.nat_text.f F y27.1) (fun y35 => (Option.bind (Tf.nat_text.f F y27.2) (fun y38 => (some (y35, (y38, (0 : Int))))))))))))))
theorem Tf.nat_Div.f_ok (F : Nat) (a) : exec Go.VI.tyT (look [(100, Tf.nat_both.e F), (101, Tf.nat_divide.e F), (102, Tf.nat_text.e F)] : Fns) 36 (look [] : Loops) Tf.nat_Div.c (init [.p, .p] (encKs [.str, .str] a)) (finT (look [(100, Tf.nat_both.e F), (101, Tf.nat_divide.e F), (102, Tf.nat_text.e F)] : Fns) (⟨[.p, .p], [.p, .p, .p]⟩ : Sig) [4, 5, 6] [.pure, .pure, .pure] [.str, .str, .int .i64]) = Tf.nat_Div.f F a := by kernel_rfl
def Tf.nat_Div.e (F : Nat) : Fn := mkFn (⟨[.p, .p], [.p, .p, .p]⟩ : Sig) [.str, .str] [.pure, .pure, .pure] [.str, .str, .int .i64] (Tf.nat_Div.f F)
theorem Tf.nat_Div.ok (F : Nat) : EntryOk Go.Proofs.Tryz.prog Go.VI.tyT.G 88 (Tf.nat_Div.e F) :=
  fn_ok Go.VI.tyT_ok rfl mix (.cons (Tf.nat_both.ok F) (.cons (Tf.nat_divide.ok F) (.cons (Tf.nat_text.ok F) .nil))) (Λ := (look [] : Loops)) (fn := Go.Proofs.Tryz.f88) (c := Tf.nat_Div.c) (LoopsOk.of (bs := []) (by kernel_rfl) .nil) (by kernel_rfl) (by kernel_rfl) (by kernel_rfl) (by kernel_rfl) (res3 (by kernel_rfl)) (by decide) (Tf.nat_Div.f_ok F)
end Go.VI
namespace Go.VI
open Go
noncomputable def Tf.rat_lowest.c : Code := (Go.Proofs.Tryz.f70.body).getD .skip
def Tf.rat_lowest.f (F : Nat) (a : (ByteArray × ByteArray)) : Option ((ByteArray × ByteArray) × Bool) :=
 (bif (seqB a.2 (⟨#[48]⟩ : ByteArray)) then (bif (Nat.ble ((ByteArray.size a.1) + 3) 4611686018427387904) then (bif (Nat.ble ((ByteArray.size (a.1 ++ (⟨#[32, 47, 32]⟩ : ByteArray))) + (ByteArray.size a.2)) 4611686018427387904) then (some ((ByteArray.empty, ByteArray.empty), Bool.false))
 else none)
 else none)
 else (Option.bind (Tf.strings_HasPrefix.f F (a.2, (⟨#[45]⟩ : ByteArray))) (fun y9 => (bif y9 then (Option.bind (Tf.whole_Neg.f F a.1) (fun y12 => (Option.bind (Tf.rat_size.f F a.2) (fun y19 => (Option.bind (Tf.rat_size.f F y12.1) (fun y23 => (Option.bind (Tf.nat_Gcd.f F (y23, y19)) (fun y26 => (bif (y26.2 != (0 : Int)) then (some ((ByteArray.empty, ByteArray.empty), Bool.false))
 else (Option.bind (Tf.rat_size.f F y12.1) (fun y36 => (Option.bind (Tf.nat_Div.f F (y36, y26.1)) (fun y39 => (Option.bind (Tf.nat_Div.f F (y19, y26.1)) (fun y50 => (Option.bind (Tf.strings_HasPrefix.f F (y12.1, (⟨#[45]⟩ : ByteArray))) (fun y60 => (bif y60 then (Option.bind (Tf.whole_Neg.f F y39.1) (fun y63 => (some ((y63.1, y50.1), Bool.true))))
 else (some ((y39.1, y50.1), Bool.true))))))))))))))))))))
 else (Option.bind (Tf.rat_size.f F a.1) (fun y12 => (Option.bind (Tf.nat_Gcd.f F (y12, a.2)) (fun y15 => (bif (y15.2 != (0 : Int)) then (some ((ByteArray.empty, ByteArray.empty), Bool.false))
 else (Option.bind (Tf.rat_size.f F a.1) (fun y25 => (Option.bind (Tf.nat_Div.f F (y25, y15.1)) (fun y28 => (Option.bind (Tf.nat_Div.f F (a.2, y15.1)) (fun y39 => (Option.bind (Tf.strings_HasPrefix.f F (a.1, (⟨#[45]⟩ : ByteArray))) (fun y49 => (bif y49 then (Option.bind (Tf.whole_Neg.f F y28.1) (fun y52 => (some ((y52.1, y39.1), Bool.true))))
 else (some ((y28.1, y39.1), Bool.true))))))))))))))))))))
theorem Tf.rat_lowest.f_ok (F : Nat) (a) : exec Go.VI.tyT (look [(84, Tf.strings_HasPrefix.e F), (85, Tf.whole_Neg.e F), (86, Tf.rat_size.e F), (87, Tf.nat_Gcd.e F), (88, Tf.nat_Div.e F)] : Fns) 73 (look [] : Loops) Tf.rat_lowest.c (init [.p, .p] (encKs [.str, .str] a)) (finC Go.VI.tyT (look [(84, Tf.strings_HasPrefix.e F), (85, Tf.whole_Neg.e F), (86, Tf.rat_size.e F), (87, Tf.nat_Gcd.e F), (88, Tf.nat_Div.e F)] : Fns) 73 4 86 (⟨[.p, .p], [.p, .v 99]⟩ : Sig) [4, 5] [.pure, .pure] [.st [.str, .str], .err]) = Tf.rat_lowest.f F a := by kernel_rfl
def Tf.rat_lowest.e (F : Nat) : Fn := mkFn (⟨[.p, .p], [.p, .v 99]⟩ : Sig) [.str, .str] [.pure, .pure] [.st [.str, .str], .err] (Tf.rat_lowest.f F)
theorem Tf.rat_lowest.ok (F : Nat) : EntryOk Go.Proofs.Tryz.prog Go.VI.tyT.G 70 (Tf.rat_lowest.e F) :=
  fn_okC Go.VI.tyT_ok rfl mix (.cons (Tf.strings_HasPrefix.ok F) (.cons (Tf.whole_Neg.ok F) (.cons (Tf.rat_size.ok F) (.cons (Tf.nat_Gcd.ok F) (.cons (Tf.nat_Div.ok F) .nil))))) (Λ := (look [] : Loops)) (fn := Go.Proofs.Tryz.f70) (c := Tf.rat_lowest.c) (LoopsOk.of (bs := []) (by kernel_rfl) .nil) (by kernel_rfl) (by kernel_rfl) (by kernel_rfl) (by kernel_rfl) (resC1 (by kernel_rfl) (by kernel_rfl)) (by decide) (Tf.rat_lowest.f_ok F)
end Go.VI
namespace Go.VI
open Go
noncomputable def Tf._rat_pair__text.c : Code := (Go.Proofs.Tryz.f71.body).getD .skip
def Tf._rat_pair__text.f (F : Nat) (a : (ByteArray × ByteArray)) : Option ByteArray :=
 (bif (seqB a.2 (⟨#[49]⟩ : ByteArray)) then (some a.1)
 else (bif (Nat.ble ((ByteArray.size a.1) + 1) 4611686018427387904) then (bif (Nat.ble ((ByteArray.size (a.1 ++ (⟨#[47]⟩ : ByteArray))) + (ByteArray.size a.2)) 4611686018427387904) then (some ((a.1 ++ (⟨#[47]⟩ : ByteArray)) ++ a.2))
 else none)
 else none))
theorem Tf._rat_pair__text.f_ok (F : Nat) (a) : exec Go.VI.tyT (look [] : Fns) 14 (look [] : Loops) Tf._rat_pair__text.c (init [.p] (encKs [.st [.str, .str]] a)) (finT (look [] : Fns) (⟨[.p], [.p]⟩ : Sig) [2] [.pure] [.str]) = Tf._rat_pair__text.f F a := by kernel_rfl
def Tf._rat_pair__text.e (F : Nat) : Fn := mkFn (⟨[.p], [.p]⟩ : Sig) [.st [.str, .str]] [.pure] [.str] (Tf._rat_pair__text.f F)
theorem Tf._rat_pair__text.ok (F : Nat) : EntryOk Go.Proofs.Tryz.prog Go.VI.tyT.G 71 (Tf._rat_pair__text.e F) :=
  fn_ok Go.VI.tyT_ok rfl mix .nil (Λ := (look [] : Loops)) (fn := Go.Proofs.Tryz.f71) (c := Tf._rat_pair__text.c) (LoopsOk.of (bs := []) (by kernel_rfl) .nil) (by kernel_rfl) (by kernel_rfl) (by kernel_rfl) (by kernel_rfl) (res1 (by kernel_rfl)) (by decide) (Tf._rat_pair__text.f_ok F)
end Go.VI
namespace Go.VI
open Go
noncomputable def Tf.rat_read.c : Code := (Go.Proofs.Tryz.f54.body).getD .skip
def Tf.rat_read.f (F : Nat) (a : ByteArray) : Option ((ByteArray × ByteArray) × Bool) :=
 (Option.bind (Tf.strings_Cut.f F (a, (⟨#[47]⟩ : ByteArray))) (fun y7 => (bif (!y7.2.2) then (Option.bind (Tf.whole_Right.f F y7.1) (fun y20 => (bif (!y20) then (some ((ByteArray.empty, ByteArray.empty), Bool.false))
 else (Option.bind (Tf.nat_Right.f F (⟨#[49]⟩ : ByteArray)) (fun y25 => (bif (!y25) then (some ((ByteArray.empty, ByteArray.empty), Bool.false))
 else (bif y7.2.2 then (some ((ByteArray.empty, ByteArray.empty), Bool.false))
 else (Option.bind (Tf.rat_lowest.f F (y7.1, (⟨#[49]⟩ : ByteArray))) (fun y36 => (bif (!y36.2) then (some ((ByteArray.empty, ByteArray.empty), Bool.false))
 else (Option.bind (Tf._rat_pair__text.f F (y36.1.1, y36.1.2)) (fun y48 => (bif (!(seqB y48 a)) then (some ((ByteArray.empty, ByteArray.empty), Bool.false))
 else (some ((y36.1.1, y36.1.2), Bool.true)))))))))))))))
 else (Option.bind (Tf.whole_Right.f F y7.1) (fun y19 => (bif (!y19) then (some ((ByteArray.empty, ByteArray.empty), Bool.false))
 else (Option.bind (Tf.nat_Right.f F y7.2.1) (fun y24 => (bif (!y24) then (some ((ByteArray.empty, ByteArray.empty), Bool.false))
 else (bif y7.2.2 then (bif (seqB y7.2.1 (⟨#[48]⟩ : ByteArray)) then (some ((ByteArray.empty, ByteArray.empty), Bool.false))
 else (bif (seqB y7.2.1 (⟨#[49]⟩ : ByteArray)) then (some ((ByteArray.empty, ByteArray.empty), Bool.false))
 else (Option.bind (Tf.rat_lowest.f F (y7.1, y7.2.1)) (fun y41 => (bif (!y41.2) then (some ((ByteArray.empty, ByteArray.empty), Bool.false))
 else (Option.bind (Tf._rat_pair__text.f F (y41.1.1, y41.1.2)) (fun y53 => (bif (!(seqB y53 a)) then (some ((ByteArray.empty, ByteArray.empty), Bool.false))
 else (some ((y41.1.1, y41.1.2), Bool.true))))))))))
 else (Option.bind (Tf.rat_lowest.f F (y7.1, y7.2.1)) (fun y35 => (bif (!y35.2) then (some ((ByteArray.empty, ByteArray.empty), Bool.false))
 else (Option.bind (Tf._rat_pair__text.f F (y35.1.1, y35.1.2)) (fun y47 => (bif (!(seqB y47 a)) then (some ((ByteArray.empty, ByteArray.empty), Bool.false))
 else (some ((y35.1.1, y35.1.2), Bool.true))))))))))))))))))
theorem Tf.rat_read.f_ok (F : Nat) (a) : exec Go.VI.tyT (look [(67, Tf.strings_Cut.e F), (68, Tf.whole_Right.e F), (69, Tf.nat_Right.e F), (70, Tf.rat_lowest.e F), (71, Tf._rat_pair__text.e F)] : Fns) 63 (look [] : Loops) Tf.rat_read.c (init [.p] (encKs [.str] a)) (finC Go.VI.tyT (look [(67, Tf.strings_Cut.e F), (68, Tf.whole_Right.e F), (69, Tf.nat_Right.e F), (70, Tf.rat_lowest.e F), (71, Tf._rat_pair__text.e F)] : Fns) 63 2 86 (⟨[.p], [.p, .v 99]⟩ : Sig) [2, 3] [.pure, .pure] [.st [.str, .str], .err]) = Tf.rat_read.f F a := by kernel_rfl
def Tf.rat_read.e (F : Nat) : Fn := mkFn (⟨[.p], [.p, .v 99]⟩ : Sig) [.str] [.pure, .pure] [.st [.str, .str], .err] (Tf.rat_read.f F)
theorem Tf.rat_read.ok (F : Nat) : EntryOk Go.Proofs.Tryz.prog Go.VI.tyT.G 54 (Tf.rat_read.e F) :=
  fn_okC Go.VI.tyT_ok rfl mix (.cons (Tf.strings_Cut.ok F) (.cons (Tf.whole_Right.ok F) (.cons (Tf.nat_Right.ok F) (.cons (Tf.rat_lowest.ok F) (.cons (Tf._rat_pair__text.ok F) .nil))))) (Λ := (look [] : Loops)) (fn := Go.Proofs.Tryz.f54) (c := Tf.rat_read.c) (LoopsOk.of (bs := []) (by kernel_rfl) .nil) (by kernel_rfl) (by kernel_rfl) (by kernel_rfl) (by kernel_rfl) (resC1 (by kernel_rfl) (by kernel_rfl)) (by decide) (Tf.rat_read.f_ok F)
end Go.VI
namespace Go.VI
open Go
noncomputable def Tf.rat_Right.c : Code := (Go.Proofs.Tryz.f42.body).getD .skip
def Tf.rat_Right.f (F : Nat) (a : ByteArray) : Option Bool :=
 (Option.bind (Tf.rat_read.f F a) (fun y6 => (some y6.2)))
theorem Tf.rat_Right.f_ok (F : Nat) (a) : exec Go.VI.tyT (look [(54, Tf.rat_read.e F)] : Fns) 12 (look [] : Loops) Tf.rat_Right.c (init [.p] (encKs [.str] a)) (finT (look [(54, Tf.rat_read.e F)] : Fns) (⟨[.p], [.p]⟩ : Sig) [2] [.pure] [.bool]) = Tf.rat_Right.f F a := by kernel_rfl
def Tf.rat_Right.e (F : Nat) : Fn := mkFn (⟨[.p], [.p]⟩ : Sig) [.str] [.pure] [.bool] (Tf.rat_Right.f F)
theorem Tf.rat_Right.ok (F : Nat) : EntryOk Go.Proofs.Tryz.prog Go.VI.tyT.G 42 (Tf.rat_Right.e F) :=
  fn_ok Go.VI.tyT_ok rfl mix (.cons (Tf.rat_read.ok F) .nil) (Λ := (look [] : Loops)) (fn := Go.Proofs.Tryz.f42) (c := Tf.rat_Right.c) (LoopsOk.of (bs := []) (by kernel_rfl) .nil) (by kernel_rfl) (by kernel_rfl) (by kernel_rfl) (by kernel_rfl) (res1 (by kernel_rfl)) (by decide) (Tf.rat_Right.f_ok F)
end Go.VI
namespace Go.VI
open Go
noncomputable def Tf.graph_of_1.c : Code := (Go.Proofs.Tryz.f41.body).getD .skip
def Tf.graph_of_1.f (F : Nat) (a : ByteArray) : Option Bool :=
 (Option.bind (Tf.rat_Right.f F a) (fun y6 => (some (!y6))))
theorem Tf.graph_of_1.f_ok (F : Nat) (a) : exec Go.VI.tyT (look [(42, Tf.rat_Right.e F)] : Fns) 6 (look [] : Loops) Tf.graph_of_1.c (init [.p] (encKs [.str] a)) (finT (look [(42, Tf.rat_Right.e F)] : Fns) (⟨[.p], [.p]⟩ : Sig) [2] [.pure] [.bool]) = Tf.graph_of_1.f F a := by kernel_rfl
def Tf.graph_of_1.e (F : Nat) : Fn := mkFn (⟨[.p], [.p]⟩ : Sig) [.str] [.pure] [.bool] (Tf.graph_of_1.f F)
theorem Tf.graph_of_1.ok (F : Nat) : EntryOk Go.Proofs.Tryz.prog Go.VI.tyT.G 41 (Tf.graph_of_1.e F) :=
  fn_ok Go.VI.tyT_ok rfl mix (.cons (Tf.rat_Right.ok F) .nil) (Λ := (look [] : Loops)) (fn := Go.Proofs.Tryz.f41) (c := Tf.graph_of_1.c) (LoopsOk.of (bs := []) (by kernel_rfl) .nil) (by kernel_rfl) (by kernel_rfl) (by kernel_rfl) (by kernel_rfl) (res1 (by kernel_rfl)) (by decide) (Tf.graph_of_1.f_ok F)
end Go.VI
namespace Go.VI
open Go
noncomputable def Tf.slices_IndexFunc___string_string__graph_of_1.c : Code := (Go.Proofs.Tryz.f53.body).getD .skip
noncomputable def Tf.slices_IndexFunc___string_string__graph_of_1.b2 : Code := codeAt [1, 0, 1, 0, 0] Tf.slices_IndexFunc___string_string__graph_of_1.c
def Tf.slices_IndexFunc___string_string__graph_of_1.s2 (F : Nat) (L : (Int × ((List ByteArray) × (Unit × Int))) → Option (Int ⊕ Unit)) (x : (Int × ((List ByteArray) × (Unit × Int)))) : Option (Int ⊕ Unit) :=
 (bif (decide (x.1 < x.2.2.2)) then (bif (inR x.1 (List.length x.2.1)) then (Option.bind (Tf.graph_of_1.f F (List.getD x.2.1 (Int.toNat x.1) (dflt 4))) (fun y17 => (bif y17 then (some (.inl x.1))
 else (L ((Go.IntKind.wrap IntKind.i64 (x.1 + (1 : Int))), (x.2.1, ((), x.2.2.2)))))))
 else none)
 else (some (.inr ())))
def Tf.slices_IndexFunc___string_string__graph_of_1.l2 (F : Nat) : (Int × ((List ByteArray) × (Unit × Int))) → Option (Int ⊕ Unit) := iter (Tf.slices_IndexFunc___string_string__graph_of_1.s2 F) F
theorem Tf.slices_IndexFunc___string_string__graph_of_1.s2_ok (F : Nat) (L a) : exec Go.VI.tyT (look [(41, Tf.graph_of_1.e F)] : Fns) 19 (look [] : Loops) Tf.slices_IndexFunc___string_string__graph_of_1.b2 (rebuild [.slot 8, .view 0 4, .slot 1, .slot 7] (encKs [.int .i64, .sl 4, .fn0 41, .int .i64] a)) (bodyK [.slot 8, .view 0 4, .slot 1, .slot 7] [.int .i64, .sl 4, .fn0 41, .int .i64] [⟨.ret, [.slot 4], [.int .i64]⟩, ⟨.exit 0, [], []⟩] L) = Tf.slices_IndexFunc___string_string__graph_of_1.s2 F L a := by kernel_rfl
theorem Tf.slices_IndexFunc___string_string__graph_of_1.l2_ok (F : Nat) : LoopOk Go.Proofs.Tryz.prog Go.VI.tyT.G 19 Tf.slices_IndexFunc___string_string__graph_of_1.b2 (fun st κ => hand [.slot 8, .view 0 4, .slot 1, .slot 7] [.int .i64, .sl 4, .fn0 41, .int .i64] [⟨.ret, [.slot 4], [.int .i64]⟩, ⟨.exit 0, [], []⟩] (Tf.slices_IndexFunc___string_string__graph_of_1.l2 F) st κ) :=
  loop_ok Go.VI.tyT_ok rfl mix (.cons (Tf.graph_of_1.ok F) .nil) (Λ := (look [] : Loops)) (LoopsOk.of (bs := []) (by kernel_rfl) .nil) (Tf.slices_IndexFunc___string_string__graph_of_1.s2_ok F) F
def Tf.slices_IndexFunc___string_string__graph_of_1.f (F : Nat) (a : ((List ByteArray) × Unit)) : Option Int :=
 (Option.bind (Tf.slices_IndexFunc___string_string__graph_of_1.l2 F ((0 : Int), (a.1, ((), ((List.length a.1) : Int))))) (fun y7 => (sumE y7 (fun y8 => (some y8)) (fun y8 => (some (-(1 : Int)))))))
theorem Tf.slices_IndexFunc___string_string__graph_of_1.f_ok (F : Nat) (a) : exec Go.VI.tyT (look [(41, Tf.graph_of_1.e F)] : Fns) 19 (look [(2, fun st κ => hand [.slot 8, .view 0 4, .slot 1, .slot 7] [.int .i64, .sl 4, .fn0 41, .int .i64] [⟨.ret, [.slot 4], [.int .i64]⟩, ⟨.exit 0, [], []⟩] (Tf.slices_IndexFunc___string_string__graph_of_1.l2 F) st κ)] : Loops) Tf.slices_IndexFunc___string_string__graph_of_1.c (init [.v 4, .p] (encKs [.sl 4, .fn0 41] a)) (finT (look [(41, Tf.graph_of_1.e F)] : Fns) (⟨[.v 4, .p], [.p]⟩ : Sig) [4] [.pure] [.int .i64]) = Tf.slices_IndexFunc___string_string__graph_of_1.f F a := by kernel_rfl
def Tf.slices_IndexFunc___string_string__graph_of_1.e (F : Nat) : Fn := mkFn (⟨[.v 4, .p], [.p]⟩ : Sig) [.sl 4, .fn0 41] [.pure] [.int .i64] (Tf.slices_IndexFunc___string_string__graph_of_1.f F)
theorem Tf.slices_IndexFunc___string_string__graph_of_1.ok (F : Nat) : EntryOk Go.Proofs.Tryz.prog Go.VI.tyT.G 53 (Tf.slices_IndexFunc___string_string__graph_of_1.e F) :=
  fn_ok Go.VI.tyT_ok rfl mix (.cons (Tf.graph_of_1.ok F) .nil) (Λ := (look [(2, fun st κ => hand [.slot 8, .view 0 4, .slot 1, .slot 7] [.int .i64, .sl 4, .fn0 41, .int .i64] [⟨.ret, [.slot 4], [.int .i64]⟩, ⟨.exit 0, [], []⟩] (Tf.slices_IndexFunc___string_string__graph_of_1.l2 F) st κ)] : Loops)) (fn := Go.Proofs.Tryz.f53) (c := Tf.slices_IndexFunc___string_string__graph_of_1.c) (LoopsOk.of (bs := [Tf.slices_IndexFunc___string_string__graph_of_1.b2]) (by kernel_rfl) (.cons rfl (Tf.slices_IndexFunc___string_string__graph_of_1.l2_ok F) .nil)) (by kernel_rfl) (by kernel_rfl) (by kernel_rfl) (by kernel_rfl) (res1 (by kernel_rfl)) (by decide) (Tf.slices_IndexFunc___string_string__graph_of_1.f_ok F)
end Go.VI
namespace Go.VI
open Go
noncomputable def Tf.slices_ContainsFunc___string_string__graph_of_1.c : Code := (Go.Proofs.Tryz.f40.body).getD .skip
def Tf.slices_ContainsFunc___string_string__graph_of_1.f (F : Nat) (a : ((List ByteArray) × Unit)) : Option Bool :=
 (Option.bind (Tf.slices_IndexFunc___string_string__graph_of_1.f F (a.1, ())) (fun y7 => (some (decide (y7 ≥ (0 : Int))))))
theorem Tf.slices_ContainsFunc___string_string__graph_of_1.f_ok (F : Nat) (a) : exec Go.VI.tyT (look [(53, Tf.slices_IndexFunc___string_string__graph_of_1.e F), (41, Tf.graph_of_1.e F)] : Fns) 9 (look [] : Loops) Tf.slices_ContainsFunc___string_string__graph_of_1.c (init [.v 4, .p] (encKs [.sl 4, .fn0 41] a)) (finT (look [(53, Tf.slices_IndexFunc___string_string__graph_of_1.e F), (41, Tf.graph_of_1.e F)] : Fns) (⟨[.v 4, .p], [.p]⟩ : Sig) [4] [.pure] [.bool]) = Tf.slices_ContainsFunc___string_string__graph_of_1.f F a := by kernel_rfl
def Tf.slices_ContainsFunc___string_string__graph_of_1.e (F : Nat) : Fn := mkFn (⟨[.v 4, .p], [.p]⟩ : Sig) [.sl 4, .fn0 41] [.pure] [.bool] (Tf.slices_ContainsFunc___string_string__graph_of_1.f F)
theorem Tf.slices_ContainsFunc___string_string__graph_of_1.ok (F : Nat) : EntryOk Go.Proofs.Tryz.prog Go.VI.tyT.G 40 (Tf.slices_ContainsFunc___string_string__graph_of_1.e F) :=
  fn_ok Go.VI.tyT_ok rfl mix (.cons (Tf.slices_IndexFunc___string_string__graph_of_1.ok F) (.cons (Tf.graph_of_1.ok F) .nil)) (Λ := (look [] : Loops)) (fn := Go.Proofs.Tryz.f40) (c := Tf.slices_ContainsFunc___string_string__graph_of_1.c) (LoopsOk.of (bs := []) (by kernel_rfl) .nil) (by kernel_rfl) (by kernel_rfl) (by kernel_rfl) (by kernel_rfl) (res1 (by kernel_rfl)) (by decide) (Tf.slices_ContainsFunc___string_string__graph_of_1.f_ok F)
end Go.VI
namespace Go.VI
open Go
noncomputable def Tf.graph_of.c : Code := (Go.Proofs.Tryz.f23.body).getD .skip
def Tf.graph_of.f (F : Nat) (a : (Go.VI.Node × ((List Int) × (List Int)))) : Option ((List Int) × Bool) :=
 (bif (seqB a.1.op (⟨#[99, 111, 110, 115, 116]⟩ : ByteArray)) then (Option.bind (Tf.shape_Size.f F a.1.shape) (fun y18 => (bif (((List.length a.1.data) : Int) == y18) then (Option.bind (Tf.slices_ContainsFunc___string_string__graph_of_1.f F (a.1.data, ())) (fun y24 => (some (a.1.shape, (!y24)))))
 else (some (a.1.shape, Bool.false)))))
 else (bif (seqB a.1.op (⟨#[97, 100, 100]⟩ : ByteArray)) then (Option.bind (Tf.shape_Same.f F (a.2.1, a.2.2)) (fun y16 => (some (a.2.1, y16))))
 else (bif (seqB a.1.op (⟨#[115, 117, 98]⟩ : ByteArray)) then (Option.bind (Tf.shape_Same.f F (a.2.1, a.2.2)) (fun y18 => (some (a.2.1, y18))))
 else (bif (seqB a.1.op (⟨#[109, 117, 108]⟩ : ByteArray)) then (Option.bind (Tf.shape_Same.f F (a.2.1, a.2.2)) (fun y20 => (some (a.2.1, y20))))
 else (bif (seqB a.1.op (⟨#[109, 97, 120]⟩ : ByteArray)) then (Option.bind (Tf.shape_Same.f F (a.2.1, a.2.2)) (fun y22 => (some (a.2.1, y22))))
 else (bif (seqB a.1.op (⟨#[97, 98, 111, 118, 101]⟩ : ByteArray)) then (Option.bind (Tf.shape_Same.f F (a.2.1, a.2.2)) (fun y24 => (some (a.2.1, y24))))
 else (bif (seqB a.1.op (⟨#[109, 97, 116, 109, 117, 108]⟩ : ByteArray)) then (bif (((List.length a.2.1) : Int) != (2 : Int)) then (some (([] : List Int), Bool.false))
 else (bif (((List.length a.2.2) : Int) != (2 : Int)) then (some (([] : List Int), Bool.false))
 else (bif (inR (1 : Int) (List.length a.2.1)) then (bif (inR (0 : Int) (List.length a.2.2)) then (bif ((List.getD a.2.1 1 (0 : Int)) != (List.getD a.2.2 0 (0 : Int))) then (some (([] : List Int), Bool.false))
 else (bif (inR (0 : Int) (List.length a.2.1)) then (bif (inR (1 : Int) (List.length a.2.2)) then (some ((List.set (List.set (List.replicate 2 (0 : Int)) 0 (List.getD a.2.1 0 (0 : Int))) 1 (List.getD a.2.2 1 (0 : Int))), Bool.true))
 else none)
 else none))
 else none)
 else none)))
 else (bif (seqB a.1.op (⟨#[114, 101, 108, 117]⟩ : ByteArray)) then (some (a.2.1, Bool.true))
 else (bif (seqB a.1.op (⟨#[97, 98, 115]⟩ : ByteArray)) then (some (a.2.1, Bool.true))
 else (bif (seqB a.1.op (⟨#[115, 116, 101, 112]⟩ : ByteArray)) then (some (a.2.1, Bool.true))
 else (bif (seqB a.1.op (⟨#[115, 105, 103, 110]⟩ : ByteArray)) then (some (a.2.1, Bool.true))
 else (bif (seqB a.1.op (⟨#[115, 99, 97, 108, 101]⟩ : ByteArray)) then (Option.bind (Tf.rat_Right.f F a.1.k) (fun y36 => (some (a.2.1, y36))))
 else (bif (seqB a.1.op (⟨#[112, 111, 119, 101, 114]⟩ : ByteArray)) then (bif (decide (a.1.n ≥ (0 : Int))) then (some (a.2.1, (decide (a.1.n ≤ (6 : Int)))))
 else (some (a.2.1, Bool.false)))
 else (bif (seqB a.1.op (⟨#[116, 114, 97, 110, 115, 112, 111, 115, 101]⟩ : ByteArray)) then (bif (((List.length a.2.1) : Int) != (2 : Int)) then (some (([] : List Int), Bool.false))
 else (bif (inR (1 : Int) (List.length a.2.1)) then (bif (inR (0 : Int) (List.length a.2.1)) then (some ((List.set (List.set (List.replicate 2 (0 : Int)) 0 (List.getD a.2.1 1 (0 : Int))) 1 (List.getD a.2.1 0 (0 : Int))), Bool.true))
 else none)
 else none))
 else (bif (seqB a.1.op (⟨#[115, 117, 109]⟩ : ByteArray)) then (some (([] : List Int), Bool.true))
 else (bif (seqB a.1.op (⟨#[114, 101, 115, 104, 97, 112, 101]⟩ : ByteArray)) then (Option.bind (Tf.shape_Size.f F a.1.shape) (fun y45 => (Option.bind (Tf.shape_Size.f F a.2.1) (fun y48 => (some (a.1.shape, (y45 == y48)))))))
 else (bif (seqB a.1.op (⟨#[115, 112, 114, 101, 97, 100]⟩ : ByteArray)) then (some (a.1.shape, (((List.length a.2.1) : Int) == (0 : Int))))
 else (some (a.1.shape, Bool.true)))))))))))))))))))
theorem Tf.graph_of.f_ok (F : Nat) (a) : exec Go.VI.tyT (look [(20, Tf.shape_Same.e F), (39, Tf.shape_Size.e F), (40, Tf.slices_ContainsFunc___string_string__graph_of_1.e F), (41, Tf.graph_of_1.e F), (42, Tf.rat_Right.e F)] : Fns) 119 (look [] : Loops) Tf.graph_of.c (init [.v 206, .v 0, .v 0] (encKs [.rc 6, .sl 0, .sl 0] a)) (finT (look [(20, Tf.shape_Same.e F), (39, Tf.shape_Size.e F), (40, Tf.slices_ContainsFunc___string_string__graph_of_1.e F), (41, Tf.graph_of_1.e F), (42, Tf.rat_Right.e F)] : Fns) (⟨[.v 206, .v 0, .v 0], [.v 0, .p]⟩ : Sig) [6, 7] [.pure, .pure] [.sl 0, .bool]) = Tf.graph_of.f F a := by kernel_rfl
def Tf.graph_of.e (F : Nat) : Fn := mkFn (⟨[.v 206, .v 0, .v 0], [.v 0, .p]⟩ : Sig) [.rc 6, .sl 0, .sl 0] [.pure, .pure] [.sl 0, .bool] (Tf.graph_of.f F)
theorem Tf.graph_of.ok (F : Nat) : EntryOk Go.Proofs.Tryz.prog Go.VI.tyT.G 23 (Tf.graph_of.e F) :=
  fn_ok Go.VI.tyT_ok rfl mix (.cons (Tf.shape_Same.ok F) (.cons (Tf.shape_Size.ok F) (.cons (Tf.slices_ContainsFunc___string_string__graph_of_1.ok F) (.cons (Tf.graph_of_1.ok F) (.cons (Tf.rat_Right.ok F) .nil))))) (Λ := (look [] : Loops)) (fn := Go.Proofs.Tryz.f23) (c := Tf.graph_of.c) (LoopsOk.of (bs := []) (by kernel_rfl) .nil) (by kernel_rfl) (by kernel_rfl) (by kernel_rfl) (by kernel_rfl) (res2 (by kernel_rfl)) (by decide) (Tf.graph_of.f_ok F)
end Go.VI
namespace Go.VI
open Go
noncomputable def Tf.slices_Clone_ints.c : Code := (Go.Proofs.Tryz.f25.body).getD .skip
def Tf.slices_Clone_ints.f (F : Nat) (a : List Int) : Option (List Int) := cloneT 0 a
def Tf.slices_Clone_ints.e (F : Nat) : Fn := mkFn (⟨[.v 0], [.o 0]⟩ : Sig) [.sl 0] [.own] [.sl 0] (Tf.slices_Clone_ints.f F)
theorem Tf.slices_Clone_ints.ok (F : Nat) : EntryOk Go.Proofs.Tryz.prog tyT.G 25 (Tf.slices_Clone_ints.e F) :=
  clone_ok tyT_ok rfl mix (fn := Go.Proofs.Tryz.f25) (t := 0) (T := 25) (T' := 25) (e := 3) (r0 := codeAt [0] Tf.slices_Clone_ints.c) (A := codeAt [1, 0, 1, 0] Tf.slices_Clone_ints.c) (B := codeAt [1, 1] Tf.slices_Clone_ints.c) (id := 1)
    (o1 := nthOp (codeAt [1, 0, 0] Tf.slices_Clone_ints.c) 0) (o2 := nthOp (codeAt [1, 0, 0] Tf.slices_Clone_ints.c) 1) (by kernel_rfl) (by kernel_rfl) (by kernel_rfl) (by kernel_rfl) (res1 (by kernel_rfl))
    (by kernel_rfl) (by kernel_rfl) (by kernel_rfl) (by kernel_rfl) (by kernel_rfl) (by kernel_rfl) (by kernel_rfl) (by kernel_rfl) (by kernel_rfl)
    (S0 := fun l => stAt tyT 8 (codeAt [0] Tf.slices_Clone_ints.c) [.v 0] [.sl 0 l]) (fun l => by kernel_rfl) (fun l => by kernel_rfl) (fun l => by kernel_rfl) (by kernel_rfl)
end Go.VI
namespace Go.VI
open Go
noncomputable def Tf.graph_Infer.c : Code := (Go.Proofs.Tryz.f10.body).getD .skip
def Tf.graph_Infer.f (F : Nat) (a : ((List Go.VI.Node) × Go.VI.Node)) : Option ((List Int) × Bool) :=
 (Option.bind (Tf.graph_parts.f F a.2.op) (fun y9 => (bif (!y9.2) then (some (([] : List Int), Bool.false))
 else (Option.bind (Tf.graph_bare.f F ((Node.mk a.2.op a.2.a a.2.b a.2.name a.2.shape a.2.k a.2.n a.2.data), y9.1)) (fun y21 => (bif (!y21) then (some (([] : List Int), Bool.false))
 else (bif (decide (y9.1 > (0 : Int))) then (bif (decide (a.2.a < (0 : Int))) then (some (([] : List Int), Bool.false))
 else (bif (decide (a.2.a ≥ ((List.length a.1) : Int))) then (some (([] : List Int), Bool.false))
 else (bif (decide (y9.1 > (1 : Int))) then (bif (decide (a.2.b < (0 : Int))) then (some (([] : List Int), Bool.false))
 else (bif (decide (a.2.b ≥ ((List.length a.1) : Int))) then (some (([] : List Int), Bool.false))
 else (bif (decide (y9.1 > (0 : Int))) then (bif (inR a.2.a (List.length a.1)) then (bif (decide (y9.1 > (1 : Int))) then (bif (inR a.2.b (List.length a.1)) then (Option.bind (Tf.graph_of.f F ((Node.mk a.2.op a.2.a a.2.b a.2.name a.2.shape a.2.k a.2.n a.2.data), ((List.getD a.1 (Int.toNat a.2.a) (dflt 6)).shape, (List.getD a.1 (Int.toNat a.2.b) (dflt 6)).shape))) (fun y80 => (bif (!y80.2) then (some (([] : List Int), Bool.false))
 else (Option.bind (Tf.shape_Right.f F y80.1) (fun y91 => (bif (!y91) then (some (([] : List Int), Bool.false))
 else (Option.bind (Tf.slices_Clone_ints.f F y80.1) (fun y96 => (some (y96, Bool.true))))))))))
 else none)
 else (Option.bind (Tf.graph_of.f F ((Node.mk a.2.op a.2.a a.2.b a.2.name a.2.shape a.2.k a.2.n a.2.data), ((List.getD a.1 (Int.toNat a.2.a) (dflt 6)).shape, ([] : List Int)))) (fun y73 => (bif (!y73.2) then (some (([] : List Int), Bool.false))
 else (Option.bind (Tf.shape_Right.f F y73.1) (fun y84 => (bif (!y84) then (some (([] : List Int), Bool.false))
 else (Option.bind (Tf.slices_Clone_ints.f F y73.1) (fun y89 => (some (y89, Bool.true)))))))))))
 else none)
 else (bif (decide (y9.1 > (1 : Int))) then (bif (inR a.2.b (List.length a.1)) then (Option.bind (Tf.graph_of.f F ((Node.mk a.2.op a.2.a a.2.b a.2.name a.2.shape a.2.k a.2.n a.2.data), (([] : List Int), (List.getD a.1 (Int.toNat a.2.b) (dflt 6)).shape))) (fun y73 => (bif (!y73.2) then (some (([] : List Int), Bool.false))
 else (Option.bind (Tf.shape_Right.f F y73.1) (fun y84 => (bif (!y84) then (some (([] : List Int), Bool.false))
 else (Option.bind (Tf.slices_Clone_ints.f F y73.1) (fun y89 => (some (y89, Bool.true))))))))))
 else none)
 else (Option.bind (Tf.graph_of.f F ((Node.mk a.2.op a.2.a a.2.b a.2.name a.2.shape a.2.k a.2.n a.2.data), (([] : List Int), ([] : List Int)))) (fun y66 => (bif (!y66.2) then (some (([] : List Int), Bool.false))
 else (Option.bind (Tf.shape_Right.f F y66.1) (fun y77 => (bif (!y77) then (some (([] : List Int), Bool.false))
 else (Option.bind (Tf.slices_Clone_ints.f F y66.1) (fun y82 => (some (y82, Bool.true))))))))))))))
 else (bif (decide (y9.1 > (0 : Int))) then (bif (inR a.2.a (List.length a.1)) then (bif (decide (y9.1 > (1 : Int))) then (bif (inR a.2.b (List.length a.1)) then (Option.bind (Tf.graph_of.f F ((Node.mk a.2.op a.2.a a.2.b a.2.name a.2.shape a.2.k a.2.n a.2.data), ((List.getD a.1 (Int.toNat a.2.a) (dflt 6)).shape, (List.getD a.1 (Int.toNat a.2.b) (dflt 6)).shape))) (fun y70 => (bif (!y70.2) then (some (([] : List Int), Bool.false))
 else (Option.bind (Tf.shape_Right.f F y70.1) (fun y81 => (bif (!y81) then (some (([] : List Int), Bool.false))
 else (Option.bind (Tf.slices_Clone_ints.f F y70.1) (fun y86 => (some (y86, Bool.true))))))))))
 else none)
 else (Option.bind (Tf.graph_of.f F ((Node.mk a.2.op a.2.a a.2.b a.2.name a.2.shape a.2.k a.2.n a.2.data), ((List.getD a.1 (Int.toNat a.2.a) (dflt 6)).shape, ([] : List Int)))) (fun y63 => (bif (!y63.2) then (some (([] : List Int), Bool.false))
 else (Option.bind (Tf.shape_Right.f F y63.1) (fun y74 => (bif (!y74) then (some (([] : List Int), Bool.false))
 else (Option.bind (Tf.slices_Clone_ints.f F y63.1) (fun y79 => (some (y79, Bool.true)))))))))))
 else none)
 else (bif (decide (y9.1 > (1 : Int))) then (bif (inR a.2.b (List.length a.1)) then (Option.bind (Tf.graph_of.f F ((Node.mk a.2.op a.2.a a.2.b a.2.name a.2.shape a.2.k a.2.n a.2.data), (([] : List Int), (List.getD a.1 (Int.toNat a.2.b) (dflt 6)).shape))) (fun y63 => (bif (!y63.2) then (some (([] : List Int), Bool.false))
 else (Option.bind (Tf.shape_Right.f F y63.1) (fun y74 => (bif (!y74) then (some (([] : List Int), Bool.false))
 else (Option.bind (Tf.slices_Clone_ints.f F y63.1) (fun y79 => (some (y79, Bool.true))))))))))
 else none)
 else (Option.bind (Tf.graph_of.f F ((Node.mk a.2.op a.2.a a.2.b a.2.name a.2.shape a.2.k a.2.n a.2.data), (([] : List Int), ([] : List Int)))) (fun y56 => (bif (!y56.2) then (some (([] : List Int), Bool.false))
 else (Option.bind (Tf.shape_Right.f F y56.1) (fun y67 => (bif (!y67) then (some (([] : List Int), Bool.false))
 else (Option.bind (Tf.slices_Clone_ints.f F y56.1) (fun y72 => (some (y72, Bool.true)))))))))))))))
 else (bif (decide (y9.1 > (1 : Int))) then (bif (decide (a.2.b < (0 : Int))) then (some (([] : List Int), Bool.false))
 else (bif (decide (a.2.b ≥ ((List.length a.1) : Int))) then (some (([] : List Int), Bool.false))
 else (bif (decide (y9.1 > (0 : Int))) then (bif (inR a.2.a (List.length a.1)) then (bif (decide (y9.1 > (1 : Int))) then (bif (inR a.2.b (List.length a.1)) then (Option.bind (Tf.graph_of.f F ((Node.mk a.2.op a.2.a a.2.b a.2.name a.2.shape a.2.k a.2.n a.2.data), ((List.getD a.1 (Int.toNat a.2.a) (dflt 6)).shape, (List.getD a.1 (Int.toNat a.2.b) (dflt 6)).shape))) (fun y70 => (bif (!y70.2) then (some (([] : List Int), Bool.false))
 else (Option.bind (Tf.shape_Right.f F y70.1) (fun y81 => (bif (!y81) then (some (([] : List Int), Bool.false))
 else (Option.bind (Tf.slices_Clone_ints.f F y70.1) (fun y86 => (some (y86, Bool.true))))))))))
 else none)
 else (Option.bind (Tf.graph_of.f F ((Node.mk a.2.op a.2.a a.2.b a.2.name a.2.shape a.2.k a.2.n a.2.data), ((List.getD a.1 (Int.toNat a.2.a) (dflt 6)).shape, ([] : List Int)))) (fun y63 => (bif (!y63.2) then (some (([] : List Int), Bool.false))
 else (Option.bind (Tf.shape_Right.f F y63.1) (fun y74 => (bif (!y74) then (some (([] : List Int), Bool.false))
 else (Option.bind (Tf.slices_Clone_ints.f F y63.1) (fun y79 => (some (y79, Bool.true)))))))))))
 else none)
 else (bif (decide (y9.1 > (1 : Int))) then (bif (inR a.2.b (List.length a.1)) then (Option.bind (Tf.graph_of.f F ((Node.mk a.2.op a.2.a a.2.b a.2.name a.2.shape a.2.k a.2.n a.2.data), (([] : List Int), (List.getD a.1 (Int.toNat a.2.b) (dflt 6)).shape))) (fun y63 => (bif (!y63.2) then (some (([] : List Int), Bool.false))
 else (Option.bind (Tf.shape_Right.f F y63.1) (fun y74 => (bif (!y74) then (some (([] : List Int), Bool.false))
 else (Option.bind (Tf.slices_Clone_ints.f F y63.1) (fun y79 => (some (y79, Bool.true))))))))))
 else none)
 else (Option.bind (Tf.graph_of.f F ((Node.mk a.2.op a.2.a a.2.b a.2.name a.2.shape a.2.k a.2.n a.2.data), (([] : List Int), ([] : List Int)))) (fun y56 => (bif (!y56.2) then (some (([] : List Int), Bool.false))
 else (Option.bind (Tf.shape_Right.f F y56.1) (fun y67 => (bif (!y67) then (some (([] : List Int), Bool.false))
 else (Option.bind (Tf.slices_Clone_ints.f F y56.1) (fun y72 => (some (y72, Bool.true))))))))))))))
 else (bif (decide (y9.1 > (0 : Int))) then (bif (inR a.2.a (List.length a.1)) then (bif (decide (y9.1 > (1 : Int))) then (bif (inR a.2.b (List.length a.1)) then (Option.bind (Tf.graph_of.f F ((Node.mk a.2.op a.2.a a.2.b a.2.name a.2.shape a.2.k a.2.n a.2.data), ((List.getD a.1 (Int.toNat a.2.a) (dflt 6)).shape, (List.getD a.1 (Int.toNat a.2.b) (dflt 6)).shape))) (fun y60 => (bif (!y60.2) then (some (([] : List Int), Bool.false))
 else (Option.bind (Tf.shape_Right.f F y60.1) (fun y71 => (bif (!y71) then (some (([] : List Int), Bool.false))
 else (Option.bind (Tf.slices_Clone_ints.f F y60.1) (fun y76 => (some (y76, Bool.true))))))))))
 else none)
 else (Option.bind (Tf.graph_of.f F ((Node.mk a.2.op a.2.a a.2.b a.2.name a.2.shape a.2.k a.2.n a.2.data), ((List.getD a.1 (Int.toNat a.2.a) (dflt 6)).shape, ([] : List Int)))) (fun y53 => (bif (!y53.2) then (some (([] : List Int), Bool.false))
 else (Option.bind (Tf.shape_Right.f F y53.1) (fun y64 => (bif (!y64) then (some (([] : List Int), Bool.false))
 else (Option.bind (Tf.slices_Clone_ints.f F y53.1) (fun y69 => (some (y69, Bool.true)))))))))))
 else none)
 else (bif (decide (y9.1 > (1 : Int))) then (bif (inR a.2.b (List.length a.1)) then (Option.bind (Tf.graph_of.f F ((Node.mk a.2.op a.2.a a.2.b a.2.name a.2.shape a.2.k a.2.n a.2.data), (([] : List Int), (List.getD a.1 (Int.toNat a.2.b) (dflt 6)).shape))) (fun y53 => (bif (!y53.2) then (some (([] : List Int), Bool.false))
 else (Option.bind (Tf.shape_Right.f F y53.1) (fun y64 => (bif (!y64) then (some (([] : List Int), Bool.false))
 else (Option.bind (Tf.slices_Clone_ints.f F y53.1) (fun y69 => (some (y69, Bool.true))))))))))
 else none)
 else (Option.bind (Tf.graph_of.f F ((Node.mk a.2.op a.2.a a.2.b a.2.name a.2.shape a.2.k a.2.n a.2.data), (([] : List Int), ([] : List Int)))) (fun y46 => (bif (!y46.2) then (some (([] : List Int), Bool.false))
 else (Option.bind (Tf.shape_Right.f F y46.1) (fun y57 => (bif (!y57) then (some (([] : List Int), Bool.false))
 else (Option.bind (Tf.slices_Clone_ints.f F y46.1) (fun y62 => (some (y62, Bool.true))))))))))))))))))))
theorem Tf.graph_Infer.f_ok (F : Nat) (a) : exec Go.VI.tyT (look [(21, Tf.graph_parts.e F), (22, Tf.graph_bare.e F), (23, Tf.graph_of.e F), (24, Tf.shape_Right.e F), (25, Tf.slices_Clone_ints.e F)] : Fns) 89 (look [] : Loops) Tf.graph_Infer.c (init [.v 6, .v 206] (encKs [.sl 6, .rc 6] a)) (finT (look [(21, Tf.graph_parts.e F), (22, Tf.graph_bare.e F), (23, Tf.graph_of.e F), (24, Tf.shape_Right.e F), (25, Tf.slices_Clone_ints.e F)] : Fns) (⟨[.v 6, .v 206], [.o 0, .p]⟩ : Sig) [4, 5] [.own, .pure] [.sl 0, .bool]) = Tf.graph_Infer.f F a := by kernel_rfl
def Tf.graph_Infer.e (F : Nat) : Fn := mkFn (⟨[.v 6, .v 206], [.o 0, .p]⟩ : Sig) [.sl 6, .rc 6] [.own, .pure] [.sl 0, .bool] (Tf.graph_Infer.f F)
theorem Tf.graph_Infer.ok (F : Nat) : EntryOk Go.Proofs.Tryz.prog Go.VI.tyT.G 10 (Tf.graph_Infer.e F) :=
  fn_ok Go.VI.tyT_ok rfl mix (.cons (Tf.graph_parts.ok F) (.cons (Tf.graph_bare.ok F) (.cons (Tf.graph_of.ok F) (.cons (Tf.shape_Right.ok F) (.cons (Tf.slices_Clone_ints.ok F) .nil))))) (Λ := (look [] : Loops)) (fn := Go.Proofs.Tryz.f10) (c := Tf.graph_Infer.c) (LoopsOk.of (bs := []) (by kernel_rfl) .nil) (by kernel_rfl) (by kernel_rfl) (by kernel_rfl) (by kernel_rfl) (res2 (by kernel_rfl)) (by decide) (Tf.graph_Infer.f_ok F)
end Go.VI
namespace Go.VI
open Go
noncomputable def Tf.internal_bytealg_Cutover.c : Code := (Go.Proofs.Tryz.f105.body).getD .skip
def Tf.internal_bytealg_Cutover.f (F : Nat) (a : Int) : Option Int :=
 (some (Go.IntKind.wrap IntKind.i64 (Int.tdiv (Go.IntKind.wrap IntKind.i64 (a + (16 : Int))) (8 : Int))))
theorem Tf.internal_bytealg_Cutover.f_ok (F : Nat) (a) : exec Go.VI.tyT (look [] : Fns) 6 (look [] : Loops) Tf.internal_bytealg_Cutover.c (init [.p] (encKs [.int .i64] a)) (finT (look [] : Fns) (⟨[.p], [.p]⟩ : Sig) [2] [.pure] [.int .i64]) = Tf.internal_bytealg_Cutover.f F a := by kernel_rfl
def Tf.internal_bytealg_Cutover.e (F : Nat) : Fn := mkFn (⟨[.p], [.p]⟩ : Sig) [.int .i64] [.pure] [.int .i64] (Tf.internal_bytealg_Cutover.f F)
theorem Tf.internal_bytealg_Cutover.ok (F : Nat) : EntryOk Go.Proofs.Tryz.prog Go.VI.tyT.G 105 (Tf.internal_bytealg_Cutover.e F) :=
  fn_ok Go.VI.tyT_ok rfl mix .nil (Λ := (look [] : Loops)) (fn := Go.Proofs.Tryz.f105) (c := Tf.internal_bytealg_Cutover.c) (LoopsOk.of (bs := []) (by kernel_rfl) .nil) (by kernel_rfl) (by kernel_rfl) (by kernel_rfl) (by kernel_rfl) (res1 (by kernel_rfl)) (by decide) (Tf.internal_bytealg_Cutover.f_ok F)
end Go.VI
namespace Go.VI
open Go
noncomputable def Tf.internal_bytealg_hashStr_string_.c : Code := (Go.Proofs.Tryz.f120.body).getD .skip
noncomputable def Tf.internal_bytealg_hashStr_string_.b3 : Code := codeAt [1, 1, 0, 1, 0, 0] Tf.internal_bytealg_hashStr_string_.c
def Tf.internal_bytealg_hashStr_string_.s3 (F : Nat) (L : (Int × (ByteArray × Int)) → Option (Int × ByteArray)) (x : (Int × (ByteArray × Int))) : Option (Int × ByteArray) :=
 (bif (decide (x.1 < ((ByteArray.size x.2.1) : Int))) then (bif (inR x.1 (ByteArray.size x.2.1)) then (L ((Go.IntKind.wrap IntKind.i64 (x.1 + (1 : Int))), (x.2.1, (Go.IntKind.wrap IntKind.u32 ((Go.IntKind.wrap IntKind.u32 (x.2.2 * (16777619 : Int))) + (Go.IntKind.wrap IntKind.u32 (byteAt x.2.1 x.1)))))))
 else none)
 else (some (x.2.2, x.2.1)))
def Tf.internal_bytealg_hashStr_string_.l3 (F : Nat) : (Int × (ByteArray × Int)) → Option (Int × ByteArray) := iter (Tf.internal_bytealg_hashStr_string_.s3 F) F
theorem Tf.internal_bytealg_hashStr_string_.s3_ok (F : Nat) (L a) : exec Go.VI.tyT (look [] : Fns) 39 (look [] : Loops) Tf.internal_bytealg_hashStr_string_.b3 (rebuild [.slot 5, .slot 0, .slot 4] (encKs [.int .i64, .str, .int .u32] a)) (bodyK [.slot 5, .slot 0, .slot 4] [.int .i64, .str, .int .u32] [⟨.exit 0, [.slot 4, .slot 0], [.int .u32, .str]⟩] L) = Tf.internal_bytealg_hashStr_string_.s3 F L a := by kernel_rfl
theorem Tf.internal_bytealg_hashStr_string_.l3_ok (F : Nat) : LoopOk Go.Proofs.Tryz.prog Go.VI.tyT.G 39 Tf.internal_bytealg_hashStr_string_.b3 (fun st κ => hand [.slot 5, .slot 0, .slot 4] [.int .i64, .str, .int .u32] [⟨.exit 0, [.slot 4, .slot 0], [.int .u32, .str]⟩] (Tf.internal_bytealg_hashStr_string_.l3 F) st κ) :=
  loop_ok Go.VI.tyT_ok rfl mix .nil (Λ := (look [] : Loops)) (LoopsOk.of (bs := []) (by kernel_rfl) .nil) (Tf.internal_bytealg_hashStr_string_.s3_ok F) F
noncomputable def Tf.internal_bytealg_hashStr_string_.b8 : Code := codeAt [1, 1, 1, 1, 0, 1, 0, 0] Tf.internal_bytealg_hashStr_string_.c
def Tf.internal_bytealg_hashStr_string_.s8 (F : Nat) (L : (Int × (Int × (Int × Int))) → Option (Int × Int)) (x : (Int × (Int × (Int × Int)))) : Option (Int × Int) :=
 (bif (decide (x.1 > (0 : Int))) then (bif ((Go.IntKind.wrap IntKind.i64 ((BitVec.toNat (HAnd.hAnd (BitVec.ofInt 64 x.1) (BitVec.ofInt 64 (1 : Int)))) : Int)) != (0 : Int)) then (L ((Int.fdiv x.1 (2 : Int)), ((Go.IntKind.wrap IntKind.u32 (x.2.1 * x.2.1)), ((Go.IntKind.wrap IntKind.u32 (x.2.2.1 * x.2.1)), x.2.2.2))))
 else (L ((Int.fdiv x.1 (2 : Int)), ((Go.IntKind.wrap IntKind.u32 (x.2.1 * x.2.1)), (x.2.2.1, x.2.2.2)))))
 else (some (x.2.2.1, x.2.2.2)))
def Tf.internal_bytealg_hashStr_string_.l8 (F : Nat) : (Int × (Int × (Int × Int))) → Option (Int × Int) := iter (Tf.internal_bytealg_hashStr_string_.s8 F) F
theorem Tf.internal_bytealg_hashStr_string_.s8_ok (F : Nat) (L a) : exec Go.VI.tyT (look [] : Fns) 39 (look [] : Loops) Tf.internal_bytealg_hashStr_string_.b8 (rebuild [.slot 8, .slot 7, .slot 6, .slot 4] (encKs [.int .i64, .int .u32, .int .u32, .int .u32] a)) (bodyK [.slot 8, .slot 7, .slot 6, .slot 4] [.int .i64, .int .u32, .int .u32, .int .u32] [⟨.exit 2, [.slot 6, .slot 4], [.int .u32, .int .u32]⟩] L) = Tf.internal_bytealg_hashStr_string_.s8 F L a := by kernel_rfl
theorem Tf.internal_bytealg_hashStr_string_.l8_ok (F : Nat) : LoopOk Go.Proofs.Tryz.prog Go.VI.tyT.G 39 Tf.internal_bytealg_hashStr_string_.b8 (fun st κ => hand [.slot 8, .slot 7, .slot 6, .slot 4] [.int .i64, .int .u32, .int .u32, .int .u32] [⟨.exit 2, [.slot 6, .slot 4], [.int .u32, .int .u32]⟩] (Tf.internal_bytealg_hashStr_string_.l8 F) st κ) :=
  loop_ok Go.VI.tyT_ok rfl mix .nil (Λ := (look [] : Loops)) (LoopsOk.of (bs := []) (by kernel_rfl) .nil) (Tf.internal_bytealg_hashStr_string_.s8_ok F) F
def Tf.internal_bytealg_hashStr_string_.f (F : Nat) (a : ByteArray) : Option (Int × Int) :=
 (Option.bind (Tf.internal_bytealg_hashStr_string_.l3 F ((0 : Int), (a, (0 : Int)))) (fun y7 => (Option.bind (Tf.internal_bytealg_hashStr_string_.l8 F (((ByteArray.size y7.2) : Int), ((16777619 : Int), ((1 : Int), y7.1)))) (fun y13 => (some (y13.2, y13.1))))))
theorem Tf.internal_bytealg_hashStr_string_.f_ok (F : Nat) (a) : exec Go.VI.tyT (look [] : Fns) 39 (look [(3, fun st κ => hand [.slot 5, .slot 0, .slot 4] [.int .i64, .str, .int .u32] [⟨.exit 0, [.slot 4, .slot 0], [.int .u32, .str]⟩] (Tf.internal_bytealg_hashStr_string_.l3 F) st κ), (8, fun st κ => hand [.slot 8, .slot 7, .slot 6, .slot 4] [.int .i64, .int .u32, .int .u32, .int .u32] [⟨.exit 2, [.slot 6, .slot 4], [.int .u32, .int .u32]⟩] (Tf.internal_bytealg_hashStr_string_.l8 F) st κ)] : Loops) Tf.internal_bytealg_hashStr_string_.c (init [.p] (encKs [.str] a)) (finT (look [] : Fns) (⟨[.p], [.p, .p]⟩ : Sig) [2, 3] [.pure, .pure] [.int .u32, .int .u32]) = Tf.internal_bytealg_hashStr_string_.f F a := by kernel_rfl
def Tf.internal_bytealg_hashStr_string_.e (F : Nat) : Fn := mkFn (⟨[.p], [.p, .p]⟩ : Sig) [.str] [.pure, .pure] [.int .u32, .int .u32] (Tf.internal_bytealg_hashStr_string_.f F)
theorem Tf.internal_bytealg_hashStr_string_.ok (F : Nat) : EntryOk Go.Proofs.Tryz.prog Go.VI.tyT.G 120 (Tf.internal_bytealg_hashStr_string_.e F) :=
  fn_ok Go.VI.tyT_ok rfl mix .nil (Λ := (look [(3, fun st κ => hand [.slot 5, .slot 0, .slot 4] [.int .i64, .str, .int .u32] [⟨.exit 0, [.slot 4, .slot 0], [.int .u32, .str]⟩] (Tf.internal_bytealg_hashStr_string_.l3 F) st κ), (8, fun st κ => hand [.slot 8, .slot 7, .slot 6, .slot 4] [.int .i64, .int .u32, .int .u32, .int .u32] [⟨.exit 2, [.slot 6, .slot 4], [.int .u32, .int .u32]⟩] (Tf.internal_bytealg_hashStr_string_.l8 F) st κ)] : Loops)) (fn := Go.Proofs.Tryz.f120) (c := Tf.internal_bytealg_hashStr_string_.c) (LoopsOk.of (bs := [Tf.internal_bytealg_hashStr_string_.b3, Tf.internal_bytealg_hashStr_string_.b8]) (by kernel_rfl) (.cons rfl (Tf.internal_bytealg_hashStr_string_.l3_ok F) (.cons rfl (Tf.internal_bytealg_hashStr_string_.l8_ok F) .nil))) (by kernel_rfl) (by kernel_rfl) (by kernel_rfl) (by kernel_rfl) (res2 (by kernel_rfl)) (by decide) (Tf.internal_bytealg_hashStr_string_.f_ok F)
end Go.VI
namespace Go.VI
open Go
noncomputable def Tf.internal_bytealg_IndexRabinKarp_string_.c : Code := (Go.Proofs.Tryz.f108.body).getD .skip
noncomputable def Tf.internal_bytealg_IndexRabinKarp_string_.b5 : Code := codeAt [1, 1, 1, 1, 0, 1, 0, 0] Tf.internal_bytealg_IndexRabinKarp_string_.c
def Tf.internal_bytealg_IndexRabinKarp_string_.s5 (F : Nat) (L : (Int × (ByteArray × (Int × (Int × (ByteArray × (Int × Int)))))) → Option (Int × (ByteArray × (ByteArray × (Int × (Int × Int)))))) (x : (Int × (ByteArray × (Int × (Int × (ByteArray × (Int × Int))))))) : Option (Int × (ByteArray × (ByteArray × (Int × (Int × Int))))) :=
 (bif (decide (x.1 < x.2.2.2.1)) then (bif (inR x.1 (ByteArray.size x.2.1)) then (L ((Go.IntKind.wrap IntKind.i64 (x.1 + (1 : Int))), (x.2.1, ((Go.IntKind.wrap IntKind.u32 ((Go.IntKind.wrap IntKind.u32 (x.2.2.1 * (16777619 : Int))) + (Go.IntKind.wrap IntKind.u32 (byteAt x.2.1 x.1)))), (x.2.2.2.1, (x.2.2.2.2.1, (x.2.2.2.2.2.1, x.2.2.2.2.2.2)))))))
 else none)
 else (some (x.2.2.2.1, (x.2.2.2.2.1, (x.2.1, (x.2.2.2.2.2.1, (x.2.2.2.2.2.2, x.2.2.1)))))))
def Tf.internal_bytealg_IndexRabinKarp_string_.l5 (F : Nat) : (Int × (ByteArray × (Int × (Int × (ByteArray × (Int × Int)))))) → Option (Int × (ByteArray × (ByteArray × (Int × (Int × Int))))) := iter (Tf.internal_bytealg_IndexRabinKarp_string_.s5 F) F
theorem Tf.internal_bytealg_IndexRabinKarp_string_.s5_ok (F : Nat) (L a) : exec Go.VI.tyT (look [(120, Tf.internal_bytealg_hashStr_string_.e F)] : Fns) 81 (look [] : Loops) Tf.internal_bytealg_IndexRabinKarp_string_.b5 (rebuild [.slot 9, .slot 0, .slot 8, .slot 7, .slot 1, .slot 5, .slot 6] (encKs [.int .i64, .str, .int .u32, .int .i64, .str, .int .u32, .int .u32] a)) (bodyK [.slot 9, .slot 0, .slot 8, .slot 7, .slot 1, .slot 5, .slot 6] [.int .i64, .str, .int .u32, .int .i64, .str, .int .u32, .int .u32] [⟨.exit 0, [.slot 7, .slot 1, .slot 0, .slot 5, .slot 6, .slot 8], [.int .i64, .str, .str, .int .u32, .int .u32, .int .u32]⟩] L) = Tf.internal_bytealg_IndexRabinKarp_string_.s5 F L a := by kernel_rfl
theorem Tf.internal_bytealg_IndexRabinKarp_string_.l5_ok (F : Nat) : LoopOk Go.Proofs.Tryz.prog Go.VI.tyT.G 81 Tf.internal_bytealg_IndexRabinKarp_string_.b5 (fun st κ => hand [.slot 9, .slot 0, .slot 8, .slot 7, .slot 1, .slot 5, .slot 6] [.int .i64, .str, .int .u32, .int .i64, .str, .int .u32, .int .u32] [⟨.exit 0, [.slot 7, .slot 1, .slot 0, .slot 5, .slot 6, .slot 8], [.int .i64, .str, .str, .int .u32, .int .u32, .int .u32]⟩] (Tf.internal_bytealg_IndexRabinKarp_string_.l5 F) st κ) :=
  loop_ok Go.VI.tyT_ok rfl mix (.cons (Tf.internal_bytealg_hashStr_string_.ok F) .nil) (Λ := (look [] : Loops)) (LoopsOk.of (bs := []) (by kernel_rfl) .nil) (Tf.internal_bytealg_IndexRabinKarp_string_.s5_ok F) F
noncomputable def Tf.internal_bytealg_IndexRabinKarp_string_.b11 : Code := codeAt [1, 1, 1, 1, 1, 1, 0, 1, 0, 0] Tf.internal_bytealg_IndexRabinKarp_string_.c
def Tf.internal_bytealg_IndexRabinKarp_string_.s11 (F : Nat) (L : (Int × (ByteArray × (ByteArray × (Int × (Int × (Int × Int)))))) → Option (Int ⊕ Unit)) (x : (Int × (ByteArray × (ByteArray × (Int × (Int × (Int × Int))))))) : Option (Int ⊕ Unit) :=
 (bif (decide (x.2.2.2.2.1 < ((ByteArray.size x.2.2.1) : Int))) then (bif (inR x.2.2.2.2.1 (ByteArray.size x.2.2.1)) then (bif (inR (Go.IntKind.wrap IntKind.i64 (x.2.2.2.2.1 - x.1)) (ByteArray.size x.2.2.1)) then (bif ((Go.IntKind.wrap IntKind.u32 ((Go.IntKind.wrap IntKind.u32 ((Go.IntKind.wrap IntKind.u32 (x.2.2.2.2.2.2 * (16777619 : Int))) + (Go.IntKind.wrap IntKind.u32 (byteAt x.2.2.1 x.2.2.2.2.1)))) - (Go.IntKind.wrap IntKind.u32 (x.2.2.2.2.2.1 * (Go.IntKind.wrap IntKind.u32 (byteAt x.2.2.1 (Go.IntKind.wrap IntKind.i64 (x.2.2.2.2.1 - x.1)))))))) == x.2.2.2.1) then (bif ((decide ((0 : Int) ≤ (Go.IntKind.wrap IntKind.i64 (x.2.2.2.2.1 + (1 : Int))))) && (decide ((Go.IntKind.wrap IntKind.i64 (x.2.2.2.2.1 + (1 : Int))) ≤ ((ByteArray.size x.2.2.1) : Int)))) then (bif ((decide ((0 : Int) ≤ (Go.IntKind.wrap IntKind.i64 ((Go.IntKind.wrap IntKind.i64 (x.2.2.2.2.1 + (1 : Int))) - x.1)))) && (decide ((Go.IntKind.wrap IntKind.i64 ((Go.IntKind.wrap IntKind.i64 (x.2.2.2.2.1 + (1 : Int))) - x.1)) ≤ ((Int.toNat (Go.IntKind.wrap IntKind.i64 (x.2.2.2.2.1 + (1 : Int)))) : Int)))) then (bif (seqB (ByteArray.extract x.2.2.1 (Int.toNat (Go.IntKind.wrap IntKind.i64 ((Go.IntKind.wrap IntKind.i64 (x.2.2.2.2.1 + (1 : Int))) - x.1))) (Int.toNat (Go.IntKind.wrap IntKind.i64 (x.2.2.2.2.1 + (1 : Int))))) x.2.1) then (some (.inl (Go.IntKind.wrap IntKind.i64 ((Go.IntKind.wrap IntKind.i64 (x.2.2.2.2.1 + (1 : Int))) - x.1))))
 else (L (x.1, (x.2.1, (x.2.2.1, (x.2.2.2.1, ((Go.IntKind.wrap IntKind.i64 (x.2.2.2.2.1 + (1 : Int))), (x.2.2.2.2.2.1, (Go.IntKind.wrap IntKind.u32 ((Go.IntKind.wrap IntKind.u32 ((Go.IntKind.wrap IntKind.u32 (x.2.2.2.2.2.2 * (16777619 : Int))) + (Go.IntKind.wrap IntKind.u32 (byteAt x.2.2.1 x.2.2.2.2.1)))) - (Go.IntKind.wrap IntKind.u32 (x.2.2.2.2.2.1 * (Go.IntKind.wrap IntKind.u32 (byteAt x.2.2.1 (Go.IntKind.wrap IntKind.i64 (x.2.2.2.2.1 - x.1))))))))))))))))
 else none)
 else none)
 else (L (x.1, (x.2.1, (x.2.2.1, (x.2.2.2.1, ((Go.IntKind.wrap IntKind.i64 (x.2.2.2.2.1 + (1 : Int))), (x.2.2.2.2.2.1, (Go.IntKind.wrap IntKind.u32 ((Go.IntKind.wrap IntKind.u32 ((Go.IntKind.wrap IntKind.u32 (x.2.2.2.2.2.2 * (16777619 : Int))) + (Go.IntKind.wrap IntKind.u32 (byteAt x.2.2.1 x.2.2.2.2.1)))) - (Go.IntKind.wrap IntKind.u32 (x.2.2.2.2.2.1 * (Go.IntKind.wrap IntKind.u32 (byteAt x.2.2.1 (Go.IntKind.wrap IntKind.i64 (x.2.2.2.2.1 - x.1))))))))))))))))
 else none)
 else none)
 else (some (.inr ())))
def Tf.internal_bytealg_IndexRabinKarp_string_.l11 (F : Nat) : (Int × (ByteArray × (ByteArray × (Int × (Int × (Int × Int)))))) → Option (Int ⊕ Unit) := iter (Tf.internal_bytealg_IndexRabinKarp_string_.s11 F) F
theorem Tf.internal_bytealg_IndexRabinKarp_string_.s11_ok (F : Nat) (L a) : exec Go.VI.tyT (look [(120, Tf.internal_bytealg_hashStr_string_.e F)] : Fns) 81 (look [] : Loops) Tf.internal_bytealg_IndexRabinKarp_string_.b11 (rebuild [.slot 7, .slot 1, .slot 0, .slot 5, .slot 10, .slot 6, .slot 8] (encKs [.int .i64, .str, .str, .int .u32, .int .i64, .int .u32, .int .u32] a)) (bodyK [.slot 7, .slot 1, .slot 0, .slot 5, .slot 10, .slot 6, .slot 8] [.int .i64, .str, .str, .int .u32, .int .i64, .int .u32, .int .u32] [⟨.ret, [.slot 4], [.int .i64]⟩, ⟨.exit 2, [], []⟩] L) = Tf.internal_bytealg_IndexRabinKarp_string_.s11 F L a := by kernel_rfl
theorem Tf.internal_bytealg_IndexRabinKarp_string_.l11_ok (F : Nat) : LoopOk Go.Proofs.Tryz.prog Go.VI.tyT.G 81 Tf.internal_bytealg_IndexRabinKarp_string_.b11 (fun st κ => hand [.slot 7, .slot 1, .slot 0, .slot 5, .slot 10, .slot 6, .slot 8] [.int .i64, .str, .str, .int .u32, .int .i64, .int .u32, .int .u32] [⟨.ret, [.slot 4], [.int .i64]⟩, ⟨.exit 2, [], []⟩] (Tf.internal_bytealg_IndexRabinKarp_string_.l11 F) st κ) :=
  loop_ok Go.VI.tyT_ok rfl mix (.cons (Tf.internal_bytealg_hashStr_string_.ok F) .nil) (Λ := (look [] : Loops)) (LoopsOk.of (bs := []) (by kernel_rfl) .nil) (Tf.internal_bytealg_IndexRabinKarp_string_.s11_ok F) F
def Tf.internal_bytealg_IndexRabinKarp_string_.f (F : Nat) (a : (ByteArray × ByteArray)) : Option Int :=
 (Option.bind (Tf.internal_bytealg_hashStr_string_.f F a.2) (fun y6 => (Option.bind (Tf.internal_bytealg_IndexRabinKarp_string_.l5 F ((0 : Int), (a.1, ((0 : Int), (((ByteArray.size a.2) : Int), (a.2, (y6.1, y6.2))))))) (fun y17 => (bif (y17.2.2.2.2.2 == y17.2.2.2.1) then (bif ((decide ((0 : Int) ≤ y17.1)) && (decide (y17.1 ≤ ((ByteArray.size y17.2.2.1) : Int)))) then (bif (seqB (ByteArray.extract y17.2.2.1 0 (Int.toNat y17.1)) y17.2.1) then (some (0 : Int))
 else (Option.bind (Tf.internal_bytealg_IndexRabinKarp_string_.l11 F (y17.1, (y17.2.1, (y17.2.2.1, (y17.2.2.2.1, (y17.1, (y17.2.2.2.2.1, y17.2.2.2.2.2))))))) (fun y30 => (sumE y30 (fun y31 => (some y31)) (fun y31 => (some (-(1 : Int))))))))
 else none)
 else (Option.bind (Tf.internal_bytealg_IndexRabinKarp_string_.l11 F (y17.1, (y17.2.1, (y17.2.2.1, (y17.2.2.2.1, (y17.1, (y17.2.2.2.2.1, y17.2.2.2.2.2))))))) (fun y25 => (sumE y25 (fun y26 => (some y26)) (fun y26 => (some (-(1 : Int))))))))))))
theorem Tf.internal_bytealg_IndexRabinKarp_string_.f_ok (F : Nat) (a) : exec Go.VI.tyT (look [(120, Tf.internal_bytealg_hashStr_string_.e F)] : Fns) 81 (look [(5, fun st κ => hand [.slot 9, .slot 0, .slot 8, .slot 7, .slot 1, .slot 5, .slot 6] [.int .i64, .str, .int .u32, .int .i64, .str, .int .u32, .int .u32] [⟨.exit 0, [.slot 7, .slot 1, .slot 0, .slot 5, .slot 6, .slot 8], [.int .i64, .str, .str, .int .u32, .int .u32, .int .u32]⟩] (Tf.internal_bytealg_IndexRabinKarp_string_.l5 F) st κ), (11, fun st κ => hand [.slot 7, .slot 1, .slot 0, .slot 5, .slot 10, .slot 6, .slot 8] [.int .i64, .str, .str, .int .u32, .int .i64, .int .u32, .int .u32] [⟨.ret, [.slot 4], [.int .i64]⟩, ⟨.exit 2, [], []⟩] (Tf.internal_bytealg_IndexRabinKarp_string_.l11 F) st κ)] : Loops) Tf.internal_bytealg_IndexRabinKarp_string_.c (init [.p, .p] (encKs [.str, .str] a)) (finT (look [(120, Tf.internal_bytealg_hashStr_string_.e F)] : Fns) (⟨[.p, .p], [.p]⟩ : Sig) [4] [.pure] [.int .i64]) = Tf.internal_bytealg_IndexRabinKarp_string_.f F a := by kernel_rfl
def Tf.internal_bytealg_IndexRabinKarp_string_.e (F : Nat) : Fn := mkFn (⟨[.p, .p], [.p]⟩ : Sig) [.str, .str] [.pure] [.int .i64] (Tf.internal_bytealg_IndexRabinKarp_string_.f F)
theorem Tf.internal_bytealg_IndexRabinKarp_string_.ok (F : Nat) : EntryOk Go.Proofs.Tryz.prog Go.VI.tyT.G 108 (Tf.internal_bytealg_IndexRabinKarp_string_.e F) :=
  fn_ok Go.VI.tyT_ok rfl mix (.cons (Tf.internal_bytealg_hashStr_string_.ok F) .nil) (Λ := (look [(5, fun st κ => hand [.slot 9, .slot 0, .slot 8, .slot 7, .slot 1, .slot 5, .slot 6] [.int .i64, .str, .int .u32, .int .i64, .str, .int .u32, .int .u32] [⟨.exit 0, [.slot 7, .slot 1, .slot 0, .slot 5, .slot 6, .slot 8], [.int .i64, .str, .str, .int .u32, .int .u32, .int .u32]⟩] (Tf.internal_bytealg_IndexRabinKarp_string_.l5 F) st κ), (11, fun st κ => hand [.slot 7, .slot 1, .slot 0, .slot 5, .slot 10, .slot 6, .slot 8] [.int .i64, .str, .str, .int .u32, .int .i64, .int .u32, .int .u32] [⟨.ret, [.slot 4], [.int .i64]⟩, ⟨.exit 2, [], []⟩] (Tf.internal_bytealg_IndexRabinKarp_string_.l11 F) st κ)] : Loops)) (fn := Go.Proofs.Tryz.f108) (c := Tf.internal_bytealg_IndexRabinKarp_string_.c) (LoopsOk.of (bs := [Tf.internal_bytealg_IndexRabinKarp_string_.b5, Tf.internal_bytealg_IndexRabinKarp_string_.b11]) (by kernel_rfl) (.cons rfl (Tf.internal_bytealg_IndexRabinKarp_string_.l5_ok F) (.cons rfl (Tf.internal_bytealg_IndexRabinKarp_string_.l11_ok F) .nil))) (by kernel_rfl) (by kernel_rfl) (by kernel_rfl) (by kernel_rfl) (res1 (by kernel_rfl)) (by decide) (Tf.internal_bytealg_IndexRabinKarp_string_.f_ok F)
end Go.VI
namespace Go.VI
open Go
noncomputable def Tf.tapewrightref04_Same.c : Code := (Go.Proofs.Tryz.f12.body).getD .skip
noncomputable def Tf.tapewrightref04_Same.b4 : Code := codeAt [1, 1, 0, 1, 0, 0] Tf.tapewrightref04_Same.c
def Tf.tapewrightref04_Same.s4 (F : Nat) (L : (Int × ((List Int) × (List Int))) → Option (Bool ⊕ Unit)) (x : (Int × ((List Int) × (List Int)))) : Option (Bool ⊕ Unit) :=
 (bif (decide (x.1 < ((List.length x.2.2) : Int))) then (bif (inR x.1 (List.length x.2.2)) then (bif (inR x.1 (List.length x.2.1)) then (bif ((List.getD x.2.2 (Int.toNat x.1) (0 : Int)) != (List.getD x.2.1 (Int.toNat x.1) (0 : Int))) then (some (.inl Bool.false))
 else (L ((Go.IntKind.wrap IntKind.i64 (x.1 + (1 : Int))), (x.2.1, x.2.2))))
 else none)
 else none)
 else (some (.inr ())))
def Tf.tapewrightref04_Same.l4 (F : Nat) : (Int × ((List Int) × (List Int))) → Option (Bool ⊕ Unit) := iter (Tf.tapewrightref04_Same.s4 F) F
theorem Tf.tapewrightref04_Same.s4_ok (F : Nat) (L a) : exec Go.VI.tyT (look [] : Fns) 26 (look [] : Loops) Tf.tapewrightref04_Same.b4 (rebuild [.slot 5, .view 1 0, .view 0 0] (encKs [.int .i64, .sl 0, .sl 0] a)) (bodyK [.slot 5, .view 1 0, .view 0 0] [.int .i64, .sl 0, .sl 0] [⟨.ret, [.slot 4], [.bool]⟩, ⟨.exit 0, [], []⟩] L) = Tf.tapewrightref04_Same.s4 F L a := by kernel_rfl
theorem Tf.tapewrightref04_Same.l4_ok (F : Nat) : LoopOk Go.Proofs.Tryz.prog Go.VI.tyT.G 26 Tf.tapewrightref04_Same.b4 (fun st κ => hand [.slot 5, .view 1 0, .view 0 0] [.int .i64, .sl 0, .sl 0] [⟨.ret, [.slot 4], [.bool]⟩, ⟨.exit 0, [], []⟩] (Tf.tapewrightref04_Same.l4 F) st κ) :=
  loop_ok Go.VI.tyT_ok rfl mix .nil (Λ := (look [] : Loops)) (LoopsOk.of (bs := []) (by kernel_rfl) .nil) (Tf.tapewrightref04_Same.s4_ok F) F
def Tf.tapewrightref04_Same.f (F : Nat) (a : ((List Int) × (List Int))) : Option Bool :=
 (bif (((List.length a.1) : Int) != ((List.length a.2) : Int)) then (some Bool.false)
 else (Option.bind (Tf.tapewrightref04_Same.l4 F ((0 : Int), (a.2, a.1))) (fun y10 => (sumE y10 (fun y11 => (some y11)) (fun y11 => (some Bool.true))))))
theorem Tf.tapewrightref04_Same.f_ok (F : Nat) (a) : exec Go.VI.tyT (look [] : Fns) 26 (look [(4, fun st κ => hand [.slot 5, .view 1 0, .view 0 0] [.int .i64, .sl 0, .sl 0] [⟨.ret, [.slot 4], [.bool]⟩, ⟨.exit 0, [], []⟩] (Tf.tapewrightref04_Same.l4 F) st κ)] : Loops) Tf.tapewrightref04_Same.c (init [.v 0, .v 0] (encKs [.sl 0, .sl 0] a)) (finT (look [] : Fns) (⟨[.v 0, .v 0], [.p]⟩ : Sig) [4] [.pure] [.bool]) = Tf.tapewrightref04_Same.f F a := by kernel_rfl
def Tf.tapewrightref04_Same.e (F : Nat) : Fn := mkFn (⟨[.v 0, .v 0], [.p]⟩ : Sig) [.sl 0, .sl 0] [.pure] [.bool] (Tf.tapewrightref04_Same.f F)
theorem Tf.tapewrightref04_Same.ok (F : Nat) : EntryOk Go.Proofs.Tryz.prog Go.VI.tyT.G 12 (Tf.tapewrightref04_Same.e F) :=
  fn_ok Go.VI.tyT_ok rfl mix .nil (Λ := (look [(4, fun st κ => hand [.slot 5, .view 1 0, .view 0 0] [.int .i64, .sl 0, .sl 0] [⟨.ret, [.slot 4], [.bool]⟩, ⟨.exit 0, [], []⟩] (Tf.tapewrightref04_Same.l4 F) st κ)] : Loops)) (fn := Go.Proofs.Tryz.f12) (c := Tf.tapewrightref04_Same.c) (LoopsOk.of (bs := [Tf.tapewrightref04_Same.b4]) (by kernel_rfl) (.cons rfl (Tf.tapewrightref04_Same.l4_ok F) .nil)) (by kernel_rfl) (by kernel_rfl) (by kernel_rfl) (by kernel_rfl) (res1 (by kernel_rfl)) (by decide) (Tf.tapewrightref04_Same.f_ok F)
end Go.VI
namespace Go.VI
open Go
noncomputable def Tf.tapewrightref10_Parts.c : Code := (Go.Proofs.Tryz.f26.body).getD .skip
noncomputable def Tf.tapewrightref10_Parts.b2 : Code := codeAt [1, 0, 1, 0, 0] Tf.tapewrightref10_Parts.c
def Tf.tapewrightref10_Parts.s2 (F : Nat) (L : (Int × (ByteArray × ((List ByteArray) × Int))) → Option (Int ⊕ ByteArray)) (x : (Int × (ByteArray × ((List ByteArray) × Int)))) : Option (Int ⊕ ByteArray) :=
 (bif (decide (x.1 < x.2.2.2)) then (bif (inR x.1 (List.length x.2.2.1)) then (bif (seqB (List.getD x.2.2.1 (Int.toNat x.1) (dflt 4)) x.2.1) then (some (.inl (0 : Int)))
 else (L ((Go.IntKind.wrap IntKind.i64 (x.1 + (1 : Int))), (x.2.1, (x.2.2.1, x.2.2.2)))))
 else none)
 else (some (.inr x.2.1)))
def Tf.tapewrightref10_Parts.l2 (F : Nat) : (Int × (ByteArray × ((List ByteArray) × Int))) → Option (Int ⊕ ByteArray) := iter (Tf.tapewrightref10_Parts.s2 F) F
theorem Tf.tapewrightref10_Parts.s2_ok (F : Nat) (L a) : exec Go.VI.tyT (look [] : Fns) 39 (look [] : Loops) Tf.tapewrightref10_Parts.b2 (rebuild [.slot 11, .slot 0, .own 9 4, .slot 10] (encKs [.int .i64, .str, .sl 4, .int .i64] a)) (bodyK [.slot 11, .slot 0, .own 9 4, .slot 10] [.int .i64, .str, .sl 4, .int .i64] [⟨.ret, [.slot 2], [.int .i64]⟩, ⟨.exit 0, [.slot 0], [.str]⟩] L) = Tf.tapewrightref10_Parts.s2 F L a := by kernel_rfl
theorem Tf.tapewrightref10_Parts.l2_ok (F : Nat) : LoopOk Go.Proofs.Tryz.prog Go.VI.tyT.G 39 Tf.tapewrightref10_Parts.b2 (fun st κ => hand [.slot 11, .slot 0, .own 9 4, .slot 10] [.int .i64, .str, .sl 4, .int .i64] [⟨.ret, [.slot 2], [.int .i64]⟩, ⟨.exit 0, [.slot 0], [.str]⟩] (Tf.tapewrightref10_Parts.l2 F) st κ) :=
  loop_ok Go.VI.tyT_ok rfl mix .nil (Λ := (look [] : Loops)) (LoopsOk.of (bs := []) (by kernel_rfl) .nil) (Tf.tapewrightref10_Parts.s2_ok F) F
noncomputable def Tf.tapewrightref10_Parts.b8 : Code := codeAt [1, 1, 0, 1, 0, 0] Tf.tapewrightref10_Parts.c
def Tf.tapewrightref10_Parts.s8 (F : Nat) (L : (Int × (ByteArray × ((List ByteArray) × Int))) → Option (Int ⊕ ByteArray)) (x : (Int × (ByteArray × ((List ByteArray) × Int)))) : Option (Int ⊕ ByteArray) :=
 (bif (decide (x.1 < x.2.2.2)) then (bif (inR x.1 (List.length x.2.2.1)) then (bif (seqB (List.getD x.2.2.1 (Int.toNat x.1) (dflt 4)) x.2.1) then (some (.inl (1 : Int)))
 else (L ((Go.IntKind.wrap IntKind.i64 (x.1 + (1 : Int))), (x.2.1, (x.2.2.1, x.2.2.2)))))
 else none)
 else (some (.inr x.2.1)))
def Tf.tapewrightref10_Parts.l8 (F : Nat) : (Int × (ByteArray × ((List ByteArray) × Int))) → Option (Int ⊕ ByteArray) := iter (Tf.tapewrightref10_Parts.s8 F) F
theorem Tf.tapewrightref10_Parts.s8_ok (F : Nat) (L a) : exec Go.VI.tyT (look [] : Fns) 39 (look [] : Loops) Tf.tapewrightref10_Parts.b8 (rebuild [.slot 21, .slot 0, .own 19 4, .slot 20] (encKs [.int .i64, .str, .sl 4, .int .i64] a)) (bodyK [.slot 21, .slot 0, .own 19 4, .slot 20] [.int .i64, .str, .sl 4, .int .i64] [⟨.ret, [.slot 2], [.int .i64]⟩, ⟨.exit 2, [.slot 0], [.str]⟩] L) = Tf.tapewrightref10_Parts.s8 F L a := by kernel_rfl
theorem Tf.tapewrightref10_Parts.l8_ok (F : Nat) : LoopOk Go.Proofs.Tryz.prog Go.VI.tyT.G 39 Tf.tapewrightref10_Parts.b8 (fun st κ => hand [.slot 21, .slot 0, .own 19 4, .slot 20] [.int .i64, .str, .sl 4, .int .i64] [⟨.ret, [.slot 2], [.int .i64]⟩, ⟨.exit 2, [.slot 0], [.str]⟩] (Tf.tapewrightref10_Parts.l8 F) st κ) :=
  loop_ok Go.VI.tyT_ok rfl mix .nil (Λ := (look [] : Loops)) (LoopsOk.of (bs := []) (by kernel_rfl) .nil) (Tf.tapewrightref10_Parts.s8_ok F) F
noncomputable def Tf.tapewrightref10_Parts.b14 : Code := codeAt [1, 1, 1, 0, 1, 0, 0] Tf.tapewrightref10_Parts.c
def Tf.tapewrightref10_Parts.s14 (F : Nat) (L : (Int × (ByteArray × ((List ByteArray) × Int))) → Option (Int ⊕ Unit)) (x : (Int × (ByteArray × ((List ByteArray) × Int)))) : Option (Int ⊕ Unit) :=
 (bif (decide (x.1 < x.2.2.2)) then (bif (inR x.1 (List.length x.2.2.1)) then (bif (seqB (List.getD x.2.2.1 (Int.toNat x.1) (dflt 4)) x.2.1) then (some (.inl (2 : Int)))
 else (L ((Go.IntKind.wrap IntKind.i64 (x.1 + (1 : Int))), (x.2.1, (x.2.2.1, x.2.2.2)))))
 else none)
 else (some (.inr ())))
def Tf.tapewrightref10_Parts.l14 (F : Nat) : (Int × (ByteArray × ((List ByteArray) × Int))) → Option (Int ⊕ Unit) := iter (Tf.tapewrightref10_Parts.s14 F) F
theorem Tf.tapewrightref10_Parts.s14_ok (F : Nat) (L a) : exec Go.VI.tyT (look [] : Fns) 39 (look [] : Loops) Tf.tapewrightref10_Parts.b14 (rebuild [.slot 31, .slot 0, .own 29 4, .slot 30] (encKs [.int .i64, .str, .sl 4, .int .i64] a)) (bodyK [.slot 31, .slot 0, .own 29 4, .slot 30] [.int .i64, .str, .sl 4, .int .i64] [⟨.ret, [.slot 2], [.int .i64]⟩, ⟨.exit 4, [], []⟩] L) = Tf.tapewrightref10_Parts.s14 F L a := by kernel_rfl
theorem Tf.tapewrightref10_Parts.l14_ok (F : Nat) : LoopOk Go.Proofs.Tryz.prog Go.VI.tyT.G 39 Tf.tapewrightref10_Parts.b14 (fun st κ => hand [.slot 31, .slot 0, .own 29 4, .slot 30] [.int .i64, .str, .sl 4, .int .i64] [⟨.ret, [.slot 2], [.int .i64]⟩, ⟨.exit 4, [], []⟩] (Tf.tapewrightref10_Parts.l14 F) st κ) :=
  loop_ok Go.VI.tyT_ok rfl mix .nil (Λ := (look [] : Loops)) (LoopsOk.of (bs := []) (by kernel_rfl) .nil) (Tf.tapewrightref10_Parts.s14_ok F) F
def Tf.tapewrightref10_Parts.f (F : Nat) (a : ByteArray) : Option Int :=
 (Option.bind (Tf.tapewrightref10_Parts.l2 F ((0 : Int), (a, ((List.set (List.set (List.set (List.replicate 3 ByteArray.empty) 0 (⟨#[112, 97, 114, 97, 109]⟩ : ByteArray)) 1 (⟨#[105, 110, 112, 117, 116]⟩ : ByteArray)) 2 (⟨#[99, 111, 110, 115, 116]⟩ : ByteArray)), (3 : Int))))) (fun y7 => (sumE y7 (fun y8 => (some y8)) (fun y8 => (Option.bind (Tf.tapewrightref10_Parts.l8 F ((0 : Int), (y8, ((List.set (List.set (List.set (List.set (List.set (List.set (List.set (List.set (List.set (List.set (List.replicate 10 ByteArray.empty) 0 (⟨#[114, 101, 108, 117]⟩ : ByteArray)) 1 (⟨#[97, 98, 115]⟩ : ByteArray)) 2 (⟨#[115, 116, 101, 112]⟩ : ByteArray)) 3 (⟨#[115, 105, 103, 110]⟩ : ByteArray)) 4 (⟨#[115, 99, 97, 108, 101]⟩ : ByteArray)) 5 (⟨#[112, 111, 119, 101, 114]⟩ : ByteArray)) 6 (⟨#[116, 114, 97, 110, 115, 112, 111, 115, 101]⟩ : ByteArray)) 7 (⟨#[115, 117, 109]⟩ : ByteArray)) 8 (⟨#[114, 101, 115, 104, 97, 112, 101]⟩ : ByteArray)) 9 (⟨#[115, 112, 114, 101, 97, 100]⟩ : ByteArray)), (10 : Int))))) (fun y12 => (sumE y12 (fun y13 => (some y13)) (fun y13 => (Option.bind (Tf.tapewrightref10_Parts.l14 F ((0 : Int), (y13, ((List.set (List.set (List.set (List.set (List.set (List.set (List.replicate 6 ByteArray.empty) 0 (⟨#[97, 100, 100]⟩ : ByteArray)) 1 (⟨#[115, 117, 98]⟩ : ByteArray)) 2 (⟨#[109, 117, 108]⟩ : ByteArray)) 3 (⟨#[109, 97, 120]⟩ : ByteArray)) 4 (⟨#[97, 98, 111, 118, 101]⟩ : ByteArray)) 5 (⟨#[109, 97, 116, 109, 117, 108]⟩ : ByteArray)), (6 : Int))))) (fun y17 => (sumE y17 (fun y18 => (some y18)) (fun y18 => (some (-(1 : Int)))))))))))))))
theorem Tf.tapewrightref10_Parts.f_ok (F : Nat) (a) : exec Go.VI.tyT (look [] : Fns) 39 (look [(2, fun st κ => hand [.slot 11, .slot 0, .own 9 4, .slot 10] [.int .i64, .str, .sl 4, .int .i64] [⟨.ret, [.slot 2], [.int .i64]⟩, ⟨.exit 0, [.slot 0], [.str]⟩] (Tf.tapewrightref10_Parts.l2 F) st κ), (8, fun st κ => hand [.slot 21, .slot 0, .own 19 4, .slot 20] [.int .i64, .str, .sl 4, .int .i64] [⟨.ret, [.slot 2], [.int .i64]⟩, ⟨.exit 2, [.slot 0], [.str]⟩] (Tf.tapewrightref10_Parts.l8 F) st κ), (14, fun st κ => hand [.slot 31, .slot 0, .own 29 4, .slot 30] [.int .i64, .str, .sl 4, .int .i64] [⟨.ret, [.slot 2], [.int .i64]⟩, ⟨.exit 4, [], []⟩] (Tf.tapewrightref10_Parts.l14 F) st κ)] : Loops) Tf.tapewrightref10_Parts.c (init [.p] (encKs [.str] a)) (finT (look [] : Fns) (⟨[.p], [.p]⟩ : Sig) [2] [.pure] [.int .i64]) = Tf.tapewrightref10_Parts.f F a := by kernel_rfl
def Tf.tapewrightref10_Parts.e (F : Nat) : Fn := mkFn (⟨[.p], [.p]⟩ : Sig) [.str] [.pure] [.int .i64] (Tf.tapewrightref10_Parts.f F)
theorem Tf.tapewrightref10_Parts.ok (F : Nat) : EntryOk Go.Proofs.Tryz.prog Go.VI.tyT.G 26 (Tf.tapewrightref10_Parts.e F) :=
  fn_ok Go.VI.tyT_ok rfl mix .nil (Λ := (look [(2, fun st κ => hand [.slot 11, .slot 0, .own 9 4, .slot 10] [.int .i64, .str, .sl 4, .int .i64] [⟨.ret, [.slot 2], [.int .i64]⟩, ⟨.exit 0, [.slot 0], [.str]⟩] (Tf.tapewrightref10_Parts.l2 F) st κ), (8, fun st κ => hand [.slot 21, .slot 0, .own 19 4, .slot 20] [.int .i64, .str, .sl 4, .int .i64] [⟨.ret, [.slot 2], [.int .i64]⟩, ⟨.exit 2, [.slot 0], [.str]⟩] (Tf.tapewrightref10_Parts.l8 F) st κ), (14, fun st κ => hand [.slot 31, .slot 0, .own 29 4, .slot 30] [.int .i64, .str, .sl 4, .int .i64] [⟨.ret, [.slot 2], [.int .i64]⟩, ⟨.exit 4, [], []⟩] (Tf.tapewrightref10_Parts.l14 F) st κ)] : Loops)) (fn := Go.Proofs.Tryz.f26) (c := Tf.tapewrightref10_Parts.c) (LoopsOk.of (bs := [Tf.tapewrightref10_Parts.b2, Tf.tapewrightref10_Parts.b8, Tf.tapewrightref10_Parts.b14]) (by kernel_rfl) (.cons rfl (Tf.tapewrightref10_Parts.l2_ok F) (.cons rfl (Tf.tapewrightref10_Parts.l8_ok F) (.cons rfl (Tf.tapewrightref10_Parts.l14_ok F) .nil)))) (by kernel_rfl) (by kernel_rfl) (by kernel_rfl) (by kernel_rfl) (res1 (by kernel_rfl)) (by decide) (Tf.tapewrightref10_Parts.f_ok F)
end Go.VI
namespace Go.VI
open Go
noncomputable def Tf.tapewrightref08_Name.c : Code := (Go.Proofs.Tryz.f27.body).getD .skip
noncomputable def Tf.tapewrightref08_Name.b2 : Code := codeAt [1, 0, 1, 0, 0] Tf.tapewrightref08_Name.c
def Tf.tapewrightref08_Name.s2 (F : Nat) (L : (Int × ByteArray) → Option (Bool ⊕ ByteArray)) (x : (Int × ByteArray)) : Option (Bool ⊕ ByteArray) :=
 (bif (decide (x.1 < ((ByteArray.size x.2) : Int))) then (bif (inR x.1 (ByteArray.size x.2)) then (bif (decide ((byteAt x.2 x.1) ≥ (97 : Int))) then (bif (!(decide ((byteAt x.2 x.1) ≤ (122 : Int)))) then (bif (x.1 == (0 : Int)) then (some (.inl Bool.false))
 else (bif (decide ((byteAt x.2 x.1) < (48 : Int))) then (some (.inl Bool.false))
 else (bif (decide ((byteAt x.2 x.1) > (57 : Int))) then (some (.inl Bool.false))
 else (L ((Go.IntKind.wrap IntKind.i64 (x.1 + (1 : Int))), x.2)))))
 else (L ((Go.IntKind.wrap IntKind.i64 (x.1 + (1 : Int))), x.2)))
 else (bif (x.1 == (0 : Int)) then (some (.inl Bool.false))
 else (bif (decide ((byteAt x.2 x.1) < (48 : Int))) then (some (.inl Bool.false))
 else (bif (decide ((byteAt x.2 x.1) > (57 : Int))) then (some (.inl Bool.false))
 else (L ((Go.IntKind.wrap IntKind.i64 (x.1 + (1 : Int))), x.2))))))
 else none)
 else (some (.inr x.2)))
def Tf.tapewrightref08_Name.l2 (F : Nat) : (Int × ByteArray) → Option (Bool ⊕ ByteArray) := iter (Tf.tapewrightref08_Name.s2 F) F
theorem Tf.tapewrightref08_Name.s2_ok (F : Nat) (L a) : exec Go.VI.tyT (look [] : Fns) 43 (look [] : Loops) Tf.tapewrightref08_Name.b2 (rebuild [.slot 3, .slot 0] (encKs [.int .i64, .str] a)) (bodyK [.slot 3, .slot 0] [.int .i64, .str] [⟨.ret, [.slot 2], [.bool]⟩, ⟨.exit 0, [.slot 0], [.str]⟩] L) = Tf.tapewrightref08_Name.s2 F L a := by kernel_rfl
theorem Tf.tapewrightref08_Name.l2_ok (F : Nat) : LoopOk Go.Proofs.Tryz.prog Go.VI.tyT.G 43 Tf.tapewrightref08_Name.b2 (fun st κ => hand [.slot 3, .slot 0] [.int .i64, .str] [⟨.ret, [.slot 2], [.bool]⟩, ⟨.exit 0, [.slot 0], [.str]⟩] (Tf.tapewrightref08_Name.l2 F) st κ) :=
  loop_ok Go.VI.tyT_ok rfl mix .nil (Λ := (look [] : Loops)) (LoopsOk.of (bs := []) (by kernel_rfl) .nil) (Tf.tapewrightref08_Name.s2_ok F) F
def Tf.tapewrightref08_Name.f (F : Nat) (a : ByteArray) : Option Bool :=
 (Option.bind (Tf.tapewrightref08_Name.l2 F ((0 : Int), a)) (fun y5 => (sumE y5 (fun y6 => (some y6)) (fun y6 => (bif (decide (((ByteArray.size y6) : Int) > (0 : Int))) then (some (decide (((ByteArray.size y6) : Int) < (9 : Int))))
 else (some Bool.false))))))
theorem Tf.tapewrightref08_Name.f_ok (F : Nat) (a) : exec Go.VI.tyT (look [] : Fns) 43 (look [(2, fun st κ => hand [.slot 3, .slot 0] [.int .i64, .str] [⟨.ret, [.slot 2], [.bool]⟩, ⟨.exit 0, [.slot 0], [.str]⟩] (Tf.tapewrightref08_Name.l2 F) st κ)] : Loops) Tf.tapewrightref08_Name.c (init [.p] (encKs [.str] a)) (finT (look [] : Fns) (⟨[.p], [.p]⟩ : Sig) [2] [.pure] [.bool]) = Tf.tapewrightref08_Name.f F a := by kernel_rfl
def Tf.tapewrightref08_Name.e (F : Nat) : Fn := mkFn (⟨[.p], [.p]⟩ : Sig) [.str] [.pure] [.bool] (Tf.tapewrightref08_Name.f F)
theorem Tf.tapewrightref08_Name.ok (F : Nat) : EntryOk Go.Proofs.Tryz.prog Go.VI.tyT.G 27 (Tf.tapewrightref08_Name.e F) :=
  fn_ok Go.VI.tyT_ok rfl mix .nil (Λ := (look [(2, fun st κ => hand [.slot 3, .slot 0] [.int .i64, .str] [⟨.ret, [.slot 2], [.bool]⟩, ⟨.exit 0, [.slot 0], [.str]⟩] (Tf.tapewrightref08_Name.l2 F) st κ)] : Loops)) (fn := Go.Proofs.Tryz.f27) (c := Tf.tapewrightref08_Name.c) (LoopsOk.of (bs := [Tf.tapewrightref08_Name.b2]) (by kernel_rfl) (.cons rfl (Tf.tapewrightref08_Name.l2_ok F) .nil)) (by kernel_rfl) (by kernel_rfl) (by kernel_rfl) (by kernel_rfl) (res1 (by kernel_rfl)) (by decide) (Tf.tapewrightref08_Name.f_ok F)
end Go.VI
namespace Go.VI
open Go
noncomputable def Tf.tapewrightref04_Right.c : Code := (Go.Proofs.Tryz.f28.body).getD .skip
noncomputable def Tf.tapewrightref04_Right.b5 : Code := codeAt [1, 1, 1, 0, 1, 0, 0] Tf.tapewrightref04_Right.c
def Tf.tapewrightref04_Right.s5 (F : Nat) (L : (Int × ((List Int) × Int)) → Option (Bool ⊕ Unit)) (x : (Int × ((List Int) × Int))) : Option (Bool ⊕ Unit) :=
 (bif (decide (x.1 < ((List.length x.2.1) : Int))) then (bif (inR x.1 (List.length x.2.1)) then (bif (decide ((List.getD x.2.1 (Int.toNat x.1) (0 : Int)) < (1 : Int))) then (some (.inl Bool.false))
 else (bif (inR x.1 (List.length x.2.1)) then (bif (decide ((List.getD x.2.1 (Int.toNat x.1) (0 : Int)) > (64 : Int))) then (some (.inl Bool.false))
 else (bif (inR x.1 (List.length x.2.1)) then (bif (decide ((Go.IntKind.wrap IntKind.i64 (x.2.2 * (List.getD x.2.1 (Int.toNat x.1) (0 : Int)))) > (64 : Int))) then (some (.inl Bool.false))
 else (bif (inR x.1 (List.length x.2.1)) then (L ((Go.IntKind.wrap IntKind.i64 (x.1 + (1 : Int))), (x.2.1, (Go.IntKind.wrap IntKind.i64 (x.2.2 * (List.getD x.2.1 (Int.toNat x.1) (0 : Int)))))))
 else none))
 else none))
 else none))
 else none)
 else (some (.inr ())))
def Tf.tapewrightref04_Right.l5 (F : Nat) : (Int × ((List Int) × Int)) → Option (Bool ⊕ Unit) := iter (Tf.tapewrightref04_Right.s5 F) F
theorem Tf.tapewrightref04_Right.s5_ok (F : Nat) (L a) : exec Go.VI.tyT (look [] : Fns) 41 (look [] : Loops) Tf.tapewrightref04_Right.b5 (rebuild [.slot 4, .view 0 0, .slot 3] (encKs [.int .i64, .sl 0, .int .i64] a)) (bodyK [.slot 4, .view 0 0, .slot 3] [.int .i64, .sl 0, .int .i64] [⟨.ret, [.slot 2], [.bool]⟩, ⟨.exit 0, [], []⟩] L) = Tf.tapewrightref04_Right.s5 F L a := by kernel_rfl
theorem Tf.tapewrightref04_Right.l5_ok (F : Nat) : LoopOk Go.Proofs.Tryz.prog Go.VI.tyT.G 41 Tf.tapewrightref04_Right.b5 (fun st κ => hand [.slot 4, .view 0 0, .slot 3] [.int .i64, .sl 0, .int .i64] [⟨.ret, [.slot 2], [.bool]⟩, ⟨.exit 0, [], []⟩] (Tf.tapewrightref04_Right.l5 F) st κ) :=
  loop_ok Go.VI.tyT_ok rfl mix .nil (Λ := (look [] : Loops)) (LoopsOk.of (bs := []) (by kernel_rfl) .nil) (Tf.tapewrightref04_Right.s5_ok F) F
def Tf.tapewrightref04_Right.f (F : Nat) (a : (List Int)) : Option Bool :=
 (bif (decide (((List.length a) : Int) > (4 : Int))) then (some Bool.false)
 else (Option.bind (Tf.tapewrightref04_Right.l5 F ((0 : Int), (a, (1 : Int)))) (fun y9 => (sumE y9 (fun y10 => (some y10)) (fun y10 => (some Bool.true))))))
theorem Tf.tapewrightref04_Right.f_ok (F : Nat) (a) : exec Go.VI.tyT (look [] : Fns) 41 (look [(5, fun st κ => hand [.slot 4, .view 0 0, .slot 3] [.int .i64, .sl 0, .int .i64] [⟨.ret, [.slot 2], [.bool]⟩, ⟨.exit 0, [], []⟩] (Tf.tapewrightref04_Right.l5 F) st κ)] : Loops) Tf.tapewrightref04_Right.c (init [.v 0] (encKs [.sl 0] a)) (finT (look [] : Fns) (⟨[.v 0], [.p]⟩ : Sig) [2] [.pure] [.bool]) = Tf.tapewrightref04_Right.f F a := by kernel_rfl
def Tf.tapewrightref04_Right.e (F : Nat) : Fn := mkFn (⟨[.v 0], [.p]⟩ : Sig) [.sl 0] [.pure] [.bool] (Tf.tapewrightref04_Right.f F)
theorem Tf.tapewrightref04_Right.ok (F : Nat) : EntryOk Go.Proofs.Tryz.prog Go.VI.tyT.G 28 (Tf.tapewrightref04_Right.e F) :=
  fn_ok Go.VI.tyT_ok rfl mix .nil (Λ := (look [(5, fun st κ => hand [.slot 4, .view 0 0, .slot 3] [.int .i64, .sl 0, .int .i64] [⟨.ret, [.slot 2], [.bool]⟩, ⟨.exit 0, [], []⟩] (Tf.tapewrightref04_Right.l5 F) st κ)] : Loops)) (fn := Go.Proofs.Tryz.f28) (c := Tf.tapewrightref04_Right.c) (LoopsOk.of (bs := [Tf.tapewrightref04_Right.b5]) (by kernel_rfl) (.cons rfl (Tf.tapewrightref04_Right.l5_ok F) .nil)) (by kernel_rfl) (by kernel_rfl) (by kernel_rfl) (by kernel_rfl) (res1 (by kernel_rfl)) (by decide) (Tf.tapewrightref04_Right.f_ok F)
end Go.VI
namespace Go.VI
open Go
noncomputable def Tf.tapewrightref04_Size.c : Code := (Go.Proofs.Tryz.f29.body).getD .skip
noncomputable def Tf.tapewrightref04_Size.b3 : Code := codeAt [1, 1, 0, 1, 0, 0] Tf.tapewrightref04_Size.c
def Tf.tapewrightref04_Size.s3 (F : Nat) (L : (Int × ((List Int) × Int)) → Option Int) (x : (Int × ((List Int) × Int))) : Option Int :=
 (bif (decide (x.1 < ((List.length x.2.1) : Int))) then (bif (inR x.1 (List.length x.2.1)) then (L ((Go.IntKind.wrap IntKind.i64 (x.1 + (1 : Int))), (x.2.1, (Go.IntKind.wrap IntKind.i64 (x.2.2 * (List.getD x.2.1 (Int.toNat x.1) (0 : Int)))))))
 else none)
 else (some x.2.2))
def Tf.tapewrightref04_Size.l3 (F : Nat) : (Int × ((List Int) × Int)) → Option Int := iter (Tf.tapewrightref04_Size.s3 F) F
theorem Tf.tapewrightref04_Size.s3_ok (F : Nat) (L a) : exec Go.VI.tyT (look [] : Fns) 18 (look [] : Loops) Tf.tapewrightref04_Size.b3 (rebuild [.slot 4, .view 0 0, .slot 3] (encKs [.int .i64, .sl 0, .int .i64] a)) (bodyK [.slot 4, .view 0 0, .slot 3] [.int .i64, .sl 0, .int .i64] [⟨.exit 0, [.slot 3], [.int .i64]⟩] L) = Tf.tapewrightref04_Size.s3 F L a := by kernel_rfl
theorem Tf.tapewrightref04_Size.l3_ok (F : Nat) : LoopOk Go.Proofs.Tryz.prog Go.VI.tyT.G 18 Tf.tapewrightref04_Size.b3 (fun st κ => hand [.slot 4, .view 0 0, .slot 3] [.int .i64, .sl 0, .int .i64] [⟨.exit 0, [.slot 3], [.int .i64]⟩] (Tf.tapewrightref04_Size.l3 F) st κ) :=
  loop_ok Go.VI.tyT_ok rfl mix .nil (Λ := (look [] : Loops)) (LoopsOk.of (bs := []) (by kernel_rfl) .nil) (Tf.tapewrightref04_Size.s3_ok F) F
def Tf.tapewrightref04_Size.f (F : Nat) (a : (List Int)) : Option Int :=
 (Option.bind (Tf.tapewrightref04_Size.l3 F ((0 : Int), (a, (1 : Int)))) (fun y6 => (some y6)))
theorem Tf.tapewrightref04_Size.f_ok (F : Nat) (a) : exec Go.VI.tyT (look [] : Fns) 18 (look [(3, fun st κ => hand [.slot 4, .view 0 0, .slot 3] [.int .i64, .sl 0, .int .i64] [⟨.exit 0, [.slot 3], [.int .i64]⟩] (Tf.tapewrightref04_Size.l3 F) st κ)] : Loops) Tf.tapewrightref04_Size.c (init [.v 0] (encKs [.sl 0] a)) (finT (look [] : Fns) (⟨[.v 0], [.p]⟩ : Sig) [2] [.pure] [.int .i64]) = Tf.tapewrightref04_Size.f F a := by kernel_rfl
def Tf.tapewrightref04_Size.e (F : Nat) : Fn := mkFn (⟨[.v 0], [.p]⟩ : Sig) [.sl 0] [.pure] [.int .i64] (Tf.tapewrightref04_Size.f F)
theorem Tf.tapewrightref04_Size.ok (F : Nat) : EntryOk Go.Proofs.Tryz.prog Go.VI.tyT.G 29 (Tf.tapewrightref04_Size.e F) :=
  fn_ok Go.VI.tyT_ok rfl mix .nil (Λ := (look [(3, fun st κ => hand [.slot 4, .view 0 0, .slot 3] [.int .i64, .sl 0, .int .i64] [⟨.exit 0, [.slot 3], [.int .i64]⟩] (Tf.tapewrightref04_Size.l3 F) st κ)] : Loops)) (fn := Go.Proofs.Tryz.f29) (c := Tf.tapewrightref04_Size.c) (LoopsOk.of (bs := [Tf.tapewrightref04_Size.b3]) (by kernel_rfl) (.cons rfl (Tf.tapewrightref04_Size.l3_ok F) .nil)) (by kernel_rfl) (by kernel_rfl) (by kernel_rfl) (by kernel_rfl) (res1 (by kernel_rfl)) (by decide) (Tf.tapewrightref04_Size.f_ok F)
end Go.VI
namespace Go.VI
open Go
noncomputable def Tf.tapewrightref01_Right.c : Code := (Go.Proofs.Tryz.f44.body).getD .skip
noncomputable def Tf.tapewrightref01_Right.b2 : Code := codeAt [1, 0, 1, 0, 0] Tf.tapewrightref01_Right.c
def Tf.tapewrightref01_Right.s2 (F : Nat) (L : (Int × ByteArray) → Option (Bool ⊕ ByteArray)) (x : (Int × ByteArray)) : Option (Bool ⊕ ByteArray) :=
 (bif (decide (x.1 < ((ByteArray.size x.2) : Int))) then (bif (inR x.1 (ByteArray.size x.2)) then (bif (decide ((byteAt x.2 x.1) < (48 : Int))) then (some (.inl Bool.false))
 else (bif (inR x.1 (ByteArray.size x.2)) then (bif (decide ((byteAt x.2 x.1) > (57 : Int))) then (some (.inl Bool.false))
 else (L ((Go.IntKind.wrap IntKind.i64 (x.1 + (1 : Int))), x.2)))
 else none))
 else none)
 else (some (.inr x.2)))
def Tf.tapewrightref01_Right.l2 (F : Nat) : (Int × ByteArray) → Option (Bool ⊕ ByteArray) := iter (Tf.tapewrightref01_Right.s2 F) F
theorem Tf.tapewrightref01_Right.s2_ok (F : Nat) (L a) : exec Go.VI.tyT (look [] : Fns) 33 (look [] : Loops) Tf.tapewrightref01_Right.b2 (rebuild [.slot 3, .slot 0] (encKs [.int .i64, .str] a)) (bodyK [.slot 3, .slot 0] [.int .i64, .str] [⟨.ret, [.slot 2], [.bool]⟩, ⟨.exit 0, [.slot 0], [.str]⟩] L) = Tf.tapewrightref01_Right.s2 F L a := by kernel_rfl
theorem Tf.tapewrightref01_Right.l2_ok (F : Nat) : LoopOk Go.Proofs.Tryz.prog Go.VI.tyT.G 33 Tf.tapewrightref01_Right.b2 (fun st κ => hand [.slot 3, .slot 0] [.int .i64, .str] [⟨.ret, [.slot 2], [.bool]⟩, ⟨.exit 0, [.slot 0], [.str]⟩] (Tf.tapewrightref01_Right.l2 F) st κ) :=
  loop_ok Go.VI.tyT_ok rfl mix .nil (Λ := (look [] : Loops)) (LoopsOk.of (bs := []) (by kernel_rfl) .nil) (Tf.tapewrightref01_Right.s2_ok F) F
def Tf.tapewrightref01_Right.f (F : Nat) (a : ByteArray) : Option Bool :=
 (Option.bind (Tf.tapewrightref01_Right.l2 F ((0 : Int), a)) (fun y5 => (sumE y5 (fun y6 => (some y6)) (fun y6 => (bif (((ByteArray.size y6) : Int) == (1 : Int)) then (some Bool.true)
 else (bif (decide (((ByteArray.size y6) : Int) > (1 : Int))) then (bif (inR (0 : Int) (ByteArray.size y6)) then (some ((byteAt y6 (0 : Int)) != (48 : Int)))
 else none)
 else (some Bool.false)))))))
theorem Tf.tapewrightref01_Right.f_ok (F : Nat) (a) : exec Go.VI.tyT (look [] : Fns) 33 (look [(2, fun st κ => hand [.slot 3, .slot 0] [.int .i64, .str] [⟨.ret, [.slot 2], [.bool]⟩, ⟨.exit 0, [.slot 0], [.str]⟩] (Tf.tapewrightref01_Right.l2 F) st κ)] : Loops) Tf.tapewrightref01_Right.c (init [.p] (encKs [.str] a)) (finT (look [] : Fns) (⟨[.p], [.p]⟩ : Sig) [2] [.pure] [.bool]) = Tf.tapewrightref01_Right.f F a := by kernel_rfl
def Tf.tapewrightref01_Right.e (F : Nat) : Fn := mkFn (⟨[.p], [.p]⟩ : Sig) [.str] [.pure] [.bool] (Tf.tapewrightref01_Right.f F)
theorem Tf.tapewrightref01_Right.ok (F : Nat) : EntryOk Go.Proofs.Tryz.prog Go.VI.tyT.G 44 (Tf.tapewrightref01_Right.e F) :=
  fn_ok Go.VI.tyT_ok rfl mix .nil (Λ := (look [(2, fun st κ => hand [.slot 3, .slot 0] [.int .i64, .str] [⟨.ret, [.slot 2], [.bool]⟩, ⟨.exit 0, [.slot 0], [.str]⟩] (Tf.tapewrightref01_Right.l2 F) st κ)] : Loops)) (fn := Go.Proofs.Tryz.f44) (c := Tf.tapewrightref01_Right.c) (LoopsOk.of (bs := [Tf.tapewrightref01_Right.b2]) (by kernel_rfl) (.cons rfl (Tf.tapewrightref01_Right.l2_ok F) .nil)) (by kernel_rfl) (by kernel_rfl) (by kernel_rfl) (by kernel_rfl) (res1 (by kernel_rfl)) (by decide) (Tf.tapewrightref01_Right.f_ok F)
end Go.VI
namespace Go.VI
open Go
noncomputable def Tf.tapewrightref02_Size.c : Code := (Go.Proofs.Tryz.f55.body).getD .skip
def Tf.tapewrightref02_Size.f (F : Nat) (a : ByteArray) : Option ByteArray :=
 (bif (decide (((ByteArray.size a) : Int) > (0 : Int))) then (bif (inR (0 : Int) (ByteArray.size a)) then (bif ((byteAt a (0 : Int)) == (45 : Int)) then (bif (Bool.true && (decide ((1 : Int) ≤ ((ByteArray.size a) : Int)))) then (some (ByteArray.extract a 1 (ByteArray.size a)))
 else none)
 else (some a))
 else none)
 else (some a))
theorem Tf.tapewrightref02_Size.f_ok (F : Nat) (a) : exec Go.VI.tyT (look [] : Fns) 14 (look [] : Loops) Tf.tapewrightref02_Size.c (init [.p] (encKs [.str] a)) (finT (look [] : Fns) (⟨[.p], [.p]⟩ : Sig) [2] [.pure] [.str]) = Tf.tapewrightref02_Size.f F a := by kernel_rfl
def Tf.tapewrightref02_Size.e (F : Nat) : Fn := mkFn (⟨[.p], [.p]⟩ : Sig) [.str] [.pure] [.str] (Tf.tapewrightref02_Size.f F)
theorem Tf.tapewrightref02_Size.ok (F : Nat) : EntryOk Go.Proofs.Tryz.prog Go.VI.tyT.G 55 (Tf.tapewrightref02_Size.e F) :=
  fn_ok Go.VI.tyT_ok rfl mix .nil (Λ := (look [] : Loops)) (fn := Go.Proofs.Tryz.f55) (c := Tf.tapewrightref02_Size.c) (LoopsOk.of (bs := []) (by kernel_rfl) .nil) (by kernel_rfl) (by kernel_rfl) (by kernel_rfl) (by kernel_rfl) (res1 (by kernel_rfl)) (by decide) (Tf.tapewrightref02_Size.f_ok F)
end Go.VI
namespace Go.VI
open Go
noncomputable def Tf.tapewrightref02_Right.c : Code := (Go.Proofs.Tryz.f43.body).getD .skip
def Tf.tapewrightref02_Right.f (F : Nat) (a : ByteArray) : Option Bool :=
 (Option.bind (Tf.tapewrightref02_Size.f F a) (fun y6 => (Option.bind (Tf.tapewrightref01_Right.f F y6) (fun y8 => (bif y8 then (some (!(seqB a (⟨#[45, 48]⟩ : ByteArray))))
 else (some Bool.false))))))
theorem Tf.tapewrightref02_Right.f_ok (F : Nat) (a) : exec Go.VI.tyT (look [(44, Tf.tapewrightref01_Right.e F), (55, Tf.tapewrightref02_Size.e F)] : Fns) 10 (look [] : Loops) Tf.tapewrightref02_Right.c (init [.p] (encKs [.str] a)) (finT (look [(44, Tf.tapewrightref01_Right.e F), (55, Tf.tapewrightref02_Size.e F)] : Fns) (⟨[.p], [.p]⟩ : Sig) [2] [.pure] [.bool]) = Tf.tapewrightref02_Right.f F a := by kernel_rfl
def Tf.tapewrightref02_Right.e (F : Nat) : Fn := mkFn (⟨[.p], [.p]⟩ : Sig) [.str] [.pure] [.bool] (Tf.tapewrightref02_Right.f F)
theorem Tf.tapewrightref02_Right.ok (F : Nat) : EntryOk Go.Proofs.Tryz.prog Go.VI.tyT.G 43 (Tf.tapewrightref02_Right.e F) :=
  fn_ok Go.VI.tyT_ok rfl mix (.cons (Tf.tapewrightref01_Right.ok F) (.cons (Tf.tapewrightref02_Size.ok F) .nil)) (Λ := (look [] : Loops)) (fn := Go.Proofs.Tryz.f43) (c := Tf.tapewrightref02_Right.c) (LoopsOk.of (bs := []) (by kernel_rfl) .nil) (by kernel_rfl) (by kernel_rfl) (by kernel_rfl) (by kernel_rfl) (res1 (by kernel_rfl)) (by decide) (Tf.tapewrightref02_Right.f_ok F)
end Go.VI
namespace Go.VI
open Go
noncomputable def Tf.tapewrightref02_Sign.c : Code := (Go.Proofs.Tryz.f56.body).getD .skip
def Tf.tapewrightref02_Sign.f (F : Nat) (a : ByteArray) : Option Int :=
 (bif (inR (0 : Int) (ByteArray.size a)) then (bif ((byteAt a (0 : Int)) == (45 : Int)) then (some (-(1 : Int)))
 else (bif (seqB a (⟨#[48]⟩ : ByteArray)) then (some (0 : Int))
 else (some (1 : Int))))
 else none)
theorem Tf.tapewrightref02_Sign.f_ok (F : Nat) (a) : exec Go.VI.tyT (look [] : Fns) 8 (look [] : Loops) Tf.tapewrightref02_Sign.c (init [.p] (encKs [.str] a)) (finT (look [] : Fns) (⟨[.p], [.p]⟩ : Sig) [2] [.pure] [.int .i64]) = Tf.tapewrightref02_Sign.f F a := by kernel_rfl
def Tf.tapewrightref02_Sign.e (F : Nat) : Fn := mkFn (⟨[.p], [.p]⟩ : Sig) [.str] [.pure] [.int .i64] (Tf.tapewrightref02_Sign.f F)
theorem Tf.tapewrightref02_Sign.ok (F : Nat) : EntryOk Go.Proofs.Tryz.prog Go.VI.tyT.G 56 (Tf.tapewrightref02_Sign.e F) :=
  fn_ok Go.VI.tyT_ok rfl mix .nil (Λ := (look [] : Loops)) (fn := Go.Proofs.Tryz.f56) (c := Tf.tapewrightref02_Sign.c) (LoopsOk.of (bs := []) (by kernel_rfl) .nil) (by kernel_rfl) (by kernel_rfl) (by kernel_rfl) (by kernel_rfl) (res1 (by kernel_rfl)) (by decide) (Tf.tapewrightref02_Sign.f_ok F)
end Go.VI
namespace Go.VI
open Go
noncomputable def Tf.tapewrightref02_of.c : Code := (Go.Proofs.Tryz.f72.body).getD .skip
def Tf.tapewrightref02_of.f (F : Nat) (a : (ByteArray × Int)) : Option ByteArray :=
 (bif (decide (a.2 < (0 : Int))) then (bif (!(seqB a.1 (⟨#[48]⟩ : ByteArray))) then (bif (Nat.ble (1 + (ByteArray.size a.1)) 4611686018427387904) then (some ((⟨#[45]⟩ : ByteArray) ++ a.1))
 else none)
 else (some a.1))
 else (some a.1))
theorem Tf.tapewrightref02_of.f_ok (F : Nat) (a) : exec Go.VI.tyT (look [] : Fns) 14 (look [] : Loops) Tf.tapewrightref02_of.c (init [.p, .p] (encKs [.str, .int .i64] a)) (finT (look [] : Fns) (⟨[.p, .p], [.p]⟩ : Sig) [4] [.pure] [.str]) = Tf.tapewrightref02_of.f F a := by kernel_rfl
def Tf.tapewrightref02_of.e (F : Nat) : Fn := mkFn (⟨[.p, .p], [.p]⟩ : Sig) [.str, .int .i64] [.pure] [.str] (Tf.tapewrightref02_of.f F)
theorem Tf.tapewrightref02_of.ok (F : Nat) : EntryOk Go.Proofs.Tryz.prog Go.VI.tyT.G 72 (Tf.tapewrightref02_of.e F) :=
  fn_ok Go.VI.tyT_ok rfl mix .nil (Λ := (look [] : Loops)) (fn := Go.Proofs.Tryz.f72) (c := Tf.tapewrightref02_of.c) (LoopsOk.of (bs := []) (by kernel_rfl) .nil) (by kernel_rfl) (by kernel_rfl) (by kernel_rfl) (by kernel_rfl) (res1 (by kernel_rfl)) (by decide) (Tf.tapewrightref02_of.f_ok F)
end Go.VI
namespace Go.VI
open Go
noncomputable def Tf.tapewrightref02_Neg.c : Code := (Go.Proofs.Tryz.f57.body).getD .skip
def Tf.tapewrightref02_Neg.f (F : Nat) (a : ByteArray) : Option ByteArray :=
 (Option.bind (Tf.tapewrightref02_Size.f F a) (fun y6 => (Option.bind (Tf.tapewrightref02_Sign.f F a) (fun y9 => (Option.bind (Tf.tapewrightref02_of.f F (y6, (Go.IntKind.wrap IntKind.i64 ((0 : Int) - y9)))) (fun y12 => (some y12)))))))
theorem Tf.tapewrightref02_Neg.f_ok (F : Nat) (a) : exec Go.VI.tyT (look [(55, Tf.tapewrightref02_Size.e F), (56, Tf.tapewrightref02_Sign.e F), (72, Tf.tapewrightref02_of.e F)] : Fns) 9 (look [] : Loops) Tf.tapewrightref02_Neg.c (init [.p] (encKs [.str] a)) (finT (look [(55, Tf.tapewrightref02_Size.e F), (56, Tf.tapewrightref02_Sign.e F), (72, Tf.tapewrightref02_of.e F)] : Fns) (⟨[.p], [.p]⟩ : Sig) [2] [.pure] [.str]) = Tf.tapewrightref02_Neg.f F a := by kernel_rfl
def Tf.tapewrightref02_Neg.e (F : Nat) : Fn := mkFn (⟨[.p], [.p]⟩ : Sig) [.str] [.pure] [.str] (Tf.tapewrightref02_Neg.f F)
theorem Tf.tapewrightref02_Neg.ok (F : Nat) : EntryOk Go.Proofs.Tryz.prog Go.VI.tyT.G 57 (Tf.tapewrightref02_Neg.e F) :=
  fn_ok Go.VI.tyT_ok rfl mix (.cons (Tf.tapewrightref02_Size.ok F) (.cons (Tf.tapewrightref02_Sign.ok F) (.cons (Tf.tapewrightref02_of.ok F) .nil))) (Λ := (look [] : Loops)) (fn := Go.Proofs.Tryz.f57) (c := Tf.tapewrightref02_Neg.c) (LoopsOk.of (bs := []) (by kernel_rfl) .nil) (by kernel_rfl) (by kernel_rfl) (by kernel_rfl) (by kernel_rfl) (res1 (by kernel_rfl)) (by decide) (Tf.tapewrightref02_Neg.f_ok F)
end Go.VI
namespace Go.VI
open Go
noncomputable def Tf.tapewrightref01_Plain.c : Code := (Go.Proofs.Tryz.f73.body).getD .skip
noncomputable def Tf.tapewrightref01_Plain.b1 : Code := codeAt [1, 0, 0, 0] Tf.tapewrightref01_Plain.c
def Tf.tapewrightref01_Plain.s1 (F : Nat) (L : ByteArray → Option ByteArray) (x : ByteArray) : Option ByteArray :=
 (bif (decide (((ByteArray.size x) : Int) > (1 : Int))) then (bif (inR (0 : Int) (ByteArray.size x)) then (bif ((byteAt x (0 : Int)) == (48 : Int)) then (bif (Bool.true && (decide ((1 : Int) ≤ ((ByteArray.size x) : Int)))) then (L (ByteArray.extract x 1 (ByteArray.size x)))
 else none)
 else (some x))
 else none)
 else (some x))
def Tf.tapewrightref01_Plain.l1 (F : Nat) : ByteArray → Option ByteArray := iter (Tf.tapewrightref01_Plain.s1 F) F
theorem Tf.tapewrightref01_Plain.s1_ok (F : Nat) (L a) : exec Go.VI.tyT (look [] : Fns) 16 (look [] : Loops) Tf.tapewrightref01_Plain.b1 (rebuild [.slot 0] (encKs [.str] a)) (bodyK [.slot 0] [.str] [⟨.exit 0, [.slot 0], [.str]⟩] L) = Tf.tapewrightref01_Plain.s1 F L a := by kernel_rfl
theorem Tf.tapewrightref01_Plain.l1_ok (F : Nat) : LoopOk Go.Proofs.Tryz.prog Go.VI.tyT.G 16 Tf.tapewrightref01_Plain.b1 (fun st κ => hand [.slot 0] [.str] [⟨.exit 0, [.slot 0], [.str]⟩] (Tf.tapewrightref01_Plain.l1 F) st κ) :=
  loop_ok Go.VI.tyT_ok rfl mix .nil (Λ := (look [] : Loops)) (LoopsOk.of (bs := []) (by kernel_rfl) .nil) (Tf.tapewrightref01_Plain.s1_ok F) F
def Tf.tapewrightref01_Plain.f (F : Nat) (a : ByteArray) : Option ByteArray :=
 (Option.bind (Tf.tapewrightref01_Plain.l1 F a) (fun y4 => (bif (seqB y4 (⟨#[]⟩ : ByteArray)) then (some (⟨#[48]⟩ : ByteArray))
 else (some y4))))
theorem Tf.tapewrightref01_Plain.f_ok (F : Nat) (a) : exec Go.VI.tyT (look [] : Fns) 16 (look [(1, fun st κ => hand [.slot 0] [.str] [⟨.exit 0, [.slot 0], [.str]⟩] (Tf.tapewrightref01_Plain.l1 F) st κ)] : Loops) Tf.tapewrightref01_Plain.c (init [.p] (encKs [.str] a)) (finT (look [] : Fns) (⟨[.p], [.p]⟩ : Sig) [2] [.pure] [.str]) = Tf.tapewrightref01_Plain.f F a := by kernel_rfl
def Tf.tapewrightref01_Plain.e (F : Nat) : Fn := mkFn (⟨[.p], [.p]⟩ : Sig) [.str] [.pure] [.str] (Tf.tapewrightref01_Plain.f F)
theorem Tf.tapewrightref01_Plain.ok (F : Nat) : EntryOk Go.Proofs.Tryz.prog Go.VI.tyT.G 73 (Tf.tapewrightref01_Plain.e F) :=
  fn_ok Go.VI.tyT_ok rfl mix .nil (Λ := (look [(1, fun st κ => hand [.slot 0] [.str] [⟨.exit 0, [.slot 0], [.str]⟩] (Tf.tapewrightref01_Plain.l1 F) st κ)] : Loops)) (fn := Go.Proofs.Tryz.f73) (c := Tf.tapewrightref01_Plain.c) (LoopsOk.of (bs := [Tf.tapewrightref01_Plain.b1]) (by kernel_rfl) (.cons rfl (Tf.tapewrightref01_Plain.l1_ok F) .nil)) (by kernel_rfl) (by kernel_rfl) (by kernel_rfl) (by kernel_rfl) (res1 (by kernel_rfl)) (by decide) (Tf.tapewrightref01_Plain.f_ok F)
end Go.VI
namespace Go.VI
open Go
noncomputable def Tf.tapewrightref01_Compare.c : Code := (Go.Proofs.Tryz.f74.body).getD .skip
def Tf.tapewrightref01_Compare.f (F : Nat) (a : (ByteArray × ByteArray)) : Option Int :=
 (bif (((ByteArray.size a.1) : Int) != ((ByteArray.size a.2) : Int)) then (bif (decide (((ByteArray.size a.1) : Int) < ((ByteArray.size a.2) : Int))) then (some (-(1 : Int)))
 else (some (1 : Int)))
 else (bif (lessB a.1 a.2) then (some (-(1 : Int)))
 else (bif (!((lessB a.1 a.2) || (seqB a.1 a.2))) then (some (1 : Int))
 else (some (0 : Int)))))
theorem Tf.tapewrightref01_Compare.f_ok (F : Nat) (a) : exec Go.VI.tyT (look [] : Fns) 21 (look [] : Loops) Tf.tapewrightref01_Compare.c (init [.p, .p] (encKs [.str, .str] a)) (finT (look [] : Fns) (⟨[.p, .p], [.p]⟩ : Sig) [4] [.pure] [.int .i64]) = Tf.tapewrightref01_Compare.f F a := by kernel_rfl
def Tf.tapewrightref01_Compare.e (F : Nat) : Fn := mkFn (⟨[.p, .p], [.p]⟩ : Sig) [.str, .str] [.pure] [.int .i64] (Tf.tapewrightref01_Compare.f F)
theorem Tf.tapewrightref01_Compare.ok (F : Nat) : EntryOk Go.Proofs.Tryz.prog Go.VI.tyT.G 74 (Tf.tapewrightref01_Compare.e F) :=
  fn_ok Go.VI.tyT_ok rfl mix .nil (Λ := (look [] : Loops)) (fn := Go.Proofs.Tryz.f74) (c := Tf.tapewrightref01_Compare.c) (LoopsOk.of (bs := []) (by kernel_rfl) .nil) (by kernel_rfl) (by kernel_rfl) (by kernel_rfl) (by kernel_rfl) (res1 (by kernel_rfl)) (by decide) (Tf.tapewrightref01_Compare.f_ok F)
end Go.VI
namespace Go.VI
open Go
noncomputable def Tf.tapewrightref01_digit.c : Code := (Go.Proofs.Tryz.f89.body).getD .skip
def Tf.tapewrightref01_digit.f (F : Nat) (a : (ByteArray × Int)) : Option Int :=
 (bif (decide (a.2 ≥ ((ByteArray.size a.1) : Int))) then (some (0 : Int))
 else (bif (inR (Go.IntKind.wrap IntKind.i64 ((Go.IntKind.wrap IntKind.i64 (((ByteArray.size a.1) : Int) - (1 : Int))) - a.2)) (ByteArray.size a.1)) then (some (Go.IntKind.wrap IntKind.i64 (Go.IntKind.wrap IntKind.u8 ((byteAt a.1 (Go.IntKind.wrap IntKind.i64 ((Go.IntKind.wrap IntKind.i64 (((ByteArray.size a.1) : Int) - (1 : Int))) - a.2))) - (48 : Int)))))
 else none))
theorem Tf.tapewrightref01_digit.f_ok (F : Nat) (a) : exec Go.VI.tyT (look [] : Fns) 18 (look [] : Loops) Tf.tapewrightref01_digit.c (init [.p, .p] (encKs [.str, .int .i64] a)) (finT (look [] : Fns) (⟨[.p, .p], [.p]⟩ : Sig) [4] [.pure] [.int .i64]) = Tf.tapewrightref01_digit.f F a := by kernel_rfl
def Tf.tapewrightref01_digit.e (F : Nat) : Fn := mkFn (⟨[.p, .p], [.p]⟩ : Sig) [.str, .int .i64] [.pure] [.int .i64] (Tf.tapewrightref01_digit.f F)
theorem Tf.tapewrightref01_digit.ok (F : Nat) : EntryOk Go.Proofs.Tryz.prog Go.VI.tyT.G 89 (Tf.tapewrightref01_digit.e F) :=
  fn_ok Go.VI.tyT_ok rfl mix .nil (Λ := (look [] : Loops)) (fn := Go.Proofs.Tryz.f89) (c := Tf.tapewrightref01_digit.c) (LoopsOk.of (bs := []) (by kernel_rfl) .nil) (by kernel_rfl) (by kernel_rfl) (by kernel_rfl) (by kernel_rfl) (res1 (by kernel_rfl)) (by decide) (Tf.tapewrightref01_digit.f_ok F)
end Go.VI
namespace Go.VI
open Go
noncomputable def Tf.tapewrightref01_of.c : Code := (Go.Proofs.Tryz.f90.body).getD .skip
noncomputable def Tf.tapewrightref01_of.b3 : Code := codeAt [1, 1, 0, 1, 0, 0] Tf.tapewrightref01_of.c
def Tf.tapewrightref01_of.s3 (F : Nat) (L : (Int × ((List Int) × (List Int))) → Option (List Int)) (x : (Int × ((List Int) × (List Int)))) : Option (List Int) :=
 (bif (decide (x.1 ≥ (0 : Int))) then (bif (inR x.1 (List.length x.2.1)) then (bif (Nat.ble ((List.length x.2.2) + 1) 1099511627776) then (L ((Go.IntKind.wrap IntKind.i64 (x.1 - (1 : Int))), (x.2.1, (x.2.2 ++ (List.set (List.replicate 1 (0 : Int)) 0 (Go.IntKind.wrap IntKind.u8 (Go.IntKind.wrap IntKind.i64 ((48 : Int) + (List.getD x.2.1 (Int.toNat x.1) (0 : Int))))))))))
 else none)
 else none)
 else (some x.2.2))
def Tf.tapewrightref01_of.l3 (F : Nat) : (Int × ((List Int) × (List Int))) → Option (List Int) := iter (Tf.tapewrightref01_of.s3 F) F
theorem Tf.tapewrightref01_of.s3_ok (F : Nat) (L a) : exec Go.VI.tyT (look [(73, Tf.tapewrightref01_Plain.e F)] : Fns) 24 (look [] : Loops) Tf.tapewrightref01_of.b3 (rebuild [.slot 4, .view 0 0, .own 3 1] (encKs [.int .i64, .sl 0, .sl 1] a)) (bodyK [.slot 4, .view 0 0, .own 3 1] [.int .i64, .sl 0, .sl 1] [⟨.exit 0, [.own 3 1], [.sl 1]⟩] L) = Tf.tapewrightref01_of.s3 F L a := by kernel_rfl
theorem Tf.tapewrightref01_of.l3_ok (F : Nat) : LoopOk Go.Proofs.Tryz.prog Go.VI.tyT.G 24 Tf.tapewrightref01_of.b3 (fun st κ => hand [.slot 4, .view 0 0, .own 3 1] [.int .i64, .sl 0, .sl 1] [⟨.exit 0, [.own 3 1], [.sl 1]⟩] (Tf.tapewrightref01_of.l3 F) st κ) :=
  loop_ok Go.VI.tyT_ok rfl mix (.cons (Tf.tapewrightref01_Plain.ok F) .nil) (Λ := (look [] : Loops)) (LoopsOk.of (bs := []) (by kernel_rfl) .nil) (Tf.tapewrightref01_of.s3_ok F) F
def Tf.tapewrightref01_of.f (F : Nat) (a : (List Int)) : Option ByteArray :=
 (Option.bind (Tf.tapewrightref01_of.l3 F ((Go.IntKind.wrap IntKind.i64 (((List.length a) : Int) - (1 : Int))), (a, ([] : List Int)))) (fun y9 => (Option.bind (Tf.tapewrightref01_Plain.f F (strOf y9)) (fun y13 => (some y13)))))
theorem Tf.tapewrightref01_of.f_ok (F : Nat) (a) : exec Go.VI.tyT (look [(73, Tf.tapewrightref01_Plain.e F)] : Fns) 24 (look [(3, fun st κ => hand [.slot 4, .view 0 0, .own 3 1] [.int .i64, .sl 0, .sl 1] [⟨.exit 0, [.own 3 1], [.sl 1]⟩] (Tf.tapewrightref01_of.l3 F) st κ)] : Loops) Tf.tapewrightref01_of.c (init [.v 0] (encKs [.sl 0] a)) (finT (look [(73, Tf.tapewrightref01_Plain.e F)] : Fns) (⟨[.v 0], [.p]⟩ : Sig) [2] [.pure] [.str]) = Tf.tapewrightref01_of.f F a := by kernel_rfl
def Tf.tapewrightref01_of.e (F : Nat) : Fn := mkFn (⟨[.v 0], [.p]⟩ : Sig) [.sl 0] [.pure] [.str] (Tf.tapewrightref01_of.f F)
theorem Tf.tapewrightref01_of.ok (F : Nat) : EntryOk Go.Proofs.Tryz.prog Go.VI.tyT.G 90 (Tf.tapewrightref01_of.e F) :=
  fn_ok Go.VI.tyT_ok rfl mix (.cons (Tf.tapewrightref01_Plain.ok F) .nil) (Λ := (look [(3, fun st κ => hand [.slot 4, .view 0 0, .own 3 1] [.int .i64, .sl 0, .sl 1] [⟨.exit 0, [.own 3 1], [.sl 1]⟩] (Tf.tapewrightref01_of.l3 F) st κ)] : Loops)) (fn := Go.Proofs.Tryz.f90) (c := Tf.tapewrightref01_of.c) (LoopsOk.of (bs := [Tf.tapewrightref01_of.b3]) (by kernel_rfl) (.cons rfl (Tf.tapewrightref01_of.l3_ok F) .nil)) (by kernel_rfl) (by kernel_rfl) (by kernel_rfl) (by kernel_rfl) (res1 (by kernel_rfl)) (by decide) (Tf.tapewrightref01_of.f_ok F)
end Go.VI
namespace Go.VI
open Go
noncomputable def Tf.tapewrightref01_Sub.c : Code := (Go.Proofs.Tryz.f75.body).getD .skip
noncomputable def Tf.tapewrightref01_Sub.b4 : Code := codeAt [1, 1, 1, 0, 1, 0, 0] Tf.tapewrightref01_Sub.c
def Tf.tapewrightref01_Sub.s4 (F : Nat) (L : (Int × ((List Int) × (Int × (ByteArray × ByteArray)))) → Option (List Int)) (x : (Int × ((List Int) × (Int × (ByteArray × ByteArray))))) : Option (List Int) :=
 (bif (decide (x.1 < ((ByteArray.size x.2.2.2.2) : Int))) then (Option.bind (Tf.tapewrightref01_digit.f F (x.2.2.2.2, x.1)) (fun y15 => (Option.bind (Tf.tapewrightref01_digit.f F (x.2.2.2.1, x.1)) (fun y19 => (bif (decide ((Go.IntKind.wrap IntKind.i64 ((Go.IntKind.wrap IntKind.i64 (y15 - y19)) - x.2.2.1)) < (0 : Int))) then (bif (Nat.ble ((List.length x.2.1) + 1) 1099511627776) then (L ((Go.IntKind.wrap IntKind.i64 (x.1 + (1 : Int))), ((x.2.1 ++ (List.set (List.replicate 1 (0 : Int)) 0 (Go.IntKind.wrap IntKind.i64 ((Go.IntKind.wrap IntKind.i64 ((Go.IntKind.wrap IntKind.i64 (y15 - y19)) - x.2.2.1)) + (10 : Int))))), ((1 : Int), (x.2.2.2.1, x.2.2.2.2)))))
 else none)
 else (bif (Nat.ble ((List.length x.2.1) + 1) 1099511627776) then (L ((Go.IntKind.wrap IntKind.i64 (x.1 + (1 : Int))), ((x.2.1 ++ (List.set (List.replicate 1 (0 : Int)) 0 (Go.IntKind.wrap IntKind.i64 ((Go.IntKind.wrap IntKind.i64 (y15 - y19)) - x.2.2.1)))), ((0 : Int), (x.2.2.2.1, x.2.2.2.2)))))
 else none))))))
 else (some x.2.1))
def Tf.tapewrightref01_Sub.l4 (F : Nat) : (Int × ((List Int) × (Int × (ByteArray × ByteArray)))) → Option (List Int) := iter (Tf.tapewrightref01_Sub.s4 F) F
theorem Tf.tapewrightref01_Sub.s4_ok (F : Nat) (L a) : exec Go.VI.tyT (look [(89, Tf.tapewrightref01_digit.e F), (90, Tf.tapewrightref01_of.e F)] : Fns) 34 (look [] : Loops) Tf.tapewrightref01_Sub.b4 (rebuild [.slot 7, .own 5 0, .slot 6, .slot 1, .slot 0] (encKs [.int .i64, .sl 0, .int .i64, .str, .str] a)) (bodyK [.slot 7, .own 5 0, .slot 6, .slot 1, .slot 0] [.int .i64, .sl 0, .int .i64, .str, .str] [⟨.exit 0, [.own 5 0], [.sl 0]⟩] L) = Tf.tapewrightref01_Sub.s4 F L a := by kernel_rfl
theorem Tf.tapewrightref01_Sub.l4_ok (F : Nat) : LoopOk Go.Proofs.Tryz.prog Go.VI.tyT.G 34 Tf.tapewrightref01_Sub.b4 (fun st κ => hand [.slot 7, .own 5 0, .slot 6, .slot 1, .slot 0] [.int .i64, .sl 0, .int .i64, .str, .str] [⟨.exit 0, [.own 5 0], [.sl 0]⟩] (Tf.tapewrightref01_Sub.l4 F) st κ) :=
  loop_ok Go.VI.tyT_ok rfl mix (.cons (Tf.tapewrightref01_digit.ok F) (.cons (Tf.tapewrightref01_of.ok F) .nil)) (Λ := (look [] : Loops)) (LoopsOk.of (bs := []) (by kernel_rfl) .nil) (Tf.tapewrightref01_Sub.s4_ok F) F
def Tf.tapewrightref01_Sub.f (F : Nat) (a : (ByteArray × ByteArray)) : Option ByteArray :=
 (Option.bind (Tf.tapewrightref01_Sub.l4 F ((0 : Int), (([] : List Int), ((0 : Int), (a.2, a.1))))) (fun y7 => (Option.bind (Tf.tapewrightref01_of.f F y7) (fun y10 => (some y10)))))
theorem Tf.tapewrightref01_Sub.f_ok (F : Nat) (a) : exec Go.VI.tyT (look [(89, Tf.tapewrightref01_digit.e F), (90, Tf.tapewrightref01_of.e F)] : Fns) 34 (look [(4, fun st κ => hand [.slot 7, .own 5 0, .slot 6, .slot 1, .slot 0] [.int .i64, .sl 0, .int .i64, .str, .str] [⟨.exit 0, [.own 5 0], [.sl 0]⟩] (Tf.tapewrightref01_Sub.l4 F) st κ)] : Loops) Tf.tapewrightref01_Sub.c (init [.p, .p] (encKs [.str, .str] a)) (finT (look [(89, Tf.tapewrightref01_digit.e F), (90, Tf.tapewrightref01_of.e F)] : Fns) (⟨[.p, .p], [.p]⟩ : Sig) [4] [.pure] [.str]) = Tf.tapewrightref01_Sub.f F a := by kernel_rfl
def Tf.tapewrightref01_Sub.e (F : Nat) : Fn := mkFn (⟨[.p, .p], [.p]⟩ : Sig) [.str, .str] [.pure] [.str] (Tf.tapewrightref01_Sub.f F)
theorem Tf.tapewrightref01_Sub.ok (F : Nat) : EntryOk Go.Proofs.Tryz.prog Go.VI.tyT.G 75 (Tf.tapewrightref01_Sub.e F) :=
  fn_ok Go.VI.tyT_ok rfl mix (.cons (Tf.tapewrightref01_digit.ok F) (.cons (Tf.tapewrightref01_of.ok F) .nil)) (Λ := (look [(4, fun st κ => hand [.slot 7, .own 5 0, .slot 6, .slot 1, .slot 0] [.int .i64, .sl 0, .int .i64, .str, .str] [⟨.exit 0, [.own 5 0], [.sl 0]⟩] (Tf.tapewrightref01_Sub.l4 F) st κ)] : Loops)) (fn := Go.Proofs.Tryz.f75) (c := Tf.tapewrightref01_Sub.c) (LoopsOk.of (bs := [Tf.tapewrightref01_Sub.b4]) (by kernel_rfl) (.cons rfl (Tf.tapewrightref01_Sub.l4_ok F) .nil)) (by kernel_rfl) (by kernel_rfl) (by kernel_rfl) (by kernel_rfl) (res1 (by kernel_rfl)) (by decide) (Tf.tapewrightref01_Sub.f_ok F)
end Go.VI
namespace Go.VI
open Go
noncomputable def Tf.tapewrightref01_Div.c : Code := (Go.Proofs.Tryz.f59.body).getD .skip
noncomputable def Tf.tapewrightref01_Div.b7 : Code := codeAt [1, 1, 0, 1, 0, 0, 1, 0, 0, 1, 1, 0, 0, 0] Tf.tapewrightref01_Div.c
def Tf.tapewrightref01_Div.s7 (F : Nat) (L : (Int × (ByteArray × (ByteArray × (ByteArray × (Int × ByteArray))))) → Option (ByteArray × (ByteArray × (ByteArray × (Int × (Int × ByteArray)))))) (x : (Int × (ByteArray × (ByteArray × (ByteArray × (Int × ByteArray)))))) : Option (ByteArray × (ByteArray × (ByteArray × (Int × (Int × ByteArray))))) :=
 (Option.bind (Tf.tapewrightref01_Compare.f F (x.2.2.1, x.2.1)) (fun y29 => (bif (decide (y29 ≥ (0 : Int))) then (Option.bind (Tf.tapewrightref01_Sub.f F (x.2.2.1, x.2.1)) (fun y34 => (L ((Go.IntKind.wrap IntKind.i64 (x.1 + (1 : Int))), (x.2.1, (y34, (x.2.2.2.1, (x.2.2.2.2.1, x.2.2.2.2.2))))))))
 else (some (x.2.1, (x.2.2.2.1, (x.2.2.1, (x.2.2.2.2.1, (x.1, x.2.2.2.2.2)))))))))
def Tf.tapewrightref01_Div.l7 (F : Nat) : (Int × (ByteArray × (ByteArray × (ByteArray × (Int × ByteArray))))) → Option (ByteArray × (ByteArray × (ByteArray × (Int × (Int × ByteArray))))) := iter (Tf.tapewrightref01_Div.s7 F) F
theorem Tf.tapewrightref01_Div.s7_ok (F : Nat) (L a) : exec Go.VI.tyT (look [(73, Tf.tapewrightref01_Plain.e F), (74, Tf.tapewrightref01_Compare.e F), (75, Tf.tapewrightref01_Sub.e F)] : Fns) 43 (look [] : Loops) Tf.tapewrightref01_Div.b7 (rebuild [.slot 9, .slot 1, .slot 7, .slot 0, .slot 8, .slot 6] (encKs [.int .i64, .str, .str, .str, .int .i64, .str] a)) (bodyK [.slot 9, .slot 1, .slot 7, .slot 0, .slot 8, .slot 6] [.int .i64, .str, .str, .str, .int .i64, .str] [⟨.exit 2, [.slot 1, .slot 0, .slot 7, .slot 8, .slot 9, .slot 6], [.str, .str, .str, .int .i64, .int .i64, .str]⟩] L) = Tf.tapewrightref01_Div.s7 F L a := by kernel_rfl
theorem Tf.tapewrightref01_Div.l7_ok (F : Nat) : LoopOk Go.Proofs.Tryz.prog Go.VI.tyT.G 43 Tf.tapewrightref01_Div.b7 (fun st κ => hand [.slot 9, .slot 1, .slot 7, .slot 0, .slot 8, .slot 6] [.int .i64, .str, .str, .str, .int .i64, .str] [⟨.exit 2, [.slot 1, .slot 0, .slot 7, .slot 8, .slot 9, .slot 6], [.str, .str, .str, .int .i64, .int .i64, .str]⟩] (Tf.tapewrightref01_Div.l7 F) st κ) :=
  loop_ok Go.VI.tyT_ok rfl mix (.cons (Tf.tapewrightref01_Plain.ok F) (.cons (Tf.tapewrightref01_Compare.ok F) (.cons (Tf.tapewrightref01_Sub.ok F) .nil))) (Λ := (look [] : Loops)) (LoopsOk.of (bs := []) (by kernel_rfl) .nil) (Tf.tapewrightref01_Div.s7_ok F) F
noncomputable def Tf.tapewrightref01_Div.b3 : Code := codeAt [1, 1, 0, 1, 0, 0] Tf.tapewrightref01_Div.c
def Tf.tapewrightref01_Div.s3 (F : Nat) (L : (ByteArray × (Int × (ByteArray × (ByteArray × ByteArray)))) → Option (ByteArray × ByteArray)) (x : (ByteArray × (Int × (ByteArray × (ByteArray × ByteArray))))) : Option (ByteArray × ByteArray) :=
 (bif (decide (x.2.1 < ((ByteArray.size x.2.2.2.1) : Int))) then (bif ((decide ((0 : Int) ≤ (Go.IntKind.wrap IntKind.i64 (x.2.1 + (1 : Int))))) && (decide ((Go.IntKind.wrap IntKind.i64 (x.2.1 + (1 : Int))) ≤ ((ByteArray.size x.2.2.2.1) : Int)))) then (bif ((decide ((0 : Int) ≤ x.2.1)) && (decide (x.2.1 ≤ ((Int.toNat (Go.IntKind.wrap IntKind.i64 (x.2.1 + (1 : Int)))) : Int)))) then (bif (Nat.ble ((ByteArray.size x.2.2.2.2) + (ByteArray.size (ByteArray.extract x.2.2.2.1 (Int.toNat x.2.1) (Int.toNat (Go.IntKind.wrap IntKind.i64 (x.2.1 + (1 : Int))))))) 4611686018427387904) then (Option.bind (Tf.tapewrightref01_Plain.f F (x.2.2.2.2 ++ (ByteArray.extract x.2.2.2.1 (Int.toNat x.2.1) (Int.toNat (Go.IntKind.wrap IntKind.i64 (x.2.1 + (1 : Int))))))) (fun y21 => (Option.bind (Tf.tapewrightref01_Div.l7 F ((0 : Int), (x.1, (y21, (x.2.2.2.1, (x.2.1, x.2.2.1)))))) (fun y24 => (bif (Nat.ble ((ByteArray.size y24.2.2.2.2.2) + (ByteArray.size (strOf (List.set (List.replicate 1 (0 : Int)) 0 (Go.IntKind.wrap IntKind.u8 (Go.IntKind.wrap IntKind.i64 ((48 : Int) + y24.2.2.2.2.1))))))) 4611686018427387904) then (L (y24.1, ((Go.IntKind.wrap IntKind.i64 (y24.2.2.2.1 + (1 : Int))), ((y24.2.2.2.2.2 ++ (strOf (List.set (List.replicate 1 (0 : Int)) 0 (Go.IntKind.wrap IntKind.u8 (Go.IntKind.wrap IntKind.i64 ((48 : Int) + y24.2.2.2.2.1)))))), (y24.2.1, y24.2.2.1)))))
 else none)))))
 else none)
 else none)
 else none)
 else (some (x.2.2.2.2, x.2.2.1)))
def Tf.tapewrightref01_Div.l3 (F : Nat) : (ByteArray × (Int × (ByteArray × (ByteArray × ByteArray)))) → Option (ByteArray × ByteArray) := iter (Tf.tapewrightref01_Div.s3 F) F
theorem Tf.tapewrightref01_Div.s3_ok (F : Nat) (L a) : exec Go.VI.tyT (look [(73, Tf.tapewrightref01_Plain.e F), (74, Tf.tapewrightref01_Compare.e F), (75, Tf.tapewrightref01_Sub.e F)] : Fns) 43 (look [(7, fun st κ => hand [.slot 9, .slot 1, .slot 7, .slot 0, .slot 8, .slot 6] [.int .i64, .str, .str, .str, .int .i64, .str] [⟨.exit 2, [.slot 1, .slot 0, .slot 7, .slot 8, .slot 9, .slot 6], [.str, .str, .str, .int .i64, .int .i64, .str]⟩] (Tf.tapewrightref01_Div.l7 F) st κ)] : Loops) Tf.tapewrightref01_Div.b3 (rebuild [.slot 1, .slot 8, .slot 6, .slot 0, .slot 7] (encKs [.str, .int .i64, .str, .str, .str] a)) (bodyK [.slot 1, .slot 8, .slot 6, .slot 0, .slot 7] [.str, .int .i64, .str, .str, .str] [⟨.exit 0, [.slot 7, .slot 6], [.str, .str]⟩] L) = Tf.tapewrightref01_Div.s3 F L a := by kernel_rfl
theorem Tf.tapewrightref01_Div.l3_ok (F : Nat) : LoopOk Go.Proofs.Tryz.prog Go.VI.tyT.G 43 Tf.tapewrightref01_Div.b3 (fun st κ => hand [.slot 1, .slot 8, .slot 6, .slot 0, .slot 7] [.str, .int .i64, .str, .str, .str] [⟨.exit 0, [.slot 7, .slot 6], [.str, .str]⟩] (Tf.tapewrightref01_Div.l3 F) st κ) :=
  loop_ok Go.VI.tyT_ok rfl mix (.cons (Tf.tapewrightref01_Plain.ok F) (.cons (Tf.tapewrightref01_Compare.ok F) (.cons (Tf.tapewrightref01_Sub.ok F) .nil))) (Λ := (look [(7, fun st κ => hand [.slot 9, .slot 1, .slot 7, .slot 0, .slot 8, .slot 6] [.int .i64, .str, .str, .str, .int .i64, .str] [⟨.exit 2, [.slot 1, .slot 0, .slot 7, .slot 8, .slot 9, .slot 6], [.str, .str, .str, .int .i64, .int .i64, .str]⟩] (Tf.tapewrightref01_Div.l7 F) st κ)] : Loops)) (LoopsOk.of (bs := [Tf.tapewrightref01_Div.b7]) (by kernel_rfl) (.cons rfl (Tf.tapewrightref01_Div.l7_ok F) .nil)) (Tf.tapewrightref01_Div.s3_ok F) F
def Tf.tapewrightref01_Div.f (F : Nat) (a : (ByteArray × ByteArray)) : Option (ByteArray × ByteArray) :=
 (Option.bind (Tf.tapewrightref01_Div.l3 F (a.2, ((0 : Int), ((⟨#[]⟩ : ByteArray), (a.1, (⟨#[48]⟩ : ByteArray)))))) (fun y8 => (Option.bind (Tf.tapewrightref01_Plain.f F y8.2) (fun y11 => (some (y11, y8.1))))))
theorem Tf.tapewrightref01_Div.f_ok (F : Nat) (a) : exec Go.VI.tyT (look [(73, Tf.tapewrightref01_Plain.e F), (74, Tf.tapewrightref01_Compare.e F), (75, Tf.tapewrightref01_Sub.e F)] : Fns) 43 (look [(3, fun st κ => hand [.slot 1, .slot 8, .slot 6, .slot 0, .slot 7] [.str, .int .i64, .str, .str, .str] [⟨.exit 0, [.slot 7, .slot 6], [.str, .str]⟩] (Tf.tapewrightref01_Div.l3 F) st κ)] : Loops) Tf.tapewrightref01_Div.c (init [.p, .p] (encKs [.str, .str] a)) (finT (look [(73, Tf.tapewrightref01_Plain.e F), (74, Tf.tapewrightref01_Compare.e F), (75, Tf.tapewrightref01_Sub.e F)] : Fns) (⟨[.p, .p], [.p, .p]⟩ : Sig) [4, 5] [.pure, .pure] [.str, .str]) = Tf.tapewrightref01_Div.f F a := by kernel_rfl
def Tf.tapewrightref01_Div.e (F : Nat) : Fn := mkFn (⟨[.p, .p], [.p, .p]⟩ : Sig) [.str, .str] [.pure, .pure] [.str, .str] (Tf.tapewrightref01_Div.f F)
theorem Tf.tapewrightref01_Div.ok (F : Nat) : EntryOk Go.Proofs.Tryz.prog Go.VI.tyT.G 59 (Tf.tapewrightref01_Div.e F) :=
  fn_ok Go.VI.tyT_ok rfl mix (.cons (Tf.tapewrightref01_Plain.ok F) (.cons (Tf.tapewrightref01_Compare.ok F) (.cons (Tf.tapewrightref01_Sub.ok F) .nil))) (Λ := (look [(3, fun st κ => hand [.slot 1, .slot 8, .slot 6, .slot 0, .slot 7] [.str, .int .i64, .str, .str, .str] [⟨.exit 0, [.slot 7, .slot 6], [.str, .str]⟩] (Tf.tapewrightref01_Div.l3 F) st κ)] : Loops)) (fn := Go.Proofs.Tryz.f59) (c := Tf.tapewrightref01_Div.c) (LoopsOk.of (bs := [Tf.tapewrightref01_Div.b3]) (by kernel_rfl) (.cons rfl (Tf.tapewrightref01_Div.l3_ok F) .nil)) (by kernel_rfl) (by kernel_rfl) (by kernel_rfl) (by kernel_rfl) (res2 (by kernel_rfl)) (by decide) (Tf.tapewrightref01_Div.f_ok F)
end Go.VI
namespace Go.VI
open Go
noncomputable def Tf.tapewrightref01_Gcd.c : Code := (Go.Proofs.Tryz.f58.body).getD .skip
noncomputable def Tf.tapewrightref01_Gcd.b1 : Code := codeAt [1, 0, 0, 0] Tf.tapewrightref01_Gcd.c
def Tf.tapewrightref01_Gcd.s1 (F : Nat) (L : (ByteArray × ByteArray) → Option ByteArray) (x : (ByteArray × ByteArray)) : Option ByteArray :=
 (bif (!(seqB x.1 (⟨#[48]⟩ : ByteArray))) then (Option.bind (Tf.tapewrightref01_Div.f F (x.2, x.1)) (fun y10 => (L (y10.2, x.1))))
 else (some x.2))
def Tf.tapewrightref01_Gcd.l1 (F : Nat) : (ByteArray × ByteArray) → Option ByteArray := iter (Tf.tapewrightref01_Gcd.s1 F) F
theorem Tf.tapewrightref01_Gcd.s1_ok (F : Nat) (L a) : exec Go.VI.tyT (look [(59, Tf.tapewrightref01_Div.e F)] : Fns) 18 (look [] : Loops) Tf.tapewrightref01_Gcd.b1 (rebuild [.slot 1, .slot 0] (encKs [.str, .str] a)) (bodyK [.slot 1, .slot 0] [.str, .str] [⟨.exit 0, [.slot 0], [.str]⟩] L) = Tf.tapewrightref01_Gcd.s1 F L a := by kernel_rfl
theorem Tf.tapewrightref01_Gcd.l1_ok (F : Nat) : LoopOk Go.Proofs.Tryz.prog Go.VI.tyT.G 18 Tf.tapewrightref01_Gcd.b1 (fun st κ => hand [.slot 1, .slot 0] [.str, .str] [⟨.exit 0, [.slot 0], [.str]⟩] (Tf.tapewrightref01_Gcd.l1 F) st κ) :=
  loop_ok Go.VI.tyT_ok rfl mix (.cons (Tf.tapewrightref01_Div.ok F) .nil) (Λ := (look [] : Loops)) (LoopsOk.of (bs := []) (by kernel_rfl) .nil) (Tf.tapewrightref01_Gcd.s1_ok F) F
def Tf.tapewrightref01_Gcd.f (F : Nat) (a : (ByteArray × ByteArray)) : Option ByteArray :=
 (Option.bind (Tf.tapewrightref01_Gcd.l1 F (a.2, a.1)) (fun y4 => (some y4)))
theorem Tf.tapewrightref01_Gcd.f_ok (F : Nat) (a) : exec Go.VI.tyT (look [(59, Tf.tapewrightref01_Div.e F)] : Fns) 18 (look [(1, fun st κ => hand [.slot 1, .slot 0] [.str, .str] [⟨.exit 0, [.slot 0], [.str]⟩] (Tf.tapewrightref01_Gcd.l1 F) st κ)] : Loops) Tf.tapewrightref01_Gcd.c (init [.p, .p] (encKs [.str, .str] a)) (finT (look [(59, Tf.tapewrightref01_Div.e F)] : Fns) (⟨[.p, .p], [.p]⟩ : Sig) [4] [.pure] [.str]) = Tf.tapewrightref01_Gcd.f F a := by kernel_rfl
def Tf.tapewrightref01_Gcd.e (F : Nat) : Fn := mkFn (⟨[.p, .p], [.p]⟩ : Sig) [.str, .str] [.pure] [.str] (Tf.tapewrightref01_Gcd.f F)
theorem Tf.tapewrightref01_Gcd.ok (F : Nat) : EntryOk Go.Proofs.Tryz.prog Go.VI.tyT.G 58 (Tf.tapewrightref01_Gcd.e F) :=
  fn_ok Go.VI.tyT_ok rfl mix (.cons (Tf.tapewrightref01_Div.ok F) .nil) (Λ := (look [(1, fun st κ => hand [.slot 1, .slot 0] [.str, .str] [⟨.exit 0, [.slot 0], [.str]⟩] (Tf.tapewrightref01_Gcd.l1 F) st κ)] : Loops)) (fn := Go.Proofs.Tryz.f58) (c := Tf.tapewrightref01_Gcd.c) (LoopsOk.of (bs := [Tf.tapewrightref01_Gcd.b1]) (by kernel_rfl) (.cons rfl (Tf.tapewrightref01_Gcd.l1_ok F) .nil)) (by kernel_rfl) (by kernel_rfl) (by kernel_rfl) (by kernel_rfl) (res1 (by kernel_rfl)) (by decide) (Tf.tapewrightref01_Gcd.f_ok F)
end Go.VI
namespace Go.VI
open Go
noncomputable def Tf.tapewrightref03_Lowest.c : Code := (Go.Proofs.Tryz.f45.body).getD .skip
def Tf.tapewrightref03_Lowest.f (F : Nat) (a : (ByteArray × ByteArray)) : Option (ByteArray × ByteArray) :=
 (Option.bind (Tf.tapewrightref02_Sign.f F a.2) (fun y6 => (bif (decide (y6 < (0 : Int))) then (Option.bind (Tf.tapewrightref02_Neg.f F a.1) (fun y10 => (Option.bind (Tf.tapewrightref02_Neg.f F a.2) (fun y13 => (Option.bind (Tf.tapewrightref02_Size.f F y10) (fun y18 => (Option.bind (Tf.tapewrightref01_Gcd.f F (y18, y13)) (fun y23 => (Option.bind (Tf.tapewrightref01_Div.f F (y18, y23)) (fun y28 => (Option.bind (Tf.tapewrightref01_Div.f F (y13, y23)) (fun y36 => (Option.bind (Tf.tapewrightref02_Sign.f F y10) (fun y43 => (bif (decide (y43 < (0 : Int))) then (bif (Nat.ble (1 + (ByteArray.size y28.1)) 4611686018427387904) then (some (((⟨#[45]⟩ : ByteArray) ++ y28.1), y36.1))
 else none)
 else (some (y28.1, y36.1)))))))))))))))))
 else (Option.bind (Tf.tapewrightref02_Size.f F a.1) (fun y10 => (Option.bind (Tf.tapewrightref01_Gcd.f F (y10, a.2)) (fun y15 => (Option.bind (Tf.tapewrightref01_Div.f F (y10, y15)) (fun y20 => (Option.bind (Tf.tapewrightref01_Div.f F (a.2, y15)) (fun y28 => (Option.bind (Tf.tapewrightref02_Sign.f F a.1) (fun y35 => (bif (decide (y35 < (0 : Int))) then (bif (Nat.ble (1 + (ByteArray.size y20.1)) 4611686018427387904) then (some (((⟨#[45]⟩ : ByteArray) ++ y20.1), y28.1))
 else none)
 else (some (y20.1, y28.1))))))))))))))))
theorem Tf.tapewrightref03_Lowest.f_ok (F : Nat) (a) : exec Go.VI.tyT (look [(55, Tf.tapewrightref02_Size.e F), (56, Tf.tapewrightref02_Sign.e F), (57, Tf.tapewrightref02_Neg.e F), (58, Tf.tapewrightref01_Gcd.e F), (59, Tf.tapewrightref01_Div.e F)] : Fns) 39 (look [] : Loops) Tf.tapewrightref03_Lowest.c (init [.p, .p] (encKs [.str, .str] a)) (finC Go.VI.tyT (look [(55, Tf.tapewrightref02_Size.e F), (56, Tf.tapewrightref02_Sign.e F), (57, Tf.tapewrightref02_Neg.e F), (58, Tf.tapewrightref01_Gcd.e F), (59, Tf.tapewrightref01_Div.e F)] : Fns) 39 4 66 (⟨[.p, .p], [.p]⟩ : Sig) [4] [.pure] [.st [.str, .str]]) = Tf.tapewrightref03_Lowest.f F a := by kernel_rfl
def Tf.tapewrightref03_Lowest.e (F : Nat) : Fn := mkFn (⟨[.p, .p], [.p]⟩ : Sig) [.str, .str] [.pure] [.st [.str, .str]] (Tf.tapewrightref03_Lowest.f F)
theorem Tf.tapewrightref03_Lowest.ok (F : Nat) : EntryOk Go.Proofs.Tryz.prog Go.VI.tyT.G 45 (Tf.tapewrightref03_Lowest.e F) :=
  fn_okC Go.VI.tyT_ok rfl mix (.cons (Tf.tapewrightref02_Size.ok F) (.cons (Tf.tapewrightref02_Sign.ok F) (.cons (Tf.tapewrightref02_Neg.ok F) (.cons (Tf.tapewrightref01_Gcd.ok F) (.cons (Tf.tapewrightref01_Div.ok F) .nil))))) (Λ := (look [] : Loops)) (fn := Go.Proofs.Tryz.f45) (c := Tf.tapewrightref03_Lowest.c) (LoopsOk.of (bs := []) (by kernel_rfl) .nil) (by kernel_rfl) (by kernel_rfl) (by kernel_rfl) (by kernel_rfl) (resC0 (by kernel_rfl)) (by decide) (Tf.tapewrightref03_Lowest.f_ok F)
end Go.VI
namespace Go.VI
open Go
noncomputable def Tf.tapewrightref03_Text.c : Code := (Go.Proofs.Tryz.f46.body).getD .skip
def Tf.tapewrightref03_Text.f (F : Nat) (a : (ByteArray × ByteArray)) : Option ByteArray :=
 (bif (seqB a.2 (⟨#[49]⟩ : ByteArray)) then (some a.1)
 else (bif (Nat.ble ((ByteArray.size a.1) + 1) 4611686018427387904) then (bif (Nat.ble ((ByteArray.size (a.1 ++ (⟨#[47]⟩ : ByteArray))) + (ByteArray.size a.2)) 4611686018427387904) then (some ((a.1 ++ (⟨#[47]⟩ : ByteArray)) ++ a.2))
 else none)
 else none))
theorem Tf.tapewrightref03_Text.f_ok (F : Nat) (a) : exec Go.VI.tyT (look [] : Fns) 14 (look [] : Loops) Tf.tapewrightref03_Text.c (init [.p] (encKs [.st [.str, .str]] a)) (finT (look [] : Fns) (⟨[.p], [.p]⟩ : Sig) [2] [.pure] [.str]) = Tf.tapewrightref03_Text.f F a := by kernel_rfl
def Tf.tapewrightref03_Text.e (F : Nat) : Fn := mkFn (⟨[.p], [.p]⟩ : Sig) [.st [.str, .str]] [.pure] [.str] (Tf.tapewrightref03_Text.f F)
theorem Tf.tapewrightref03_Text.ok (F : Nat) : EntryOk Go.Proofs.Tryz.prog Go.VI.tyT.G 46 (Tf.tapewrightref03_Text.e F) :=
  fn_ok Go.VI.tyT_ok rfl mix .nil (Λ := (look [] : Loops)) (fn := Go.Proofs.Tryz.f46) (c := Tf.tapewrightref03_Text.c) (LoopsOk.of (bs := []) (by kernel_rfl) .nil) (by kernel_rfl) (by kernel_rfl) (by kernel_rfl) (by kernel_rfl) (res1 (by kernel_rfl)) (by decide) (Tf.tapewrightref03_Text.f_ok F)
end Go.VI
namespace Go.VI
open Go
noncomputable def Tf.tapewrightref03_Read.c : Code := (Go.Proofs.Tryz.f30.body).getD .skip
noncomputable def Tf.tapewrightref03_Read.b3 : Code := codeAt [1, 1, 0, 1, 0, 0] Tf.tapewrightref03_Read.c
def Tf.tapewrightref03_Read.s3 (F : Nat) (L : (Int × (ByteArray × (ByteArray × (ByteArray × Int)))) → Option (ByteArray × (ByteArray × (ByteArray × Int)))) (x : (Int × (ByteArray × (ByteArray × (ByteArray × Int))))) : Option (ByteArray × (ByteArray × (ByteArray × Int))) :=
 (bif (decide (x.1 ≥ (0 : Int))) then (bif (inR x.1 (ByteArray.size x.2.1)) then (bif ((byteAt x.2.1 x.1) == (47 : Int)) then (L ((Go.IntKind.wrap IntKind.i64 (x.1 - (1 : Int))), (x.2.1, (x.2.2.1, (x.2.2.2.1, x.1)))))
 else (L ((Go.IntKind.wrap IntKind.i64 (x.1 - (1 : Int))), (x.2.1, (x.2.2.1, (x.2.2.2.1, x.2.2.2.2))))))
 else none)
 else (some (x.2.2.1, (x.2.2.2.1, (x.2.1, x.2.2.2.2)))))
def Tf.tapewrightref03_Read.l3 (F : Nat) : (Int × (ByteArray × (ByteArray × (ByteArray × Int)))) → Option (ByteArray × (ByteArray × (ByteArray × Int))) := iter (Tf.tapewrightref03_Read.s3 F) F
theorem Tf.tapewrightref03_Read.s3_ok (F : Nat) (L a) : exec Go.VI.tyT (look [(43, Tf.tapewrightref02_Right.e F), (44, Tf.tapewrightref01_Right.e F), (45, Tf.tapewrightref03_Lowest.e F), (46, Tf.tapewrightref03_Text.e F)] : Fns) 65 (look [] : Loops) Tf.tapewrightref03_Read.b3 (rebuild [.slot 5, .slot 0, .box 2 [none, none], .slot 4] (encKs [.int .i64, .str, .str, .str, .int .i64] a)) (bodyK [.slot 5, .slot 0, .box 2 [none, none], .slot 4] [.int .i64, .str, .str, .str, .int .i64] [⟨.exit 0, [.box 2 [none, none], .slot 0, .slot 4], [.str, .str, .str, .int .i64]⟩] L) = Tf.tapewrightref03_Read.s3 F L a := by kernel_rfl
theorem Tf.tapewrightref03_Read.l3_ok (F : Nat) : LoopOk Go.Proofs.Tryz.prog Go.VI.tyT.G 65 Tf.tapewrightref03_Read.b3 (fun st κ => hand [.slot 5, .slot 0, .box 2 [none, none], .slot 4] [.int .i64, .str, .str, .str, .int .i64] [⟨.exit 0, [.box 2 [none, none], .slot 0, .slot 4], [.str, .str, .str, .int .i64]⟩] (Tf.tapewrightref03_Read.l3 F) st κ) :=
  loop_ok Go.VI.tyT_ok rfl mix (.cons (Tf.tapewrightref02_Right.ok F) (.cons (Tf.tapewrightref01_Right.ok F) (.cons (Tf.tapewrightref03_Lowest.ok F) (.cons (Tf.tapewrightref03_Text.ok F) .nil)))) (Λ := (look [] : Loops)) (LoopsOk.of (bs := []) (by kernel_rfl) .nil) (Tf.tapewrightref03_Read.s3_ok F) F
def Tf.tapewrightref03_Read.f (F : Nat) (a : ByteArray) : Option ((ByteArray × ByteArray) × Bool) :=
 (Option.bind (Tf.tapewrightref03_Read.l3 F ((Go.IntKind.wrap IntKind.i64 (((ByteArray.size a) : Int) - (1 : Int))), (a, (ByteArray.empty, (ByteArray.empty, ((ByteArray.size a) : Int)))))) (fun y12 => (bif ((decide ((0 : Int) ≤ y12.2.2.2)) && (decide (y12.2.2.2 ≤ ((ByteArray.size y12.2.2.1) : Int)))) then (bif (decide (y12.2.2.2 < ((ByteArray.size y12.2.2.1) : Int))) then (bif ((decide ((0 : Int) ≤ (Go.IntKind.wrap IntKind.i64 (y12.2.2.2 + (1 : Int))))) && (decide ((Go.IntKind.wrap IntKind.i64 (y12.2.2.2 + (1 : Int))) ≤ ((ByteArray.size y12.2.2.1) : Int)))) then (Option.bind (Tf.tapewrightref02_Right.f F (ByteArray.extract y12.2.2.1 0 (Int.toNat y12.2.2.2))) (fun y29 => (bif (!y29) then (some ((ByteArray.empty, ByteArray.empty), Bool.false))
 else (Option.bind (Tf.tapewrightref01_Right.f F (ByteArray.extract y12.2.2.1 (Int.toNat (Go.IntKind.wrap IntKind.i64 (y12.2.2.2 + (1 : Int)))) (ByteArray.size y12.2.2.1))) (fun y34 => (bif (!y34) then (some ((ByteArray.empty, ByteArray.empty), Bool.false))
 else (bif (seqB (ByteArray.extract y12.2.2.1 (Int.toNat (Go.IntKind.wrap IntKind.i64 (y12.2.2.2 + (1 : Int)))) (ByteArray.size y12.2.2.1)) (⟨#[48]⟩ : ByteArray)) then (some ((ByteArray.empty, ByteArray.empty), Bool.false))
 else (bif (decide (y12.2.2.2 < ((ByteArray.size y12.2.2.1) : Int))) then (bif (seqB (ByteArray.extract y12.2.2.1 (Int.toNat (Go.IntKind.wrap IntKind.i64 (y12.2.2.2 + (1 : Int)))) (ByteArray.size y12.2.2.1)) (⟨#[49]⟩ : ByteArray)) then (some ((ByteArray.empty, ByteArray.empty), Bool.false))
 else (Option.bind (Tf.tapewrightref03_Lowest.f F ((ByteArray.extract y12.2.2.1 0 (Int.toNat y12.2.2.2)), (ByteArray.extract y12.2.2.1 (Int.toNat (Go.IntKind.wrap IntKind.i64 (y12.2.2.2 + (1 : Int)))) (ByteArray.size y12.2.2.1)))) (fun y54 => (Option.bind (Tf.tapewrightref03_Text.f F (y54.1, y54.2)) (fun y60 => (some ((y54.1, y54.2), (seqB y60 y12.2.2.1))))))))
 else (Option.bind (Tf.tapewrightref03_Lowest.f F ((ByteArray.extract y12.2.2.1 0 (Int.toNat y12.2.2.2)), (ByteArray.extract y12.2.2.1 (Int.toNat (Go.IntKind.wrap IntKind.i64 (y12.2.2.2 + (1 : Int)))) (ByteArray.size y12.2.2.1)))) (fun y52 => (Option.bind (Tf.tapewrightref03_Text.f F (y52.1, y52.2)) (fun y58 => (some ((y52.1, y52.2), (seqB y58 y12.2.2.1)))))))))))))))
 else none)
 else (Option.bind (Tf.tapewrightref02_Right.f F (ByteArray.extract y12.2.2.1 0 (Int.toNat y12.2.2.2))) (fun y24 => (bif (!y24) then (some ((ByteArray.empty, ByteArray.empty), Bool.false))
 else (Option.bind (Tf.tapewrightref01_Right.f F (⟨#[49]⟩ : ByteArray)) (fun y29 => (bif (!y29) then (some ((ByteArray.empty, ByteArray.empty), Bool.false))
 else (bif (decide (y12.2.2.2 < ((ByteArray.size y12.2.2.1) : Int))) then (some ((ByteArray.empty, ByteArray.empty), Bool.false))
 else (Option.bind (Tf.tapewrightref03_Lowest.f F ((ByteArray.extract y12.2.2.1 0 (Int.toNat y12.2.2.2)), (⟨#[49]⟩ : ByteArray))) (fun y47 => (Option.bind (Tf.tapewrightref03_Text.f F (y47.1, y47.2)) (fun y53 => (some ((y47.1, y47.2), (seqB y53 y12.2.2.1)))))))))))))))
 else none)))
theorem Tf.tapewrightref03_Read.f_ok (F : Nat) (a) : exec Go.VI.tyT (look [(43, Tf.tapewrightref02_Right.e F), (44, Tf.tapewrightref01_Right.e F), (45, Tf.tapewrightref03_Lowest.e F), (46, Tf.tapewrightref03_Text.e F)] : Fns) 65 (look [(3, fun st κ => hand [.slot 5, .slot 0, .box 2 [none, none], .slot 4] [.int .i64, .str, .str, .str, .int .i64] [⟨.exit 0, [.box 2 [none, none], .slot 0, .slot 4], [.str, .str, .str, .int .i64]⟩] (Tf.tapewrightref03_Read.l3 F) st κ)] : Loops) Tf.tapewrightref03_Read.c (init [.p] (encKs [.str] a)) (finC Go.VI.tyT (look [(43, Tf.tapewrightref02_Right.e F), (44, Tf.tapewrightref01_Right.e F), (45, Tf.tapewrightref03_Lowest.e F), (46, Tf.tapewrightref03_Text.e F)] : Fns) 65 2 66 (⟨[.p], [.p, .p]⟩ : Sig) [2, 3] [.pure, .pure] [.st [.str, .str], .bool]) = Tf.tapewrightref03_Read.f F a := by kernel_rfl
def Tf.tapewrightref03_Read.e (F : Nat) : Fn := mkFn (⟨[.p], [.p, .p]⟩ : Sig) [.str] [.pure, .pure] [.st [.str, .str], .bool] (Tf.tapewrightref03_Read.f F)
theorem Tf.tapewrightref03_Read.ok (F : Nat) : EntryOk Go.Proofs.Tryz.prog Go.VI.tyT.G 30 (Tf.tapewrightref03_Read.e F) :=
  fn_okC Go.VI.tyT_ok rfl mix (.cons (Tf.tapewrightref02_Right.ok F) (.cons (Tf.tapewrightref01_Right.ok F) (.cons (Tf.tapewrightref03_Lowest.ok F) (.cons (Tf.tapewrightref03_Text.ok F) .nil)))) (Λ := (look [(3, fun st κ => hand [.slot 5, .slot 0, .box 2 [none, none], .slot 4] [.int .i64, .str, .str, .str, .int .i64] [⟨.exit 0, [.box 2 [none, none], .slot 0, .slot 4], [.str, .str, .str, .int .i64]⟩] (Tf.tapewrightref03_Read.l3 F) st κ)] : Loops)) (fn := Go.Proofs.Tryz.f30) (c := Tf.tapewrightref03_Read.c) (LoopsOk.of (bs := [Tf.tapewrightref03_Read.b3]) (by kernel_rfl) (.cons rfl (Tf.tapewrightref03_Read.l3_ok F) .nil)) (by kernel_rfl) (by kernel_rfl) (by kernel_rfl) (by kernel_rfl) (resC1 (by kernel_rfl) (by kernel_rfl)) (by decide) (Tf.tapewrightref03_Read.f_ok F)
end Go.VI
