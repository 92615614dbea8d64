import Derived.Test.YtffpponklejidaaGreatDoorF0
set_option linter.unusedVariables false
set_option linter.unusedSimpArgs false
namespace Go.VI
open Go
noncomputable def Tf.tapewrightref01_digit.c : Code := (Go.Proofs.Tryz.f161.body).getD .skip
def Tf.tapewrightref01_digit.f (F : Nat) (a : (ByteArray × Int)) : Option Int :=
 (bif (decide (a.2 ≥ ((ByteArray.size a.1) : Int))) then (some (0 : Int))
 else (bif (inR (Go.IntKind.wrap IntKind.i64 ((Go.IntKind.wrap IntKind.i64 (((ByteArray.size a.1) : Int) - (1 : Int))) - a.2)) (ByteArray.size a.1)) then (some (Go.IntKind.wrap IntKind.i64 (Go.IntKind.wrap IntKind.u8 ((byteAt a.1 (Go.IntKind.wrap IntKind.i64 ((Go.IntKind.wrap IntKind.i64 (((ByteArray.size a.1) : Int) - (1 : Int))) - a.2))) - (48 : Int)))))
 else none))
theorem Tf.tapewrightref01_digit.f_ok (F : Nat) (a) : exec Go.VI.tyT (look [] : Fns) 18 (look [] : Loops) Tf.tapewrightref01_digit.c (init [.p, .p] (encKs [.str, .int .i64] a)) (finT (look [] : Fns) (⟨[.p, .p], [.p]⟩ : Sig) [4] [.pure] [.int .i64]) = Tf.tapewrightref01_digit.f F a := by kernel_rfl
def Tf.tapewrightref01_digit.e (F : Nat) : Fn := mkFn (⟨[.p, .p], [.p]⟩ : Sig) [.str, .int .i64] [.pure] [.int .i64] (Tf.tapewrightref01_digit.f F)
theorem Tf.tapewrightref01_digit.ok (F : Nat) : EntryOk Go.Proofs.Tryz.prog Go.VI.tyT.G 161 (Tf.tapewrightref01_digit.e F) :=
  fn_ok Go.VI.tyT_ok rfl mix .nil (Λ := (look [] : Loops)) (fn := Go.Proofs.Tryz.f161) (c := Tf.tapewrightref01_digit.c) (LoopsOk.of (bs := []) (by kernel_rfl) .nil) (by kernel_rfl) (by kernel_rfl) (by kernel_rfl) (by kernel_rfl) (res1 (by kernel_rfl)) (by decide) (Tf.tapewrightref01_digit.f_ok F)
end Go.VI
namespace Go.VI
open Go
noncomputable def Tf.tapewrightref01_of.c : Code := (Go.Proofs.Tryz.f162.body).getD .skip
noncomputable def Tf.tapewrightref01_of.b3 : Code := codeAt [1, 1, 0, 1, 0, 0] Tf.tapewrightref01_of.c
def Tf.tapewrightref01_of.s3 (F : Nat) (L : (Int × ((List Int) × (List Int))) → Option (List Int)) (x : (Int × ((List Int) × (List Int)))) : Option (List Int) :=
 (bif (decide (x.1 ≥ (0 : Int))) then (bif (inR x.1 (List.length x.2.1)) then (bif (Nat.ble ((List.length x.2.2) + 1) 1099511627776) then (L ((Go.IntKind.wrap IntKind.i64 (x.1 - (1 : Int))), (x.2.1, (x.2.2 ++ (List.set (List.replicate 1 (0 : Int)) 0 (Go.IntKind.wrap IntKind.u8 (Go.IntKind.wrap IntKind.i64 ((48 : Int) + (List.getD x.2.1 (Int.toNat x.1) (0 : Int))))))))))
 else none)
 else none)
 else (some x.2.2))
def Tf.tapewrightref01_of.l3 (F : Nat) : (Int × ((List Int) × (List Int))) → Option (List Int) := iter (Tf.tapewrightref01_of.s3 F) F
theorem Tf.tapewrightref01_of.s3_ok (F : Nat) (L a) : exec Go.VI.tyT (look [(128, Tf.tapewrightref01_Plain.e F)] : Fns) 24 (look [] : Loops) Tf.tapewrightref01_of.b3 (rebuild [.slot 4, .view 0 0, .own 3 1] (encKs [.int .i64, .sl 0, .sl 1] a)) (bodyK [.slot 4, .view 0 0, .own 3 1] [.int .i64, .sl 0, .sl 1] [⟨.exit 0, [.own 3 1], [.sl 1]⟩] L) = Tf.tapewrightref01_of.s3 F L a := by kernel_rfl
theorem Tf.tapewrightref01_of.l3_ok (F : Nat) : LoopOk Go.Proofs.Tryz.prog Go.VI.tyT.G 24 Tf.tapewrightref01_of.b3 (fun st κ => hand [.slot 4, .view 0 0, .own 3 1] [.int .i64, .sl 0, .sl 1] [⟨.exit 0, [.own 3 1], [.sl 1]⟩] (Tf.tapewrightref01_of.l3 F) st κ) :=
  loop_ok Go.VI.tyT_ok rfl mix (.cons (Tf.tapewrightref01_Plain.ok F) .nil) (Λ := (look [] : Loops)) (LoopsOk.of (bs := []) (by kernel_rfl) .nil) (Tf.tapewrightref01_of.s3_ok F) F
def Tf.tapewrightref01_of.f (F : Nat) (a : (List Int)) : Option ByteArray :=
 (Option.bind (Tf.tapewrightref01_of.l3 F ((Go.IntKind.wrap IntKind.i64 (((List.length a) : Int) - (1 : Int))), (a, ([] : List Int)))) (fun y9 => (Option.bind (Tf.tapewrightref01_Plain.f F (strOf y9)) (fun y13 => (some y13)))))
theorem Tf.tapewrightref01_of.f_ok (F : Nat) (a) : exec Go.VI.tyT (look [(128, Tf.tapewrightref01_Plain.e F)] : Fns) 24 (look [(3, fun st κ => hand [.slot 4, .view 0 0, .own 3 1] [.int .i64, .sl 0, .sl 1] [⟨.exit 0, [.own 3 1], [.sl 1]⟩] (Tf.tapewrightref01_of.l3 F) st κ)] : Loops) Tf.tapewrightref01_of.c (init [.v 0] (encKs [.sl 0] a)) (finT (look [(128, Tf.tapewrightref01_Plain.e F)] : Fns) (⟨[.v 0], [.p]⟩ : Sig) [2] [.pure] [.str]) = Tf.tapewrightref01_of.f F a := by kernel_rfl
def Tf.tapewrightref01_of.e (F : Nat) : Fn := mkFn (⟨[.v 0], [.p]⟩ : Sig) [.sl 0] [.pure] [.str] (Tf.tapewrightref01_of.f F)
theorem Tf.tapewrightref01_of.ok (F : Nat) : EntryOk Go.Proofs.Tryz.prog Go.VI.tyT.G 162 (Tf.tapewrightref01_of.e F) :=
  fn_ok Go.VI.tyT_ok rfl mix (.cons (Tf.tapewrightref01_Plain.ok F) .nil) (Λ := (look [(3, fun st κ => hand [.slot 4, .view 0 0, .own 3 1] [.int .i64, .sl 0, .sl 1] [⟨.exit 0, [.own 3 1], [.sl 1]⟩] (Tf.tapewrightref01_of.l3 F) st κ)] : Loops)) (fn := Go.Proofs.Tryz.f162) (c := Tf.tapewrightref01_of.c) (LoopsOk.of (bs := [Tf.tapewrightref01_of.b3]) (by kernel_rfl) (.cons rfl (Tf.tapewrightref01_of.l3_ok F) .nil)) (by kernel_rfl) (by kernel_rfl) (by kernel_rfl) (by kernel_rfl) (res1 (by kernel_rfl)) (by decide) (Tf.tapewrightref01_of.f_ok F)
end Go.VI
namespace Go.VI
open Go
noncomputable def Tf.tapewrightref01_Sub.c : Code := (Go.Proofs.Tryz.f130.body).getD .skip
noncomputable def Tf.tapewrightref01_Sub.b4 : Code := codeAt [1, 1, 1, 0, 1, 0, 0] Tf.tapewrightref01_Sub.c
def Tf.tapewrightref01_Sub.s4 (F : Nat) (L : (Int × ((List Int) × (Int × (ByteArray × ByteArray)))) → Option (List Int)) (x : (Int × ((List Int) × (Int × (ByteArray × ByteArray))))) : Option (List Int) :=
 (bif (decide (x.1 < ((ByteArray.size x.2.2.2.2) : Int))) then (Option.bind (Tf.tapewrightref01_digit.f F (x.2.2.2.2, x.1)) (fun y15 => (Option.bind (Tf.tapewrightref01_digit.f F (x.2.2.2.1, x.1)) (fun y19 => (bif (decide ((Go.IntKind.wrap IntKind.i64 ((Go.IntKind.wrap IntKind.i64 (y15 - y19)) - x.2.2.1)) < (0 : Int))) then (bif (Nat.ble ((List.length x.2.1) + 1) 1099511627776) then (L ((Go.IntKind.wrap IntKind.i64 (x.1 + (1 : Int))), ((x.2.1 ++ (List.set (List.replicate 1 (0 : Int)) 0 (Go.IntKind.wrap IntKind.i64 ((Go.IntKind.wrap IntKind.i64 ((Go.IntKind.wrap IntKind.i64 (y15 - y19)) - x.2.2.1)) + (10 : Int))))), ((1 : Int), (x.2.2.2.1, x.2.2.2.2)))))
 else none)
 else (bif (Nat.ble ((List.length x.2.1) + 1) 1099511627776) then (L ((Go.IntKind.wrap IntKind.i64 (x.1 + (1 : Int))), ((x.2.1 ++ (List.set (List.replicate 1 (0 : Int)) 0 (Go.IntKind.wrap IntKind.i64 ((Go.IntKind.wrap IntKind.i64 (y15 - y19)) - x.2.2.1)))), ((0 : Int), (x.2.2.2.1, x.2.2.2.2)))))
 else none))))))
 else (some x.2.1))
def Tf.tapewrightref01_Sub.l4 (F : Nat) : (Int × ((List Int) × (Int × (ByteArray × ByteArray)))) → Option (List Int) := iter (Tf.tapewrightref01_Sub.s4 F) F
theorem Tf.tapewrightref01_Sub.s4_ok (F : Nat) (L a) : exec Go.VI.tyT (look [(161, Tf.tapewrightref01_digit.e F), (162, Tf.tapewrightref01_of.e F)] : Fns) 34 (look [] : Loops) Tf.tapewrightref01_Sub.b4 (rebuild [.slot 7, .own 5 0, .slot 6, .slot 1, .slot 0] (encKs [.int .i64, .sl 0, .int .i64, .str, .str] a)) (bodyK [.slot 7, .own 5 0, .slot 6, .slot 1, .slot 0] [.int .i64, .sl 0, .int .i64, .str, .str] [⟨.exit 0, [.own 5 0], [.sl 0]⟩] L) = Tf.tapewrightref01_Sub.s4 F L a := by kernel_rfl
theorem Tf.tapewrightref01_Sub.l4_ok (F : Nat) : LoopOk Go.Proofs.Tryz.prog Go.VI.tyT.G 34 Tf.tapewrightref01_Sub.b4 (fun st κ => hand [.slot 7, .own 5 0, .slot 6, .slot 1, .slot 0] [.int .i64, .sl 0, .int .i64, .str, .str] [⟨.exit 0, [.own 5 0], [.sl 0]⟩] (Tf.tapewrightref01_Sub.l4 F) st κ) :=
  loop_ok Go.VI.tyT_ok rfl mix (.cons (Tf.tapewrightref01_digit.ok F) (.cons (Tf.tapewrightref01_of.ok F) .nil)) (Λ := (look [] : Loops)) (LoopsOk.of (bs := []) (by kernel_rfl) .nil) (Tf.tapewrightref01_Sub.s4_ok F) F
def Tf.tapewrightref01_Sub.f (F : Nat) (a : (ByteArray × ByteArray)) : Option ByteArray :=
 (Option.bind (Tf.tapewrightref01_Sub.l4 F ((0 : Int), (([] : List Int), ((0 : Int), (a.2, a.1))))) (fun y7 => (Option.bind (Tf.tapewrightref01_of.f F y7) (fun y10 => (some y10)))))
theorem Tf.tapewrightref01_Sub.f_ok (F : Nat) (a) : exec Go.VI.tyT (look [(161, Tf.tapewrightref01_digit.e F), (162, Tf.tapewrightref01_of.e F)] : Fns) 34 (look [(4, fun st κ => hand [.slot 7, .own 5 0, .slot 6, .slot 1, .slot 0] [.int .i64, .sl 0, .int .i64, .str, .str] [⟨.exit 0, [.own 5 0], [.sl 0]⟩] (Tf.tapewrightref01_Sub.l4 F) st κ)] : Loops) Tf.tapewrightref01_Sub.c (init [.p, .p] (encKs [.str, .str] a)) (finT (look [(161, Tf.tapewrightref01_digit.e F), (162, Tf.tapewrightref01_of.e F)] : Fns) (⟨[.p, .p], [.p]⟩ : Sig) [4] [.pure] [.str]) = Tf.tapewrightref01_Sub.f F a := by kernel_rfl
def Tf.tapewrightref01_Sub.e (F : Nat) : Fn := mkFn (⟨[.p, .p], [.p]⟩ : Sig) [.str, .str] [.pure] [.str] (Tf.tapewrightref01_Sub.f F)
theorem Tf.tapewrightref01_Sub.ok (F : Nat) : EntryOk Go.Proofs.Tryz.prog Go.VI.tyT.G 130 (Tf.tapewrightref01_Sub.e F) :=
  fn_ok Go.VI.tyT_ok rfl mix (.cons (Tf.tapewrightref01_digit.ok F) (.cons (Tf.tapewrightref01_of.ok F) .nil)) (Λ := (look [(4, fun st κ => hand [.slot 7, .own 5 0, .slot 6, .slot 1, .slot 0] [.int .i64, .sl 0, .int .i64, .str, .str] [⟨.exit 0, [.own 5 0], [.sl 0]⟩] (Tf.tapewrightref01_Sub.l4 F) st κ)] : Loops)) (fn := Go.Proofs.Tryz.f130) (c := Tf.tapewrightref01_Sub.c) (LoopsOk.of (bs := [Tf.tapewrightref01_Sub.b4]) (by kernel_rfl) (.cons rfl (Tf.tapewrightref01_Sub.l4_ok F) .nil)) (by kernel_rfl) (by kernel_rfl) (by kernel_rfl) (by kernel_rfl) (res1 (by kernel_rfl)) (by decide) (Tf.tapewrightref01_Sub.f_ok F)
end Go.VI
namespace Go.VI
open Go
noncomputable def Tf.tapewrightref01_Div.c : Code := (Go.Proofs.Tryz.f103.body).getD .skip
noncomputable def Tf.tapewrightref01_Div.b7 : Code := codeAt [1, 1, 0, 1, 0, 0, 1, 0, 0, 1, 1, 0, 0, 0] Tf.tapewrightref01_Div.c
def Tf.tapewrightref01_Div.s7 (F : Nat) (L : (Int × (ByteArray × (ByteArray × (ByteArray × (Int × ByteArray))))) → Option (ByteArray × (ByteArray × (ByteArray × (Int × (Int × ByteArray)))))) (x : (Int × (ByteArray × (ByteArray × (ByteArray × (Int × ByteArray)))))) : Option (ByteArray × (ByteArray × (ByteArray × (Int × (Int × ByteArray))))) :=
 (Option.bind (Tf.tapewrightref01_Compare.f F (x.2.2.1, x.2.1)) (fun y29 => (bif (decide (y29 ≥ (0 : Int))) then (Option.bind (Tf.tapewrightref01_Sub.f F (x.2.2.1, x.2.1)) (fun y34 => (L ((Go.IntKind.wrap IntKind.i64 (x.1 + (1 : Int))), (x.2.1, (y34, (x.2.2.2.1, (x.2.2.2.2.1, x.2.2.2.2.2))))))))
 else (some (x.2.1, (x.2.2.2.1, (x.2.2.1, (x.2.2.2.2.1, (x.1, x.2.2.2.2.2)))))))))
def Tf.tapewrightref01_Div.l7 (F : Nat) : (Int × (ByteArray × (ByteArray × (ByteArray × (Int × ByteArray))))) → Option (ByteArray × (ByteArray × (ByteArray × (Int × (Int × ByteArray))))) := iter (Tf.tapewrightref01_Div.s7 F) F
theorem Tf.tapewrightref01_Div.s7_ok (F : Nat) (L a) : exec Go.VI.tyT (look [(128, Tf.tapewrightref01_Plain.e F), (129, Tf.tapewrightref01_Compare.e F), (130, Tf.tapewrightref01_Sub.e F)] : Fns) 43 (look [] : Loops) Tf.tapewrightref01_Div.b7 (rebuild [.slot 9, .slot 1, .slot 7, .slot 0, .slot 8, .slot 6] (encKs [.int .i64, .str, .str, .str, .int .i64, .str] a)) (bodyK [.slot 9, .slot 1, .slot 7, .slot 0, .slot 8, .slot 6] [.int .i64, .str, .str, .str, .int .i64, .str] [⟨.exit 2, [.slot 1, .slot 0, .slot 7, .slot 8, .slot 9, .slot 6], [.str, .str, .str, .int .i64, .int .i64, .str]⟩] L) = Tf.tapewrightref01_Div.s7 F L a := by kernel_rfl
theorem Tf.tapewrightref01_Div.l7_ok (F : Nat) : LoopOk Go.Proofs.Tryz.prog Go.VI.tyT.G 43 Tf.tapewrightref01_Div.b7 (fun st κ => hand [.slot 9, .slot 1, .slot 7, .slot 0, .slot 8, .slot 6] [.int .i64, .str, .str, .str, .int .i64, .str] [⟨.exit 2, [.slot 1, .slot 0, .slot 7, .slot 8, .slot 9, .slot 6], [.str, .str, .str, .int .i64, .int .i64, .str]⟩] (Tf.tapewrightref01_Div.l7 F) st κ) :=
  loop_ok Go.VI.tyT_ok rfl mix (.cons (Tf.tapewrightref01_Plain.ok F) (.cons (Tf.tapewrightref01_Compare.ok F) (.cons (Tf.tapewrightref01_Sub.ok F) .nil))) (Λ := (look [] : Loops)) (LoopsOk.of (bs := []) (by kernel_rfl) .nil) (Tf.tapewrightref01_Div.s7_ok F) F
noncomputable def Tf.tapewrightref01_Div.b3 : Code := codeAt [1, 1, 0, 1, 0, 0] Tf.tapewrightref01_Div.c
def Tf.tapewrightref01_Div.s3 (F : Nat) (L : (ByteArray × (Int × (ByteArray × (ByteArray × ByteArray)))) → Option (ByteArray × ByteArray)) (x : (ByteArray × (Int × (ByteArray × (ByteArray × ByteArray))))) : Option (ByteArray × ByteArray) :=
 (bif (decide (x.2.1 < ((ByteArray.size x.2.2.2.1) : Int))) then (bif ((decide ((0 : Int) ≤ (Go.IntKind.wrap IntKind.i64 (x.2.1 + (1 : Int))))) && (decide ((Go.IntKind.wrap IntKind.i64 (x.2.1 + (1 : Int))) ≤ ((ByteArray.size x.2.2.2.1) : Int)))) then (bif ((decide ((0 : Int) ≤ x.2.1)) && (decide (x.2.1 ≤ ((Int.toNat (Go.IntKind.wrap IntKind.i64 (x.2.1 + (1 : Int)))) : Int)))) then (bif (Nat.ble ((ByteArray.size x.2.2.2.2) + (ByteArray.size (ByteArray.extract x.2.2.2.1 (Int.toNat x.2.1) (Int.toNat (Go.IntKind.wrap IntKind.i64 (x.2.1 + (1 : Int))))))) 4611686018427387904) then (Option.bind (Tf.tapewrightref01_Plain.f F (x.2.2.2.2 ++ (ByteArray.extract x.2.2.2.1 (Int.toNat x.2.1) (Int.toNat (Go.IntKind.wrap IntKind.i64 (x.2.1 + (1 : Int))))))) (fun y21 => (Option.bind (Tf.tapewrightref01_Div.l7 F ((0 : Int), (x.1, (y21, (x.2.2.2.1, (x.2.1, x.2.2.1)))))) (fun y24 => (bif (Nat.ble ((ByteArray.size y24.2.2.2.2.2) + (ByteArray.size (strOf (List.set (List.replicate 1 (0 : Int)) 0 (Go.IntKind.wrap IntKind.u8 (Go.IntKind.wrap IntKind.i64 ((48 : Int) + y24.2.2.2.2.1))))))) 4611686018427387904) then (L (y24.1, ((Go.IntKind.wrap IntKind.i64 (y24.2.2.2.1 + (1 : Int))), ((y24.2.2.2.2.2 ++ (strOf (List.set (List.replicate 1 (0 : Int)) 0 (Go.IntKind.wrap IntKind.u8 (Go.IntKind.wrap IntKind.i64 ((48 : Int) + y24.2.2.2.2.1)))))), (y24.2.1, y24.2.2.1)))))
 else none)))))
 else none)
 else none)
 else none)
 else (some (x.2.2.2.2, x.2.2.1)))
def Tf.tapewrightref01_Div.l3 (F : Nat) : (ByteArray × (Int × (ByteArray × (ByteArray × ByteArray)))) → Option (ByteArray × ByteArray) := iter (Tf.tapewrightref01_Div.s3 F) F
theorem Tf.tapewrightref01_Div.s3_ok (F : Nat) (L a) : exec Go.VI.tyT (look [(128, Tf.tapewrightref01_Plain.e F), (129, Tf.tapewrightref01_Compare.e F), (130, Tf.tapewrightref01_Sub.e F)] : Fns) 43 (look [(7, fun st κ => hand [.slot 9, .slot 1, .slot 7, .slot 0, .slot 8, .slot 6] [.int .i64, .str, .str, .str, .int .i64, .str] [⟨.exit 2, [.slot 1, .slot 0, .slot 7, .slot 8, .slot 9, .slot 6], [.str, .str, .str, .int .i64, .int .i64, .str]⟩] (Tf.tapewrightref01_Div.l7 F) st κ)] : Loops) Tf.tapewrightref01_Div.b3 (rebuild [.slot 1, .slot 8, .slot 6, .slot 0, .slot 7] (encKs [.str, .int .i64, .str, .str, .str] a)) (bodyK [.slot 1, .slot 8, .slot 6, .slot 0, .slot 7] [.str, .int .i64, .str, .str, .str] [⟨.exit 0, [.slot 7, .slot 6], [.str, .str]⟩] L) = Tf.tapewrightref01_Div.s3 F L a := by kernel_rfl
theorem Tf.tapewrightref01_Div.l3_ok (F : Nat) : LoopOk Go.Proofs.Tryz.prog Go.VI.tyT.G 43 Tf.tapewrightref01_Div.b3 (fun st κ => hand [.slot 1, .slot 8, .slot 6, .slot 0, .slot 7] [.str, .int .i64, .str, .str, .str] [⟨.exit 0, [.slot 7, .slot 6], [.str, .str]⟩] (Tf.tapewrightref01_Div.l3 F) st κ) :=
  loop_ok Go.VI.tyT_ok rfl mix (.cons (Tf.tapewrightref01_Plain.ok F) (.cons (Tf.tapewrightref01_Compare.ok F) (.cons (Tf.tapewrightref01_Sub.ok F) .nil))) (Λ := (look [(7, fun st κ => hand [.slot 9, .slot 1, .slot 7, .slot 0, .slot 8, .slot 6] [.int .i64, .str, .str, .str, .int .i64, .str] [⟨.exit 2, [.slot 1, .slot 0, .slot 7, .slot 8, .slot 9, .slot 6], [.str, .str, .str, .int .i64, .int .i64, .str]⟩] (Tf.tapewrightref01_Div.l7 F) st κ)] : Loops)) (LoopsOk.of (bs := [Tf.tapewrightref01_Div.b7]) (by kernel_rfl) (.cons rfl (Tf.tapewrightref01_Div.l7_ok F) .nil)) (Tf.tapewrightref01_Div.s3_ok F) F
def Tf.tapewrightref01_Div.f (F : Nat) (a : (ByteArray × ByteArray)) : Option (ByteArray × ByteArray) :=
 (Option.bind (Tf.tapewrightref01_Div.l3 F (a.2, ((0 : Int), ((⟨#[]⟩ : ByteArray), (a.1, (⟨#[48]⟩ : ByteArray)))))) (fun y8 => (Option.bind (Tf.tapewrightref01_Plain.f F y8.2) (fun y11 => (some (y11, y8.1))))))
theorem Tf.tapewrightref01_Div.f_ok (F : Nat) (a) : exec Go.VI.tyT (look [(128, Tf.tapewrightref01_Plain.e F), (129, Tf.tapewrightref01_Compare.e F), (130, Tf.tapewrightref01_Sub.e F)] : Fns) 43 (look [(3, fun st κ => hand [.slot 1, .slot 8, .slot 6, .slot 0, .slot 7] [.str, .int .i64, .str, .str, .str] [⟨.exit 0, [.slot 7, .slot 6], [.str, .str]⟩] (Tf.tapewrightref01_Div.l3 F) st κ)] : Loops) Tf.tapewrightref01_Div.c (init [.p, .p] (encKs [.str, .str] a)) (finT (look [(128, Tf.tapewrightref01_Plain.e F), (129, Tf.tapewrightref01_Compare.e F), (130, Tf.tapewrightref01_Sub.e F)] : Fns) (⟨[.p, .p], [.p, .p]⟩ : Sig) [4, 5] [.pure, .pure] [.str, .str]) = Tf.tapewrightref01_Div.f F a := by kernel_rfl
def Tf.tapewrightref01_Div.e (F : Nat) : Fn := mkFn (⟨[.p, .p], [.p, .p]⟩ : Sig) [.str, .str] [.pure, .pure] [.str, .str] (Tf.tapewrightref01_Div.f F)
theorem Tf.tapewrightref01_Div.ok (F : Nat) : EntryOk Go.Proofs.Tryz.prog Go.VI.tyT.G 103 (Tf.tapewrightref01_Div.e F) :=
  fn_ok Go.VI.tyT_ok rfl mix (.cons (Tf.tapewrightref01_Plain.ok F) (.cons (Tf.tapewrightref01_Compare.ok F) (.cons (Tf.tapewrightref01_Sub.ok F) .nil))) (Λ := (look [(3, fun st κ => hand [.slot 1, .slot 8, .slot 6, .slot 0, .slot 7] [.str, .int .i64, .str, .str, .str] [⟨.exit 0, [.slot 7, .slot 6], [.str, .str]⟩] (Tf.tapewrightref01_Div.l3 F) st κ)] : Loops)) (fn := Go.Proofs.Tryz.f103) (c := Tf.tapewrightref01_Div.c) (LoopsOk.of (bs := [Tf.tapewrightref01_Div.b3]) (by kernel_rfl) (.cons rfl (Tf.tapewrightref01_Div.l3_ok F) .nil)) (by kernel_rfl) (by kernel_rfl) (by kernel_rfl) (by kernel_rfl) (res2 (by kernel_rfl)) (by decide) (Tf.tapewrightref01_Div.f_ok F)
end Go.VI
namespace Go.VI
open Go
noncomputable def Tf.tapewrightref01_Gcd.c : Code := (Go.Proofs.Tryz.f102.body).getD .skip
noncomputable def Tf.tapewrightref01_Gcd.b1 : Code := codeAt [1, 0, 0, 0] Tf.tapewrightref01_Gcd.c
def Tf.tapewrightref01_Gcd.s1 (F : Nat) (L : (ByteArray × ByteArray) → Option ByteArray) (x : (ByteArray × ByteArray)) : Option ByteArray :=
 (bif (!(seqB x.1 (⟨#[48]⟩ : ByteArray))) then (Option.bind (Tf.tapewrightref01_Div.f F (x.2, x.1)) (fun y10 => (L (y10.2, x.1))))
 else (some x.2))
def Tf.tapewrightref01_Gcd.l1 (F : Nat) : (ByteArray × ByteArray) → Option ByteArray := iter (Tf.tapewrightref01_Gcd.s1 F) F
theorem Tf.tapewrightref01_Gcd.s1_ok (F : Nat) (L a) : exec Go.VI.tyT (look [(103, Tf.tapewrightref01_Div.e F)] : Fns) 18 (look [] : Loops) Tf.tapewrightref01_Gcd.b1 (rebuild [.slot 1, .slot 0] (encKs [.str, .str] a)) (bodyK [.slot 1, .slot 0] [.str, .str] [⟨.exit 0, [.slot 0], [.str]⟩] L) = Tf.tapewrightref01_Gcd.s1 F L a := by kernel_rfl
theorem Tf.tapewrightref01_Gcd.l1_ok (F : Nat) : LoopOk Go.Proofs.Tryz.prog Go.VI.tyT.G 18 Tf.tapewrightref01_Gcd.b1 (fun st κ => hand [.slot 1, .slot 0] [.str, .str] [⟨.exit 0, [.slot 0], [.str]⟩] (Tf.tapewrightref01_Gcd.l1 F) st κ) :=
  loop_ok Go.VI.tyT_ok rfl mix (.cons (Tf.tapewrightref01_Div.ok F) .nil) (Λ := (look [] : Loops)) (LoopsOk.of (bs := []) (by kernel_rfl) .nil) (Tf.tapewrightref01_Gcd.s1_ok F) F
def Tf.tapewrightref01_Gcd.f (F : Nat) (a : (ByteArray × ByteArray)) : Option ByteArray :=
 (Option.bind (Tf.tapewrightref01_Gcd.l1 F (a.2, a.1)) (fun y4 => (some y4)))
theorem Tf.tapewrightref01_Gcd.f_ok (F : Nat) (a) : exec Go.VI.tyT (look [(103, Tf.tapewrightref01_Div.e F)] : Fns) 18 (look [(1, fun st κ => hand [.slot 1, .slot 0] [.str, .str] [⟨.exit 0, [.slot 0], [.str]⟩] (Tf.tapewrightref01_Gcd.l1 F) st κ)] : Loops) Tf.tapewrightref01_Gcd.c (init [.p, .p] (encKs [.str, .str] a)) (finT (look [(103, Tf.tapewrightref01_Div.e F)] : Fns) (⟨[.p, .p], [.p]⟩ : Sig) [4] [.pure] [.str]) = Tf.tapewrightref01_Gcd.f F a := by kernel_rfl
def Tf.tapewrightref01_Gcd.e (F : Nat) : Fn := mkFn (⟨[.p, .p], [.p]⟩ : Sig) [.str, .str] [.pure] [.str] (Tf.tapewrightref01_Gcd.f F)
theorem Tf.tapewrightref01_Gcd.ok (F : Nat) : EntryOk Go.Proofs.Tryz.prog Go.VI.tyT.G 102 (Tf.tapewrightref01_Gcd.e F) :=
  fn_ok Go.VI.tyT_ok rfl mix (.cons (Tf.tapewrightref01_Div.ok F) .nil) (Λ := (look [(1, fun st κ => hand [.slot 1, .slot 0] [.str, .str] [⟨.exit 0, [.slot 0], [.str]⟩] (Tf.tapewrightref01_Gcd.l1 F) st κ)] : Loops)) (fn := Go.Proofs.Tryz.f102) (c := Tf.tapewrightref01_Gcd.c) (LoopsOk.of (bs := [Tf.tapewrightref01_Gcd.b1]) (by kernel_rfl) (.cons rfl (Tf.tapewrightref01_Gcd.l1_ok F) .nil)) (by kernel_rfl) (by kernel_rfl) (by kernel_rfl) (by kernel_rfl) (res1 (by kernel_rfl)) (by decide) (Tf.tapewrightref01_Gcd.f_ok F)
end Go.VI
namespace Go.VI
open Go
noncomputable def Tf.tapewrightref03_Lowest.c : Code := (Go.Proofs.Tryz.f86.body).getD .skip
def Tf.tapewrightref03_Lowest.f (F : Nat) (a : (ByteArray × ByteArray)) : Option (ByteArray × ByteArray) :=
 (Option.bind (Tf.tapewrightref02_Sign.f F a.2) (fun y6 => (bif (decide (y6 < (0 : Int))) then (Option.bind (Tf.tapewrightref02_Neg.f F a.1) (fun y10 => (Option.bind (Tf.tapewrightref02_Neg.f F a.2) (fun y13 => (Option.bind (Tf.tapewrightref02_Size.f F y10) (fun y18 => (Option.bind (Tf.tapewrightref01_Gcd.f F (y18, y13)) (fun y23 => (Option.bind (Tf.tapewrightref01_Div.f F (y18, y23)) (fun y28 => (Option.bind (Tf.tapewrightref01_Div.f F (y13, y23)) (fun y36 => (Option.bind (Tf.tapewrightref02_Sign.f F y10) (fun y43 => (bif (decide (y43 < (0 : Int))) then (bif (Nat.ble (1 + (ByteArray.size y28.1)) 4611686018427387904) then (some (((⟨#[45]⟩ : ByteArray) ++ y28.1), y36.1))
 else none)
 else (some (y28.1, y36.1)))))))))))))))))
 else (Option.bind (Tf.tapewrightref02_Size.f F a.1) (fun y10 => (Option.bind (Tf.tapewrightref01_Gcd.f F (y10, a.2)) (fun y15 => (Option.bind (Tf.tapewrightref01_Div.f F (y10, y15)) (fun y20 => (Option.bind (Tf.tapewrightref01_Div.f F (a.2, y15)) (fun y28 => (Option.bind (Tf.tapewrightref02_Sign.f F a.1) (fun y35 => (bif (decide (y35 < (0 : Int))) then (bif (Nat.ble (1 + (ByteArray.size y20.1)) 4611686018427387904) then (some (((⟨#[45]⟩ : ByteArray) ++ y20.1), y28.1))
 else none)
 else (some (y20.1, y28.1))))))))))))))))
theorem Tf.tapewrightref03_Lowest.f_ok (F : Nat) (a) : exec Go.VI.tyT (look [(99, Tf.tapewrightref02_Size.e F), (100, Tf.tapewrightref02_Sign.e F), (101, Tf.tapewrightref02_Neg.e F), (102, Tf.tapewrightref01_Gcd.e F), (103, Tf.tapewrightref01_Div.e F)] : Fns) 39 (look [] : Loops) Tf.tapewrightref03_Lowest.c (init [.p, .p] (encKs [.str, .str] a)) (finC Go.VI.tyT (look [(99, Tf.tapewrightref02_Size.e F), (100, Tf.tapewrightref02_Sign.e F), (101, Tf.tapewrightref02_Neg.e F), (102, Tf.tapewrightref01_Gcd.e F), (103, Tf.tapewrightref01_Div.e F)] : Fns) 39 4 98 (⟨[.p, .p], [.p]⟩ : Sig) [4] [.pure] [.st [.str, .str]]) = Tf.tapewrightref03_Lowest.f F a := by kernel_rfl
def Tf.tapewrightref03_Lowest.e (F : Nat) : Fn := mkFn (⟨[.p, .p], [.p]⟩ : Sig) [.str, .str] [.pure] [.st [.str, .str]] (Tf.tapewrightref03_Lowest.f F)
theorem Tf.tapewrightref03_Lowest.ok (F : Nat) : EntryOk Go.Proofs.Tryz.prog Go.VI.tyT.G 86 (Tf.tapewrightref03_Lowest.e F) :=
  fn_okC Go.VI.tyT_ok rfl mix (.cons (Tf.tapewrightref02_Size.ok F) (.cons (Tf.tapewrightref02_Sign.ok F) (.cons (Tf.tapewrightref02_Neg.ok F) (.cons (Tf.tapewrightref01_Gcd.ok F) (.cons (Tf.tapewrightref01_Div.ok F) .nil))))) (Λ := (look [] : Loops)) (fn := Go.Proofs.Tryz.f86) (c := Tf.tapewrightref03_Lowest.c) (LoopsOk.of (bs := []) (by kernel_rfl) .nil) (by kernel_rfl) (by kernel_rfl) (by kernel_rfl) (by kernel_rfl) (resC0 (by kernel_rfl)) (by decide) (Tf.tapewrightref03_Lowest.f_ok F)
end Go.VI
namespace Go.VI
open Go
noncomputable def Tf.tapewrightref03_Text.c : Code := (Go.Proofs.Tryz.f87.body).getD .skip
def Tf.tapewrightref03_Text.f (F : Nat) (a : (ByteArray × ByteArray)) : Option ByteArray :=
 (bif (seqB a.2 (⟨#[49]⟩ : ByteArray)) then (some a.1)
 else (bif (Nat.ble ((ByteArray.size a.1) + 1) 4611686018427387904) then (bif (Nat.ble ((ByteArray.size (a.1 ++ (⟨#[47]⟩ : ByteArray))) + (ByteArray.size a.2)) 4611686018427387904) then (some ((a.1 ++ (⟨#[47]⟩ : ByteArray)) ++ a.2))
 else none)
 else none))
theorem Tf.tapewrightref03_Text.f_ok (F : Nat) (a) : exec Go.VI.tyT (look [] : Fns) 14 (look [] : Loops) Tf.tapewrightref03_Text.c (init [.p] (encKs [.st [.str, .str]] a)) (finT (look [] : Fns) (⟨[.p], [.p]⟩ : Sig) [2] [.pure] [.str]) = Tf.tapewrightref03_Text.f F a := by kernel_rfl
def Tf.tapewrightref03_Text.e (F : Nat) : Fn := mkFn (⟨[.p], [.p]⟩ : Sig) [.st [.str, .str]] [.pure] [.str] (Tf.tapewrightref03_Text.f F)
theorem Tf.tapewrightref03_Text.ok (F : Nat) : EntryOk Go.Proofs.Tryz.prog Go.VI.tyT.G 87 (Tf.tapewrightref03_Text.e F) :=
  fn_ok Go.VI.tyT_ok rfl mix .nil (Λ := (look [] : Loops)) (fn := Go.Proofs.Tryz.f87) (c := Tf.tapewrightref03_Text.c) (LoopsOk.of (bs := []) (by kernel_rfl) .nil) (by kernel_rfl) (by kernel_rfl) (by kernel_rfl) (by kernel_rfl) (res1 (by kernel_rfl)) (by decide) (Tf.tapewrightref03_Text.f_ok F)
end Go.VI
namespace Go.VI
open Go
noncomputable def Tf.tapewrightref03_Read.c : Code := (Go.Proofs.Tryz.f61.body).getD .skip
noncomputable def Tf.tapewrightref03_Read.b3 : Code := codeAt [1, 1, 0, 1, 0, 0] Tf.tapewrightref03_Read.c
def Tf.tapewrightref03_Read.s3 (F : Nat) (L : (Int × (ByteArray × (ByteArray × (ByteArray × Int)))) → Option (ByteArray × (ByteArray × (ByteArray × Int)))) (x : (Int × (ByteArray × (ByteArray × (ByteArray × Int))))) : Option (ByteArray × (ByteArray × (ByteArray × Int))) :=
 (bif (decide (x.1 ≥ (0 : Int))) then (bif (inR x.1 (ByteArray.size x.2.1)) then (bif ((byteAt x.2.1 x.1) == (47 : Int)) then (L ((Go.IntKind.wrap IntKind.i64 (x.1 - (1 : Int))), (x.2.1, (x.2.2.1, (x.2.2.2.1, x.1)))))
 else (L ((Go.IntKind.wrap IntKind.i64 (x.1 - (1 : Int))), (x.2.1, (x.2.2.1, (x.2.2.2.1, x.2.2.2.2))))))
 else none)
 else (some (x.2.2.1, (x.2.2.2.1, (x.2.1, x.2.2.2.2)))))
def Tf.tapewrightref03_Read.l3 (F : Nat) : (Int × (ByteArray × (ByteArray × (ByteArray × Int)))) → Option (ByteArray × (ByteArray × (ByteArray × Int))) := iter (Tf.tapewrightref03_Read.s3 F) F
theorem Tf.tapewrightref03_Read.s3_ok (F : Nat) (L a) : exec Go.VI.tyT (look [(84, Tf.tapewrightref02_Right.e F), (85, Tf.tapewrightref01_Right.e F), (86, Tf.tapewrightref03_Lowest.e F), (87, Tf.tapewrightref03_Text.e F)] : Fns) 65 (look [] : Loops) Tf.tapewrightref03_Read.b3 (rebuild [.slot 5, .slot 0, .box 2 [none, none], .slot 4] (encKs [.int .i64, .str, .str, .str, .int .i64] a)) (bodyK [.slot 5, .slot 0, .box 2 [none, none], .slot 4] [.int .i64, .str, .str, .str, .int .i64] [⟨.exit 0, [.box 2 [none, none], .slot 0, .slot 4], [.str, .str, .str, .int .i64]⟩] L) = Tf.tapewrightref03_Read.s3 F L a := by kernel_rfl
theorem Tf.tapewrightref03_Read.l3_ok (F : Nat) : LoopOk Go.Proofs.Tryz.prog Go.VI.tyT.G 65 Tf.tapewrightref03_Read.b3 (fun st κ => hand [.slot 5, .slot 0, .box 2 [none, none], .slot 4] [.int .i64, .str, .str, .str, .int .i64] [⟨.exit 0, [.box 2 [none, none], .slot 0, .slot 4], [.str, .str, .str, .int .i64]⟩] (Tf.tapewrightref03_Read.l3 F) st κ) :=
  loop_ok Go.VI.tyT_ok rfl mix (.cons (Tf.tapewrightref02_Right.ok F) (.cons (Tf.tapewrightref01_Right.ok F) (.cons (Tf.tapewrightref03_Lowest.ok F) (.cons (Tf.tapewrightref03_Text.ok F) .nil)))) (Λ := (look [] : Loops)) (LoopsOk.of (bs := []) (by kernel_rfl) .nil) (Tf.tapewrightref03_Read.s3_ok F) F
def Tf.tapewrightref03_Read.f (F : Nat) (a : ByteArray) : Option ((ByteArray × ByteArray) × Bool) :=
 (Option.bind (Tf.tapewrightref03_Read.l3 F ((Go.IntKind.wrap IntKind.i64 (((ByteArray.size a) : Int) - (1 : Int))), (a, (ByteArray.empty, (ByteArray.empty, ((ByteArray.size a) : Int)))))) (fun y12 => (bif ((decide ((0 : Int) ≤ y12.2.2.2)) && (decide (y12.2.2.2 ≤ ((ByteArray.size y12.2.2.1) : Int)))) then (bif (decide (y12.2.2.2 < ((ByteArray.size y12.2.2.1) : Int))) then (bif ((decide ((0 : Int) ≤ (Go.IntKind.wrap IntKind.i64 (y12.2.2.2 + (1 : Int))))) && (decide ((Go.IntKind.wrap IntKind.i64 (y12.2.2.2 + (1 : Int))) ≤ ((ByteArray.size y12.2.2.1) : Int)))) then (Option.bind (Tf.tapewrightref02_Right.f F (ByteArray.extract y12.2.2.1 0 (Int.toNat y12.2.2.2))) (fun y29 => (bif (!y29) then (some ((ByteArray.empty, ByteArray.empty), Bool.false))
 else (Option.bind (Tf.tapewrightref01_Right.f F (ByteArray.extract y12.2.2.1 (Int.toNat (Go.IntKind.wrap IntKind.i64 (y12.2.2.2 + (1 : Int)))) (ByteArray.size y12.2.2.1))) (fun y34 => (bif (!y34) then (some ((ByteArray.empty, ByteArray.empty), Bool.false))
 else (bif (seqB (ByteArray.extract y12.2.2.1 (Int.toNat (Go.IntKind.wrap IntKind.i64 (y12.2.2.2 + (1 : Int)))) (ByteArray.size y12.2.2.1)) (⟨#[48]⟩ : ByteArray)) then (some ((ByteArray.empty, ByteArray.empty), Bool.false))
 else (bif (decide (y12.2.2.2 < ((ByteArray.size y12.2.2.1) : Int))) then (bif (seqB (ByteArray.extract y12.2.2.1 (Int.toNat (Go.IntKind.wrap IntKind.i64 (y12.2.2.2 + (1 : Int)))) (ByteArray.size y12.2.2.1)) (⟨#[49]⟩ : ByteArray)) then (some ((ByteArray.empty, ByteArray.empty), Bool.false))
 else (Option.bind (Tf.tapewrightref03_Lowest.f F ((ByteArray.extract y12.2.2.1 0 (Int.toNat y12.2.2.2)), (ByteArray.extract y12.2.2.1 (Int.toNat (Go.IntKind.wrap IntKind.i64 (y12.2.2.2 + (1 : Int)))) (ByteArray.size y12.2.2.1)))) (fun y54 => (Option.bind (Tf.tapewrightref03_Text.f F (y54.1, y54.2)) (fun y60 => (some ((y54.1, y54.2), (seqB y60 y12.2.2.1))))))))
 else (Option.bind (Tf.tapewrightref03_Lowest.f F ((ByteArray.extract y12.2.2.1 0 (Int.toNat y12.2.2.2)), (ByteArray.extract y12.2.2.1 (Int.toNat (Go.IntKind.wrap IntKind.i64 (y12.2.2.2 + (1 : Int)))) (ByteArray.size y12.2.2.1)))) (fun y52 => (Option.bind (Tf.tapewrightref03_Text.f F (y52.1, y52.2)) (fun y58 => (some ((y52.1, y52.2), (seqB y58 y12.2.2.1)))))))))))))))
 else none)
 else (Option.bind (Tf.tapewrightref02_Right.f F (ByteArray.extract y12.2.2.1 0 (Int.toNat y12.2.2.2))) (fun y24 => (bif (!y24) then (some ((ByteArray.empty, ByteArray.empty), Bool.false))
 else (Option.bind (Tf.tapewrightref01_Right.f F (⟨#[49]⟩ : ByteArray)) (fun y29 => (bif (!y29) then (some ((ByteArray.empty, ByteArray.empty), Bool.false))
 else (bif (decide (y12.2.2.2 < ((ByteArray.size y12.2.2.1) : Int))) then (some ((ByteArray.empty, ByteArray.empty), Bool.false))
 else (Option.bind (Tf.tapewrightref03_Lowest.f F ((ByteArray.extract y12.2.2.1 0 (Int.toNat y12.2.2.2)), (⟨#[49]⟩ : ByteArray))) (fun y47 => (Option.bind (Tf.tapewrightref03_Text.f F (y47.1, y47.2)) (fun y53 => (some ((y47.1, y47.2), (seqB y53 y12.2.2.1)))))))))))))))
 else none)))
theorem Tf.tapewrightref03_Read.f_ok (F : Nat) (a) : exec Go.VI.tyT (look [(84, Tf.tapewrightref02_Right.e F), (85, Tf.tapewrightref01_Right.e F), (86, Tf.tapewrightref03_Lowest.e F), (87, Tf.tapewrightref03_Text.e F)] : Fns) 65 (look [(3, fun st κ => hand [.slot 5, .slot 0, .box 2 [none, none], .slot 4] [.int .i64, .str, .str, .str, .int .i64] [⟨.exit 0, [.box 2 [none, none], .slot 0, .slot 4], [.str, .str, .str, .int .i64]⟩] (Tf.tapewrightref03_Read.l3 F) st κ)] : Loops) Tf.tapewrightref03_Read.c (init [.p] (encKs [.str] a)) (finC Go.VI.tyT (look [(84, Tf.tapewrightref02_Right.e F), (85, Tf.tapewrightref01_Right.e F), (86, Tf.tapewrightref03_Lowest.e F), (87, Tf.tapewrightref03_Text.e F)] : Fns) 65 2 98 (⟨[.p], [.p, .p]⟩ : Sig) [2, 3] [.pure, .pure] [.st [.str, .str], .bool]) = Tf.tapewrightref03_Read.f F a := by kernel_rfl
def Tf.tapewrightref03_Read.e (F : Nat) : Fn := mkFn (⟨[.p], [.p, .p]⟩ : Sig) [.str] [.pure, .pure] [.st [.str, .str], .bool] (Tf.tapewrightref03_Read.f F)
theorem Tf.tapewrightref03_Read.ok (F : Nat) : EntryOk Go.Proofs.Tryz.prog Go.VI.tyT.G 61 (Tf.tapewrightref03_Read.e F) :=
  fn_okC Go.VI.tyT_ok rfl mix (.cons (Tf.tapewrightref02_Right.ok F) (.cons (Tf.tapewrightref01_Right.ok F) (.cons (Tf.tapewrightref03_Lowest.ok F) (.cons (Tf.tapewrightref03_Text.ok F) .nil)))) (Λ := (look [(3, fun st κ => hand [.slot 5, .slot 0, .box 2 [none, none], .slot 4] [.int .i64, .str, .str, .str, .int .i64] [⟨.exit 0, [.box 2 [none, none], .slot 0, .slot 4], [.str, .str, .str, .int .i64]⟩] (Tf.tapewrightref03_Read.l3 F) st κ)] : Loops)) (fn := Go.Proofs.Tryz.f61) (c := Tf.tapewrightref03_Read.c) (LoopsOk.of (bs := [Tf.tapewrightref03_Read.b3]) (by kernel_rfl) (.cons rfl (Tf.tapewrightref03_Read.l3_ok F) .nil)) (by kernel_rfl) (by kernel_rfl) (by kernel_rfl) (by kernel_rfl) (resC1 (by kernel_rfl) (by kernel_rfl)) (by decide) (Tf.tapewrightref03_Read.f_ok F)
end Go.VI
namespace Go.VI
open Go
noncomputable def Tf.tapewrightref09_rationals.c : Code := (Go.Proofs.Tryz.f35.body).getD .skip
noncomputable def Tf.tapewrightref09_rationals.b2 : Code := codeAt [1, 0, 1, 0, 0] Tf.tapewrightref09_rationals.c
def Tf.tapewrightref09_rationals.s2 (F : Nat) (L : (Int × (List ByteArray)) → Option (Bool ⊕ Unit)) (x : (Int × (List ByteArray))) : Option (Bool ⊕ Unit) :=
 (bif (decide (x.1 < ((List.length x.2) : Int))) then (bif (inR x.1 (List.length x.2)) then (Option.bind (Tf.tapewrightref03_Read.f F (List.getD x.2 (Int.toNat x.1) (dflt 4))) (fun y15 => (bif (!y15.2) then (some (.inl Bool.false))
 else (L ((Go.IntKind.wrap IntKind.i64 (x.1 + (1 : Int))), x.2)))))
 else none)
 else (some (.inr ())))
def Tf.tapewrightref09_rationals.l2 (F : Nat) : (Int × (List ByteArray)) → Option (Bool ⊕ Unit) := iter (Tf.tapewrightref09_rationals.s2 F) F
theorem Tf.tapewrightref09_rationals.s2_ok (F : Nat) (L a) : exec Go.VI.tyT (look [(61, Tf.tapewrightref03_Read.e F)] : Fns) 22 (look [] : Loops) Tf.tapewrightref09_rationals.b2 (rebuild [.slot 3, .view 0 4] (encKs [.int .i64, .sl 4] a)) (bodyK [.slot 3, .view 0 4] [.int .i64, .sl 4] [⟨.ret, [.slot 2], [.bool]⟩, ⟨.exit 0, [], []⟩] L) = Tf.tapewrightref09_rationals.s2 F L a := by kernel_rfl
theorem Tf.tapewrightref09_rationals.l2_ok (F : Nat) : LoopOk Go.Proofs.Tryz.prog Go.VI.tyT.G 22 Tf.tapewrightref09_rationals.b2 (fun st κ => hand [.slot 3, .view 0 4] [.int .i64, .sl 4] [⟨.ret, [.slot 2], [.bool]⟩, ⟨.exit 0, [], []⟩] (Tf.tapewrightref09_rationals.l2 F) st κ) :=
  loop_ok Go.VI.tyT_ok rfl mix (.cons (Tf.tapewrightref03_Read.ok F) .nil) (Λ := (look [] : Loops)) (LoopsOk.of (bs := []) (by kernel_rfl) .nil) (Tf.tapewrightref09_rationals.s2_ok F) F
def Tf.tapewrightref09_rationals.f (F : Nat) (a : (List ByteArray)) : Option Bool :=
 (Option.bind (Tf.tapewrightref09_rationals.l2 F ((0 : Int), a)) (fun y5 => (sumE y5 (fun y6 => (some y6)) (fun y6 => (some Bool.true)))))
theorem Tf.tapewrightref09_rationals.f_ok (F : Nat) (a) : exec Go.VI.tyT (look [(61, Tf.tapewrightref03_Read.e F)] : Fns) 22 (look [(2, fun st κ => hand [.slot 3, .view 0 4] [.int .i64, .sl 4] [⟨.ret, [.slot 2], [.bool]⟩, ⟨.exit 0, [], []⟩] (Tf.tapewrightref09_rationals.l2 F) st κ)] : Loops) Tf.tapewrightref09_rationals.c (init [.v 4] (encKs [.sl 4] a)) (finT (look [(61, Tf.tapewrightref03_Read.e F)] : Fns) (⟨[.v 4], [.p]⟩ : Sig) [2] [.pure] [.bool]) = Tf.tapewrightref09_rationals.f F a := by kernel_rfl
def Tf.tapewrightref09_rationals.e (F : Nat) : Fn := mkFn (⟨[.v 4], [.p]⟩ : Sig) [.sl 4] [.pure] [.bool] (Tf.tapewrightref09_rationals.f F)
theorem Tf.tapewrightref09_rationals.ok (F : Nat) : EntryOk Go.Proofs.Tryz.prog Go.VI.tyT.G 35 (Tf.tapewrightref09_rationals.e F) :=
  fn_ok Go.VI.tyT_ok rfl mix (.cons (Tf.tapewrightref03_Read.ok F) .nil) (Λ := (look [(2, fun st κ => hand [.slot 3, .view 0 4] [.int .i64, .sl 4] [⟨.ret, [.slot 2], [.bool]⟩, ⟨.exit 0, [], []⟩] (Tf.tapewrightref09_rationals.l2 F) st κ)] : Loops)) (fn := Go.Proofs.Tryz.f35) (c := Tf.tapewrightref09_rationals.c) (LoopsOk.of (bs := [Tf.tapewrightref09_rationals.b2]) (by kernel_rfl) (.cons rfl (Tf.tapewrightref09_rationals.l2_ok F) .nil)) (by kernel_rfl) (by kernel_rfl) (by kernel_rfl) (by kernel_rfl) (res1 (by kernel_rfl)) (by decide) (Tf.tapewrightref09_rationals.f_ok F)
end Go.VI
namespace Go.VI
open Go
noncomputable def Tf.tapewrightref09_number.c : Code := (Go.Proofs.Tryz.f36.body).getD .skip
noncomputable def Tf.tapewrightref09_number.b5 : Code := codeAt [1, 1, 1, 0, 1, 0, 0] Tf.tapewrightref09_number.c
def Tf.tapewrightref09_number.s5 (F : Nat) (L : (Int × (ByteArray × Int)) → Option ((Int × Bool) ⊕ Int)) (x : (Int × (ByteArray × Int))) : Option ((Int × Bool) ⊕ Int) :=
 (bif (decide (x.1 < ((ByteArray.size x.2.1) : Int))) then (bif (inR x.1 (ByteArray.size x.2.1)) then (bif (decide ((byteAt x.2.1 x.1) < (48 : Int))) then (some (.inl ((0 : Int), Bool.false)))
 else (bif (inR x.1 (ByteArray.size x.2.1)) then (bif (decide ((byteAt x.2.1 x.1) > (57 : Int))) then (some (.inl ((0 : Int), Bool.false)))
 else (bif (inR x.1 (ByteArray.size x.2.1)) then (L ((Go.IntKind.wrap IntKind.i64 (x.1 + (1 : Int))), (x.2.1, (Go.IntKind.wrap IntKind.i64 ((Go.IntKind.wrap IntKind.i64 ((10 : Int) * x.2.2)) + (Go.IntKind.wrap IntKind.i64 (Go.IntKind.wrap IntKind.u8 ((byteAt x.2.1 x.1) - (48 : Int)))))))))
 else none))
 else none))
 else none)
 else (some (.inr x.2.2)))
def Tf.tapewrightref09_number.l5 (F : Nat) : (Int × (ByteArray × Int)) → Option ((Int × Bool) ⊕ Int) := iter (Tf.tapewrightref09_number.s5 F) F
theorem Tf.tapewrightref09_number.s5_ok (F : Nat) (L a) : exec Go.VI.tyT (look [] : Fns) 49 (look [] : Loops) Tf.tapewrightref09_number.b5 (rebuild [.slot 5, .slot 0, .slot 4] (encKs [.int .i64, .str, .int .i64] a)) (bodyK [.slot 5, .slot 0, .slot 4] [.int .i64, .str, .int .i64] [⟨.ret, [.slot 2, .slot 3], [.int .i64, .bool]⟩, ⟨.exit 0, [.slot 4], [.int .i64]⟩] L) = Tf.tapewrightref09_number.s5 F L a := by kernel_rfl
theorem Tf.tapewrightref09_number.l5_ok (F : Nat) : LoopOk Go.Proofs.Tryz.prog Go.VI.tyT.G 49 Tf.tapewrightref09_number.b5 (fun st κ => hand [.slot 5, .slot 0, .slot 4] [.int .i64, .str, .int .i64] [⟨.ret, [.slot 2, .slot 3], [.int .i64, .bool]⟩, ⟨.exit 0, [.slot 4], [.int .i64]⟩] (Tf.tapewrightref09_number.l5 F) st κ) :=
  loop_ok Go.VI.tyT_ok rfl mix .nil (Λ := (look [] : Loops)) (LoopsOk.of (bs := []) (by kernel_rfl) .nil) (Tf.tapewrightref09_number.s5_ok F) F
def Tf.tapewrightref09_number.f (F : Nat) (a : ByteArray) : Option (Int × Bool) :=
 (bif (((ByteArray.size a) : Int) == (0 : Int)) then (some ((0 : Int), Bool.false))
 else (bif (decide (((ByteArray.size a) : Int) > (2 : Int))) then (some ((0 : Int), Bool.false))
 else (bif (((ByteArray.size a) : Int) == (2 : Int)) then (bif (inR (0 : Int) (ByteArray.size a)) then (bif ((byteAt a (0 : Int)) == (48 : Int)) then (some ((0 : Int), Bool.false))
 else (Option.bind (Tf.tapewrightref09_number.l5 F ((0 : Int), (a, (0 : Int)))) (fun y25 => (sumE y25 (fun y26 => (some (y26.1, y26.2))) (fun y26 => (some (y26, Bool.true)))))))
 else none)
 else (Option.bind (Tf.tapewrightref09_number.l5 F ((0 : Int), (a, (0 : Int)))) (fun y22 => (sumE y22 (fun y23 => (some (y23.1, y23.2))) (fun y23 => (some (y23, Bool.true)))))))))
theorem Tf.tapewrightref09_number.f_ok (F : Nat) (a) : exec Go.VI.tyT (look [] : Fns) 49 (look [(5, fun st κ => hand [.slot 5, .slot 0, .slot 4] [.int .i64, .str, .int .i64] [⟨.ret, [.slot 2, .slot 3], [.int .i64, .bool]⟩, ⟨.exit 0, [.slot 4], [.int .i64]⟩] (Tf.tapewrightref09_number.l5 F) st κ)] : Loops) Tf.tapewrightref09_number.c (init [.p] (encKs [.str] a)) (finT (look [] : Fns) (⟨[.p], [.p, .p]⟩ : Sig) [2, 3] [.pure, .pure] [.int .i64, .bool]) = Tf.tapewrightref09_number.f F a := by kernel_rfl
def Tf.tapewrightref09_number.e (F : Nat) : Fn := mkFn (⟨[.p], [.p, .p]⟩ : Sig) [.str] [.pure, .pure] [.int .i64, .bool] (Tf.tapewrightref09_number.f F)
theorem Tf.tapewrightref09_number.ok (F : Nat) : EntryOk Go.Proofs.Tryz.prog Go.VI.tyT.G 36 (Tf.tapewrightref09_number.e F) :=
  fn_ok Go.VI.tyT_ok rfl mix .nil (Λ := (look [(5, fun st κ => hand [.slot 5, .slot 0, .slot 4] [.int .i64, .str, .int .i64] [⟨.ret, [.slot 2, .slot 3], [.int .i64, .bool]⟩, ⟨.exit 0, [.slot 4], [.int .i64]⟩] (Tf.tapewrightref09_number.l5 F) st κ)] : Loops)) (fn := Go.Proofs.Tryz.f36) (c := Tf.tapewrightref09_number.c) (LoopsOk.of (bs := [Tf.tapewrightref09_number.b5]) (by kernel_rfl) (.cons rfl (Tf.tapewrightref09_number.l5_ok F) .nil)) (by kernel_rfl) (by kernel_rfl) (by kernel_rfl) (by kernel_rfl) (res2 (by kernel_rfl)) (by decide) (Tf.tapewrightref09_number.f_ok F)
end Go.VI
namespace Go.VI
open Go
noncomputable def Tf.tapewrightref04_Right.c : Code := (Go.Proofs.Tryz.f62.body).getD .skip
noncomputable def Tf.tapewrightref04_Right.b5 : Code := codeAt [1, 1, 1, 0, 1, 0, 0] Tf.tapewrightref04_Right.c
def Tf.tapewrightref04_Right.s5 (F : Nat) (L : (Int × ((List Int) × Int)) → Option (Bool ⊕ Unit)) (x : (Int × ((List Int) × Int))) : Option (Bool ⊕ Unit) :=
 (bif (decide (x.1 < ((List.length x.2.1) : Int))) then (bif (inR x.1 (List.length x.2.1)) then (bif (decide ((List.getD x.2.1 (Int.toNat x.1) (0 : Int)) < (1 : Int))) then (some (.inl Bool.false))
 else (bif (inR x.1 (List.length x.2.1)) then (bif (decide ((List.getD x.2.1 (Int.toNat x.1) (0 : Int)) > (64 : Int))) then (some (.inl Bool.false))
 else (bif (inR x.1 (List.length x.2.1)) then (bif (decide ((Go.IntKind.wrap IntKind.i64 (x.2.2 * (List.getD x.2.1 (Int.toNat x.1) (0 : Int)))) > (64 : Int))) then (some (.inl Bool.false))
 else (bif (inR x.1 (List.length x.2.1)) then (L ((Go.IntKind.wrap IntKind.i64 (x.1 + (1 : Int))), (x.2.1, (Go.IntKind.wrap IntKind.i64 (x.2.2 * (List.getD x.2.1 (Int.toNat x.1) (0 : Int)))))))
 else none))
 else none))
 else none))
 else none)
 else (some (.inr ())))
def Tf.tapewrightref04_Right.l5 (F : Nat) : (Int × ((List Int) × Int)) → Option (Bool ⊕ Unit) := iter (Tf.tapewrightref04_Right.s5 F) F
theorem Tf.tapewrightref04_Right.s5_ok (F : Nat) (L a) : exec Go.VI.tyT (look [] : Fns) 41 (look [] : Loops) Tf.tapewrightref04_Right.b5 (rebuild [.slot 4, .view 0 0, .slot 3] (encKs [.int .i64, .sl 0, .int .i64] a)) (bodyK [.slot 4, .view 0 0, .slot 3] [.int .i64, .sl 0, .int .i64] [⟨.ret, [.slot 2], [.bool]⟩, ⟨.exit 0, [], []⟩] L) = Tf.tapewrightref04_Right.s5 F L a := by kernel_rfl
theorem Tf.tapewrightref04_Right.l5_ok (F : Nat) : LoopOk Go.Proofs.Tryz.prog Go.VI.tyT.G 41 Tf.tapewrightref04_Right.b5 (fun st κ => hand [.slot 4, .view 0 0, .slot 3] [.int .i64, .sl 0, .int .i64] [⟨.ret, [.slot 2], [.bool]⟩, ⟨.exit 0, [], []⟩] (Tf.tapewrightref04_Right.l5 F) st κ) :=
  loop_ok Go.VI.tyT_ok rfl mix .nil (Λ := (look [] : Loops)) (LoopsOk.of (bs := []) (by kernel_rfl) .nil) (Tf.tapewrightref04_Right.s5_ok F) F
def Tf.tapewrightref04_Right.f (F : Nat) (a : (List Int)) : Option Bool :=
 (bif (decide (((List.length a) : Int) > (4 : Int))) then (some Bool.false)
 else (Option.bind (Tf.tapewrightref04_Right.l5 F ((0 : Int), (a, (1 : Int)))) (fun y9 => (sumE y9 (fun y10 => (some y10)) (fun y10 => (some Bool.true))))))
theorem Tf.tapewrightref04_Right.f_ok (F : Nat) (a) : exec Go.VI.tyT (look [] : Fns) 41 (look [(5, fun st κ => hand [.slot 4, .view 0 0, .slot 3] [.int .i64, .sl 0, .int .i64] [⟨.ret, [.slot 2], [.bool]⟩, ⟨.exit 0, [], []⟩] (Tf.tapewrightref04_Right.l5 F) st κ)] : Loops) Tf.tapewrightref04_Right.c (init [.v 0] (encKs [.sl 0] a)) (finT (look [] : Fns) (⟨[.v 0], [.p]⟩ : Sig) [2] [.pure] [.bool]) = Tf.tapewrightref04_Right.f F a := by kernel_rfl
def Tf.tapewrightref04_Right.e (F : Nat) : Fn := mkFn (⟨[.v 0], [.p]⟩ : Sig) [.sl 0] [.pure] [.bool] (Tf.tapewrightref04_Right.f F)
theorem Tf.tapewrightref04_Right.ok (F : Nat) : EntryOk Go.Proofs.Tryz.prog Go.VI.tyT.G 62 (Tf.tapewrightref04_Right.e F) :=
  fn_ok Go.VI.tyT_ok rfl mix .nil (Λ := (look [(5, fun st κ => hand [.slot 4, .view 0 0, .slot 3] [.int .i64, .sl 0, .int .i64] [⟨.ret, [.slot 2], [.bool]⟩, ⟨.exit 0, [], []⟩] (Tf.tapewrightref04_Right.l5 F) st κ)] : Loops)) (fn := Go.Proofs.Tryz.f62) (c := Tf.tapewrightref04_Right.c) (LoopsOk.of (bs := [Tf.tapewrightref04_Right.b5]) (by kernel_rfl) (.cons rfl (Tf.tapewrightref04_Right.l5_ok F) .nil)) (by kernel_rfl) (by kernel_rfl) (by kernel_rfl) (by kernel_rfl) (res1 (by kernel_rfl)) (by decide) (Tf.tapewrightref04_Right.f_ok F)
end Go.VI
namespace Go.VI
open Go
noncomputable def Tf.tapewrightref09_dims.c : Code := (Go.Proofs.Tryz.f37.body).getD .skip
noncomputable def Tf.tapewrightref09_dims.b3 : Code := codeAt [1, 1, 0, 1, 0, 0] Tf.tapewrightref09_dims.c
def Tf.tapewrightref09_dims.s3 (F : Nat) (L : (Int × ((List Int) × (List ByteArray))) → Option (((List Int) × Bool) ⊕ (List Int))) (x : (Int × ((List Int) × (List ByteArray)))) : Option (((List Int) × Bool) ⊕ (List Int)) :=
 (bif (decide (x.1 < ((List.length x.2.2) : Int))) then (bif (inR x.1 (List.length x.2.2)) then (Option.bind (Tf.tapewrightref09_number.f F (List.getD x.2.2 (Int.toNat x.1) (dflt 4))) (fun y17 => (bif (!y17.2) then (some (.inl (([] : List Int), Bool.false)))
 else (bif (Nat.ble ((List.length x.2.1) + 1) 1099511627776) then (L ((Go.IntKind.wrap IntKind.i64 (x.1 + (1 : Int))), ((x.2.1 ++ (List.set (List.replicate 1 (0 : Int)) 0 y17.1)), x.2.2)))
 else none))))
 else none)
 else (some (.inr x.2.1)))
def Tf.tapewrightref09_dims.l3 (F : Nat) : (Int × ((List Int) × (List ByteArray))) → Option (((List Int) × Bool) ⊕ (List Int)) := iter (Tf.tapewrightref09_dims.s3 F) F
theorem Tf.tapewrightref09_dims.s3_ok (F : Nat) (L a) : exec Go.VI.tyT (look [(36, Tf.tapewrightref09_number.e F), (62, Tf.tapewrightref04_Right.e F)] : Fns) 31 (look [] : Loops) Tf.tapewrightref09_dims.b3 (rebuild [.slot 5, .own 4 0, .view 0 4] (encKs [.int .i64, .sl 0, .sl 4] a)) (bodyK [.slot 5, .own 4 0, .view 0 4] [.int .i64, .sl 0, .sl 4] [⟨.ret, [.own 2 0, .slot 3], [.sl 0, .bool]⟩, ⟨.exit 0, [.own 4 0], [.sl 0]⟩] L) = Tf.tapewrightref09_dims.s3 F L a := by kernel_rfl
theorem Tf.tapewrightref09_dims.l3_ok (F : Nat) : LoopOk Go.Proofs.Tryz.prog Go.VI.tyT.G 31 Tf.tapewrightref09_dims.b3 (fun st κ => hand [.slot 5, .own 4 0, .view 0 4] [.int .i64, .sl 0, .sl 4] [⟨.ret, [.own 2 0, .slot 3], [.sl 0, .bool]⟩, ⟨.exit 0, [.own 4 0], [.sl 0]⟩] (Tf.tapewrightref09_dims.l3 F) st κ) :=
  loop_ok Go.VI.tyT_ok rfl mix (.cons (Tf.tapewrightref09_number.ok F) (.cons (Tf.tapewrightref04_Right.ok F) .nil)) (Λ := (look [] : Loops)) (LoopsOk.of (bs := []) (by kernel_rfl) .nil) (Tf.tapewrightref09_dims.s3_ok F) F
def Tf.tapewrightref09_dims.f (F : Nat) (a : (List ByteArray)) : Option ((List Int) × Bool) :=
 (Option.bind (Tf.tapewrightref09_dims.l3 F ((0 : Int), (([] : List Int), a))) (fun y7 => (sumE y7 (fun y8 => (some (y8.1, y8.2))) (fun y8 => (Option.bind (Tf.tapewrightref04_Right.f F y8) (fun y12 => (some (y8, y12))))))))
theorem Tf.tapewrightref09_dims.f_ok (F : Nat) (a) : exec Go.VI.tyT (look [(36, Tf.tapewrightref09_number.e F), (62, Tf.tapewrightref04_Right.e F)] : Fns) 31 (look [(3, fun st κ => hand [.slot 5, .own 4 0, .view 0 4] [.int .i64, .sl 0, .sl 4] [⟨.ret, [.own 2 0, .slot 3], [.sl 0, .bool]⟩, ⟨.exit 0, [.own 4 0], [.sl 0]⟩] (Tf.tapewrightref09_dims.l3 F) st κ)] : Loops) Tf.tapewrightref09_dims.c (init [.v 4] (encKs [.sl 4] a)) (finT (look [(36, Tf.tapewrightref09_number.e F), (62, Tf.tapewrightref04_Right.e F)] : Fns) (⟨[.v 4], [.o 0, .p]⟩ : Sig) [2, 3] [.own, .pure] [.sl 0, .bool]) = Tf.tapewrightref09_dims.f F a := by kernel_rfl
def Tf.tapewrightref09_dims.e (F : Nat) : Fn := mkFn (⟨[.v 4], [.o 0, .p]⟩ : Sig) [.sl 4] [.own, .pure] [.sl 0, .bool] (Tf.tapewrightref09_dims.f F)
theorem Tf.tapewrightref09_dims.ok (F : Nat) : EntryOk Go.Proofs.Tryz.prog Go.VI.tyT.G 37 (Tf.tapewrightref09_dims.e F) :=
  fn_ok Go.VI.tyT_ok rfl mix (.cons (Tf.tapewrightref09_number.ok F) (.cons (Tf.tapewrightref04_Right.ok F) .nil)) (Λ := (look [(3, fun st κ => hand [.slot 5, .own 4 0, .view 0 4] [.int .i64, .sl 0, .sl 4] [⟨.ret, [.own 2 0, .slot 3], [.sl 0, .bool]⟩, ⟨.exit 0, [.own 4 0], [.sl 0]⟩] (Tf.tapewrightref09_dims.l3 F) st κ)] : Loops)) (fn := Go.Proofs.Tryz.f37) (c := Tf.tapewrightref09_dims.c) (LoopsOk.of (bs := [Tf.tapewrightref09_dims.b3]) (by kernel_rfl) (.cons rfl (Tf.tapewrightref09_dims.l3_ok F) .nil)) (by kernel_rfl) (by kernel_rfl) (by kernel_rfl) (by kernel_rfl) (res2 (by kernel_rfl)) (by decide) (Tf.tapewrightref09_dims.f_ok F)
end Go.VI
namespace Go.VI
open Go
noncomputable def Tf.tapewrightref04_Size.c : Code := (Go.Proofs.Tryz.f38.body).getD .skip
noncomputable def Tf.tapewrightref04_Size.b3 : Code := codeAt [1, 1, 0, 1, 0, 0] Tf.tapewrightref04_Size.c
def Tf.tapewrightref04_Size.s3 (F : Nat) (L : (Int × ((List Int) × Int)) → Option Int) (x : (Int × ((List Int) × Int))) : Option Int :=
 (bif (decide (x.1 < ((List.length x.2.1) : Int))) then (bif (inR x.1 (List.length x.2.1)) then (L ((Go.IntKind.wrap IntKind.i64 (x.1 + (1 : Int))), (x.2.1, (Go.IntKind.wrap IntKind.i64 (x.2.2 * (List.getD x.2.1 (Int.toNat x.1) (0 : Int)))))))
 else none)
 else (some x.2.2))
def Tf.tapewrightref04_Size.l3 (F : Nat) : (Int × ((List Int) × Int)) → Option Int := iter (Tf.tapewrightref04_Size.s3 F) F
theorem Tf.tapewrightref04_Size.s3_ok (F : Nat) (L a) : exec Go.VI.tyT (look [] : Fns) 18 (look [] : Loops) Tf.tapewrightref04_Size.b3 (rebuild [.slot 4, .view 0 0, .slot 3] (encKs [.int .i64, .sl 0, .int .i64] a)) (bodyK [.slot 4, .view 0 0, .slot 3] [.int .i64, .sl 0, .int .i64] [⟨.exit 0, [.slot 3], [.int .i64]⟩] L) = Tf.tapewrightref04_Size.s3 F L a := by kernel_rfl
theorem Tf.tapewrightref04_Size.l3_ok (F : Nat) : LoopOk Go.Proofs.Tryz.prog Go.VI.tyT.G 18 Tf.tapewrightref04_Size.b3 (fun st κ => hand [.slot 4, .view 0 0, .slot 3] [.int .i64, .sl 0, .int .i64] [⟨.exit 0, [.slot 3], [.int .i64]⟩] (Tf.tapewrightref04_Size.l3 F) st κ) :=
  loop_ok Go.VI.tyT_ok rfl mix .nil (Λ := (look [] : Loops)) (LoopsOk.of (bs := []) (by kernel_rfl) .nil) (Tf.tapewrightref04_Size.s3_ok F) F
def Tf.tapewrightref04_Size.f (F : Nat) (a : (List Int)) : Option Int :=
 (Option.bind (Tf.tapewrightref04_Size.l3 F ((0 : Int), (a, (1 : Int)))) (fun y6 => (some y6)))
theorem Tf.tapewrightref04_Size.f_ok (F : Nat) (a) : exec Go.VI.tyT (look [] : Fns) 18 (look [(3, fun st κ => hand [.slot 4, .view 0 0, .slot 3] [.int .i64, .sl 0, .int .i64] [⟨.exit 0, [.slot 3], [.int .i64]⟩] (Tf.tapewrightref04_Size.l3 F) st κ)] : Loops) Tf.tapewrightref04_Size.c (init [.v 0] (encKs [.sl 0] a)) (finT (look [] : Fns) (⟨[.v 0], [.p]⟩ : Sig) [2] [.pure] [.int .i64]) = Tf.tapewrightref04_Size.f F a := by kernel_rfl
def Tf.tapewrightref04_Size.e (F : Nat) : Fn := mkFn (⟨[.v 0], [.p]⟩ : Sig) [.sl 0] [.pure] [.int .i64] (Tf.tapewrightref04_Size.f F)
theorem Tf.tapewrightref04_Size.ok (F : Nat) : EntryOk Go.Proofs.Tryz.prog Go.VI.tyT.G 38 (Tf.tapewrightref04_Size.e F) :=
  fn_ok Go.VI.tyT_ok rfl mix .nil (Λ := (look [(3, fun st κ => hand [.slot 4, .view 0 0, .slot 3] [.int .i64, .sl 0, .int .i64] [⟨.exit 0, [.slot 3], [.int .i64]⟩] (Tf.tapewrightref04_Size.l3 F) st κ)] : Loops)) (fn := Go.Proofs.Tryz.f38) (c := Tf.tapewrightref04_Size.c) (LoopsOk.of (bs := [Tf.tapewrightref04_Size.b3]) (by kernel_rfl) (.cons rfl (Tf.tapewrightref04_Size.l3_ok F) .nil)) (by kernel_rfl) (by kernel_rfl) (by kernel_rfl) (by kernel_rfl) (res1 (by kernel_rfl)) (by decide) (Tf.tapewrightref04_Size.f_ok F)
end Go.VI
namespace Go.VI
open Go
noncomputable def Tf.tapewrightref09_Parse.c : Code := (Go.Proofs.Tryz.f16.body).getD .skip
noncomputable def Tf.tapewrightref09_Parse.b7 : Code := codeAt [1, 0, 1, 0, 1, 1, 1, 0, 1, 0, 0] Tf.tapewrightref09_Parse.c
def Tf.tapewrightref09_Parse.s7 (F : Nat) (L : (ByteArray × (ByteArray × (Unit × (Unit × (ByteArray × (Int × (Unit × (Int × (ByteArray × (ByteArray × ((List ByteArray) × (Unit × (ByteArray × (Int × (Unit × (Int × (Int × (List ByteArray)))))))))))))))))) → Option ((ByteArray × (ByteArray × (Unit × (Unit × (ByteArray × (Int × (Unit × Bool))))))) ⊕ (ByteArray × (ByteArray × (Unit × (Unit × (ByteArray × (Int × (Unit × (ByteArray × (ByteArray × ((List ByteArray) × (Unit × (ByteArray × (Int × (Unit × (Int × (Int × (List ByteArray))))))))))))))))))) (x : (ByteArray × (ByteArray × (Unit × (Unit × (ByteArray × (Int × (Unit × (Int × (ByteArray × (ByteArray × ((List ByteArray) × (Unit × (ByteArray × (Int × (Unit × (Int × (Int × (List ByteArray))))))))))))))))))) : Option ((ByteArray × (ByteArray × (Unit × (Unit × (ByteArray × (Int × (Unit × Bool))))))) ⊕ (ByteArray × (ByteArray × (Unit × (Unit × (ByteArray × (Int × (Unit × (ByteArray × (ByteArray × ((List ByteArray) × (Unit × (ByteArray × (Int × (Unit × (Int × (Int × (List ByteArray)))))))))))))))))) :=
 (bif (decide (x.2.2.2.2.2.2.2.1 < x.2.2.2.2.2.2.2.2.2.2.2.2.2.2.2.2.1)) then (bif (inR x.2.2.2.2.2.2.2.1 (List.length x.2.2.2.2.2.2.2.2.2.2.1)) then (Option.bind (Tf.tapewrightref08_Name.f F (List.getD x.2.2.2.2.2.2.2.2.2.2.1 (Int.toNat x.2.2.2.2.2.2.2.1) (dflt 4))) (fun y65 => (bif (!y65) then (some (.inl (ByteArray.empty, (ByteArray.empty, ((), ((), (ByteArray.empty, ((0 : Int), ((), Bool.false)))))))))
 else (L (x.1, (x.2.1, ((), ((), (x.2.2.2.2.1, (x.2.2.2.2.2.1, ((), ((Go.IntKind.wrap IntKind.i64 (x.2.2.2.2.2.2.2.1 + (1 : Int))), (x.2.2.2.2.2.2.2.2.1, (x.2.2.2.2.2.2.2.2.2.1, (x.2.2.2.2.2.2.2.2.2.2.1, ((), (x.2.2.2.2.2.2.2.2.2.2.2.2.1, (x.2.2.2.2.2.2.2.2.2.2.2.2.2.1, ((), (x.2.2.2.2.2.2.2.2.2.2.2.2.2.2.2.1, (x.2.2.2.2.2.2.2.2.2.2.2.2.2.2.2.2.1, x.2.2.2.2.2.2.2.2.2.2.2.2.2.2.2.2.2)))))))))))))))))))))
 else none)
 else (some (.inr (x.1, (x.2.1, ((), ((), (x.2.2.2.2.1, (x.2.2.2.2.2.1, ((), (x.2.2.2.2.2.2.2.2.1, (x.2.2.2.2.2.2.2.2.2.1, (x.2.2.2.2.2.2.2.2.2.2.1, ((), (x.2.2.2.2.2.2.2.2.2.2.2.2.1, (x.2.2.2.2.2.2.2.2.2.2.2.2.2.1, ((), (x.2.2.2.2.2.2.2.2.2.2.2.2.2.2.2.1, (x.2.2.2.2.2.2.2.2.2.2.2.2.2.2.2.2.1, x.2.2.2.2.2.2.2.2.2.2.2.2.2.2.2.2.2)))))))))))))))))))
def Tf.tapewrightref09_Parse.l7 (F : Nat) : (ByteArray × (ByteArray × (Unit × (Unit × (ByteArray × (Int × (Unit × (Int × (ByteArray × (ByteArray × ((List ByteArray) × (Unit × (ByteArray × (Int × (Unit × (Int × (Int × (List ByteArray)))))))))))))))))) → Option ((ByteArray × (ByteArray × (Unit × (Unit × (ByteArray × (Int × (Unit × Bool))))))) ⊕ (ByteArray × (ByteArray × (Unit × (Unit × (ByteArray × (Int × (Unit × (ByteArray × (ByteArray × ((List ByteArray) × (Unit × (ByteArray × (Int × (Unit × (Int × (Int × (List ByteArray)))))))))))))))))) := iter (Tf.tapewrightref09_Parse.s7 F) F
theorem Tf.tapewrightref09_Parse.s7_ok (F : Nat) (L a) : exec Go.VI.tyT (look [(33, Tf.tapewrightref09_kind.e F), (34, Tf.tapewrightref08_Name.e F), (35, Tf.tapewrightref09_rationals.e F), (36, Tf.tapewrightref09_number.e F), (37, Tf.tapewrightref09_dims.e F), (38, Tf.tapewrightref04_Size.e F)] : Fns) 224 (look [] : Loops) Tf.tapewrightref09_Parse.b7 (rebuild [.box 2 [none, none, none, none, none, none, none], .slot 7, .box 6 [none, none, none, none, none, none, none], .slot 5, .slot 4, .view 0 4] (encKs [.str, .str, .nil, .nil, .str, .int .i64, .nil, .int .i64, .str, .str, .sl 4, .nil, .str, .int .i64, .nil, .int .i64, .int .i64, .sl 4] a)) (bodyK [.box 2 [none, none, none, none, none, none, none], .slot 7, .box 6 [none, none, none, none, none, none, none], .slot 5, .slot 4, .view 0 4] [.str, .str, .nil, .nil, .str, .int .i64, .nil, .int .i64, .str, .str, .sl 4, .nil, .str, .int .i64, .nil, .int .i64, .int .i64, .sl 4] [⟨.ret, [.box 2 [none, none, none, none, none, none, none], .slot 3], [.str, .str, .nil, .nil, .str, .int .i64, .nil, .bool]⟩, ⟨.exit 0, [.box 2 [none, none, none, none, none, none, none], .box 6 [none, none, none, none, none, none, none], .slot 5, .slot 4, .view 0 4], [.str, .str, .nil, .nil, .str, .int .i64, .nil, .str, .str, .sl 4, .nil, .str, .int .i64, .nil, .int .i64, .int .i64, .sl 4]⟩] L) = Tf.tapewrightref09_Parse.s7 F L a := by kernel_rfl
theorem Tf.tapewrightref09_Parse.l7_ok (F : Nat) : LoopOk Go.Proofs.Tryz.prog Go.VI.tyT.G 224 Tf.tapewrightref09_Parse.b7 (fun st κ => hand [.box 2 [none, none, none, none, none, none, none], .slot 7, .box 6 [none, none, none, none, none, none, none], .slot 5, .slot 4, .view 0 4] [.str, .str, .nil, .nil, .str, .int .i64, .nil, .int .i64, .str, .str, .sl 4, .nil, .str, .int .i64, .nil, .int .i64, .int .i64, .sl 4] [⟨.ret, [.box 2 [none, none, none, none, none, none, none], .slot 3], [.str, .str, .nil, .nil, .str, .int .i64, .nil, .bool]⟩, ⟨.exit 0, [.box 2 [none, none, none, none, none, none, none], .box 6 [none, none, none, none, none, none, none], .slot 5, .slot 4, .view 0 4], [.str, .str, .nil, .nil, .str, .int .i64, .nil, .str, .str, .sl 4, .nil, .str, .int .i64, .nil, .int .i64, .int .i64, .sl 4]⟩] (Tf.tapewrightref09_Parse.l7 F) st κ) :=
  loop_ok Go.VI.tyT_ok rfl mix (.cons (Tf.tapewrightref09_kind.ok F) (.cons (Tf.tapewrightref08_Name.ok F) (.cons (Tf.tapewrightref09_rationals.ok F) (.cons (Tf.tapewrightref09_number.ok F) (.cons (Tf.tapewrightref09_dims.ok F) (.cons (Tf.tapewrightref04_Size.ok F) .nil)))))) (Λ := (look [] : Loops)) (LoopsOk.of (bs := []) (by kernel_rfl) .nil) (Tf.tapewrightref09_Parse.s7_ok F) F
noncomputable def Tf.tapewrightref09_Parse.b39 : Code := codeAt [1, 1, 1, 1, 1, 1, 0, 1, 0, 0] Tf.tapewrightref09_Parse.c
def Tf.tapewrightref09_Parse.s39 (F : Nat) (L : (ByteArray × (ByteArray × (Unit × (Unit × (ByteArray × (Int × (Unit × ((List ByteArray) × Int)))))))) → Option ((ByteArray × (ByteArray × (Unit × ((List Int) × (ByteArray × (Int × ((List ByteArray) × Bool))))))) ⊕ (ByteArray × (ByteArray × (Unit × (Unit × (ByteArray × (Int × Unit)))))))) (x : (ByteArray × (ByteArray × (Unit × (Unit × (ByteArray × (Int × (Unit × ((List ByteArray) × Int))))))))) : Option ((ByteArray × (ByteArray × (Unit × ((List Int) × (ByteArray × (Int × ((List ByteArray) × Bool))))))) ⊕ (ByteArray × (ByteArray × (Unit × (Unit × (ByteArray × (Int × Unit))))))) :=
 (bif (decide (x.2.2.2.2.2.2.2.2 < ((List.length x.2.2.2.2.2.2.2.1) : Int))) then (bif (inR x.2.2.2.2.2.2.2.2 (List.length x.2.2.2.2.2.2.2.1)) then (bif (seqB (List.getD x.2.2.2.2.2.2.2.1 (Int.toNat x.2.2.2.2.2.2.2.2) (dflt 4)) (⟨#[61]⟩ : ByteArray)) then (bif ((decide ((0 : Int) ≤ x.2.2.2.2.2.2.2.2)) && (decide (x.2.2.2.2.2.2.2.2 ≤ ((List.length x.2.2.2.2.2.2.2.1) : Int)))) then (bif (Bool.true && (decide ((2 : Int) ≤ ((Int.toNat x.2.2.2.2.2.2.2.2) : Int)))) then (Option.bind (Tf.tapewrightref09_dims.f F (List.drop 2 (List.take (Int.toNat x.2.2.2.2.2.2.2.2) x.2.2.2.2.2.2.2.1))) (fun y63 => (bif ((decide ((0 : Int) ≤ (Go.IntKind.wrap IntKind.i64 (x.2.2.2.2.2.2.2.2 + (1 : Int))))) && (decide ((Go.IntKind.wrap IntKind.i64 (x.2.2.2.2.2.2.2.2 + (1 : Int))) ≤ ((List.length x.2.2.2.2.2.2.2.1) : Int)))) then (bif (!y63.2) then (some (.inl (ByteArray.empty, (ByteArray.empty, ((), (([] : List Int), (ByteArray.empty, ((0 : Int), (([] : List ByteArray), Bool.false)))))))))
 else (Option.bind (Tf.tapewrightref04_Size.f F y63.1) (fun y81 => (bif (((List.length (List.drop (Int.toNat (Go.IntKind.wrap IntKind.i64 (x.2.2.2.2.2.2.2.2 + (1 : Int)))) (List.take (List.length x.2.2.2.2.2.2.2.1) x.2.2.2.2.2.2.2.1))) : Int) != y81) then (some (.inl (ByteArray.empty, (ByteArray.empty, ((), (([] : List Int), (ByteArray.empty, ((0 : Int), (([] : List ByteArray), Bool.false)))))))))
 else (Option.bind (Tf.tapewrightref09_rationals.f F (List.drop (Int.toNat (Go.IntKind.wrap IntKind.i64 (x.2.2.2.2.2.2.2.2 + (1 : Int)))) (List.take (List.length x.2.2.2.2.2.2.2.1) x.2.2.2.2.2.2.2.1))) (fun y87 => (bif (!y87) then (some (.inl (ByteArray.empty, (ByteArray.empty, ((), (([] : List Int), (ByteArray.empty, ((0 : Int), (([] : List ByteArray), Bool.false)))))))))
 else (bif (inR (1 : Int) (List.length x.2.2.2.2.2.2.2.1)) then (some (.inl ((List.getD x.2.2.2.2.2.2.2.1 1 (dflt 4)), ((⟨#[99, 111, 110, 115, 116]⟩ : ByteArray), ((), (y63.1, (ByteArray.empty, ((0 : Int), ((List.drop (Int.toNat (Go.IntKind.wrap IntKind.i64 (x.2.2.2.2.2.2.2.2 + (1 : Int)))) (List.take (List.length x.2.2.2.2.2.2.2.1) x.2.2.2.2.2.2.2.1)), Bool.true)))))))))
 else none))))))))
 else none)))
 else none)
 else none)
 else (L (x.1, (x.2.1, ((), ((), (x.2.2.2.2.1, (x.2.2.2.2.2.1, ((), (x.2.2.2.2.2.2.2.1, (Go.IntKind.wrap IntKind.i64 (x.2.2.2.2.2.2.2.2 + (1 : Int)))))))))))))
 else none)
 else (some (.inr (x.1, (x.2.1, ((), ((), (x.2.2.2.2.1, (x.2.2.2.2.2.1, ())))))))))
def Tf.tapewrightref09_Parse.l39 (F : Nat) : (ByteArray × (ByteArray × (Unit × (Unit × (ByteArray × (Int × (Unit × ((List ByteArray) × Int)))))))) → Option ((ByteArray × (ByteArray × (Unit × ((List Int) × (ByteArray × (Int × ((List ByteArray) × Bool))))))) ⊕ (ByteArray × (ByteArray × (Unit × (Unit × (ByteArray × (Int × Unit))))))) := iter (Tf.tapewrightref09_Parse.s39 F) F
theorem Tf.tapewrightref09_Parse.s39_ok (F : Nat) (L a) : exec Go.VI.tyT (look [(33, Tf.tapewrightref09_kind.e F), (34, Tf.tapewrightref08_Name.e F), (35, Tf.tapewrightref09_rationals.e F), (36, Tf.tapewrightref09_number.e F), (37, Tf.tapewrightref09_dims.e F), (38, Tf.tapewrightref04_Size.e F)] : Fns) 224 (look [] : Loops) Tf.tapewrightref09_Parse.b39 (rebuild [.box 2 [none, none, none, none, none, none, none], .view 0 4, .slot 12] (encKs [.str, .str, .nil, .nil, .str, .int .i64, .nil, .sl 4, .int .i64] a)) (bodyK [.box 2 [none, none, none, none, none, none, none], .view 0 4, .slot 12] [.str, .str, .nil, .nil, .str, .int .i64, .nil, .sl 4, .int .i64] [⟨.ret, [.box 2 [none, none, none, some 0, none, none, some 1004], .slot 3], [.str, .str, .nil, .sl 0, .str, .int .i64, .sl 4, .bool]⟩, ⟨.exit 3, [.box 2 [none, none, none, none, none, none, none]], [.str, .str, .nil, .nil, .str, .int .i64, .nil]⟩] L) = Tf.tapewrightref09_Parse.s39 F L a := by kernel_rfl
theorem Tf.tapewrightref09_Parse.l39_ok (F : Nat) : LoopOk Go.Proofs.Tryz.prog Go.VI.tyT.G 224 Tf.tapewrightref09_Parse.b39 (fun st κ => hand [.box 2 [none, none, none, none, none, none, none], .view 0 4, .slot 12] [.str, .str, .nil, .nil, .str, .int .i64, .nil, .sl 4, .int .i64] [⟨.ret, [.box 2 [none, none, none, some 0, none, none, some 1004], .slot 3], [.str, .str, .nil, .sl 0, .str, .int .i64, .sl 4, .bool]⟩, ⟨.exit 3, [.box 2 [none, none, none, none, none, none, none]], [.str, .str, .nil, .nil, .str, .int .i64, .nil]⟩] (Tf.tapewrightref09_Parse.l39 F) st κ) :=
  loop_ok Go.VI.tyT_ok rfl mix (.cons (Tf.tapewrightref09_kind.ok F) (.cons (Tf.tapewrightref08_Name.ok F) (.cons (Tf.tapewrightref09_rationals.ok F) (.cons (Tf.tapewrightref09_number.ok F) (.cons (Tf.tapewrightref09_dims.ok F) (.cons (Tf.tapewrightref04_Size.ok F) .nil)))))) (Λ := (look [] : Loops)) (LoopsOk.of (bs := []) (by kernel_rfl) .nil) (Tf.tapewrightref09_Parse.s39_ok F) F
def Tf.tapewrightref09_Parse.f (F : Nat) (a : (List ByteArray)) : Option (Go.VI.Stmt × Bool) :=
 (bif (decide (((List.length a) : Int) > (3 : Int))) then (bif (inR (1 : Int) (List.length a)) then (bif (seqB (List.getD a 1 (dflt 4)) (⟨#[61]⟩ : ByteArray)) then (bif (inR (2 : Int) (List.length a)) then (Option.bind (Tf.tapewrightref09_kind.f F (List.getD a 2 (dflt 4))) (fun y18 => (bif (y18.1 == (0 : Int)) then (some ((Stmt.mk ByteArray.empty ByteArray.empty ([] : List ByteArray) ([] : List Int) ByteArray.empty (0 : Int) ([] : List ByteArray)), Bool.false))
 else (bif (decide (((List.length a) : Int) < (Go.IntKind.wrap IntKind.i64 ((3 : Int) + y18.1)))) then (some ((Stmt.mk ByteArray.empty ByteArray.empty ([] : List ByteArray) ([] : List Int) ByteArray.empty (0 : Int) ([] : List ByteArray)), Bool.false))
 else (bif (inR (0 : Int) (List.length a)) then (Option.bind (Tf.tapewrightref08_Name.f F (List.getD a 0 (dflt 4))) (fun y38 => (bif (!y38) then (some ((Stmt.mk ByteArray.empty ByteArray.empty ([] : List ByteArray) ([] : List Int) ByteArray.empty (0 : Int) ([] : List ByteArray)), Bool.false))
 else (bif (inR (0 : Int) (List.length a)) then (bif (inR (2 : Int) (List.length a)) then (bif ((decide ((0 : Int) ≤ (Go.IntKind.wrap IntKind.i64 ((3 : Int) + y18.1)))) && (decide ((Go.IntKind.wrap IntKind.i64 ((3 : Int) + y18.1)) ≤ ((List.length a) : Int)))) then (bif (Bool.true && (decide ((3 : Int) ≤ ((Int.toNat (Go.IntKind.wrap IntKind.i64 ((3 : Int) + y18.1))) : Int)))) then (Option.bind (Tf.tapewrightref09_Parse.l7 F (ByteArray.empty, (ByteArray.empty, ((), ((), (ByteArray.empty, ((0 : Int), ((), ((0 : Int), ((List.getD a 0 (dflt 4)), ((List.getD a 2 (dflt 4)), ((List.drop 3 (List.take (Int.toNat (Go.IntKind.wrap IntKind.i64 ((3 : Int) + y18.1))) a)), ((), (ByteArray.empty, ((0 : Int), ((), (y18.2, (y18.1, a)))))))))))))))))) (fun y55 => (sumE y55 (fun y56 => (some ((Stmt.mk y56.1 y56.2.1 ([] : List ByteArray) ([] : List Int) y56.2.2.2.2.1 y56.2.2.2.2.2.1 ([] : List ByteArray)), y56.2.2.2.2.2.2.2))) (fun y56 => (bif ((decide ((0 : Int) ≤ (Go.IntKind.wrap IntKind.i64 ((3 : Int) + y56.2.2.2.2.2.2.2.2.2.2.2.2.2.2.2.1)))) && (decide ((Go.IntKind.wrap IntKind.i64 ((3 : Int) + y56.2.2.2.2.2.2.2.2.2.2.2.2.2.2.2.1)) ≤ ((List.length y56.2.2.2.2.2.2.2.2.2.2.2.2.2.2.2.2) : Int)))) then (bif (decide (y56.2.2.2.2.2.2.2.2.2.2.2.2.2.2.1 < (3 : Int))) then (bif (((List.length (List.drop (Int.toNat (Go.IntKind.wrap IntKind.i64 ((3 : Int) + y56.2.2.2.2.2.2.2.2.2.2.2.2.2.2.2.1))) (List.take (List.length y56.2.2.2.2.2.2.2.2.2.2.2.2.2.2.2.2) y56.2.2.2.2.2.2.2.2.2.2.2.2.2.2.2.2))) : Int) != (Go.IntKind.wrap IntKind.i64 (Int.tdiv (Go.IntKind.wrap IntKind.i64 (y56.2.2.2.2.2.2.2.2.2.2.2.2.2.2.1 + (1 : Int))) (2 : Int)))) then (some ((Stmt.mk ByteArray.empty ByteArray.empty ([] : List ByteArray) ([] : List Int) ByteArray.empty (0 : Int) ([] : List ByteArray)), Bool.false))
 else (bif (y56.2.2.2.2.2.2.2.2.2.2.2.2.2.2.1 == (1 : Int)) then (Option.bind (Tf.tapewrightref09_rationals.f F (List.drop (Int.toNat (Go.IntKind.wrap IntKind.i64 ((3 : Int) + y56.2.2.2.2.2.2.2.2.2.2.2.2.2.2.2.1))) (List.take (List.length y56.2.2.2.2.2.2.2.2.2.2.2.2.2.2.2.2) y56.2.2.2.2.2.2.2.2.2.2.2.2.2.2.2.2))) (fun y78 => (bif (inR (0 : Int) (List.length (List.drop (Int.toNat (Go.IntKind.wrap IntKind.i64 ((3 : Int) + y56.2.2.2.2.2.2.2.2.2.2.2.2.2.2.2.1))) (List.take (List.length y56.2.2.2.2.2.2.2.2.2.2.2.2.2.2.2.2) y56.2.2.2.2.2.2.2.2.2.2.2.2.2.2.2.2)))) then (bif (!y78) then (some ((Stmt.mk ByteArray.empty ByteArray.empty ([] : List ByteArray) ([] : List Int) ByteArray.empty (0 : Int) ([] : List ByteArray)), Bool.false))
 else (some ((Stmt.mk y56.2.2.2.2.2.2.2.1 y56.2.2.2.2.2.2.2.2.1 y56.2.2.2.2.2.2.2.2.2.1 ([] : List Int) (List.getD (List.drop (Int.toNat (Go.IntKind.wrap IntKind.i64 ((3 : Int) + y56.2.2.2.2.2.2.2.2.2.2.2.2.2.2.2.1))) (List.take (List.length y56.2.2.2.2.2.2.2.2.2.2.2.2.2.2.2.2) y56.2.2.2.2.2.2.2.2.2.2.2.2.2.2.2.2)) 0 (dflt 4)) y56.2.2.2.2.2.2.2.2.2.2.2.2.1 ([] : List ByteArray)), Bool.true)))
 else none)))
 else (bif (y56.2.2.2.2.2.2.2.2.2.2.2.2.2.2.1 == (2 : Int)) then (bif (inR (0 : Int) (List.length (List.drop (Int.toNat (Go.IntKind.wrap IntKind.i64 ((3 : Int) + y56.2.2.2.2.2.2.2.2.2.2.2.2.2.2.2.1))) (List.take (List.length y56.2.2.2.2.2.2.2.2.2.2.2.2.2.2.2.2) y56.2.2.2.2.2.2.2.2.2.2.2.2.2.2.2.2)))) then (Option.bind (Tf.tapewrightref09_number.f F (List.getD (List.drop (Int.toNat (Go.IntKind.wrap IntKind.i64 ((3 : Int) + y56.2.2.2.2.2.2.2.2.2.2.2.2.2.2.2.1))) (List.take (List.length y56.2.2.2.2.2.2.2.2.2.2.2.2.2.2.2.2) y56.2.2.2.2.2.2.2.2.2.2.2.2.2.2.2.2)) 0 (dflt 4))) (fun y82 => (bif y82.2 then (bif (!(decide (y82.1 < (7 : Int)))) then (some ((Stmt.mk ByteArray.empty ByteArray.empty ([] : List ByteArray) ([] : List Int) ByteArray.empty (0 : Int) ([] : List ByteArray)), Bool.false))
 else (some ((Stmt.mk y56.2.2.2.2.2.2.2.1 y56.2.2.2.2.2.2.2.2.1 y56.2.2.2.2.2.2.2.2.2.1 ([] : List Int) y56.2.2.2.2.2.2.2.2.2.2.2.1 y82.1 ([] : List ByteArray)), Bool.true)))
 else (some ((Stmt.mk ByteArray.empty ByteArray.empty ([] : List ByteArray) ([] : List Int) ByteArray.empty (0 : Int) ([] : List ByteArray)), Bool.false)))))
 else none)
 else (bif (y56.2.2.2.2.2.2.2.2.2.2.2.2.2.2.1 == (3 : Int)) then (Option.bind (Tf.tapewrightref09_dims.f F (List.drop (Int.toNat (Go.IntKind.wrap IntKind.i64 ((3 : Int) + y56.2.2.2.2.2.2.2.2.2.2.2.2.2.2.2.1))) (List.take (List.length y56.2.2.2.2.2.2.2.2.2.2.2.2.2.2.2.2) y56.2.2.2.2.2.2.2.2.2.2.2.2.2.2.2.2))) (fun y82 => (bif (!y82.2) then (some ((Stmt.mk ByteArray.empty ByteArray.empty ([] : List ByteArray) ([] : List Int) ByteArray.empty (0 : Int) ([] : List ByteArray)), Bool.false))
 else (some ((Stmt.mk y56.2.2.2.2.2.2.2.1 y56.2.2.2.2.2.2.2.2.1 y56.2.2.2.2.2.2.2.2.2.1 y82.1 y56.2.2.2.2.2.2.2.2.2.2.2.1 y56.2.2.2.2.2.2.2.2.2.2.2.2.1 ([] : List ByteArray)), Bool.true)))))
 else (some ((Stmt.mk y56.2.2.2.2.2.2.2.1 y56.2.2.2.2.2.2.2.2.1 y56.2.2.2.2.2.2.2.2.2.1 ([] : List Int) y56.2.2.2.2.2.2.2.2.2.2.2.1 y56.2.2.2.2.2.2.2.2.2.2.2.2.1 ([] : List ByteArray)), Bool.true))))))
 else (bif (y56.2.2.2.2.2.2.2.2.2.2.2.2.2.2.1 == (1 : Int)) then (Option.bind (Tf.tapewrightref09_rationals.f F (List.drop (Int.toNat (Go.IntKind.wrap IntKind.i64 ((3 : Int) + y56.2.2.2.2.2.2.2.2.2.2.2.2.2.2.2.1))) (List.take (List.length y56.2.2.2.2.2.2.2.2.2.2.2.2.2.2.2.2) y56.2.2.2.2.2.2.2.2.2.2.2.2.2.2.2.2))) (fun y72 => (bif (inR (0 : Int) (List.length (List.drop (Int.toNat (Go.IntKind.wrap IntKind.i64 ((3 : Int) + y56.2.2.2.2.2.2.2.2.2.2.2.2.2.2.2.1))) (List.take (List.length y56.2.2.2.2.2.2.2.2.2.2.2.2.2.2.2.2) y56.2.2.2.2.2.2.2.2.2.2.2.2.2.2.2.2)))) then (bif (!y72) then (some ((Stmt.mk ByteArray.empty ByteArray.empty ([] : List ByteArray) ([] : List Int) ByteArray.empty (0 : Int) ([] : List ByteArray)), Bool.false))
 else (some ((Stmt.mk y56.2.2.2.2.2.2.2.1 y56.2.2.2.2.2.2.2.2.1 y56.2.2.2.2.2.2.2.2.2.1 ([] : List Int) (List.getD (List.drop (Int.toNat (Go.IntKind.wrap IntKind.i64 ((3 : Int) + y56.2.2.2.2.2.2.2.2.2.2.2.2.2.2.2.1))) (List.take (List.length y56.2.2.2.2.2.2.2.2.2.2.2.2.2.2.2.2) y56.2.2.2.2.2.2.2.2.2.2.2.2.2.2.2.2)) 0 (dflt 4)) y56.2.2.2.2.2.2.2.2.2.2.2.2.1 ([] : List ByteArray)), Bool.true)))
 else none)))
 else (bif (y56.2.2.2.2.2.2.2.2.2.2.2.2.2.2.1 == (2 : Int)) then (bif (inR (0 : Int) (List.length (List.drop (Int.toNat (Go.IntKind.wrap IntKind.i64 ((3 : Int) + y56.2.2.2.2.2.2.2.2.2.2.2.2.2.2.2.1))) (List.take (List.length y56.2.2.2.2.2.2.2.2.2.2.2.2.2.2.2.2) y56.2.2.2.2.2.2.2.2.2.2.2.2.2.2.2.2)))) then (Option.bind (Tf.tapewrightref09_number.f F (List.getD (List.drop (Int.toNat (Go.IntKind.wrap IntKind.i64 ((3 : Int) + y56.2.2.2.2.2.2.2.2.2.2.2.2.2.2.2.1))) (List.take (List.length y56.2.2.2.2.2.2.2.2.2.2.2.2.2.2.2.2) y56.2.2.2.2.2.2.2.2.2.2.2.2.2.2.2.2)) 0 (dflt 4))) (fun y76 => (bif y76.2 then (bif (!(decide (y76.1 < (7 : Int)))) then (some ((Stmt.mk ByteArray.empty ByteArray.empty ([] : List ByteArray) ([] : List Int) ByteArray.empty (0 : Int) ([] : List ByteArray)), Bool.false))
 else (some ((Stmt.mk y56.2.2.2.2.2.2.2.1 y56.2.2.2.2.2.2.2.2.1 y56.2.2.2.2.2.2.2.2.2.1 ([] : List Int) y56.2.2.2.2.2.2.2.2.2.2.2.1 y76.1 ([] : List ByteArray)), Bool.true)))
 else (some ((Stmt.mk ByteArray.empty ByteArray.empty ([] : List ByteArray) ([] : List Int) ByteArray.empty (0 : Int) ([] : List ByteArray)), Bool.false)))))
 else none)
 else (bif (y56.2.2.2.2.2.2.2.2.2.2.2.2.2.2.1 == (3 : Int)) then (Option.bind (Tf.tapewrightref09_dims.f F (List.drop (Int.toNat (Go.IntKind.wrap IntKind.i64 ((3 : Int) + y56.2.2.2.2.2.2.2.2.2.2.2.2.2.2.2.1))) (List.take (List.length y56.2.2.2.2.2.2.2.2.2.2.2.2.2.2.2.2) y56.2.2.2.2.2.2.2.2.2.2.2.2.2.2.2.2))) (fun y76 => (bif (!y76.2) then (some ((Stmt.mk ByteArray.empty ByteArray.empty ([] : List ByteArray) ([] : List Int) ByteArray.empty (0 : Int) ([] : List ByteArray)), Bool.false))
 else (some ((Stmt.mk y56.2.2.2.2.2.2.2.1 y56.2.2.2.2.2.2.2.2.1 y56.2.2.2.2.2.2.2.2.2.1 y76.1 y56.2.2.2.2.2.2.2.2.2.2.2.1 y56.2.2.2.2.2.2.2.2.2.2.2.2.1 ([] : List ByteArray)), Bool.true)))))
 else (some ((Stmt.mk y56.2.2.2.2.2.2.2.1 y56.2.2.2.2.2.2.2.2.1 y56.2.2.2.2.2.2.2.2.2.1 ([] : List Int) y56.2.2.2.2.2.2.2.2.2.2.2.1 y56.2.2.2.2.2.2.2.2.2.2.2.2.1 ([] : List ByteArray)), Bool.true))))))
 else none)))))
 else none)
 else none)
 else none)
 else none))))
 else none)))))
 else none)
 else (bif (decide (((List.length a) : Int) < (2 : Int))) then (some ((Stmt.mk ByteArray.empty ByteArray.empty ([] : List ByteArray) ([] : List Int) ByteArray.empty (0 : Int) ([] : List ByteArray)), Bool.false))
 else (bif (inR (1 : Int) (List.length a)) then (Option.bind (Tf.tapewrightref08_Name.f F (List.getD a 1 (dflt 4))) (fun y22 => (bif (!y22) then (some ((Stmt.mk ByteArray.empty ByteArray.empty ([] : List ByteArray) ([] : List Int) ByteArray.empty (0 : Int) ([] : List ByteArray)), Bool.false))
 else (bif (inR (0 : Int) (List.length a)) then (bif (seqB (List.getD a 0 (dflt 4)) (⟨#[108, 111, 115, 115]⟩ : ByteArray)) then (bif (((List.length a) : Int) == (2 : Int)) then (bif (Bool.true && (decide ((1 : Int) ≤ ((List.length a) : Int)))) then (some ((Stmt.mk ByteArray.empty (⟨#[108, 111, 115, 115]⟩ : ByteArray) (List.drop 1 (List.take (List.length a) a)) ([] : List Int) ByteArray.empty (0 : Int) ([] : List ByteArray)), Bool.true))
 else none)
 else (bif (inR (0 : Int) (List.length a)) then (bif (seqB (List.getD a 0 (dflt 4)) (⟨#[112, 97, 114, 97, 109]⟩ : ByteArray)) then (bif (Bool.true && (decide ((2 : Int) ≤ ((List.length a) : Int)))) then (Option.bind (Tf.tapewrightref09_dims.f F (List.drop 2 (List.take (List.length a) a))) (fun y43 => (bif (!y43.2) then (some ((Stmt.mk ByteArray.empty ByteArray.empty ([] : List ByteArray) ([] : List Int) ByteArray.empty (0 : Int) ([] : List ByteArray)), Bool.false))
 else (bif (inR (1 : Int) (List.length a)) then (bif (inR (0 : Int) (List.length a)) then (some ((Stmt.mk (List.getD a 1 (dflt 4)) (List.getD a 0 (dflt 4)) ([] : List ByteArray) y43.1 ByteArray.empty (0 : Int) ([] : List ByteArray)), Bool.true))
 else none)
 else none))))
 else none)
 else (bif (inR (0 : Int) (List.length a)) then (bif (seqB (List.getD a 0 (dflt 4)) (⟨#[105, 110, 112, 117, 116]⟩ : ByteArray)) then (bif (Bool.true && (decide ((2 : Int) ≤ ((List.length a) : Int)))) then (Option.bind (Tf.tapewrightref09_dims.f F (List.drop 2 (List.take (List.length a) a))) (fun y47 => (bif (!y47.2) then (some ((Stmt.mk ByteArray.empty ByteArray.empty ([] : List ByteArray) ([] : List Int) ByteArray.empty (0 : Int) ([] : List ByteArray)), Bool.false))
 else (bif (inR (1 : Int) (List.length a)) then (bif (inR (0 : Int) (List.length a)) then (some ((Stmt.mk (List.getD a 1 (dflt 4)) (List.getD a 0 (dflt 4)) ([] : List ByteArray) y47.1 ByteArray.empty (0 : Int) ([] : List ByteArray)), Bool.true))
 else none)
 else none))))
 else none)
 else (bif (inR (0 : Int) (List.length a)) then (bif (!(seqB (List.getD a 0 (dflt 4)) (⟨#[99, 111, 110, 115, 116]⟩ : ByteArray))) then (some ((Stmt.mk ByteArray.empty ByteArray.empty ([] : List ByteArray) ([] : List Int) ByteArray.empty (0 : Int) ([] : List ByteArray)), Bool.false))
 else (Option.bind (Tf.tapewrightref09_Parse.l39 F (ByteArray.empty, (ByteArray.empty, ((), ((), (ByteArray.empty, ((0 : Int), ((), (a, (2 : Int)))))))))) (fun y49 => (sumE y49 (fun y50 => (some ((Stmt.mk y50.1 y50.2.1 ([] : List ByteArray) y50.2.2.2.1 y50.2.2.2.2.1 y50.2.2.2.2.2.1 y50.2.2.2.2.2.2.1), y50.2.2.2.2.2.2.2))) (fun y50 => (some ((Stmt.mk ByteArray.empty ByteArray.empty ([] : List ByteArray) ([] : List Int) ByteArray.empty (0 : Int) ([] : List ByteArray)), Bool.false)))))))
 else none))
 else none))
 else none))
 else (bif (inR (0 : Int) (List.length a)) then (bif (seqB (List.getD a 0 (dflt 4)) (⟨#[112, 97, 114, 97, 109]⟩ : ByteArray)) then (bif (Bool.true && (decide ((2 : Int) ≤ ((List.length a) : Int)))) then (Option.bind (Tf.tapewrightref09_dims.f F (List.drop 2 (List.take (List.length a) a))) (fun y40 => (bif (!y40.2) then (some ((Stmt.mk ByteArray.empty ByteArray.empty ([] : List ByteArray) ([] : List Int) ByteArray.empty (0 : Int) ([] : List ByteArray)), Bool.false))
 else (bif (inR (1 : Int) (List.length a)) then (bif (inR (0 : Int) (List.length a)) then (some ((Stmt.mk (List.getD a 1 (dflt 4)) (List.getD a 0 (dflt 4)) ([] : List ByteArray) y40.1 ByteArray.empty (0 : Int) ([] : List ByteArray)), Bool.true))
 else none)
 else none))))
 else none)
 else (bif (inR (0 : Int) (List.length a)) then (bif (seqB (List.getD a 0 (dflt 4)) (⟨#[105, 110, 112, 117, 116]⟩ : ByteArray)) then (bif (Bool.true && (decide ((2 : Int) ≤ ((List.length a) : Int)))) then (Option.bind (Tf.tapewrightref09_dims.f F (List.drop 2 (List.take (List.length a) a))) (fun y44 => (bif (!y44.2) then (some ((Stmt.mk ByteArray.empty ByteArray.empty ([] : List ByteArray) ([] : List Int) ByteArray.empty (0 : Int) ([] : List ByteArray)), Bool.false))
 else (bif (inR (1 : Int) (List.length a)) then (bif (inR (0 : Int) (List.length a)) then (some ((Stmt.mk (List.getD a 1 (dflt 4)) (List.getD a 0 (dflt 4)) ([] : List ByteArray) y44.1 ByteArray.empty (0 : Int) ([] : List ByteArray)), Bool.true))
 else none)
 else none))))
 else none)
 else (bif (inR (0 : Int) (List.length a)) then (bif (!(seqB (List.getD a 0 (dflt 4)) (⟨#[99, 111, 110, 115, 116]⟩ : ByteArray))) then (some ((Stmt.mk ByteArray.empty ByteArray.empty ([] : List ByteArray) ([] : List Int) ByteArray.empty (0 : Int) ([] : List ByteArray)), Bool.false))
 else (Option.bind (Tf.tapewrightref09_Parse.l39 F (ByteArray.empty, (ByteArray.empty, ((), ((), (ByteArray.empty, ((0 : Int), ((), (a, (2 : Int)))))))))) (fun y46 => (sumE y46 (fun y47 => (some ((Stmt.mk y47.1 y47.2.1 ([] : List ByteArray) y47.2.2.2.1 y47.2.2.2.2.1 y47.2.2.2.2.2.1 y47.2.2.2.2.2.2.1), y47.2.2.2.2.2.2.2))) (fun y47 => (some ((Stmt.mk ByteArray.empty ByteArray.empty ([] : List ByteArray) ([] : List Int) ByteArray.empty (0 : Int) ([] : List ByteArray)), Bool.false)))))))
 else none))
 else none))
 else none))
 else none))))
 else none)))
 else none)
 else (bif (decide (((List.length a) : Int) < (2 : Int))) then (some ((Stmt.mk ByteArray.empty ByteArray.empty ([] : List ByteArray) ([] : List Int) ByteArray.empty (0 : Int) ([] : List ByteArray)), Bool.false))
 else (bif (inR (1 : Int) (List.length a)) then (Option.bind (Tf.tapewrightref08_Name.f F (List.getD a 1 (dflt 4))) (fun y18 => (bif (!y18) then (some ((Stmt.mk ByteArray.empty ByteArray.empty ([] : List ByteArray) ([] : List Int) ByteArray.empty (0 : Int) ([] : List ByteArray)), Bool.false))
 else (bif (inR (0 : Int) (List.length a)) then (bif (seqB (List.getD a 0 (dflt 4)) (⟨#[108, 111, 115, 115]⟩ : ByteArray)) then (bif (((List.length a) : Int) == (2 : Int)) then (bif (Bool.true && (decide ((1 : Int) ≤ ((List.length a) : Int)))) then (some ((Stmt.mk ByteArray.empty (⟨#[108, 111, 115, 115]⟩ : ByteArray) (List.drop 1 (List.take (List.length a) a)) ([] : List Int) ByteArray.empty (0 : Int) ([] : List ByteArray)), Bool.true))
 else none)
 else (bif (inR (0 : Int) (List.length a)) then (bif (seqB (List.getD a 0 (dflt 4)) (⟨#[112, 97, 114, 97, 109]⟩ : ByteArray)) then (bif (Bool.true && (decide ((2 : Int) ≤ ((List.length a) : Int)))) then (Option.bind (Tf.tapewrightref09_dims.f F (List.drop 2 (List.take (List.length a) a))) (fun y39 => (bif (!y39.2) then (some ((Stmt.mk ByteArray.empty ByteArray.empty ([] : List ByteArray) ([] : List Int) ByteArray.empty (0 : Int) ([] : List ByteArray)), Bool.false))
 else (bif (inR (1 : Int) (List.length a)) then (bif (inR (0 : Int) (List.length a)) then (some ((Stmt.mk (List.getD a 1 (dflt 4)) (List.getD a 0 (dflt 4)) ([] : List ByteArray) y39.1 ByteArray.empty (0 : Int) ([] : List ByteArray)), Bool.true))
 else none)
 else none))))
 else none)
 else (bif (inR (0 : Int) (List.length a)) then (bif (seqB (List.getD a 0 (dflt 4)) (⟨#[105, 110, 112, 117, 116]⟩ : ByteArray)) then (bif (Bool.true && (decide ((2 : Int) ≤ ((List.length a) : Int)))) then (Option.bind (Tf.tapewrightref09_dims.f F (List.drop 2 (List.take (List.length a) a))) (fun y43 => (bif (!y43.2) then (some ((Stmt.mk ByteArray.empty ByteArray.empty ([] : List ByteArray) ([] : List Int) ByteArray.empty (0 : Int) ([] : List ByteArray)), Bool.false))
 else (bif (inR (1 : Int) (List.length a)) then (bif (inR (0 : Int) (List.length a)) then (some ((Stmt.mk (List.getD a 1 (dflt 4)) (List.getD a 0 (dflt 4)) ([] : List ByteArray) y43.1 ByteArray.empty (0 : Int) ([] : List ByteArray)), Bool.true))
 else none)
 else none))))
 else none)
 else (bif (inR (0 : Int) (List.length a)) then (bif (!(seqB (List.getD a 0 (dflt 4)) (⟨#[99, 111, 110, 115, 116]⟩ : ByteArray))) then (some ((Stmt.mk ByteArray.empty ByteArray.empty ([] : List ByteArray) ([] : List Int) ByteArray.empty (0 : Int) ([] : List ByteArray)), Bool.false))
 else (Option.bind (Tf.tapewrightref09_Parse.l39 F (ByteArray.empty, (ByteArray.empty, ((), ((), (ByteArray.empty, ((0 : Int), ((), (a, (2 : Int)))))))))) (fun y45 => (sumE y45 (fun y46 => (some ((Stmt.mk y46.1 y46.2.1 ([] : List ByteArray) y46.2.2.2.1 y46.2.2.2.2.1 y46.2.2.2.2.2.1 y46.2.2.2.2.2.2.1), y46.2.2.2.2.2.2.2))) (fun y46 => (some ((Stmt.mk ByteArray.empty ByteArray.empty ([] : List ByteArray) ([] : List Int) ByteArray.empty (0 : Int) ([] : List ByteArray)), Bool.false)))))))
 else none))
 else none))
 else none))
 else (bif (inR (0 : Int) (List.length a)) then (bif (seqB (List.getD a 0 (dflt 4)) (⟨#[112, 97, 114, 97, 109]⟩ : ByteArray)) then (bif (Bool.true && (decide ((2 : Int) ≤ ((List.length a) : Int)))) then (Option.bind (Tf.tapewrightref09_dims.f F (List.drop 2 (List.take (List.length a) a))) (fun y36 => (bif (!y36.2) then (some ((Stmt.mk ByteArray.empty ByteArray.empty ([] : List ByteArray) ([] : List Int) ByteArray.empty (0 : Int) ([] : List ByteArray)), Bool.false))
 else (bif (inR (1 : Int) (List.length a)) then (bif (inR (0 : Int) (List.length a)) then (some ((Stmt.mk (List.getD a 1 (dflt 4)) (List.getD a 0 (dflt 4)) ([] : List ByteArray) y36.1 ByteArray.empty (0 : Int) ([] : List ByteArray)), Bool.true))
 else none)
 else none))))
 else none)
 else (bif (inR (0 : Int) (List.length a)) then (bif (seqB (List.getD a 0 (dflt 4)) (⟨#[105, 110, 112, 117, 116]⟩ : ByteArray)) then (bif (Bool.true && (decide ((2 : Int) ≤ ((List.length a) : Int)))) then (Option.bind (Tf.tapewrightref09_dims.f F (List.drop 2 (List.take (List.length a) a))) (fun y40 => (bif (!y40.2) then (some ((Stmt.mk ByteArray.empty ByteArray.empty ([] : List ByteArray) ([] : List Int) ByteArray.empty (0 : Int) ([] : List ByteArray)), Bool.false))
 else (bif (inR (1 : Int) (List.length a)) then (bif (inR (0 : Int) (List.length a)) then (some ((Stmt.mk (List.getD a 1 (dflt 4)) (List.getD a 0 (dflt 4)) ([] : List ByteArray) y40.1 ByteArray.empty (0 : Int) ([] : List ByteArray)), Bool.true))
 else none)
 else none))))
 else none)
 else (bif (inR (0 : Int) (List.length a)) then (bif (!(seqB (List.getD a 0 (dflt 4)) (⟨#[99, 111, 110, 115, 116]⟩ : ByteArray))) then (some ((Stmt.mk ByteArray.empty ByteArray.empty ([] : List ByteArray) ([] : List Int) ByteArray.empty (0 : Int) ([] : List ByteArray)), Bool.false))
 else (Option.bind (Tf.tapewrightref09_Parse.l39 F (ByteArray.empty, (ByteArray.empty, ((), ((), (ByteArray.empty, ((0 : Int), ((), (a, (2 : Int)))))))))) (fun y42 => (sumE y42 (fun y43 => (some ((Stmt.mk y43.1 y43.2.1 ([] : List ByteArray) y43.2.2.2.1 y43.2.2.2.2.1 y43.2.2.2.2.2.1 y43.2.2.2.2.2.2.1), y43.2.2.2.2.2.2.2))) (fun y43 => (some ((Stmt.mk ByteArray.empty ByteArray.empty ([] : List ByteArray) ([] : List Int) ByteArray.empty (0 : Int) ([] : List ByteArray)), Bool.false)))))))
 else none))
 else none))
 else none))
 else none))))
 else none)))
theorem Tf.tapewrightref09_Parse.f_ok (F : Nat) (a) : exec Go.VI.tyT (look [(33, Tf.tapewrightref09_kind.e F), (34, Tf.tapewrightref08_Name.e F), (35, Tf.tapewrightref09_rationals.e F), (36, Tf.tapewrightref09_number.e F), (37, Tf.tapewrightref09_dims.e F), (38, Tf.tapewrightref04_Size.e F)] : Fns) 224 (look [(7, fun st κ => hand [.box 2 [none, none, none, none, none, none, none], .slot 7, .box 6 [none, none, none, none, none, none, none], .slot 5, .slot 4, .view 0 4] [.str, .str, .nil, .nil, .str, .int .i64, .nil, .int .i64, .str, .str, .sl 4, .nil, .str, .int .i64, .nil, .int .i64, .int .i64, .sl 4] [⟨.ret, [.box 2 [none, none, none, none, none, none, none], .slot 3], [.str, .str, .nil, .nil, .str, .int .i64, .nil, .bool]⟩, ⟨.exit 0, [.box 2 [none, none, none, none, none, none, none], .box 6 [none, none, none, none, none, none, none], .slot 5, .slot 4, .view 0 4], [.str, .str, .nil, .nil, .str, .int .i64, .nil, .str, .str, .sl 4, .nil, .str, .int .i64, .nil, .int .i64, .int .i64, .sl 4]⟩] (Tf.tapewrightref09_Parse.l7 F) st κ), (39, fun st κ => hand [.box 2 [none, none, none, none, none, none, none], .view 0 4, .slot 12] [.str, .str, .nil, .nil, .str, .int .i64, .nil, .sl 4, .int .i64] [⟨.ret, [.box 2 [none, none, none, some 0, none, none, some 1004], .slot 3], [.str, .str, .nil, .sl 0, .str, .int .i64, .sl 4, .bool]⟩, ⟨.exit 3, [.box 2 [none, none, none, none, none, none, none]], [.str, .str, .nil, .nil, .str, .int .i64, .nil]⟩] (Tf.tapewrightref09_Parse.l39 F) st κ)] : Loops) Tf.tapewrightref09_Parse.c (init [.v 4] (encKs [.sl 4] a)) (finC Go.VI.tyT (look [(33, Tf.tapewrightref09_kind.e F), (34, Tf.tapewrightref08_Name.e F), (35, Tf.tapewrightref09_rationals.e F), (36, Tf.tapewrightref09_number.e F), (37, Tf.tapewrightref09_dims.e F), (38, Tf.tapewrightref04_Size.e F)] : Fns) 224 2 32 (⟨[.v 4], [.v 207, .p]⟩ : Sig) [2, 3] [.pure, .pure] [.rc 7, .bool]) = Tf.tapewrightref09_Parse.f F a := by kernel_rfl
def Tf.tapewrightref09_Parse.e (F : Nat) : Fn := mkFn (⟨[.v 4], [.v 207, .p]⟩ : Sig) [.sl 4] [.pure, .pure] [.rc 7, .bool] (Tf.tapewrightref09_Parse.f F)
theorem Tf.tapewrightref09_Parse.ok (F : Nat) : EntryOk Go.Proofs.Tryz.prog Go.VI.tyT.G 16 (Tf.tapewrightref09_Parse.e F) :=
  fn_okC Go.VI.tyT_ok rfl mix (.cons (Tf.tapewrightref09_kind.ok F) (.cons (Tf.tapewrightref08_Name.ok F) (.cons (Tf.tapewrightref09_rationals.ok F) (.cons (Tf.tapewrightref09_number.ok F) (.cons (Tf.tapewrightref09_dims.ok F) (.cons (Tf.tapewrightref04_Size.ok F) .nil)))))) (Λ := (look [(7, fun st κ => hand [.box 2 [none, none, none, none, none, none, none], .slot 7, .box 6 [none, none, none, none, none, none, none], .slot 5, .slot 4, .view 0 4] [.str, .str, .nil, .nil, .str, .int .i64, .nil, .int .i64, .str, .str, .sl 4, .nil, .str, .int .i64, .nil, .int .i64, .int .i64, .sl 4] [⟨.ret, [.box 2 [none, none, none, none, none, none, none], .slot 3], [.str, .str, .nil, .nil, .str, .int .i64, .nil, .bool]⟩, ⟨.exit 0, [.box 2 [none, none, none, none, none, none, none], .box 6 [none, none, none, none, none, none, none], .slot 5, .slot 4, .view 0 4], [.str, .str, .nil, .nil, .str, .int .i64, .nil, .str, .str, .sl 4, .nil, .str, .int .i64, .nil, .int .i64, .int .i64, .sl 4]⟩] (Tf.tapewrightref09_Parse.l7 F) st κ), (39, fun st κ => hand [.box 2 [none, none, none, none, none, none, none], .view 0 4, .slot 12] [.str, .str, .nil, .nil, .str, .int .i64, .nil, .sl 4, .int .i64] [⟨.ret, [.box 2 [none, none, none, some 0, none, none, some 1004], .slot 3], [.str, .str, .nil, .sl 0, .str, .int .i64, .sl 4, .bool]⟩, ⟨.exit 3, [.box 2 [none, none, none, none, none, none, none]], [.str, .str, .nil, .nil, .str, .int .i64, .nil]⟩] (Tf.tapewrightref09_Parse.l39 F) st κ)] : Loops)) (fn := Go.Proofs.Tryz.f16) (c := Tf.tapewrightref09_Parse.c) (LoopsOk.of (bs := [Tf.tapewrightref09_Parse.b7, Tf.tapewrightref09_Parse.b39]) (by kernel_rfl) (.cons rfl (Tf.tapewrightref09_Parse.l7_ok F) (.cons rfl (Tf.tapewrightref09_Parse.l39_ok F) .nil))) (by kernel_rfl) (by kernel_rfl) (by kernel_rfl) (by kernel_rfl) (resC1 (by kernel_rfl) (by kernel_rfl)) (by decide) (Tf.tapewrightref09_Parse.f_ok F)
end Go.VI
namespace Go.VI
open Go
noncomputable def Tf.tapewrightref09_same.c : Code := (Go.Proofs.Tryz.f39.body).getD .skip
noncomputable def Tf.tapewrightref09_same.b4 : Code := codeAt [1, 1, 0, 1, 0, 0] Tf.tapewrightref09_same.c
def Tf.tapewrightref09_same.s4 (F : Nat) (L : (Int × ((List ByteArray) × (List ByteArray))) → Option (Bool ⊕ Unit)) (x : (Int × ((List ByteArray) × (List ByteArray)))) : Option (Bool ⊕ Unit) :=
 (bif (decide (x.1 < ((List.length x.2.2) : Int))) then (bif (inR x.1 (List.length x.2.2)) then (bif (inR x.1 (List.length x.2.1)) then (bif (!(seqB (List.getD x.2.2 (Int.toNat x.1) (dflt 4)) (List.getD x.2.1 (Int.toNat x.1) (dflt 4)))) then (some (.inl Bool.false))
 else (L ((Go.IntKind.wrap IntKind.i64 (x.1 + (1 : Int))), (x.2.1, x.2.2))))
 else none)
 else none)
 else (some (.inr ())))
def Tf.tapewrightref09_same.l4 (F : Nat) : (Int × ((List ByteArray) × (List ByteArray))) → Option (Bool ⊕ Unit) := iter (Tf.tapewrightref09_same.s4 F) F
theorem Tf.tapewrightref09_same.s4_ok (F : Nat) (L a) : exec Go.VI.tyT (look [] : Fns) 26 (look [] : Loops) Tf.tapewrightref09_same.b4 (rebuild [.slot 5, .view 1 4, .view 0 4] (encKs [.int .i64, .sl 4, .sl 4] a)) (bodyK [.slot 5, .view 1 4, .view 0 4] [.int .i64, .sl 4, .sl 4] [⟨.ret, [.slot 4], [.bool]⟩, ⟨.exit 0, [], []⟩] L) = Tf.tapewrightref09_same.s4 F L a := by kernel_rfl
theorem Tf.tapewrightref09_same.l4_ok (F : Nat) : LoopOk Go.Proofs.Tryz.prog Go.VI.tyT.G 26 Tf.tapewrightref09_same.b4 (fun st κ => hand [.slot 5, .view 1 4, .view 0 4] [.int .i64, .sl 4, .sl 4] [⟨.ret, [.slot 4], [.bool]⟩, ⟨.exit 0, [], []⟩] (Tf.tapewrightref09_same.l4 F) st κ) :=
  loop_ok Go.VI.tyT_ok rfl mix .nil (Λ := (look [] : Loops)) (LoopsOk.of (bs := []) (by kernel_rfl) .nil) (Tf.tapewrightref09_same.s4_ok F) F
def Tf.tapewrightref09_same.f (F : Nat) (a : ((List ByteArray) × (List ByteArray))) : Option Bool :=
 (bif (((List.length a.1) : Int) != ((List.length a.2) : Int)) then (some Bool.false)
 else (Option.bind (Tf.tapewrightref09_same.l4 F ((0 : Int), (a.2, a.1))) (fun y10 => (sumE y10 (fun y11 => (some y11)) (fun y11 => (some Bool.true))))))
theorem Tf.tapewrightref09_same.f_ok (F : Nat) (a) : exec Go.VI.tyT (look [] : Fns) 26 (look [(4, fun st κ => hand [.slot 5, .view 1 4, .view 0 4] [.int .i64, .sl 4, .sl 4] [⟨.ret, [.slot 4], [.bool]⟩, ⟨.exit 0, [], []⟩] (Tf.tapewrightref09_same.l4 F) st κ)] : Loops) Tf.tapewrightref09_same.c (init [.v 4, .v 4] (encKs [.sl 4, .sl 4] a)) (finT (look [] : Fns) (⟨[.v 4, .v 4], [.p]⟩ : Sig) [4] [.pure] [.bool]) = Tf.tapewrightref09_same.f F a := by kernel_rfl
def Tf.tapewrightref09_same.e (F : Nat) : Fn := mkFn (⟨[.v 4, .v 4], [.p]⟩ : Sig) [.sl 4, .sl 4] [.pure] [.bool] (Tf.tapewrightref09_same.f F)
theorem Tf.tapewrightref09_same.ok (F : Nat) : EntryOk Go.Proofs.Tryz.prog Go.VI.tyT.G 39 (Tf.tapewrightref09_same.e F) :=
  fn_ok Go.VI.tyT_ok rfl mix .nil (Λ := (look [(4, fun st κ => hand [.slot 5, .view 1 4, .view 0 4] [.int .i64, .sl 4, .sl 4] [⟨.ret, [.slot 4], [.bool]⟩, ⟨.exit 0, [], []⟩] (Tf.tapewrightref09_same.l4 F) st κ)] : Loops)) (fn := Go.Proofs.Tryz.f39) (c := Tf.tapewrightref09_same.c) (LoopsOk.of (bs := [Tf.tapewrightref09_same.b4]) (by kernel_rfl) (.cons rfl (Tf.tapewrightref09_same.l4_ok F) .nil)) (by kernel_rfl) (by kernel_rfl) (by kernel_rfl) (by kernel_rfl) (res1 (by kernel_rfl)) (by decide) (Tf.tapewrightref09_same.f_ok F)
end Go.VI
namespace Go.VI
open Go
noncomputable def Tf.tapewrightref04_Same.c : Code := (Go.Proofs.Tryz.f40.body).getD .skip
noncomputable def Tf.tapewrightref04_Same.b4 : Code := codeAt [1, 1, 0, 1, 0, 0] Tf.tapewrightref04_Same.c
def Tf.tapewrightref04_Same.s4 (F : Nat) (L : (Int × ((List Int) × (List Int))) → Option (Bool ⊕ Unit)) (x : (Int × ((List Int) × (List Int)))) : Option (Bool ⊕ Unit) :=
 (bif (decide (x.1 < ((List.length x.2.2) : Int))) then (bif (inR x.1 (List.length x.2.2)) then (bif (inR x.1 (List.length x.2.1)) then (bif ((List.getD x.2.2 (Int.toNat x.1) (0 : Int)) != (List.getD x.2.1 (Int.toNat x.1) (0 : Int))) then (some (.inl Bool.false))
 else (L ((Go.IntKind.wrap IntKind.i64 (x.1 + (1 : Int))), (x.2.1, x.2.2))))
 else none)
 else none)
 else (some (.inr ())))
def Tf.tapewrightref04_Same.l4 (F : Nat) : (Int × ((List Int) × (List Int))) → Option (Bool ⊕ Unit) := iter (Tf.tapewrightref04_Same.s4 F) F
theorem Tf.tapewrightref04_Same.s4_ok (F : Nat) (L a) : exec Go.VI.tyT (look [] : Fns) 26 (look [] : Loops) Tf.tapewrightref04_Same.b4 (rebuild [.slot 5, .view 1 0, .view 0 0] (encKs [.int .i64, .sl 0, .sl 0] a)) (bodyK [.slot 5, .view 1 0, .view 0 0] [.int .i64, .sl 0, .sl 0] [⟨.ret, [.slot 4], [.bool]⟩, ⟨.exit 0, [], []⟩] L) = Tf.tapewrightref04_Same.s4 F L a := by kernel_rfl
theorem Tf.tapewrightref04_Same.l4_ok (F : Nat) : LoopOk Go.Proofs.Tryz.prog Go.VI.tyT.G 26 Tf.tapewrightref04_Same.b4 (fun st κ => hand [.slot 5, .view 1 0, .view 0 0] [.int .i64, .sl 0, .sl 0] [⟨.ret, [.slot 4], [.bool]⟩, ⟨.exit 0, [], []⟩] (Tf.tapewrightref04_Same.l4 F) st κ) :=
  loop_ok Go.VI.tyT_ok rfl mix .nil (Λ := (look [] : Loops)) (LoopsOk.of (bs := []) (by kernel_rfl) .nil) (Tf.tapewrightref04_Same.s4_ok F) F
def Tf.tapewrightref04_Same.f (F : Nat) (a : ((List Int) × (List Int))) : Option Bool :=
 (bif (((List.length a.1) : Int) != ((List.length a.2) : Int)) then (some Bool.false)
 else (Option.bind (Tf.tapewrightref04_Same.l4 F ((0 : Int), (a.2, a.1))) (fun y10 => (sumE y10 (fun y11 => (some y11)) (fun y11 => (some Bool.true))))))
theorem Tf.tapewrightref04_Same.f_ok (F : Nat) (a) : exec Go.VI.tyT (look [] : Fns) 26 (look [(4, fun st κ => hand [.slot 5, .view 1 0, .view 0 0] [.int .i64, .sl 0, .sl 0] [⟨.ret, [.slot 4], [.bool]⟩, ⟨.exit 0, [], []⟩] (Tf.tapewrightref04_Same.l4 F) st κ)] : Loops) Tf.tapewrightref04_Same.c (init [.v 0, .v 0] (encKs [.sl 0, .sl 0] a)) (finT (look [] : Fns) (⟨[.v 0, .v 0], [.p]⟩ : Sig) [4] [.pure] [.bool]) = Tf.tapewrightref04_Same.f F a := by kernel_rfl
def Tf.tapewrightref04_Same.e (F : Nat) : Fn := mkFn (⟨[.v 0, .v 0], [.p]⟩ : Sig) [.sl 0, .sl 0] [.pure] [.bool] (Tf.tapewrightref04_Same.f F)
theorem Tf.tapewrightref04_Same.ok (F : Nat) : EntryOk Go.Proofs.Tryz.prog Go.VI.tyT.G 40 (Tf.tapewrightref04_Same.e F) :=
  fn_ok Go.VI.tyT_ok rfl mix .nil (Λ := (look [(4, fun st κ => hand [.slot 5, .view 1 0, .view 0 0] [.int .i64, .sl 0, .sl 0] [⟨.ret, [.slot 4], [.bool]⟩, ⟨.exit 0, [], []⟩] (Tf.tapewrightref04_Same.l4 F) st κ)] : Loops)) (fn := Go.Proofs.Tryz.f40) (c := Tf.tapewrightref04_Same.c) (LoopsOk.of (bs := [Tf.tapewrightref04_Same.b4]) (by kernel_rfl) (.cons rfl (Tf.tapewrightref04_Same.l4_ok F) .nil)) (by kernel_rfl) (by kernel_rfl) (by kernel_rfl) (by kernel_rfl) (res1 (by kernel_rfl)) (by decide) (Tf.tapewrightref04_Same.f_ok F)
end Go.VI
namespace Go.VI
open Go
noncomputable def Tf.tapewrightref09_Equal.c : Code := (Go.Proofs.Tryz.f17.body).getD .skip
def Tf.tapewrightref09_Equal.f (F : Nat) (a : (Go.VI.Stmt × Go.VI.Stmt)) : Option Bool :=
 (bif (seqB a.1.name a.2.name) then (bif (seqB a.1.op a.2.op) then (Option.bind (Tf.tapewrightref09_same.f F (a.1.args, a.2.args)) (fun y24 => (bif y24 then (Option.bind (Tf.tapewrightref04_Same.f F (a.1.dims, a.2.dims)) (fun y32 => (bif y32 then (bif (seqB a.1.k a.2.k) then (bif (a.1.n == a.2.n) then (Option.bind (Tf.tapewrightref09_same.f F (a.1.data, a.2.data)) (fun y54 => (some y54)))
 else (some Bool.false))
 else (some Bool.false))
 else (some Bool.false))))
 else (some Bool.false))))
 else (some Bool.false))
 else (some Bool.false))
theorem Tf.tapewrightref09_Equal.f_ok (F : Nat) (a) : exec Go.VI.tyT (look [(39, Tf.tapewrightref09_same.e F), (40, Tf.tapewrightref04_Same.e F)] : Fns) 52 (look [] : Loops) Tf.tapewrightref09_Equal.c (init [.v 207, .v 207] (encKs [.rc 7, .rc 7] a)) (finT (look [(39, Tf.tapewrightref09_same.e F), (40, Tf.tapewrightref04_Same.e F)] : Fns) (⟨[.v 207, .v 207], [.p]⟩ : Sig) [4] [.pure] [.bool]) = Tf.tapewrightref09_Equal.f F a := by kernel_rfl
def Tf.tapewrightref09_Equal.e (F : Nat) : Fn := mkFn (⟨[.v 207, .v 207], [.p]⟩ : Sig) [.rc 7, .rc 7] [.pure] [.bool] (Tf.tapewrightref09_Equal.f F)
theorem Tf.tapewrightref09_Equal.ok (F : Nat) : EntryOk Go.Proofs.Tryz.prog Go.VI.tyT.G 17 (Tf.tapewrightref09_Equal.e F) :=
  fn_ok Go.VI.tyT_ok rfl mix (.cons (Tf.tapewrightref09_same.ok F) (.cons (Tf.tapewrightref04_Same.ok F) .nil)) (Λ := (look [] : Loops)) (fn := Go.Proofs.Tryz.f17) (c := Tf.tapewrightref09_Equal.c) (LoopsOk.of (bs := []) (by kernel_rfl) .nil) (by kernel_rfl) (by kernel_rfl) (by kernel_rfl) (by kernel_rfl) (res1 (by kernel_rfl)) (by decide) (Tf.tapewrightref09_Equal.f_ok F)
end Go.VI
namespace Go.VI
open Go
noncomputable def Tf.graph_parts.c : Code := (Go.Proofs.Tryz.f73.body).getD .skip
def Tf.graph_parts.f (F : Nat) (a : ByteArray) : Option (Int × Bool) :=
 (bif (seqB a (⟨#[112, 97, 114, 97, 109]⟩ : ByteArray)) then (some ((0 : Int), Bool.true))
 else (bif (seqB a (⟨#[105, 110, 112, 117, 116]⟩ : ByteArray)) then (some ((0 : Int), Bool.true))
 else (bif (seqB a (⟨#[99, 111, 110, 115, 116]⟩ : ByteArray)) then (some ((0 : Int), Bool.true))
 else (bif (seqB a (⟨#[114, 101, 108, 117]⟩ : ByteArray)) then (some ((1 : Int), Bool.true))
 else (bif (seqB a (⟨#[97, 98, 115]⟩ : ByteArray)) then (some ((1 : Int), Bool.true))
 else (bif (seqB a (⟨#[115, 116, 101, 112]⟩ : ByteArray)) then (some ((1 : Int), Bool.true))
 else (bif (seqB a (⟨#[115, 105, 103, 110]⟩ : ByteArray)) then (some ((1 : Int), Bool.true))
 else (bif (seqB a (⟨#[115, 99, 97, 108, 101]⟩ : ByteArray)) then (some ((1 : Int), Bool.true))
 else (bif (seqB a (⟨#[112, 111, 119, 101, 114]⟩ : ByteArray)) then (some ((1 : Int), Bool.true))
 else (bif (seqB a (⟨#[116, 114, 97, 110, 115, 112, 111, 115, 101]⟩ : ByteArray)) then (some ((1 : Int), Bool.true))
 else (bif (seqB a (⟨#[115, 117, 109]⟩ : ByteArray)) then (some ((1 : Int), Bool.true))
 else (bif (seqB a (⟨#[114, 101, 115, 104, 97, 112, 101]⟩ : ByteArray)) then (some ((1 : Int), Bool.true))
 else (bif (seqB a (⟨#[115, 112, 114, 101, 97, 100]⟩ : ByteArray)) then (some ((1 : Int), Bool.true))
 else (bif (seqB a (⟨#[97, 100, 100]⟩ : ByteArray)) then (some ((2 : Int), Bool.true))
 else (bif (seqB a (⟨#[115, 117, 98]⟩ : ByteArray)) then (some ((2 : Int), Bool.true))
 else (bif (seqB a (⟨#[109, 117, 108]⟩ : ByteArray)) then (some ((2 : Int), Bool.true))
 else (bif (seqB a (⟨#[109, 97, 120]⟩ : ByteArray)) then (some ((2 : Int), Bool.true))
 else (bif (seqB a (⟨#[97, 98, 111, 118, 101]⟩ : ByteArray)) then (some ((2 : Int), Bool.true))
 else (bif (seqB a (⟨#[109, 97, 116, 109, 117, 108]⟩ : ByteArray)) then (some ((2 : Int), Bool.true))
 else (some ((0 : Int), Bool.false)))))))))))))))))))))
theorem Tf.graph_parts.f_ok (F : Nat) (a) : exec Go.VI.tyT (look [] : Fns) 27 (look [] : Loops) Tf.graph_parts.c (init [.p] (encKs [.str] a)) (finT (look [] : Fns) (⟨[.p], [.p, .p]⟩ : Sig) [2, 3] [.pure, .pure] [.int .i64, .bool]) = Tf.graph_parts.f F a := by kernel_rfl
def Tf.graph_parts.e (F : Nat) : Fn := mkFn (⟨[.p], [.p, .p]⟩ : Sig) [.str] [.pure, .pure] [.int .i64, .bool] (Tf.graph_parts.f F)
theorem Tf.graph_parts.ok (F : Nat) : EntryOk Go.Proofs.Tryz.prog Go.VI.tyT.G 73 (Tf.graph_parts.e F) :=
  fn_ok Go.VI.tyT_ok rfl mix .nil (Λ := (look [] : Loops)) (fn := Go.Proofs.Tryz.f73) (c := Tf.graph_parts.c) (LoopsOk.of (bs := []) (by kernel_rfl) .nil) (by kernel_rfl) (by kernel_rfl) (by kernel_rfl) (by kernel_rfl) (res2 (by kernel_rfl)) (by decide) (Tf.graph_parts.f_ok F)
end Go.VI
namespace Go.VI
open Go
noncomputable def Tf.graph_bare.c : Code := (Go.Proofs.Tryz.f74.body).getD .skip
def Tf.graph_bare.f (F : Nat) (a : (Go.VI.Node × Int)) : Option Bool :=
 (bif (seqB a.1.op (⟨#[112, 97, 114, 97, 109]⟩ : ByteArray)) then (bif (decide (a.2 > (0 : Int))) then (bif (decide (a.2 > (1 : Int))) then (Option.bind (Tf.lex_Name.f F a.1.name) (fun y25 => (bif (y25 == Bool.true) then (bif (seqB a.1.k (⟨#[]⟩ : ByteArray)) then (bif (a.1.n == (0 : Int)) then (bif (((List.length a.1.data) : Int) == (0 : Int)) then (some Bool.true)
 else (some (seqB a.1.op (⟨#[99, 111, 110, 115, 116]⟩ : ByteArray))))
 else (bif (seqB a.1.op (⟨#[112, 111, 119, 101, 114]⟩ : ByteArray)) then (bif (((List.length a.1.data) : Int) == (0 : Int)) then (some Bool.true)
 else (some (seqB a.1.op (⟨#[99, 111, 110, 115, 116]⟩ : ByteArray))))
 else (some Bool.false)))
 else (bif (seqB a.1.op (⟨#[115, 99, 97, 108, 101]⟩ : ByteArray)) then (bif (a.1.n == (0 : Int)) then (bif (((List.length a.1.data) : Int) == (0 : Int)) then (some Bool.true)
 else (some (seqB a.1.op (⟨#[99, 111, 110, 115, 116]⟩ : ByteArray))))
 else (bif (seqB a.1.op (⟨#[112, 111, 119, 101, 114]⟩ : ByteArray)) then (bif (((List.length a.1.data) : Int) == (0 : Int)) then (some Bool.true)
 else (some (seqB a.1.op (⟨#[99, 111, 110, 115, 116]⟩ : ByteArray))))
 else (some Bool.false)))
 else (some Bool.false)))
 else (some Bool.false))))
 else (bif (a.1.b == (0 : Int)) then (Option.bind (Tf.lex_Name.f F a.1.name) (fun y28 => (bif (y28 == Bool.true) then (bif (seqB a.1.k (⟨#[]⟩ : ByteArray)) then (bif (a.1.n == (0 : Int)) then (bif (((List.length a.1.data) : Int) == (0 : Int)) then (some Bool.true)
 else (some (seqB a.1.op (⟨#[99, 111, 110, 115, 116]⟩ : ByteArray))))
 else (bif (seqB a.1.op (⟨#[112, 111, 119, 101, 114]⟩ : ByteArray)) then (bif (((List.length a.1.data) : Int) == (0 : Int)) then (some Bool.true)
 else (some (seqB a.1.op (⟨#[99, 111, 110, 115, 116]⟩ : ByteArray))))
 else (some Bool.false)))
 else (bif (seqB a.1.op (⟨#[115, 99, 97, 108, 101]⟩ : ByteArray)) then (bif (a.1.n == (0 : Int)) then (bif (((List.length a.1.data) : Int) == (0 : Int)) then (some Bool.true)
 else (some (seqB a.1.op (⟨#[99, 111, 110, 115, 116]⟩ : ByteArray))))
 else (bif (seqB a.1.op (⟨#[112, 111, 119, 101, 114]⟩ : ByteArray)) then (bif (((List.length a.1.data) : Int) == (0 : Int)) then (some Bool.true)
 else (some (seqB a.1.op (⟨#[99, 111, 110, 115, 116]⟩ : ByteArray))))
 else (some Bool.false)))
 else (some Bool.false)))
 else (some Bool.false))))
 else (some Bool.false)))
 else (bif (a.1.a == (0 : Int)) then (bif (decide (a.2 > (1 : Int))) then (Option.bind (Tf.lex_Name.f F a.1.name) (fun y28 => (bif (y28 == Bool.true) then (bif (seqB a.1.k (⟨#[]⟩ : ByteArray)) then (bif (a.1.n == (0 : Int)) then (bif (((List.length a.1.data) : Int) == (0 : Int)) then (some Bool.true)
 else (some (seqB a.1.op (⟨#[99, 111, 110, 115, 116]⟩ : ByteArray))))
 else (bif (seqB a.1.op (⟨#[112, 111, 119, 101, 114]⟩ : ByteArray)) then (bif (((List.length a.1.data) : Int) == (0 : Int)) then (some Bool.true)
 else (some (seqB a.1.op (⟨#[99, 111, 110, 115, 116]⟩ : ByteArray))))
 else (some Bool.false)))
 else (bif (seqB a.1.op (⟨#[115, 99, 97, 108, 101]⟩ : ByteArray)) then (bif (a.1.n == (0 : Int)) then (bif (((List.length a.1.data) : Int) == (0 : Int)) then (some Bool.true)
 else (some (seqB a.1.op (⟨#[99, 111, 110, 115, 116]⟩ : ByteArray))))
 else (bif (seqB a.1.op (⟨#[112, 111, 119, 101, 114]⟩ : ByteArray)) then (bif (((List.length a.1.data) : Int) == (0 : Int)) then (some Bool.true)
 else (some (seqB a.1.op (⟨#[99, 111, 110, 115, 116]⟩ : ByteArray))))
 else (some Bool.false)))
 else (some Bool.false)))
 else (some Bool.false))))
 else (bif (a.1.b == (0 : Int)) then (Option.bind (Tf.lex_Name.f F a.1.name) (fun y31 => (bif (y31 == Bool.true) then (bif (seqB a.1.k (⟨#[]⟩ : ByteArray)) then (bif (a.1.n == (0 : Int)) then (bif (((List.length a.1.data) : Int) == (0 : Int)) then (some Bool.true)
 else (some (seqB a.1.op (⟨#[99, 111, 110, 115, 116]⟩ : ByteArray))))
 else (bif (seqB a.1.op (⟨#[112, 111, 119, 101, 114]⟩ : ByteArray)) then (bif (((List.length a.1.data) : Int) == (0 : Int)) then (some Bool.true)
 else (some (seqB a.1.op (⟨#[99, 111, 110, 115, 116]⟩ : ByteArray))))
 else (some Bool.false)))
 else (bif (seqB a.1.op (⟨#[115, 99, 97, 108, 101]⟩ : ByteArray)) then (bif (a.1.n == (0 : Int)) then (bif (((List.length a.1.data) : Int) == (0 : Int)) then (some Bool.true)
 else (some (seqB a.1.op (⟨#[99, 111, 110, 115, 116]⟩ : ByteArray))))
 else (bif (seqB a.1.op (⟨#[112, 111, 119, 101, 114]⟩ : ByteArray)) then (bif (((List.length a.1.data) : Int) == (0 : Int)) then (some Bool.true)
 else (some (seqB a.1.op (⟨#[99, 111, 110, 115, 116]⟩ : ByteArray))))
 else (some Bool.false)))
 else (some Bool.false)))
 else (some Bool.false))))
 else (some Bool.false)))
 else (some Bool.false)))
 else (bif (decide (a.2 > (0 : Int))) then (bif (decide (a.2 > (1 : Int))) then (Option.bind (Tf.lex_Name.f F a.1.name) (fun y28 => (bif (y28 == (seqB a.1.op (⟨#[105, 110, 112, 117, 116]⟩ : ByteArray))) then (bif (seqB a.1.op (⟨#[105, 110, 112, 117, 116]⟩ : ByteArray)) then (bif (seqB a.1.k (⟨#[]⟩ : ByteArray)) then (bif (a.1.n == (0 : Int)) then (bif (((List.length a.1.data) : Int) == (0 : Int)) then (some Bool.true)
 else (some (seqB a.1.op (⟨#[99, 111, 110, 115, 116]⟩ : ByteArray))))
 else (bif (seqB a.1.op (⟨#[112, 111, 119, 101, 114]⟩ : ByteArray)) then (bif (((List.length a.1.data) : Int) == (0 : Int)) then (some Bool.true)
 else (some (seqB a.1.op (⟨#[99, 111, 110, 115, 116]⟩ : ByteArray))))
 else (some Bool.false)))
 else (bif (seqB a.1.op (⟨#[115, 99, 97, 108, 101]⟩ : ByteArray)) then (bif (a.1.n == (0 : Int)) then (bif (((List.length a.1.data) : Int) == (0 : Int)) then (some Bool.true)
 else (some (seqB a.1.op (⟨#[99, 111, 110, 115, 116]⟩ : ByteArray))))
 else (bif (seqB a.1.op (⟨#[112, 111, 119, 101, 114]⟩ : ByteArray)) then (bif (((List.length a.1.data) : Int) == (0 : Int)) then (some Bool.true)
 else (some (seqB a.1.op (⟨#[99, 111, 110, 115, 116]⟩ : ByteArray))))
 else (some Bool.false)))
 else (some Bool.false)))
 else (bif (seqB a.1.name (⟨#[]⟩ : ByteArray)) then (bif (seqB a.1.k (⟨#[]⟩ : ByteArray)) then (bif (a.1.n == (0 : Int)) then (bif (((List.length a.1.data) : Int) == (0 : Int)) then (some Bool.true)
 else (some (seqB a.1.op (⟨#[99, 111, 110, 115, 116]⟩ : ByteArray))))
 else (bif (seqB a.1.op (⟨#[112, 111, 119, 101, 114]⟩ : ByteArray)) then (bif (((List.length a.1.data) : Int) == (0 : Int)) then (some Bool.true)
 else (some (seqB a.1.op (⟨#[99, 111, 110, 115, 116]⟩ : ByteArray))))
 else (some Bool.false)))
 else (bif (seqB a.1.op (⟨#[115, 99, 97, 108, 101]⟩ : ByteArray)) then (bif (a.1.n == (0 : Int)) then (bif (((List.length a.1.data) : Int) == (0 : Int)) then (some Bool.true)
 else (some (seqB a.1.op (⟨#[99, 111, 110, 115, 116]⟩ : ByteArray))))
 else (bif (seqB a.1.op (⟨#[112, 111, 119, 101, 114]⟩ : ByteArray)) then (bif (((List.length a.1.data) : Int) == (0 : Int)) then (some Bool.true)
 else (some (seqB a.1.op (⟨#[99, 111, 110, 115, 116]⟩ : ByteArray))))
 else (some Bool.false)))
 else (some Bool.false)))
 else (some Bool.false)))
 else (some Bool.false))))
 else (bif (a.1.b == (0 : Int)) then (Option.bind (Tf.lex_Name.f F a.1.name) (fun y31 => (bif (y31 == (seqB a.1.op (⟨#[105, 110, 112, 117, 116]⟩ : ByteArray))) then (bif (seqB a.1.op (⟨#[105, 110, 112, 117, 116]⟩ : ByteArray)) then (bif (seqB a.1.k (⟨#[]⟩ : ByteArray)) then (bif (a.1.n == (0 : Int)) then (bif (((List.length a.1.data) : Int) == (0 : Int)) then (some Bool.true)
 else (some (seqB a.1.op (⟨#[99, 111, 110, 115, 116]⟩ : ByteArray))))
 else (bif (seqB a.1.op (⟨#[112, 111, 119, 101, 114]⟩ : ByteArray)) then (bif (((List.length a.1.data) : Int) == (0 : Int)) then (some Bool.true)
 else (some (seqB a.1.op (⟨#[99, 111, 110, 115, 116]⟩ : ByteArray))))
 else (some Bool.false)))
 else (bif (seqB a.1.op (⟨#[115, 99, 97, 108, 101]⟩ : ByteArray)) then (bif (a.1.n == (0 : Int)) then (bif (((List.length a.1.data) : Int) == (0 : Int)) then (some Bool.true)
 else (some (seqB a.1.op (⟨#[99, 111, 110, 115, 116]⟩ : ByteArray))))
 else (bif (seqB a.1.op (⟨#[112, 111, 119, 101, 114]⟩ : ByteArray)) then (bif (((List.length a.1.data) : Int) == (0 : Int)) then (some Bool.true)
 else (some (seqB a.1.op (⟨#[99, 111, 110, 115, 116]⟩ : ByteArray))))
 else (some Bool.false)))
 else (some Bool.false)))
 else (bif (seqB a.1.name (⟨#[]⟩ : ByteArray)) then (bif (seqB a.1.k (⟨#[]⟩ : ByteArray)) then (bif (a.1.n == (0 : Int)) then (bif (((List.length a.1.data) : Int) == (0 : Int)) then (some Bool.true)
 else (some (seqB a.1.op (⟨#[99, 111, 110, 115, 116]⟩ : ByteArray))))
 else (bif (seqB a.1.op (⟨#[112, 111, 119, 101, 114]⟩ : ByteArray)) then (bif (((List.length a.1.data) : Int) == (0 : Int)) then (some Bool.true)
 else (some (seqB a.1.op (⟨#[99, 111, 110, 115, 116]⟩ : ByteArray))))
 else (some Bool.false)))
 else (bif (seqB a.1.op (⟨#[115, 99, 97, 108, 101]⟩ : ByteArray)) then (bif (a.1.n == (0 : Int)) then (bif (((List.length a.1.data) : Int) == (0 : Int)) then (some Bool.true)
 else (some (seqB a.1.op (⟨#[99, 111, 110, 115, 116]⟩ : ByteArray))))
 else (bif (seqB a.1.op (⟨#[112, 111, 119, 101, 114]⟩ : ByteArray)) then (bif (((List.length a.1.data) : Int) == (0 : Int)) then (some Bool.true)
 else (some (seqB a.1.op (⟨#[99, 111, 110, 115, 116]⟩ : ByteArray))))
 else (some Bool.false)))
 else (some Bool.false)))
 else (some Bool.false)))
 else (some Bool.false))))
 else (some Bool.false)))
 else (bif (a.1.a == (0 : Int)) then (bif (decide (a.2 > (1 : Int))) then (Option.bind (Tf.lex_Name.f F a.1.name) (fun y31 => (bif (y31 == (seqB a.1.op (⟨#[105, 110, 112, 117, 116]⟩ : ByteArray))) then (bif (seqB a.1.op (⟨#[105, 110, 112, 117, 116]⟩ : ByteArray)) then (bif (seqB a.1.k (⟨#[]⟩ : ByteArray)) then (bif (a.1.n == (0 : Int)) then (bif (((List.length a.1.data) : Int) == (0 : Int)) then (some Bool.true)
 else (some (seqB a.1.op (⟨#[99, 111, 110, 115, 116]⟩ : ByteArray))))
 else (bif (seqB a.1.op (⟨#[112, 111, 119, 101, 114]⟩ : ByteArray)) then (bif (((List.length a.1.data) : Int) == (0 : Int)) then (some Bool.true)
 else (some (seqB a.1.op (⟨#[99, 111, 110, 115, 116]⟩ : ByteArray))))
 else (some Bool.false)))
 else (bif (seqB a.1.op (⟨#[115, 99, 97, 108, 101]⟩ : ByteArray)) then (bif (a.1.n == (0 : Int)) then (bif (((List.length a.1.data) : Int) == (0 : Int)) then (some Bool.true)
 else (some (seqB a.1.op (⟨#[99, 111, 110, 115, 116]⟩ : ByteArray))))
 else (bif (seqB a.1.op (⟨#[112, 111, 119, 101, 114]⟩ : ByteArray)) then (bif (((List.length a.1.data) : Int) == (0 : Int)) then (some Bool.true)
 else (some (seqB a.1.op (⟨#[99, 111, 110, 115, 116]⟩ : ByteArray))))
 else (some Bool.false)))
 else (some Bool.false)))
 else (bif (seqB a.1.name (⟨#[]⟩ : ByteArray)) then (bif (seqB a.1.k (⟨#[]⟩ : ByteArray)) then (bif (a.1.n == (0 : Int)) then (bif (((List.length a.1.data) : Int) == (0 : Int)) then (some Bool.true)
 else (some (seqB a.1.op (⟨#[99, 111, 110, 115, 116]⟩ : ByteArray))))
 else (bif (seqB a.1.op (⟨#[112, 111, 119, 101, 114]⟩ : ByteArray)) then (bif (((List.length a.1.data) : Int) == (0 : Int)) then (some Bool.true)
 else (some (seqB a.1.op (⟨#[99, 111, 110, 115, 116]⟩ : ByteArray))))
 else (some Bool.false)))
 else (bif (seqB a.1.op (⟨#[115, 99, 97, 108, 101]⟩ : ByteArray)) then (bif (a.1.n == (0 : Int)) then (bif (((List.length a.1.data) : Int) == (0 : Int)) then (some Bool.true)
 else (some (seqB a.1.op (⟨#[99, 111, 110, 115, 116]⟩ : ByteArray))))
 else (bif (seqB a.1.op (⟨#[112, 111, 119, 101, 114]⟩ : ByteArray)) then (bif (((List.length a.1.data) : Int) == (0 : Int)) then (some Bool.true)
 else (some (seqB a.1.op (⟨#[99, 111, 110, 115, 116]⟩ : ByteArray))))
 else (some Bool.false)))
 else (some Bool.false)))
 else (some Bool.false)))
 else (some Bool.false))))
 else (bif (a.1.b == (0 : Int)) then (Option.bind (Tf.lex_Name.f F a.1.name) (fun y34 => (bif (y34 == (seqB a.1.op (⟨#[105, 110, 112, 117, 116]⟩ : ByteArray))) then (bif (seqB a.1.op (⟨#[105, 110, 112, 117, 116]⟩ : ByteArray)) then (bif (seqB a.1.k (⟨#[]⟩ : ByteArray)) then (bif (a.1.n == (0 : Int)) then (bif (((List.length a.1.data) : Int) == (0 : Int)) then (some Bool.true)
 else (some (seqB a.1.op (⟨#[99, 111, 110, 115, 116]⟩ : ByteArray))))
 else (bif (seqB a.1.op (⟨#[112, 111, 119, 101, 114]⟩ : ByteArray)) then (bif (((List.length a.1.data) : Int) == (0 : Int)) then (some Bool.true)
 else (some (seqB a.1.op (⟨#[99, 111, 110, 115, 116]⟩ : ByteArray))))
 else (some Bool.false)))
 else (bif (seqB a.1.op (⟨#[115, 99, 97, 108, 101]⟩ : ByteArray)) then (bif (a.1.n == (0 : Int)) then (bif (((List.length a.1.data) : Int) == (0 : Int)) then (some Bool.true)
 else (some (seqB a.1.op (⟨#[99, 111, 110, 115, 116]⟩ : ByteArray))))
 else (bif (seqB a.1.op (⟨#[112, 111, 119, 101, 114]⟩ : ByteArray)) then (bif (((List.length a.1.data) : Int) == (0 : Int)) then (some Bool.true)
 else (some (seqB a.1.op (⟨#[99, 111, 110, 115, 116]⟩ : ByteArray))))
 else (some Bool.false)))
 else (some Bool.false)))
 else (bif (seqB a.1.name (⟨#[]⟩ : ByteArray)) then (bif (seqB a.1.k (⟨#[]⟩ : ByteArray)) then (bif (a.1.n == (0 : Int)) then (bif (((List.length a.1.data) : Int) == (0 : Int)) then (some Bool.true)
 else (some (seqB a.1.op (⟨#[99, 111, 110, 115, 116]⟩ : ByteArray))))
 else (bif (seqB a.1.op (⟨#[112, 111, 119, 101, 114]⟩ : ByteArray)) then (bif (((List.length a.1.data) : Int) == (0 : Int)) then (some Bool.true)
 else (some (seqB a.1.op (⟨#[99, 111, 110, 115, 116]⟩ : ByteArray))))
 else (some Bool.false)))
 else (bif (seqB a.1.op (⟨#[115, 99, 97, 108, 101]⟩ : ByteArray)) then (bif (a.1.n == (0 : Int)) then (bif (((List.length a.1.data) : Int) == (0 : Int)) then (some Bool.true)
 else (some (seqB a.1.op (⟨#[99, 111, 110, 115, 116]⟩ : ByteArray))))
 else (bif (seqB a.1.op (⟨#[112, 111, 119, 101, 114]⟩ : ByteArray)) then (bif (((List.length a.1.data) : Int) == (0 : Int)) then (some Bool.true)
 else (some (seqB a.1.op (⟨#[99, 111, 110, 115, 116]⟩ : ByteArray))))
 else (some Bool.false)))
 else (some Bool.false)))
 else (some Bool.false)))
 else (some Bool.false))))
 else (some Bool.false)))
 else (some Bool.false))))
theorem Tf.graph_bare.f_ok (F : Nat) (a) : exec Go.VI.tyT (look [(80, Tf.lex_Name.e F)] : Fns) 76 (look [] : Loops) Tf.graph_bare.c (init [.v 206, .p] (encKs [.rc 6, .int .i64] a)) (finT (look [(80, Tf.lex_Name.e F)] : Fns) (⟨[.v 206, .p], [.p]⟩ : Sig) [4] [.pure] [.bool]) = Tf.graph_bare.f F a := by kernel_rfl
def Tf.graph_bare.e (F : Nat) : Fn := mkFn (⟨[.v 206, .p], [.p]⟩ : Sig) [.rc 6, .int .i64] [.pure] [.bool] (Tf.graph_bare.f F)
theorem Tf.graph_bare.ok (F : Nat) : EntryOk Go.Proofs.Tryz.prog Go.VI.tyT.G 74 (Tf.graph_bare.e F) :=
  fn_ok Go.VI.tyT_ok rfl mix (.cons (Tf.lex_Name.ok F) .nil) (Λ := (look [] : Loops)) (fn := Go.Proofs.Tryz.f74) (c := Tf.graph_bare.c) (LoopsOk.of (bs := []) (by kernel_rfl) .nil) (by kernel_rfl) (by kernel_rfl) (by kernel_rfl) (by kernel_rfl) (res1 (by kernel_rfl)) (by decide) (Tf.graph_bare.f_ok F)
end Go.VI
namespace Go.VI
open Go
noncomputable def Tf.slices_Equal___int_int_.c : Code := (Go.Proofs.Tryz.f42.body).getD .skip
noncomputable def Tf.slices_Equal___int_int_.b4 : Code := codeAt [1, 1, 0, 1, 0, 0] Tf.slices_Equal___int_int_.c
def Tf.slices_Equal___int_int_.s4 (F : Nat) (L : (Int × ((List Int) × ((List Int) × Int))) → Option (Bool ⊕ Unit)) (x : (Int × ((List Int) × ((List Int) × Int)))) : Option (Bool ⊕ Unit) :=
 (bif (decide (x.1 < x.2.2.2)) then (bif (inR x.1 (List.length x.2.2.1)) then (bif (inR x.1 (List.length x.2.1)) then (bif ((List.getD x.2.2.1 (Int.toNat x.1) (0 : Int)) != (List.getD x.2.1 (Int.toNat x.1) (0 : Int))) then (some (.inl Bool.false))
 else (L ((Go.IntKind.wrap IntKind.i64 (x.1 + (1 : Int))), (x.2.1, (x.2.2.1, x.2.2.2)))))
 else none)
 else none)
 else (some (.inr ())))
def Tf.slices_Equal___int_int_.l4 (F : Nat) : (Int × ((List Int) × ((List Int) × Int))) → Option (Bool ⊕ Unit) := iter (Tf.slices_Equal___int_int_.s4 F) F
theorem Tf.slices_Equal___int_int_.s4_ok (F : Nat) (L a) : exec Go.VI.tyT (look [] : Fns) 26 (look [] : Loops) Tf.slices_Equal___int_int_.b4 (rebuild [.slot 13, .view 1 0, .view 0 0, .slot 12] (encKs [.int .i64, .sl 0, .sl 0, .int .i64] a)) (bodyK [.slot 13, .view 1 0, .view 0 0, .slot 12] [.int .i64, .sl 0, .sl 0, .int .i64] [⟨.ret, [.slot 4], [.bool]⟩, ⟨.exit 0, [], []⟩] L) = Tf.slices_Equal___int_int_.s4 F L a := by kernel_rfl
theorem Tf.slices_Equal___int_int_.l4_ok (F : Nat) : LoopOk Go.Proofs.Tryz.prog Go.VI.tyT.G 26 Tf.slices_Equal___int_int_.b4 (fun st κ => hand [.slot 13, .view 1 0, .view 0 0, .slot 12] [.int .i64, .sl 0, .sl 0, .int .i64] [⟨.ret, [.slot 4], [.bool]⟩, ⟨.exit 0, [], []⟩] (Tf.slices_Equal___int_int_.l4 F) st κ) :=
  loop_ok Go.VI.tyT_ok rfl mix .nil (Λ := (look [] : Loops)) (LoopsOk.of (bs := []) (by kernel_rfl) .nil) (Tf.slices_Equal___int_int_.s4_ok F) F
def Tf.slices_Equal___int_int_.f (F : Nat) (a : ((List Int) × (List Int))) : Option Bool :=
 (bif (((List.length a.1) : Int) != ((List.length a.2) : Int)) then (some Bool.false)
 else (Option.bind (Tf.slices_Equal___int_int_.l4 F ((0 : Int), (a.2, (a.1, ((List.length a.1) : Int))))) (fun y12 => (sumE y12 (fun y13 => (some y13)) (fun y13 => (some Bool.true))))))
theorem Tf.slices_Equal___int_int_.f_ok (F : Nat) (a) : exec Go.VI.tyT (look [] : Fns) 26 (look [(4, fun st κ => hand [.slot 13, .view 1 0, .view 0 0, .slot 12] [.int .i64, .sl 0, .sl 0, .int .i64] [⟨.ret, [.slot 4], [.bool]⟩, ⟨.exit 0, [], []⟩] (Tf.slices_Equal___int_int_.l4 F) st κ)] : Loops) Tf.slices_Equal___int_int_.c (init [.v 0, .v 0] (encKs [.sl 0, .sl 0] a)) (finT (look [] : Fns) (⟨[.v 0, .v 0], [.p]⟩ : Sig) [4] [.pure] [.bool]) = Tf.slices_Equal___int_int_.f F a := by kernel_rfl
def Tf.slices_Equal___int_int_.e (F : Nat) : Fn := mkFn (⟨[.v 0, .v 0], [.p]⟩ : Sig) [.sl 0, .sl 0] [.pure] [.bool] (Tf.slices_Equal___int_int_.f F)
theorem Tf.slices_Equal___int_int_.ok (F : Nat) : EntryOk Go.Proofs.Tryz.prog Go.VI.tyT.G 42 (Tf.slices_Equal___int_int_.e F) :=
  fn_ok Go.VI.tyT_ok rfl mix .nil (Λ := (look [(4, fun st κ => hand [.slot 13, .view 1 0, .view 0 0, .slot 12] [.int .i64, .sl 0, .sl 0, .int .i64] [⟨.ret, [.slot 4], [.bool]⟩, ⟨.exit 0, [], []⟩] (Tf.slices_Equal___int_int_.l4 F) st κ)] : Loops)) (fn := Go.Proofs.Tryz.f42) (c := Tf.slices_Equal___int_int_.c) (LoopsOk.of (bs := [Tf.slices_Equal___int_int_.b4]) (by kernel_rfl) (.cons rfl (Tf.slices_Equal___int_int_.l4_ok F) .nil)) (by kernel_rfl) (by kernel_rfl) (by kernel_rfl) (by kernel_rfl) (res1 (by kernel_rfl)) (by decide) (Tf.slices_Equal___int_int_.f_ok F)
end Go.VI
namespace Go.VI
open Go
noncomputable def Tf.shape_Same.c : Code := (Go.Proofs.Tryz.f21.body).getD .skip
def Tf.shape_Same.f (F : Nat) (a : ((List Int) × (List Int))) : Option Bool :=
 (Option.bind (Tf.slices_Equal___int_int_.f F (a.1, a.2)) (fun y7 => (some y7)))
theorem Tf.shape_Same.f_ok (F : Nat) (a) : exec Go.VI.tyT (look [(42, Tf.slices_Equal___int_int_.e F)] : Fns) 8 (look [] : Loops) Tf.shape_Same.c (init [.v 0, .v 0] (encKs [.sl 0, .sl 0] a)) (finT (look [(42, Tf.slices_Equal___int_int_.e F)] : Fns) (⟨[.v 0, .v 0], [.p]⟩ : Sig) [4] [.pure] [.bool]) = Tf.shape_Same.f F a := by kernel_rfl
def Tf.shape_Same.e (F : Nat) : Fn := mkFn (⟨[.v 0, .v 0], [.p]⟩ : Sig) [.sl 0, .sl 0] [.pure] [.bool] (Tf.shape_Same.f F)
theorem Tf.shape_Same.ok (F : Nat) : EntryOk Go.Proofs.Tryz.prog Go.VI.tyT.G 21 (Tf.shape_Same.e F) :=
  fn_ok Go.VI.tyT_ok rfl mix (.cons (Tf.slices_Equal___int_int_.ok F) .nil) (Λ := (look [] : Loops)) (fn := Go.Proofs.Tryz.f21) (c := Tf.shape_Same.c) (LoopsOk.of (bs := []) (by kernel_rfl) .nil) (by kernel_rfl) (by kernel_rfl) (by kernel_rfl) (by kernel_rfl) (res1 (by kernel_rfl)) (by decide) (Tf.shape_Same.f_ok F)
end Go.VI
namespace Go.VI
open Go
noncomputable def Tf.graph_of_1.c : Code := (Go.Proofs.Tryz.f95.body).getD .skip
def Tf.graph_of_1.f (F : Nat) (a : ByteArray) : Option Bool :=
 (Option.bind (Tf.rat_Right.f F a) (fun y6 => (some (!y6))))
theorem Tf.graph_of_1.f_ok (F : Nat) (a) : exec Go.VI.tyT (look [(76, Tf.rat_Right.e F)] : Fns) 6 (look [] : Loops) Tf.graph_of_1.c (init [.p] (encKs [.str] a)) (finT (look [(76, Tf.rat_Right.e F)] : Fns) (⟨[.p], [.p]⟩ : Sig) [2] [.pure] [.bool]) = Tf.graph_of_1.f F a := by kernel_rfl
def Tf.graph_of_1.e (F : Nat) : Fn := mkFn (⟨[.p], [.p]⟩ : Sig) [.str] [.pure] [.bool] (Tf.graph_of_1.f F)
theorem Tf.graph_of_1.ok (F : Nat) : EntryOk Go.Proofs.Tryz.prog Go.VI.tyT.G 95 (Tf.graph_of_1.e F) :=
  fn_ok Go.VI.tyT_ok rfl mix (.cons (Tf.rat_Right.ok F) .nil) (Λ := (look [] : Loops)) (fn := Go.Proofs.Tryz.f95) (c := Tf.graph_of_1.c) (LoopsOk.of (bs := []) (by kernel_rfl) .nil) (by kernel_rfl) (by kernel_rfl) (by kernel_rfl) (by kernel_rfl) (res1 (by kernel_rfl)) (by decide) (Tf.graph_of_1.f_ok F)
end Go.VI
namespace Go.VI
open Go
noncomputable def Tf.slices_IndexFunc___string_string__graph_of_1.c : Code := (Go.Proofs.Tryz.f97.body).getD .skip
noncomputable def Tf.slices_IndexFunc___string_string__graph_of_1.b2 : Code := codeAt [1, 0, 1, 0, 0] Tf.slices_IndexFunc___string_string__graph_of_1.c
def Tf.slices_IndexFunc___string_string__graph_of_1.s2 (F : Nat) (L : (Int × ((List ByteArray) × (Unit × Int))) → Option (Int ⊕ Unit)) (x : (Int × ((List ByteArray) × (Unit × Int)))) : Option (Int ⊕ Unit) :=
 (bif (decide (x.1 < x.2.2.2)) then (bif (inR x.1 (List.length x.2.1)) then (Option.bind (Tf.graph_of_1.f F (List.getD x.2.1 (Int.toNat x.1) (dflt 4))) (fun y17 => (bif y17 then (some (.inl x.1))
 else (L ((Go.IntKind.wrap IntKind.i64 (x.1 + (1 : Int))), (x.2.1, ((), x.2.2.2)))))))
 else none)
 else (some (.inr ())))
def Tf.slices_IndexFunc___string_string__graph_of_1.l2 (F : Nat) : (Int × ((List ByteArray) × (Unit × Int))) → Option (Int ⊕ Unit) := iter (Tf.slices_IndexFunc___string_string__graph_of_1.s2 F) F
theorem Tf.slices_IndexFunc___string_string__graph_of_1.s2_ok (F : Nat) (L a) : exec Go.VI.tyT (look [(95, Tf.graph_of_1.e F)] : Fns) 19 (look [] : Loops) Tf.slices_IndexFunc___string_string__graph_of_1.b2 (rebuild [.slot 8, .view 0 4, .slot 1, .slot 7] (encKs [.int .i64, .sl 4, .fn0 95, .int .i64] a)) (bodyK [.slot 8, .view 0 4, .slot 1, .slot 7] [.int .i64, .sl 4, .fn0 95, .int .i64] [⟨.ret, [.slot 4], [.int .i64]⟩, ⟨.exit 0, [], []⟩] L) = Tf.slices_IndexFunc___string_string__graph_of_1.s2 F L a := by kernel_rfl
theorem Tf.slices_IndexFunc___string_string__graph_of_1.l2_ok (F : Nat) : LoopOk Go.Proofs.Tryz.prog Go.VI.tyT.G 19 Tf.slices_IndexFunc___string_string__graph_of_1.b2 (fun st κ => hand [.slot 8, .view 0 4, .slot 1, .slot 7] [.int .i64, .sl 4, .fn0 95, .int .i64] [⟨.ret, [.slot 4], [.int .i64]⟩, ⟨.exit 0, [], []⟩] (Tf.slices_IndexFunc___string_string__graph_of_1.l2 F) st κ) :=
  loop_ok Go.VI.tyT_ok rfl mix (.cons (Tf.graph_of_1.ok F) .nil) (Λ := (look [] : Loops)) (LoopsOk.of (bs := []) (by kernel_rfl) .nil) (Tf.slices_IndexFunc___string_string__graph_of_1.s2_ok F) F
def Tf.slices_IndexFunc___string_string__graph_of_1.f (F : Nat) (a : ((List ByteArray) × Unit)) : Option Int :=
 (Option.bind (Tf.slices_IndexFunc___string_string__graph_of_1.l2 F ((0 : Int), (a.1, ((), ((List.length a.1) : Int))))) (fun y7 => (sumE y7 (fun y8 => (some y8)) (fun y8 => (some (-(1 : Int)))))))
theorem Tf.slices_IndexFunc___string_string__graph_of_1.f_ok (F : Nat) (a) : exec Go.VI.tyT (look [(95, Tf.graph_of_1.e F)] : Fns) 19 (look [(2, fun st κ => hand [.slot 8, .view 0 4, .slot 1, .slot 7] [.int .i64, .sl 4, .fn0 95, .int .i64] [⟨.ret, [.slot 4], [.int .i64]⟩, ⟨.exit 0, [], []⟩] (Tf.slices_IndexFunc___string_string__graph_of_1.l2 F) st κ)] : Loops) Tf.slices_IndexFunc___string_string__graph_of_1.c (init [.v 4, .p] (encKs [.sl 4, .fn0 95] a)) (finT (look [(95, Tf.graph_of_1.e F)] : Fns) (⟨[.v 4, .p], [.p]⟩ : Sig) [4] [.pure] [.int .i64]) = Tf.slices_IndexFunc___string_string__graph_of_1.f F a := by kernel_rfl
def Tf.slices_IndexFunc___string_string__graph_of_1.e (F : Nat) : Fn := mkFn (⟨[.v 4, .p], [.p]⟩ : Sig) [.sl 4, .fn0 95] [.pure] [.int .i64] (Tf.slices_IndexFunc___string_string__graph_of_1.f F)
theorem Tf.slices_IndexFunc___string_string__graph_of_1.ok (F : Nat) : EntryOk Go.Proofs.Tryz.prog Go.VI.tyT.G 97 (Tf.slices_IndexFunc___string_string__graph_of_1.e F) :=
  fn_ok Go.VI.tyT_ok rfl mix (.cons (Tf.graph_of_1.ok F) .nil) (Λ := (look [(2, fun st κ => hand [.slot 8, .view 0 4, .slot 1, .slot 7] [.int .i64, .sl 4, .fn0 95, .int .i64] [⟨.ret, [.slot 4], [.int .i64]⟩, ⟨.exit 0, [], []⟩] (Tf.slices_IndexFunc___string_string__graph_of_1.l2 F) st κ)] : Loops)) (fn := Go.Proofs.Tryz.f97) (c := Tf.slices_IndexFunc___string_string__graph_of_1.c) (LoopsOk.of (bs := [Tf.slices_IndexFunc___string_string__graph_of_1.b2]) (by kernel_rfl) (.cons rfl (Tf.slices_IndexFunc___string_string__graph_of_1.l2_ok F) .nil)) (by kernel_rfl) (by kernel_rfl) (by kernel_rfl) (by kernel_rfl) (res1 (by kernel_rfl)) (by decide) (Tf.slices_IndexFunc___string_string__graph_of_1.f_ok F)
end Go.VI
namespace Go.VI
open Go
noncomputable def Tf.slices_ContainsFunc___string_string__graph_of_1.c : Code := (Go.Proofs.Tryz.f78.body).getD .skip
def Tf.slices_ContainsFunc___string_string__graph_of_1.f (F : Nat) (a : ((List ByteArray) × Unit)) : Option Bool :=
 (Option.bind (Tf.slices_IndexFunc___string_string__graph_of_1.f F (a.1, ())) (fun y7 => (some (decide (y7 ≥ (0 : Int))))))
theorem Tf.slices_ContainsFunc___string_string__graph_of_1.f_ok (F : Nat) (a) : exec Go.VI.tyT (look [(97, Tf.slices_IndexFunc___string_string__graph_of_1.e F), (95, Tf.graph_of_1.e F)] : Fns) 9 (look [] : Loops) Tf.slices_ContainsFunc___string_string__graph_of_1.c (init [.v 4, .p] (encKs [.sl 4, .fn0 95] a)) (finT (look [(97, Tf.slices_IndexFunc___string_string__graph_of_1.e F), (95, Tf.graph_of_1.e F)] : Fns) (⟨[.v 4, .p], [.p]⟩ : Sig) [4] [.pure] [.bool]) = Tf.slices_ContainsFunc___string_string__graph_of_1.f F a := by kernel_rfl
def Tf.slices_ContainsFunc___string_string__graph_of_1.e (F : Nat) : Fn := mkFn (⟨[.v 4, .p], [.p]⟩ : Sig) [.sl 4, .fn0 95] [.pure] [.bool] (Tf.slices_ContainsFunc___string_string__graph_of_1.f F)
theorem Tf.slices_ContainsFunc___string_string__graph_of_1.ok (F : Nat) : EntryOk Go.Proofs.Tryz.prog Go.VI.tyT.G 78 (Tf.slices_ContainsFunc___string_string__graph_of_1.e F) :=
  fn_ok Go.VI.tyT_ok rfl mix (.cons (Tf.slices_IndexFunc___string_string__graph_of_1.ok F) (.cons (Tf.graph_of_1.ok F) .nil)) (Λ := (look [] : Loops)) (fn := Go.Proofs.Tryz.f78) (c := Tf.slices_ContainsFunc___string_string__graph_of_1.c) (LoopsOk.of (bs := []) (by kernel_rfl) .nil) (by kernel_rfl) (by kernel_rfl) (by kernel_rfl) (by kernel_rfl) (res1 (by kernel_rfl)) (by decide) (Tf.slices_ContainsFunc___string_string__graph_of_1.f_ok F)
end Go.VI
namespace Go.VI
open Go
noncomputable def Tf.graph_of.c : Code := (Go.Proofs.Tryz.f75.body).getD .skip
def Tf.graph_of.f (F : Nat) (a : (Go.VI.Node × ((List Int) × (List Int)))) : Option ((List Int) × Bool) :=
 (bif (seqB a.1.op (⟨#[99, 111, 110, 115, 116]⟩ : ByteArray)) then (Option.bind (Tf.shape_Size.f F a.1.shape) (fun y18 => (bif (((List.length a.1.data) : Int) == y18) then (Option.bind (Tf.slices_ContainsFunc___string_string__graph_of_1.f F (a.1.data, ())) (fun y24 => (some (a.1.shape, (!y24)))))
 else (some (a.1.shape, Bool.false)))))
 else (bif (seqB a.1.op (⟨#[97, 100, 100]⟩ : ByteArray)) then (Option.bind (Tf.shape_Same.f F (a.2.1, a.2.2)) (fun y16 => (some (a.2.1, y16))))
 else (bif (seqB a.1.op (⟨#[115, 117, 98]⟩ : ByteArray)) then (Option.bind (Tf.shape_Same.f F (a.2.1, a.2.2)) (fun y18 => (some (a.2.1, y18))))
 else (bif (seqB a.1.op (⟨#[109, 117, 108]⟩ : ByteArray)) then (Option.bind (Tf.shape_Same.f F (a.2.1, a.2.2)) (fun y20 => (some (a.2.1, y20))))
 else (bif (seqB a.1.op (⟨#[109, 97, 120]⟩ : ByteArray)) then (Option.bind (Tf.shape_Same.f F (a.2.1, a.2.2)) (fun y22 => (some (a.2.1, y22))))
 else (bif (seqB a.1.op (⟨#[97, 98, 111, 118, 101]⟩ : ByteArray)) then (Option.bind (Tf.shape_Same.f F (a.2.1, a.2.2)) (fun y24 => (some (a.2.1, y24))))
 else (bif (seqB a.1.op (⟨#[109, 97, 116, 109, 117, 108]⟩ : ByteArray)) then (bif (((List.length a.2.1) : Int) != (2 : Int)) then (some (([] : List Int), Bool.false))
 else (bif (((List.length a.2.2) : Int) != (2 : Int)) then (some (([] : List Int), Bool.false))
 else (bif (inR (1 : Int) (List.length a.2.1)) then (bif (inR (0 : Int) (List.length a.2.2)) then (bif ((List.getD a.2.1 1 (0 : Int)) != (List.getD a.2.2 0 (0 : Int))) then (some (([] : List Int), Bool.false))
 else (bif (inR (0 : Int) (List.length a.2.1)) then (bif (inR (1 : Int) (List.length a.2.2)) then (some ((List.set (List.set (List.replicate 2 (0 : Int)) 0 (List.getD a.2.1 0 (0 : Int))) 1 (List.getD a.2.2 1 (0 : Int))), Bool.true))
 else none)
 else none))
 else none)
 else none)))
 else (bif (seqB a.1.op (⟨#[114, 101, 108, 117]⟩ : ByteArray)) then (some (a.2.1, Bool.true))
 else (bif (seqB a.1.op (⟨#[97, 98, 115]⟩ : ByteArray)) then (some (a.2.1, Bool.true))
 else (bif (seqB a.1.op (⟨#[115, 116, 101, 112]⟩ : ByteArray)) then (some (a.2.1, Bool.true))
 else (bif (seqB a.1.op (⟨#[115, 105, 103, 110]⟩ : ByteArray)) then (some (a.2.1, Bool.true))
 else (bif (seqB a.1.op (⟨#[115, 99, 97, 108, 101]⟩ : ByteArray)) then (Option.bind (Tf.rat_Right.f F a.1.k) (fun y36 => (some (a.2.1, y36))))
 else (bif (seqB a.1.op (⟨#[112, 111, 119, 101, 114]⟩ : ByteArray)) then (bif (decide (a.1.n ≥ (0 : Int))) then (some (a.2.1, (decide (a.1.n ≤ (6 : Int)))))
 else (some (a.2.1, Bool.false)))
 else (bif (seqB a.1.op (⟨#[116, 114, 97, 110, 115, 112, 111, 115, 101]⟩ : ByteArray)) then (bif (((List.length a.2.1) : Int) != (2 : Int)) then (some (([] : List Int), Bool.false))
 else (bif (inR (1 : Int) (List.length a.2.1)) then (bif (inR (0 : Int) (List.length a.2.1)) then (some ((List.set (List.set (List.replicate 2 (0 : Int)) 0 (List.getD a.2.1 1 (0 : Int))) 1 (List.getD a.2.1 0 (0 : Int))), Bool.true))
 else none)
 else none))
 else (bif (seqB a.1.op (⟨#[115, 117, 109]⟩ : ByteArray)) then (some (([] : List Int), Bool.true))
 else (bif (seqB a.1.op (⟨#[114, 101, 115, 104, 97, 112, 101]⟩ : ByteArray)) then (Option.bind (Tf.shape_Size.f F a.1.shape) (fun y45 => (Option.bind (Tf.shape_Size.f F a.2.1) (fun y48 => (some (a.1.shape, (y45 == y48)))))))
 else (bif (seqB a.1.op (⟨#[115, 112, 114, 101, 97, 100]⟩ : ByteArray)) then (some (a.1.shape, (((List.length a.2.1) : Int) == (0 : Int))))
 else (some (a.1.shape, Bool.true)))))))))))))))))))
theorem Tf.graph_of.f_ok (F : Nat) (a) : exec Go.VI.tyT (look [(21, Tf.shape_Same.e F), (76, Tf.rat_Right.e F), (78, Tf.slices_ContainsFunc___string_string__graph_of_1.e F), (82, Tf.shape_Size.e F), (95, Tf.graph_of_1.e F)] : Fns) 119 (look [] : Loops) Tf.graph_of.c (init [.v 206, .v 0, .v 0] (encKs [.rc 6, .sl 0, .sl 0] a)) (finT (look [(21, Tf.shape_Same.e F), (76, Tf.rat_Right.e F), (78, Tf.slices_ContainsFunc___string_string__graph_of_1.e F), (82, Tf.shape_Size.e F), (95, Tf.graph_of_1.e F)] : Fns) (⟨[.v 206, .v 0, .v 0], [.v 0, .p]⟩ : Sig) [6, 7] [.pure, .pure] [.sl 0, .bool]) = Tf.graph_of.f F a := by kernel_rfl
def Tf.graph_of.e (F : Nat) : Fn := mkFn (⟨[.v 206, .v 0, .v 0], [.v 0, .p]⟩ : Sig) [.rc 6, .sl 0, .sl 0] [.pure, .pure] [.sl 0, .bool] (Tf.graph_of.f F)
theorem Tf.graph_of.ok (F : Nat) : EntryOk Go.Proofs.Tryz.prog Go.VI.tyT.G 75 (Tf.graph_of.e F) :=
  fn_ok Go.VI.tyT_ok rfl mix (.cons (Tf.shape_Same.ok F) (.cons (Tf.rat_Right.ok F) (.cons (Tf.slices_ContainsFunc___string_string__graph_of_1.ok F) (.cons (Tf.shape_Size.ok F) (.cons (Tf.graph_of_1.ok F) .nil))))) (Λ := (look [] : Loops)) (fn := Go.Proofs.Tryz.f75) (c := Tf.graph_of.c) (LoopsOk.of (bs := []) (by kernel_rfl) .nil) (by kernel_rfl) (by kernel_rfl) (by kernel_rfl) (by kernel_rfl) (res2 (by kernel_rfl)) (by decide) (Tf.graph_of.f_ok F)
end Go.VI
namespace Go.VI
open Go
noncomputable def Tf.slices_Clone_ints.c : Code := (Go.Proofs.Tryz.f71.body).getD .skip
def Tf.slices_Clone_ints.f (F : Nat) (a : List Int) : Option (List Int) := cloneT 0 a
def Tf.slices_Clone_ints.e (F : Nat) : Fn := mkFn (⟨[.v 0], [.o 0]⟩ : Sig) [.sl 0] [.own] [.sl 0] (Tf.slices_Clone_ints.f F)
theorem Tf.slices_Clone_ints.ok (F : Nat) : EntryOk Go.Proofs.Tryz.prog tyT.G 71 (Tf.slices_Clone_ints.e F) :=
  clone_ok tyT_ok rfl mix (fn := Go.Proofs.Tryz.f71) (t := 0) (T := 24) (T' := 24) (e := 3) (r0 := codeAt [0] Tf.slices_Clone_ints.c) (A := codeAt [1, 0, 1, 0] Tf.slices_Clone_ints.c) (B := codeAt [1, 1] Tf.slices_Clone_ints.c) (id := 1)
    (o1 := nthOp (codeAt [1, 0, 0] Tf.slices_Clone_ints.c) 0) (o2 := nthOp (codeAt [1, 0, 0] Tf.slices_Clone_ints.c) 1) (by kernel_rfl) (by kernel_rfl) (by kernel_rfl) (by kernel_rfl) (res1 (by kernel_rfl))
    (by kernel_rfl) (by kernel_rfl) (by kernel_rfl) (by kernel_rfl) (by kernel_rfl) (by kernel_rfl) (by kernel_rfl) (by kernel_rfl) (by kernel_rfl)
    (S0 := fun l => stAt tyT 8 (codeAt [0] Tf.slices_Clone_ints.c) [.v 0] [.sl 0 l]) (fun l => by kernel_rfl) (fun l => by kernel_rfl) (fun l => by kernel_rfl) (by kernel_rfl)
end Go.VI
namespace Go.VI
open Go
noncomputable def Tf.graph_Infer.c : Code := (Go.Proofs.Tryz.f54.body).getD .skip
def Tf.graph_Infer.f (F : Nat) (a : ((List Go.VI.Node) × Go.VI.Node)) : Option ((List Int) × Bool) :=
 (Option.bind (Tf.graph_parts.f F a.2.op) (fun y9 => (bif (!y9.2) then (some (([] : List Int), Bool.false))
 else (Option.bind (Tf.graph_bare.f F ((Node.mk a.2.op a.2.a a.2.b a.2.name a.2.shape a.2.k a.2.n a.2.data), y9.1)) (fun y21 => (bif (!y21) then (some (([] : List Int), Bool.false))
 else (bif (decide (y9.1 > (0 : Int))) then (bif (decide (a.2.a < (0 : Int))) then (some (([] : List Int), Bool.false))
 else (bif (decide (a.2.a ≥ ((List.length a.1) : Int))) then (some (([] : List Int), Bool.false))
 else (bif (decide (y9.1 > (1 : Int))) then (bif (decide (a.2.b < (0 : Int))) then (some (([] : List Int), Bool.false))
 else (bif (decide (a.2.b ≥ ((List.length a.1) : Int))) then (some (([] : List Int), Bool.false))
 else (bif (decide (y9.1 > (0 : Int))) then (bif (inR a.2.a (List.length a.1)) then (bif (decide (y9.1 > (1 : Int))) then (bif (inR a.2.b (List.length a.1)) then (Option.bind (Tf.graph_of.f F ((Node.mk a.2.op a.2.a a.2.b a.2.name a.2.shape a.2.k a.2.n a.2.data), ((List.getD a.1 (Int.toNat a.2.a) (dflt 6)).shape, (List.getD a.1 (Int.toNat a.2.b) (dflt 6)).shape))) (fun y80 => (bif (!y80.2) then (some (([] : List Int), Bool.false))
 else (Option.bind (Tf.shape_Right.f F y80.1) (fun y91 => (bif (!y91) then (some (([] : List Int), Bool.false))
 else (Option.bind (Tf.slices_Clone_ints.f F y80.1) (fun y96 => (some (y96, Bool.true))))))))))
 else none)
 else (Option.bind (Tf.graph_of.f F ((Node.mk a.2.op a.2.a a.2.b a.2.name a.2.shape a.2.k a.2.n a.2.data), ((List.getD a.1 (Int.toNat a.2.a) (dflt 6)).shape, ([] : List Int)))) (fun y73 => (bif (!y73.2) then (some (([] : List Int), Bool.false))
 else (Option.bind (Tf.shape_Right.f F y73.1) (fun y84 => (bif (!y84) then (some (([] : List Int), Bool.false))
 else (Option.bind (Tf.slices_Clone_ints.f F y73.1) (fun y89 => (some (y89, Bool.true)))))))))))
 else none)
 else (bif (decide (y9.1 > (1 : Int))) then (bif (inR a.2.b (List.length a.1)) then (Option.bind (Tf.graph_of.f F ((Node.mk a.2.op a.2.a a.2.b a.2.name a.2.shape a.2.k a.2.n a.2.data), (([] : List Int), (List.getD a.1 (Int.toNat a.2.b) (dflt 6)).shape))) (fun y73 => (bif (!y73.2) then (some (([] : List Int), Bool.false))
 else (Option.bind (Tf.shape_Right.f F y73.1) (fun y84 => (bif (!y84) then (some (([] : List Int), Bool.false))
 else (Option.bind (Tf.slices_Clone_ints.f F y73.1) (fun y89 => (some (y89, Bool.true))))))))))
 else none)
 else (Option.bind (Tf.graph_of.f F ((Node.mk a.2.op a.2.a a.2.b a.2.name a.2.shape a.2.k a.2.n a.2.data), (([] : List Int), ([] : List Int)))) (fun y66 => (bif (!y66.2) then (some (([] : List Int), Bool.false))
 else (Option.bind (Tf.shape_Right.f F y66.1) (fun y77 => (bif (!y77) then (some (([] : List Int), Bool.false))
 else (Option.bind (Tf.slices_Clone_ints.f F y66.1) (fun y82 => (some (y82, Bool.true))))))))))))))
 else (bif (decide (y9.1 > (0 : Int))) then (bif (inR a.2.a (List.length a.1)) then (bif (decide (y9.1 > (1 : Int))) then (bif (inR a.2.b (List.length a.1)) then (Option.bind (Tf.graph_of.f F ((Node.mk a.2.op a.2.a a.2.b a.2.name a.2.shape a.2.k a.2.n a.2.data), ((List.getD a.1 (Int.toNat a.2.a) (dflt 6)).shape, (List.getD a.1 (Int.toNat a.2.b) (dflt 6)).shape))) (fun y70 => (bif (!y70.2) then (some (([] : List Int), Bool.false))
 else (Option.bind (Tf.shape_Right.f F y70.1) (fun y81 => (bif (!y81) then (some (([] : List Int), Bool.false))
 else (Option.bind (Tf.slices_Clone_ints.f F y70.1) (fun y86 => (some (y86, Bool.true))))))))))
 else none)
 else (Option.bind (Tf.graph_of.f F ((Node.mk a.2.op a.2.a a.2.b a.2.name a.2.shape a.2.k a.2.n a.2.data), ((List.getD a.1 (Int.toNat a.2.a) (dflt 6)).shape, ([] : List Int)))) (fun y63 => (bif (!y63.2) then (some (([] : List Int), Bool.false))
 else (Option.bind (Tf.shape_Right.f F y63.1) (fun y74 => (bif (!y74) then (some (([] : List Int), Bool.false))
 else (Option.bind (Tf.slices_Clone_ints.f F y63.1) (fun y79 => (some (y79, Bool.true)))))))))))
 else none)
 else (bif (decide (y9.1 > (1 : Int))) then (bif (inR a.2.b (List.length a.1)) then (Option.bind (Tf.graph_of.f F ((Node.mk a.2.op a.2.a a.2.b a.2.name a.2.shape a.2.k a.2.n a.2.data), (([] : List Int), (List.getD a.1 (Int.toNat a.2.b) (dflt 6)).shape))) (fun y63 => (bif (!y63.2) then (some (([] : List Int), Bool.false))
 else (Option.bind (Tf.shape_Right.f F y63.1) (fun y74 => (bif (!y74) then (some (([] : List Int), Bool.false))
 else (Option.bind (Tf.slices_Clone_ints.f F y63.1) (fun y79 => (some (y79, Bool.true))))))))))
 else none)
 else (Option.bind (Tf.graph_of.f F ((Node.mk a.2.op a.2.a a.2.b a.2.name a.2.shape a.2.k a.2.n a.2.data), (([] : List Int), ([] : List Int)))) (fun y56 => (bif (!y56.2) then (some (([] : List Int), Bool.false))
 else (Option.bind (Tf.shape_Right.f F y56.1) (fun y67 => (bif (!y67) then (some (([] : List Int), Bool.false))
 else (Option.bind (Tf.slices_Clone_ints.f F y56.1) (fun y72 => (some (y72, Bool.true)))))))))))))))
 else (bif (decide (y9.1 > (1 : Int))) then (bif (decide (a.2.b < (0 : Int))) then (some (([] : List Int), Bool.false))
 else (bif (decide (a.2.b ≥ ((List.length a.1) : Int))) then (some (([] : List Int), Bool.false))
 else (bif (decide (y9.1 > (0 : Int))) then (bif (inR a.2.a (List.length a.1)) then (bif (decide (y9.1 > (1 : Int))) then (bif (inR a.2.b (List.length a.1)) then (Option.bind (Tf.graph_of.f F ((Node.mk a.2.op a.2.a a.2.b a.2.name a.2.shape a.2.k a.2.n a.2.data), ((List.getD a.1 (Int.toNat a.2.a) (dflt 6)).shape, (List.getD a.1 (Int.toNat a.2.b) (dflt 6)).shape))) (fun y70 => (bif (!y70.2) then (some (([] : List Int), Bool.false))
 else (Option.bind (Tf.shape_Right.f F y70.1) (fun y81 => (bif (!y81) then (some (([] : List Int), Bool.false))
 else (Option.bind (Tf.slices_Clone_ints.f F y70.1) (fun y86 => (some (y86, Bool.true))))))))))
 else none)
 else (Option.bind (Tf.graph_of.f F ((Node.mk a.2.op a.2.a a.2.b a.2.name a.2.shape a.2.k a.2.n a.2.data), ((List.getD a.1 (Int.toNat a.2.a) (dflt 6)).shape, ([] : List Int)))) (fun y63 => (bif (!y63.2) then (some (([] : List Int), Bool.false))
 else (Option.bind (Tf.shape_Right.f F y63.1) (fun y74 => (bif (!y74) then (some (([] : List Int), Bool.false))
 else (Option.bind (Tf.slices_Clone_ints.f F y63.1) (fun y79 => (some (y79, Bool.true)))))))))))
 else none)
 else (bif (decide (y9.1 > (1 : Int))) then (bif (inR a.2.b (List.length a.1)) then (Option.bind (Tf.graph_of.f F ((Node.mk a.2.op a.2.a a.2.b a.2.name a.2.shape a.2.k a.2.n a.2.data), (([] : List Int), (List.getD a.1 (Int.toNat a.2.b) (dflt 6)).shape))) (fun y63 => (bif (!y63.2) then (some (([] : List Int), Bool.false))
 else (Option.bind (Tf.shape_Right.f F y63.1) (fun y74 => (bif (!y74) then (some (([] : List Int), Bool.false))
 else (Option.bind (Tf.slices_Clone_ints.f F y63.1) (fun y79 => (some (y79, Bool.true))))))))))
 else none)
 else (Option.bind (Tf.graph_of.f F ((Node.mk a.2.op a.2.a a.2.b a.2.name a.2.shape a.2.k a.2.n a.2.data), (([] : List Int), ([] : List Int)))) (fun y56 => (bif (!y56.2) then (some (([] : List Int), Bool.false))
 else (Option.bind (Tf.shape_Right.f F y56.1) (fun y67 => (bif (!y67) then (some (([] : List Int), Bool.false))
 else (Option.bind (Tf.slices_Clone_ints.f F y56.1) (fun y72 => (some (y72, Bool.true))))))))))))))
 else (bif (decide (y9.1 > (0 : Int))) then (bif (inR a.2.a (List.length a.1)) then (bif (decide (y9.1 > (1 : Int))) then (bif (inR a.2.b (List.length a.1)) then (Option.bind (Tf.graph_of.f F ((Node.mk a.2.op a.2.a a.2.b a.2.name a.2.shape a.2.k a.2.n a.2.data), ((List.getD a.1 (Int.toNat a.2.a) (dflt 6)).shape, (List.getD a.1 (Int.toNat a.2.b) (dflt 6)).shape))) (fun y60 => (bif (!y60.2) then (some (([] : List Int), Bool.false))
 else (Option.bind (Tf.shape_Right.f F y60.1) (fun y71 => (bif (!y71) then (some (([] : List Int), Bool.false))
 else (Option.bind (Tf.slices_Clone_ints.f F y60.1) (fun y76 => (some (y76, Bool.true))))))))))
 else none)
 else (Option.bind (Tf.graph_of.f F ((Node.mk a.2.op a.2.a a.2.b a.2.name a.2.shape a.2.k a.2.n a.2.data), ((List.getD a.1 (Int.toNat a.2.a) (dflt 6)).shape, ([] : List Int)))) (fun y53 => (bif (!y53.2) then (some (([] : List Int), Bool.false))
 else (Option.bind (Tf.shape_Right.f F y53.1) (fun y64 => (bif (!y64) then (some (([] : List Int), Bool.false))
 else (Option.bind (Tf.slices_Clone_ints.f F y53.1) (fun y69 => (some (y69, Bool.true)))))))))))
 else none)
 else (bif (decide (y9.1 > (1 : Int))) then (bif (inR a.2.b (List.length a.1)) then (Option.bind (Tf.graph_of.f F ((Node.mk a.2.op a.2.a a.2.b a.2.name a.2.shape a.2.k a.2.n a.2.data), (([] : List Int), (List.getD a.1 (Int.toNat a.2.b) (dflt 6)).shape))) (fun y53 => (bif (!y53.2) then (some (([] : List Int), Bool.false))
 else (Option.bind (Tf.shape_Right.f F y53.1) (fun y64 => (bif (!y64) then (some (([] : List Int), Bool.false))
 else (Option.bind (Tf.slices_Clone_ints.f F y53.1) (fun y69 => (some (y69, Bool.true))))))))))
 else none)
 else (Option.bind (Tf.graph_of.f F ((Node.mk a.2.op a.2.a a.2.b a.2.name a.2.shape a.2.k a.2.n a.2.data), (([] : List Int), ([] : List Int)))) (fun y46 => (bif (!y46.2) then (some (([] : List Int), Bool.false))
 else (Option.bind (Tf.shape_Right.f F y46.1) (fun y57 => (bif (!y57) then (some (([] : List Int), Bool.false))
 else (Option.bind (Tf.slices_Clone_ints.f F y46.1) (fun y62 => (some (y62, Bool.true))))))))))))))))))))
theorem Tf.graph_Infer.f_ok (F : Nat) (a) : exec Go.VI.tyT (look [(20, Tf.shape_Right.e F), (71, Tf.slices_Clone_ints.e F), (73, Tf.graph_parts.e F), (74, Tf.graph_bare.e F), (75, Tf.graph_of.e F)] : Fns) 89 (look [] : Loops) Tf.graph_Infer.c (init [.v 6, .v 206] (encKs [.sl 6, .rc 6] a)) (finT (look [(20, Tf.shape_Right.e F), (71, Tf.slices_Clone_ints.e F), (73, Tf.graph_parts.e F), (74, Tf.graph_bare.e F), (75, Tf.graph_of.e F)] : Fns) (⟨[.v 6, .v 206], [.o 0, .p]⟩ : Sig) [4, 5] [.own, .pure] [.sl 0, .bool]) = Tf.graph_Infer.f F a := by kernel_rfl
def Tf.graph_Infer.e (F : Nat) : Fn := mkFn (⟨[.v 6, .v 206], [.o 0, .p]⟩ : Sig) [.sl 6, .rc 6] [.own, .pure] [.sl 0, .bool] (Tf.graph_Infer.f F)
theorem Tf.graph_Infer.ok (F : Nat) : EntryOk Go.Proofs.Tryz.prog Go.VI.tyT.G 54 (Tf.graph_Infer.e F) :=
  fn_ok Go.VI.tyT_ok rfl mix (.cons (Tf.shape_Right.ok F) (.cons (Tf.slices_Clone_ints.ok F) (.cons (Tf.graph_parts.ok F) (.cons (Tf.graph_bare.ok F) (.cons (Tf.graph_of.ok F) .nil))))) (Λ := (look [] : Loops)) (fn := Go.Proofs.Tryz.f54) (c := Tf.graph_Infer.c) (LoopsOk.of (bs := []) (by kernel_rfl) .nil) (by kernel_rfl) (by kernel_rfl) (by kernel_rfl) (by kernel_rfl) (res2 (by kernel_rfl)) (by decide) (Tf.graph_Infer.f_ok F)
end Go.VI
namespace Go.VI
open Go
noncomputable def Tf.graph_Right.c : Code := (Go.Proofs.Tryz.f31.body).getD .skip
noncomputable def Tf.graph_Right.b5 : Code := codeAt [1, 1, 1, 0, 1, 0, 0] Tf.graph_Right.c
def Tf.graph_Right.s5 (F : Nat) (L : (Int × ((List (ByteArray × Int)) × ((List Go.VI.Node) × (Int × ((List Go.VI.Node) × Int))))) → Option (Bool ⊕ Unit)) (x : (Int × ((List (ByteArray × Int)) × ((List Go.VI.Node) × (Int × ((List Go.VI.Node) × Int)))))) : Option (Bool ⊕ Unit) :=
 (bif (decide (x.1 < x.2.2.2.2.2)) then (bif (inR x.1 (List.length x.2.2.2.2.1)) then (bif ((decide ((0 : Int) ≤ x.1)) && (decide (x.1 ≤ ((List.length x.2.2.1) : Int)))) then (Option.bind (Tf.graph_Infer.f F ((List.drop 0 (List.take (Int.toNat x.1) x.2.2.1)), (Node.mk (List.getD x.2.2.2.2.1 (Int.toNat x.1) (dflt 6)).op (List.getD x.2.2.2.2.1 (Int.toNat x.1) (dflt 6)).a (List.getD x.2.2.2.2.1 (Int.toNat x.1) (dflt 6)).b (List.getD x.2.2.2.2.1 (Int.toNat x.1) (dflt 6)).name (List.getD x.2.2.2.2.1 (Int.toNat x.1) (dflt 6)).shape (List.getD x.2.2.2.2.1 (Int.toNat x.1) (dflt 6)).k (List.getD x.2.2.2.2.1 (Int.toNat x.1) (dflt 6)).n (List.getD x.2.2.2.2.1 (Int.toNat x.1) (dflt 6)).data))) (fun y59 => (bif (!y59.2) then (some (.inl Bool.false))
 else (Option.bind (Tf.shape_Same.f F (y59.1, (List.getD x.2.2.2.2.1 (Int.toNat x.1) (dflt 6)).shape)) (fun y72 => (bif (!y72) then (some (.inl Bool.false))
 else (bif (!(seqB (List.getD x.2.2.2.2.1 (Int.toNat x.1) (dflt 6)).name (⟨#[]⟩ : ByteArray))) then (bif (decide ((Option.getD (getM x.2.1 (List.getD x.2.2.2.2.1 (Int.toNat x.1) (dflt 6)).name) (0 : Int)) > (0 : Int))) then (some (.inl Bool.false))
 else (L ((Go.IntKind.wrap IntKind.i64 (x.1 + (1 : Int))), ((putM x.2.1 (List.getD x.2.2.2.2.1 (Int.toNat x.1) (dflt 6)).name (Go.IntKind.wrap IntKind.i64 ((Option.getD (getM x.2.1 (List.getD x.2.2.2.2.1 (Int.toNat x.1) (dflt 6)).name) (0 : Int)) + (1 : Int)))), (x.2.2.1, (x.2.2.2.1, (x.2.2.2.2.1, x.2.2.2.2.2)))))))
 else (L ((Go.IntKind.wrap IntKind.i64 (x.1 + (1 : Int))), ((putM x.2.1 (List.getD x.2.2.2.2.1 (Int.toNat x.1) (dflt 6)).name (Go.IntKind.wrap IntKind.i64 ((Option.getD (getM x.2.1 (List.getD x.2.2.2.2.1 (Int.toNat x.1) (dflt 6)).name) (0 : Int)) + (1 : Int)))), (x.2.2.1, (x.2.2.2.1, (x.2.2.2.2.1, x.2.2.2.2.2)))))))))))))
 else none)
 else none)
 else (some (.inr ())))
def Tf.graph_Right.l5 (F : Nat) : (Int × ((List (ByteArray × Int)) × ((List Go.VI.Node) × (Int × ((List Go.VI.Node) × Int))))) → Option (Bool ⊕ Unit) := iter (Tf.graph_Right.s5 F) F
theorem Tf.graph_Right.s5_ok (F : Nat) (L a) : exec Go.VI.tyT (look [(21, Tf.shape_Same.e F), (54, Tf.graph_Infer.e F)] : Fns) 87 (look [] : Loops) Tf.graph_Right.b5 (rebuild [.slot 46, .mp 3, .box 1 [none, none], .view 44 6, .slot 45] (encKs [.int .i64, .map, .sl 6, .int .i64, .sl 6, .int .i64] a)) (bodyK [.slot 46, .mp 3, .box 1 [none, none], .view 44 6, .slot 45] [.int .i64, .map, .sl 6, .int .i64, .sl 6, .int .i64] [⟨.ret, [.slot 2], [.bool]⟩, ⟨.exit 0, [], []⟩] L) = Tf.graph_Right.s5 F L a := by kernel_rfl
theorem Tf.graph_Right.l5_ok (F : Nat) : LoopOk Go.Proofs.Tryz.prog Go.VI.tyT.G 87 Tf.graph_Right.b5 (fun st κ => hand [.slot 46, .mp 3, .box 1 [none, none], .view 44 6, .slot 45] [.int .i64, .map, .sl 6, .int .i64, .sl 6, .int .i64] [⟨.ret, [.slot 2], [.bool]⟩, ⟨.exit 0, [], []⟩] (Tf.graph_Right.l5 F) st κ) :=
  loop_ok Go.VI.tyT_ok rfl mix (.cons (Tf.shape_Same.ok F) (.cons (Tf.graph_Infer.ok F) .nil)) (Λ := (look [] : Loops)) (LoopsOk.of (bs := []) (by kernel_rfl) .nil) (Tf.graph_Right.s5_ok F) F
def Tf.graph_Right.f (F : Nat) (a : ((List Go.VI.Node) × Int)) : Option Bool :=
 (bif (decide (((List.length a.1) : Int) < (1 : Int))) then (some Bool.false)
 else (bif (decide (((List.length a.1) : Int) > (200 : Int))) then (some Bool.false)
 else (bif (decide (a.2 < (0 : Int))) then (some Bool.false)
 else (bif (decide (a.2 ≥ ((List.length a.1) : Int))) then (some Bool.false)
 else (bif (inR a.2 (List.length a.1)) then (bif (((List.length (List.getD a.1 (Int.toNat a.2) (dflt 6)).shape) : Int) != (0 : Int)) then (some Bool.false)
 else (Option.bind (Tf.graph_Right.l5 F ((0 : Int), (([] : List (ByteArray × Int)), (a.1, (a.2, (a.1, ((List.length a.1) : Int))))))) (fun y45 => (sumE y45 (fun y46 => (some y46)) (fun y46 => (some Bool.true))))))
 else none)))))
theorem Tf.graph_Right.f_ok (F : Nat) (a) : exec Go.VI.tyT (look [(21, Tf.shape_Same.e F), (54, Tf.graph_Infer.e F)] : Fns) 87 (look [(5, fun st κ => hand [.slot 46, .mp 3, .box 1 [none, none], .view 44 6, .slot 45] [.int .i64, .map, .sl 6, .int .i64, .sl 6, .int .i64] [⟨.ret, [.slot 2], [.bool]⟩, ⟨.exit 0, [], []⟩] (Tf.graph_Right.l5 F) st κ)] : Loops) Tf.graph_Right.c (init [.v 301] (encKs [.st [.sl 6, .int .i64]] a)) (finT (look [(21, Tf.shape_Same.e F), (54, Tf.graph_Infer.e F)] : Fns) (⟨[.v 301], [.p]⟩ : Sig) [2] [.pure] [.bool]) = Tf.graph_Right.f F a := by kernel_rfl
def Tf.graph_Right.e (F : Nat) : Fn := mkFn (⟨[.v 301], [.p]⟩ : Sig) [.st [.sl 6, .int .i64]] [.pure] [.bool] (Tf.graph_Right.f F)
theorem Tf.graph_Right.ok (F : Nat) : EntryOk Go.Proofs.Tryz.prog Go.VI.tyT.G 31 (Tf.graph_Right.e F) :=
  fn_ok Go.VI.tyT_ok rfl mix (.cons (Tf.shape_Same.ok F) (.cons (Tf.graph_Infer.ok F) .nil)) (Λ := (look [(5, fun st κ => hand [.slot 46, .mp 3, .box 1 [none, none], .view 44 6, .slot 45] [.int .i64, .map, .sl 6, .int .i64, .sl 6, .int .i64] [⟨.ret, [.slot 2], [.bool]⟩, ⟨.exit 0, [], []⟩] (Tf.graph_Right.l5 F) st κ)] : Loops)) (fn := Go.Proofs.Tryz.f31) (c := Tf.graph_Right.c) (LoopsOk.of (bs := [Tf.graph_Right.b5]) (by kernel_rfl) (.cons rfl (Tf.graph_Right.l5_ok F) .nil)) (by kernel_rfl) (by kernel_rfl) (by kernel_rfl) (by kernel_rfl) (res1 (by kernel_rfl)) (by decide) (Tf.graph_Right.f_ok F)
end Go.VI
namespace Go.VI
open Go
noncomputable def Tf.tapewrightref10_Parts.c : Code := (Go.Proofs.Tryz.f70.body).getD .skip
noncomputable def Tf.tapewrightref10_Parts.b2 : Code := codeAt [1, 0, 1, 0, 0] Tf.tapewrightref10_Parts.c
def Tf.tapewrightref10_Parts.s2 (F : Nat) (L : (Int × (ByteArray × ((List ByteArray) × Int))) → Option (Int ⊕ ByteArray)) (x : (Int × (ByteArray × ((List ByteArray) × Int)))) : Option (Int ⊕ ByteArray) :=
 (bif (decide (x.1 < x.2.2.2)) then (bif (inR x.1 (List.length x.2.2.1)) then (bif (seqB (List.getD x.2.2.1 (Int.toNat x.1) (dflt 4)) x.2.1) then (some (.inl (0 : Int)))
 else (L ((Go.IntKind.wrap IntKind.i64 (x.1 + (1 : Int))), (x.2.1, (x.2.2.1, x.2.2.2)))))
 else none)
 else (some (.inr x.2.1)))
def Tf.tapewrightref10_Parts.l2 (F : Nat) : (Int × (ByteArray × ((List ByteArray) × Int))) → Option (Int ⊕ ByteArray) := iter (Tf.tapewrightref10_Parts.s2 F) F
theorem Tf.tapewrightref10_Parts.s2_ok (F : Nat) (L a) : exec Go.VI.tyT (look [] : Fns) 39 (look [] : Loops) Tf.tapewrightref10_Parts.b2 (rebuild [.slot 11, .slot 0, .own 9 4, .slot 10] (encKs [.int .i64, .str, .sl 4, .int .i64] a)) (bodyK [.slot 11, .slot 0, .own 9 4, .slot 10] [.int .i64, .str, .sl 4, .int .i64] [⟨.ret, [.slot 2], [.int .i64]⟩, ⟨.exit 0, [.slot 0], [.str]⟩] L) = Tf.tapewrightref10_Parts.s2 F L a := by kernel_rfl
theorem Tf.tapewrightref10_Parts.l2_ok (F : Nat) : LoopOk Go.Proofs.Tryz.prog Go.VI.tyT.G 39 Tf.tapewrightref10_Parts.b2 (fun st κ => hand [.slot 11, .slot 0, .own 9 4, .slot 10] [.int .i64, .str, .sl 4, .int .i64] [⟨.ret, [.slot 2], [.int .i64]⟩, ⟨.exit 0, [.slot 0], [.str]⟩] (Tf.tapewrightref10_Parts.l2 F) st κ) :=
  loop_ok Go.VI.tyT_ok rfl mix .nil (Λ := (look [] : Loops)) (LoopsOk.of (bs := []) (by kernel_rfl) .nil) (Tf.tapewrightref10_Parts.s2_ok F) F
noncomputable def Tf.tapewrightref10_Parts.b8 : Code := codeAt [1, 1, 0, 1, 0, 0] Tf.tapewrightref10_Parts.c
def Tf.tapewrightref10_Parts.s8 (F : Nat) (L : (Int × (ByteArray × ((List ByteArray) × Int))) → Option (Int ⊕ ByteArray)) (x : (Int × (ByteArray × ((List ByteArray) × Int)))) : Option (Int ⊕ ByteArray) :=
 (bif (decide (x.1 < x.2.2.2)) then (bif (inR x.1 (List.length x.2.2.1)) then (bif (seqB (List.getD x.2.2.1 (Int.toNat x.1) (dflt 4)) x.2.1) then (some (.inl (1 : Int)))
 else (L ((Go.IntKind.wrap IntKind.i64 (x.1 + (1 : Int))), (x.2.1, (x.2.2.1, x.2.2.2)))))
 else none)
 else (some (.inr x.2.1)))
def Tf.tapewrightref10_Parts.l8 (F : Nat) : (Int × (ByteArray × ((List ByteArray) × Int))) → Option (Int ⊕ ByteArray) := iter (Tf.tapewrightref10_Parts.s8 F) F
theorem Tf.tapewrightref10_Parts.s8_ok (F : Nat) (L a) : exec Go.VI.tyT (look [] : Fns) 39 (look [] : Loops) Tf.tapewrightref10_Parts.b8 (rebuild [.slot 21, .slot 0, .own 19 4, .slot 20] (encKs [.int .i64, .str, .sl 4, .int .i64] a)) (bodyK [.slot 21, .slot 0, .own 19 4, .slot 20] [.int .i64, .str, .sl 4, .int .i64] [⟨.ret, [.slot 2], [.int .i64]⟩, ⟨.exit 2, [.slot 0], [.str]⟩] L) = Tf.tapewrightref10_Parts.s8 F L a := by kernel_rfl
theorem Tf.tapewrightref10_Parts.l8_ok (F : Nat) : LoopOk Go.Proofs.Tryz.prog Go.VI.tyT.G 39 Tf.tapewrightref10_Parts.b8 (fun st κ => hand [.slot 21, .slot 0, .own 19 4, .slot 20] [.int .i64, .str, .sl 4, .int .i64] [⟨.ret, [.slot 2], [.int .i64]⟩, ⟨.exit 2, [.slot 0], [.str]⟩] (Tf.tapewrightref10_Parts.l8 F) st κ) :=
  loop_ok Go.VI.tyT_ok rfl mix .nil (Λ := (look [] : Loops)) (LoopsOk.of (bs := []) (by kernel_rfl) .nil) (Tf.tapewrightref10_Parts.s8_ok F) F
noncomputable def Tf.tapewrightref10_Parts.b14 : Code := codeAt [1, 1, 1, 0, 1, 0, 0] Tf.tapewrightref10_Parts.c
def Tf.tapewrightref10_Parts.s14 (F : Nat) (L : (Int × (ByteArray × ((List ByteArray) × Int))) → Option (Int ⊕ Unit)) (x : (Int × (ByteArray × ((List ByteArray) × Int)))) : Option (Int ⊕ Unit) :=
 (bif (decide (x.1 < x.2.2.2)) then (bif (inR x.1 (List.length x.2.2.1)) then (bif (seqB (List.getD x.2.2.1 (Int.toNat x.1) (dflt 4)) x.2.1) then (some (.inl (2 : Int)))
 else (L ((Go.IntKind.wrap IntKind.i64 (x.1 + (1 : Int))), (x.2.1, (x.2.2.1, x.2.2.2)))))
 else none)
 else (some (.inr ())))
def Tf.tapewrightref10_Parts.l14 (F : Nat) : (Int × (ByteArray × ((List ByteArray) × Int))) → Option (Int ⊕ Unit) := iter (Tf.tapewrightref10_Parts.s14 F) F
theorem Tf.tapewrightref10_Parts.s14_ok (F : Nat) (L a) : exec Go.VI.tyT (look [] : Fns) 39 (look [] : Loops) Tf.tapewrightref10_Parts.b14 (rebuild [.slot 31, .slot 0, .own 29 4, .slot 30] (encKs [.int .i64, .str, .sl 4, .int .i64] a)) (bodyK [.slot 31, .slot 0, .own 29 4, .slot 30] [.int .i64, .str, .sl 4, .int .i64] [⟨.ret, [.slot 2], [.int .i64]⟩, ⟨.exit 4, [], []⟩] L) = Tf.tapewrightref10_Parts.s14 F L a := by kernel_rfl
theorem Tf.tapewrightref10_Parts.l14_ok (F : Nat) : LoopOk Go.Proofs.Tryz.prog Go.VI.tyT.G 39 Tf.tapewrightref10_Parts.b14 (fun st κ => hand [.slot 31, .slot 0, .own 29 4, .slot 30] [.int .i64, .str, .sl 4, .int .i64] [⟨.ret, [.slot 2], [.int .i64]⟩, ⟨.exit 4, [], []⟩] (Tf.tapewrightref10_Parts.l14 F) st κ) :=
  loop_ok Go.VI.tyT_ok rfl mix .nil (Λ := (look [] : Loops)) (LoopsOk.of (bs := []) (by kernel_rfl) .nil) (Tf.tapewrightref10_Parts.s14_ok F) F
def Tf.tapewrightref10_Parts.f (F : Nat) (a : ByteArray) : Option Int :=
 (Option.bind (Tf.tapewrightref10_Parts.l2 F ((0 : Int), (a, ((List.set (List.set (List.set (List.replicate 3 ByteArray.empty) 0 (⟨#[112, 97, 114, 97, 109]⟩ : ByteArray)) 1 (⟨#[105, 110, 112, 117, 116]⟩ : ByteArray)) 2 (⟨#[99, 111, 110, 115, 116]⟩ : ByteArray)), (3 : Int))))) (fun y7 => (sumE y7 (fun y8 => (some y8)) (fun y8 => (Option.bind (Tf.tapewrightref10_Parts.l8 F ((0 : Int), (y8, ((List.set (List.set (List.set (List.set (List.set (List.set (List.set (List.set (List.set (List.set (List.replicate 10 ByteArray.empty) 0 (⟨#[114, 101, 108, 117]⟩ : ByteArray)) 1 (⟨#[97, 98, 115]⟩ : ByteArray)) 2 (⟨#[115, 116, 101, 112]⟩ : ByteArray)) 3 (⟨#[115, 105, 103, 110]⟩ : ByteArray)) 4 (⟨#[115, 99, 97, 108, 101]⟩ : ByteArray)) 5 (⟨#[112, 111, 119, 101, 114]⟩ : ByteArray)) 6 (⟨#[116, 114, 97, 110, 115, 112, 111, 115, 101]⟩ : ByteArray)) 7 (⟨#[115, 117, 109]⟩ : ByteArray)) 8 (⟨#[114, 101, 115, 104, 97, 112, 101]⟩ : ByteArray)) 9 (⟨#[115, 112, 114, 101, 97, 100]⟩ : ByteArray)), (10 : Int))))) (fun y12 => (sumE y12 (fun y13 => (some y13)) (fun y13 => (Option.bind (Tf.tapewrightref10_Parts.l14 F ((0 : Int), (y13, ((List.set (List.set (List.set (List.set (List.set (List.set (List.replicate 6 ByteArray.empty) 0 (⟨#[97, 100, 100]⟩ : ByteArray)) 1 (⟨#[115, 117, 98]⟩ : ByteArray)) 2 (⟨#[109, 117, 108]⟩ : ByteArray)) 3 (⟨#[109, 97, 120]⟩ : ByteArray)) 4 (⟨#[97, 98, 111, 118, 101]⟩ : ByteArray)) 5 (⟨#[109, 97, 116, 109, 117, 108]⟩ : ByteArray)), (6 : Int))))) (fun y17 => (sumE y17 (fun y18 => (some y18)) (fun y18 => (some (-(1 : Int)))))))))))))))
theorem Tf.tapewrightref10_Parts.f_ok (F : Nat) (a) : exec Go.VI.tyT (look [] : Fns) 39 (look [(2, fun st κ => hand [.slot 11, .slot 0, .own 9 4, .slot 10] [.int .i64, .str, .sl 4, .int .i64] [⟨.ret, [.slot 2], [.int .i64]⟩, ⟨.exit 0, [.slot 0], [.str]⟩] (Tf.tapewrightref10_Parts.l2 F) st κ), (8, fun st κ => hand [.slot 21, .slot 0, .own 19 4, .slot 20] [.int .i64, .str, .sl 4, .int .i64] [⟨.ret, [.slot 2], [.int .i64]⟩, ⟨.exit 2, [.slot 0], [.str]⟩] (Tf.tapewrightref10_Parts.l8 F) st κ), (14, fun st κ => hand [.slot 31, .slot 0, .own 29 4, .slot 30] [.int .i64, .str, .sl 4, .int .i64] [⟨.ret, [.slot 2], [.int .i64]⟩, ⟨.exit 4, [], []⟩] (Tf.tapewrightref10_Parts.l14 F) st κ)] : Loops) Tf.tapewrightref10_Parts.c (init [.p] (encKs [.str] a)) (finT (look [] : Fns) (⟨[.p], [.p]⟩ : Sig) [2] [.pure] [.int .i64]) = Tf.tapewrightref10_Parts.f F a := by kernel_rfl
def Tf.tapewrightref10_Parts.e (F : Nat) : Fn := mkFn (⟨[.p], [.p]⟩ : Sig) [.str] [.pure] [.int .i64] (Tf.tapewrightref10_Parts.f F)
theorem Tf.tapewrightref10_Parts.ok (F : Nat) : EntryOk Go.Proofs.Tryz.prog Go.VI.tyT.G 70 (Tf.tapewrightref10_Parts.e F) :=
  fn_ok Go.VI.tyT_ok rfl mix .nil (Λ := (look [(2, fun st κ => hand [.slot 11, .slot 0, .own 9 4, .slot 10] [.int .i64, .str, .sl 4, .int .i64] [⟨.ret, [.slot 2], [.int .i64]⟩, ⟨.exit 0, [.slot 0], [.str]⟩] (Tf.tapewrightref10_Parts.l2 F) st κ), (8, fun st κ => hand [.slot 21, .slot 0, .own 19 4, .slot 20] [.int .i64, .str, .sl 4, .int .i64] [⟨.ret, [.slot 2], [.int .i64]⟩, ⟨.exit 2, [.slot 0], [.str]⟩] (Tf.tapewrightref10_Parts.l8 F) st κ), (14, fun st κ => hand [.slot 31, .slot 0, .own 29 4, .slot 30] [.int .i64, .str, .sl 4, .int .i64] [⟨.ret, [.slot 2], [.int .i64]⟩, ⟨.exit 4, [], []⟩] (Tf.tapewrightref10_Parts.l14 F) st κ)] : Loops)) (fn := Go.Proofs.Tryz.f70) (c := Tf.tapewrightref10_Parts.c) (LoopsOk.of (bs := [Tf.tapewrightref10_Parts.b2, Tf.tapewrightref10_Parts.b8, Tf.tapewrightref10_Parts.b14]) (by kernel_rfl) (.cons rfl (Tf.tapewrightref10_Parts.l2_ok F) (.cons rfl (Tf.tapewrightref10_Parts.l8_ok F) (.cons rfl (Tf.tapewrightref10_Parts.l14_ok F) .nil)))) (by kernel_rfl) (by kernel_rfl) (by kernel_rfl) (by kernel_rfl) (res1 (by kernel_rfl)) (by decide) (Tf.tapewrightref10_Parts.f_ok F)
end Go.VI
namespace Go.VI
open Go
noncomputable def Tf.tapewrightref08_Lines.c : Code := (Go.Proofs.Tryz.f19.body).getD .skip
noncomputable def Tf.tapewrightref08_Lines.b5 : Code := codeAt [1, 1, 1, 1, 0, 1, 0, 0] Tf.tapewrightref08_Lines.c
def Tf.tapewrightref08_Lines.s5 (F : Nat) (L : (Int × (Int × ((List Go.VI.Line) × (ByteArray × (ByteArray × ((List ByteArray) × Bool)))))) → Option (List Go.VI.Line)) (x : (Int × (Int × ((List Go.VI.Line) × (ByteArray × (ByteArray × ((List ByteArray) × Bool))))))) : Option (List Go.VI.Line) :=
 (bif (decide (x.1 ≤ ((ByteArray.size x.2.2.2.1) : Int))) then (bif (x.1 == ((ByteArray.size x.2.2.2.1) : Int)) then (bif (decide (((ByteArray.size x.2.2.2.2.1) : Int) > (0 : Int))) then (bif (Nat.ble ((List.length x.2.2.2.2.2.1) + 1) 1099511627776) then (bif (decide (((List.length (x.2.2.2.2.2.1 ++ (List.set (List.replicate 1 ByteArray.empty) 0 x.2.2.2.2.1))) : Int) > (0 : Int))) then (bif (Nat.ble ((List.length x.2.2.1) + 1) 1099511627776) then (L ((Go.IntKind.wrap IntKind.i64 (x.1 + (1 : Int))), ((Go.IntKind.wrap IntKind.i64 (x.2.1 + (1 : Int))), ((x.2.2.1 ++ (List.set (List.replicate 1 (Line.mk (0 : Int) ([] : List ByteArray))) 0 (Line.mk x.2.1 (x.2.2.2.2.2.1 ++ (List.set (List.replicate 1 ByteArray.empty) 0 x.2.2.2.2.1))))), (x.2.2.2.1, ((⟨#[]⟩ : ByteArray), (([] : List ByteArray), Bool.false)))))))
 else none)
 else (L ((Go.IntKind.wrap IntKind.i64 (x.1 + (1 : Int))), ((Go.IntKind.wrap IntKind.i64 (x.2.1 + (1 : Int))), (x.2.2.1, (x.2.2.2.1, ((⟨#[]⟩ : ByteArray), (([] : List ByteArray), Bool.false))))))))
 else none)
 else (bif (decide (((List.length x.2.2.2.2.2.1) : Int) > (0 : Int))) then (bif (Nat.ble ((List.length x.2.2.1) + 1) 1099511627776) then (L ((Go.IntKind.wrap IntKind.i64 (x.1 + (1 : Int))), ((Go.IntKind.wrap IntKind.i64 (x.2.1 + (1 : Int))), ((x.2.2.1 ++ (List.set (List.replicate 1 (Line.mk (0 : Int) ([] : List ByteArray))) 0 (Line.mk x.2.1 x.2.2.2.2.2.1))), (x.2.2.2.1, ((⟨#[]⟩ : ByteArray), (([] : List ByteArray), Bool.false)))))))
 else none)
 else (L ((Go.IntKind.wrap IntKind.i64 (x.1 + (1 : Int))), ((Go.IntKind.wrap IntKind.i64 (x.2.1 + (1 : Int))), (x.2.2.1, (x.2.2.2.1, ((⟨#[]⟩ : ByteArray), (([] : List ByteArray), Bool.false)))))))))
 else (bif (inR x.1 (ByteArray.size x.2.2.2.1)) then (bif ((byteAt x.2.2.2.1 x.1) == (10 : Int)) then (bif (decide (((ByteArray.size x.2.2.2.2.1) : Int) > (0 : Int))) then (bif (Nat.ble ((List.length x.2.2.2.2.2.1) + 1) 1099511627776) then (bif ((byteAt x.2.2.2.1 x.1) == (10 : Int)) then (bif (decide (((List.length (x.2.2.2.2.2.1 ++ (List.set (List.replicate 1 ByteArray.empty) 0 x.2.2.2.2.1))) : Int) > (0 : Int))) then (bif (Nat.ble ((List.length x.2.2.1) + 1) 1099511627776) then (L ((Go.IntKind.wrap IntKind.i64 (x.1 + (1 : Int))), ((Go.IntKind.wrap IntKind.i64 (x.2.1 + (1 : Int))), ((x.2.2.1 ++ (List.set (List.replicate 1 (Line.mk (0 : Int) ([] : List ByteArray))) 0 (Line.mk x.2.1 (x.2.2.2.2.2.1 ++ (List.set (List.replicate 1 ByteArray.empty) 0 x.2.2.2.2.1))))), (x.2.2.2.1, ((⟨#[]⟩ : ByteArray), (([] : List ByteArray), Bool.false)))))))
 else none)
 else (L ((Go.IntKind.wrap IntKind.i64 (x.1 + (1 : Int))), ((Go.IntKind.wrap IntKind.i64 (x.2.1 + (1 : Int))), (x.2.2.1, (x.2.2.2.1, ((⟨#[]⟩ : ByteArray), (([] : List ByteArray), Bool.false))))))))
 else (bif (inR x.1 (ByteArray.size x.2.2.2.1)) then (bif ((byteAt x.2.2.2.1 x.1) == (35 : Int)) then (L ((Go.IntKind.wrap IntKind.i64 (x.1 + (1 : Int))), (x.2.1, (x.2.2.1, (x.2.2.2.1, ((⟨#[]⟩ : ByteArray), ((x.2.2.2.2.2.1 ++ (List.set (List.replicate 1 ByteArray.empty) 0 x.2.2.2.2.1)), Bool.true)))))))
 else (L ((Go.IntKind.wrap IntKind.i64 (x.1 + (1 : Int))), (x.2.1, (x.2.2.1, (x.2.2.2.1, ((⟨#[]⟩ : ByteArray), ((x.2.2.2.2.2.1 ++ (List.set (List.replicate 1 ByteArray.empty) 0 x.2.2.2.2.1)), x.2.2.2.2.2.2))))))))
 else none))
 else none)
 else (bif ((byteAt x.2.2.2.1 x.1) == (10 : Int)) then (bif (decide (((List.length x.2.2.2.2.2.1) : Int) > (0 : Int))) then (bif (Nat.ble ((List.length x.2.2.1) + 1) 1099511627776) then (L ((Go.IntKind.wrap IntKind.i64 (x.1 + (1 : Int))), ((Go.IntKind.wrap IntKind.i64 (x.2.1 + (1 : Int))), ((x.2.2.1 ++ (List.set (List.replicate 1 (Line.mk (0 : Int) ([] : List ByteArray))) 0 (Line.mk x.2.1 x.2.2.2.2.2.1))), (x.2.2.2.1, ((⟨#[]⟩ : ByteArray), (([] : List ByteArray), Bool.false)))))))
 else none)
 else (L ((Go.IntKind.wrap IntKind.i64 (x.1 + (1 : Int))), ((Go.IntKind.wrap IntKind.i64 (x.2.1 + (1 : Int))), (x.2.2.1, (x.2.2.2.1, ((⟨#[]⟩ : ByteArray), (([] : List ByteArray), Bool.false))))))))
 else (bif (inR x.1 (ByteArray.size x.2.2.2.1)) then (bif ((byteAt x.2.2.2.1 x.1) == (35 : Int)) then (L ((Go.IntKind.wrap IntKind.i64 (x.1 + (1 : Int))), (x.2.1, (x.2.2.1, (x.2.2.2.1, ((⟨#[]⟩ : ByteArray), (x.2.2.2.2.2.1, Bool.true)))))))
 else (L ((Go.IntKind.wrap IntKind.i64 (x.1 + (1 : Int))), (x.2.1, (x.2.2.1, (x.2.2.2.1, ((⟨#[]⟩ : ByteArray), (x.2.2.2.2.2.1, x.2.2.2.2.2.2))))))))
 else none)))
 else (bif x.2.2.2.2.2.2 then (bif (decide (((ByteArray.size x.2.2.2.2.1) : Int) > (0 : Int))) then (bif (Nat.ble ((List.length x.2.2.2.2.2.1) + 1) 1099511627776) then (bif ((byteAt x.2.2.2.1 x.1) == (10 : Int)) then (bif (decide (((List.length (x.2.2.2.2.2.1 ++ (List.set (List.replicate 1 ByteArray.empty) 0 x.2.2.2.2.1))) : Int) > (0 : Int))) then (bif (Nat.ble ((List.length x.2.2.1) + 1) 1099511627776) then (L ((Go.IntKind.wrap IntKind.i64 (x.1 + (1 : Int))), ((Go.IntKind.wrap IntKind.i64 (x.2.1 + (1 : Int))), ((x.2.2.1 ++ (List.set (List.replicate 1 (Line.mk (0 : Int) ([] : List ByteArray))) 0 (Line.mk x.2.1 (x.2.2.2.2.2.1 ++ (List.set (List.replicate 1 ByteArray.empty) 0 x.2.2.2.2.1))))), (x.2.2.2.1, ((⟨#[]⟩ : ByteArray), (([] : List ByteArray), Bool.false)))))))
 else none)
 else (L ((Go.IntKind.wrap IntKind.i64 (x.1 + (1 : Int))), ((Go.IntKind.wrap IntKind.i64 (x.2.1 + (1 : Int))), (x.2.2.1, (x.2.2.2.1, ((⟨#[]⟩ : ByteArray), (([] : List ByteArray), Bool.false))))))))
 else (bif (inR x.1 (ByteArray.size x.2.2.2.1)) then (bif ((byteAt x.2.2.2.1 x.1) == (35 : Int)) then (L ((Go.IntKind.wrap IntKind.i64 (x.1 + (1 : Int))), (x.2.1, (x.2.2.1, (x.2.2.2.1, ((⟨#[]⟩ : ByteArray), ((x.2.2.2.2.2.1 ++ (List.set (List.replicate 1 ByteArray.empty) 0 x.2.2.2.2.1)), Bool.true)))))))
 else (L ((Go.IntKind.wrap IntKind.i64 (x.1 + (1 : Int))), (x.2.1, (x.2.2.1, (x.2.2.2.1, ((⟨#[]⟩ : ByteArray), ((x.2.2.2.2.2.1 ++ (List.set (List.replicate 1 ByteArray.empty) 0 x.2.2.2.2.1)), x.2.2.2.2.2.2))))))))
 else none))
 else none)
 else (bif ((byteAt x.2.2.2.1 x.1) == (10 : Int)) then (bif (decide (((List.length x.2.2.2.2.2.1) : Int) > (0 : Int))) then (bif (Nat.ble ((List.length x.2.2.1) + 1) 1099511627776) then (L ((Go.IntKind.wrap IntKind.i64 (x.1 + (1 : Int))), ((Go.IntKind.wrap IntKind.i64 (x.2.1 + (1 : Int))), ((x.2.2.1 ++ (List.set (List.replicate 1 (Line.mk (0 : Int) ([] : List ByteArray))) 0 (Line.mk x.2.1 x.2.2.2.2.2.1))), (x.2.2.2.1, ((⟨#[]⟩ : ByteArray), (([] : List ByteArray), Bool.false)))))))
 else none)
 else (L ((Go.IntKind.wrap IntKind.i64 (x.1 + (1 : Int))), ((Go.IntKind.wrap IntKind.i64 (x.2.1 + (1 : Int))), (x.2.2.1, (x.2.2.2.1, ((⟨#[]⟩ : ByteArray), (([] : List ByteArray), Bool.false))))))))
 else (bif (inR x.1 (ByteArray.size x.2.2.2.1)) then (bif ((byteAt x.2.2.2.1 x.1) == (35 : Int)) then (L ((Go.IntKind.wrap IntKind.i64 (x.1 + (1 : Int))), (x.2.1, (x.2.2.1, (x.2.2.2.1, ((⟨#[]⟩ : ByteArray), (x.2.2.2.2.2.1, Bool.true)))))))
 else (L ((Go.IntKind.wrap IntKind.i64 (x.1 + (1 : Int))), (x.2.1, (x.2.2.1, (x.2.2.2.1, ((⟨#[]⟩ : ByteArray), (x.2.2.2.2.2.1, x.2.2.2.2.2.2))))))))
 else none)))
 else (bif (inR x.1 (ByteArray.size x.2.2.2.1)) then (bif ((byteAt x.2.2.2.1 x.1) == (32 : Int)) then (bif (decide (((ByteArray.size x.2.2.2.2.1) : Int) > (0 : Int))) then (bif (Nat.ble ((List.length x.2.2.2.2.2.1) + 1) 1099511627776) then (bif ((byteAt x.2.2.2.1 x.1) == (10 : Int)) then (bif (decide (((List.length (x.2.2.2.2.2.1 ++ (List.set (List.replicate 1 ByteArray.empty) 0 x.2.2.2.2.1))) : Int) > (0 : Int))) then (bif (Nat.ble ((List.length x.2.2.1) + 1) 1099511627776) then (L ((Go.IntKind.wrap IntKind.i64 (x.1 + (1 : Int))), ((Go.IntKind.wrap IntKind.i64 (x.2.1 + (1 : Int))), ((x.2.2.1 ++ (List.set (List.replicate 1 (Line.mk (0 : Int) ([] : List ByteArray))) 0 (Line.mk x.2.1 (x.2.2.2.2.2.1 ++ (List.set (List.replicate 1 ByteArray.empty) 0 x.2.2.2.2.1))))), (x.2.2.2.1, ((⟨#[]⟩ : ByteArray), (([] : List ByteArray), Bool.false)))))))
 else none)
 else (L ((Go.IntKind.wrap IntKind.i64 (x.1 + (1 : Int))), ((Go.IntKind.wrap IntKind.i64 (x.2.1 + (1 : Int))), (x.2.2.1, (x.2.2.2.1, ((⟨#[]⟩ : ByteArray), (([] : List ByteArray), Bool.false))))))))
 else (bif (inR x.1 (ByteArray.size x.2.2.2.1)) then (bif ((byteAt x.2.2.2.1 x.1) == (35 : Int)) then (L ((Go.IntKind.wrap IntKind.i64 (x.1 + (1 : Int))), (x.2.1, (x.2.2.1, (x.2.2.2.1, ((⟨#[]⟩ : ByteArray), ((x.2.2.2.2.2.1 ++ (List.set (List.replicate 1 ByteArray.empty) 0 x.2.2.2.2.1)), Bool.true)))))))
 else (L ((Go.IntKind.wrap IntKind.i64 (x.1 + (1 : Int))), (x.2.1, (x.2.2.1, (x.2.2.2.1, ((⟨#[]⟩ : ByteArray), ((x.2.2.2.2.2.1 ++ (List.set (List.replicate 1 ByteArray.empty) 0 x.2.2.2.2.1)), x.2.2.2.2.2.2))))))))
 else none))
 else none)
 else (bif ((byteAt x.2.2.2.1 x.1) == (10 : Int)) then (bif (decide (((List.length x.2.2.2.2.2.1) : Int) > (0 : Int))) then (bif (Nat.ble ((List.length x.2.2.1) + 1) 1099511627776) then (L ((Go.IntKind.wrap IntKind.i64 (x.1 + (1 : Int))), ((Go.IntKind.wrap IntKind.i64 (x.2.1 + (1 : Int))), ((x.2.2.1 ++ (List.set (List.replicate 1 (Line.mk (0 : Int) ([] : List ByteArray))) 0 (Line.mk x.2.1 x.2.2.2.2.2.1))), (x.2.2.2.1, ((⟨#[]⟩ : ByteArray), (([] : List ByteArray), Bool.false)))))))
 else none)
 else (L ((Go.IntKind.wrap IntKind.i64 (x.1 + (1 : Int))), ((Go.IntKind.wrap IntKind.i64 (x.2.1 + (1 : Int))), (x.2.2.1, (x.2.2.2.1, ((⟨#[]⟩ : ByteArray), (([] : List ByteArray), Bool.false))))))))
 else (bif (inR x.1 (ByteArray.size x.2.2.2.1)) then (bif ((byteAt x.2.2.2.1 x.1) == (35 : Int)) then (L ((Go.IntKind.wrap IntKind.i64 (x.1 + (1 : Int))), (x.2.1, (x.2.2.1, (x.2.2.2.1, ((⟨#[]⟩ : ByteArray), (x.2.2.2.2.2.1, Bool.true)))))))
 else (L ((Go.IntKind.wrap IntKind.i64 (x.1 + (1 : Int))), (x.2.1, (x.2.2.1, (x.2.2.2.1, ((⟨#[]⟩ : ByteArray), (x.2.2.2.2.2.1, x.2.2.2.2.2.2))))))))
 else none)))
 else (bif (inR x.1 (ByteArray.size x.2.2.2.1)) then (bif ((byteAt x.2.2.2.1 x.1) == (35 : Int)) then (bif (decide (((ByteArray.size x.2.2.2.2.1) : Int) > (0 : Int))) then (bif (Nat.ble ((List.length x.2.2.2.2.2.1) + 1) 1099511627776) then (bif ((byteAt x.2.2.2.1 x.1) == (10 : Int)) then (bif (decide (((List.length (x.2.2.2.2.2.1 ++ (List.set (List.replicate 1 ByteArray.empty) 0 x.2.2.2.2.1))) : Int) > (0 : Int))) then (bif (Nat.ble ((List.length x.2.2.1) + 1) 1099511627776) then (L ((Go.IntKind.wrap IntKind.i64 (x.1 + (1 : Int))), ((Go.IntKind.wrap IntKind.i64 (x.2.1 + (1 : Int))), ((x.2.2.1 ++ (List.set (List.replicate 1 (Line.mk (0 : Int) ([] : List ByteArray))) 0 (Line.mk x.2.1 (x.2.2.2.2.2.1 ++ (List.set (List.replicate 1 ByteArray.empty) 0 x.2.2.2.2.1))))), (x.2.2.2.1, ((⟨#[]⟩ : ByteArray), (([] : List ByteArray), Bool.false)))))))
 else none)
 else (L ((Go.IntKind.wrap IntKind.i64 (x.1 + (1 : Int))), ((Go.IntKind.wrap IntKind.i64 (x.2.1 + (1 : Int))), (x.2.2.1, (x.2.2.2.1, ((⟨#[]⟩ : ByteArray), (([] : List ByteArray), Bool.false))))))))
 else (bif (inR x.1 (ByteArray.size x.2.2.2.1)) then (bif ((byteAt x.2.2.2.1 x.1) == (35 : Int)) then (L ((Go.IntKind.wrap IntKind.i64 (x.1 + (1 : Int))), (x.2.1, (x.2.2.1, (x.2.2.2.1, ((⟨#[]⟩ : ByteArray), ((x.2.2.2.2.2.1 ++ (List.set (List.replicate 1 ByteArray.empty) 0 x.2.2.2.2.1)), Bool.true)))))))
 else (L ((Go.IntKind.wrap IntKind.i64 (x.1 + (1 : Int))), (x.2.1, (x.2.2.1, (x.2.2.2.1, ((⟨#[]⟩ : ByteArray), ((x.2.2.2.2.2.1 ++ (List.set (List.replicate 1 ByteArray.empty) 0 x.2.2.2.2.1)), x.2.2.2.2.2.2))))))))
 else none))
 else none)
 else (bif ((byteAt x.2.2.2.1 x.1) == (10 : Int)) then (bif (decide (((List.length x.2.2.2.2.2.1) : Int) > (0 : Int))) then (bif (Nat.ble ((List.length x.2.2.1) + 1) 1099511627776) then (L ((Go.IntKind.wrap IntKind.i64 (x.1 + (1 : Int))), ((Go.IntKind.wrap IntKind.i64 (x.2.1 + (1 : Int))), ((x.2.2.1 ++ (List.set (List.replicate 1 (Line.mk (0 : Int) ([] : List ByteArray))) 0 (Line.mk x.2.1 x.2.2.2.2.2.1))), (x.2.2.2.1, ((⟨#[]⟩ : ByteArray), (([] : List ByteArray), Bool.false)))))))
 else none)
 else (L ((Go.IntKind.wrap IntKind.i64 (x.1 + (1 : Int))), ((Go.IntKind.wrap IntKind.i64 (x.2.1 + (1 : Int))), (x.2.2.1, (x.2.2.2.1, ((⟨#[]⟩ : ByteArray), (([] : List ByteArray), Bool.false))))))))
 else (bif (inR x.1 (ByteArray.size x.2.2.2.1)) then (bif ((byteAt x.2.2.2.1 x.1) == (35 : Int)) then (L ((Go.IntKind.wrap IntKind.i64 (x.1 + (1 : Int))), (x.2.1, (x.2.2.1, (x.2.2.2.1, ((⟨#[]⟩ : ByteArray), (x.2.2.2.2.2.1, Bool.true)))))))
 else (L ((Go.IntKind.wrap IntKind.i64 (x.1 + (1 : Int))), (x.2.1, (x.2.2.1, (x.2.2.2.1, ((⟨#[]⟩ : ByteArray), (x.2.2.2.2.2.1, x.2.2.2.2.2.2))))))))
 else none)))
 else (bif ((decide ((0 : Int) ≤ (Go.IntKind.wrap IntKind.i64 (x.1 + (1 : Int))))) && (decide ((Go.IntKind.wrap IntKind.i64 (x.1 + (1 : Int))) ≤ ((ByteArray.size x.2.2.2.1) : Int)))) then (bif ((decide ((0 : Int) ≤ x.1)) && (decide (x.1 ≤ ((Int.toNat (Go.IntKind.wrap IntKind.i64 (x.1 + (1 : Int)))) : Int)))) then (bif (Nat.ble ((ByteArray.size x.2.2.2.2.1) + (ByteArray.size (ByteArray.extract x.2.2.2.1 (Int.toNat x.1) (Int.toNat (Go.IntKind.wrap IntKind.i64 (x.1 + (1 : Int))))))) 4611686018427387904) then (bif ((byteAt x.2.2.2.1 x.1) == (10 : Int)) then (bif (decide (((List.length x.2.2.2.2.2.1) : Int) > (0 : Int))) then (bif (Nat.ble ((List.length x.2.2.1) + 1) 1099511627776) then (L ((Go.IntKind.wrap IntKind.i64 (x.1 + (1 : Int))), ((Go.IntKind.wrap IntKind.i64 (x.2.1 + (1 : Int))), ((x.2.2.1 ++ (List.set (List.replicate 1 (Line.mk (0 : Int) ([] : List ByteArray))) 0 (Line.mk x.2.1 x.2.2.2.2.2.1))), (x.2.2.2.1, ((x.2.2.2.2.1 ++ (ByteArray.extract x.2.2.2.1 (Int.toNat x.1) (Int.toNat (Go.IntKind.wrap IntKind.i64 (x.1 + (1 : Int)))))), (([] : List ByteArray), Bool.false)))))))
 else none)
 else (L ((Go.IntKind.wrap IntKind.i64 (x.1 + (1 : Int))), ((Go.IntKind.wrap IntKind.i64 (x.2.1 + (1 : Int))), (x.2.2.1, (x.2.2.2.1, ((x.2.2.2.2.1 ++ (ByteArray.extract x.2.2.2.1 (Int.toNat x.1) (Int.toNat (Go.IntKind.wrap IntKind.i64 (x.1 + (1 : Int)))))), (([] : List ByteArray), Bool.false))))))))
 else (bif (inR x.1 (ByteArray.size x.2.2.2.1)) then (bif ((byteAt x.2.2.2.1 x.1) == (35 : Int)) then (L ((Go.IntKind.wrap IntKind.i64 (x.1 + (1 : Int))), (x.2.1, (x.2.2.1, (x.2.2.2.1, ((x.2.2.2.2.1 ++ (ByteArray.extract x.2.2.2.1 (Int.toNat x.1) (Int.toNat (Go.IntKind.wrap IntKind.i64 (x.1 + (1 : Int)))))), (x.2.2.2.2.2.1, Bool.true)))))))
 else (L ((Go.IntKind.wrap IntKind.i64 (x.1 + (1 : Int))), (x.2.1, (x.2.2.1, (x.2.2.2.1, ((x.2.2.2.2.1 ++ (ByteArray.extract x.2.2.2.1 (Int.toNat x.1) (Int.toNat (Go.IntKind.wrap IntKind.i64 (x.1 + (1 : Int)))))), (x.2.2.2.2.2.1, x.2.2.2.2.2.2))))))))
 else none))
 else none)
 else none)
 else none))
 else none))
 else none)))
 else none))
 else (some x.2.2.1))
def Tf.tapewrightref08_Lines.l5 (F : Nat) : (Int × (Int × ((List Go.VI.Line) × (ByteArray × (ByteArray × ((List ByteArray) × Bool)))))) → Option (List Go.VI.Line) := iter (Tf.tapewrightref08_Lines.s5 F) F
theorem Tf.tapewrightref08_Lines.s5_ok (F : Nat) (L a) : exec Go.VI.tyT (look [] : Fns) 73 (look [] : Loops) Tf.tapewrightref08_Lines.b5 (rebuild [.slot 8, .slot 6, .own 3 8, .slot 0, .slot 5, .own 4 4, .slot 7] (encKs [.int .i64, .int .i64, .sl 8, .str, .str, .sl 4, .bool] a)) (bodyK [.slot 8, .slot 6, .own 3 8, .slot 0, .slot 5, .own 4 4, .slot 7] [.int .i64, .int .i64, .sl 8, .str, .str, .sl 4, .bool] [⟨.exit 0, [.own 3 8], [.sl 8]⟩] L) = Tf.tapewrightref08_Lines.s5 F L a := by kernel_rfl
theorem Tf.tapewrightref08_Lines.l5_ok (F : Nat) : LoopOk Go.Proofs.Tryz.prog Go.VI.tyT.G 73 Tf.tapewrightref08_Lines.b5 (fun st κ => hand [.slot 8, .slot 6, .own 3 8, .slot 0, .slot 5, .own 4 4, .slot 7] [.int .i64, .int .i64, .sl 8, .str, .str, .sl 4, .bool] [⟨.exit 0, [.own 3 8], [.sl 8]⟩] (Tf.tapewrightref08_Lines.l5 F) st κ) :=
  loop_ok Go.VI.tyT_ok rfl mix .nil (Λ := (look [] : Loops)) (LoopsOk.of (bs := []) (by kernel_rfl) .nil) (Tf.tapewrightref08_Lines.s5_ok F) F
def Tf.tapewrightref08_Lines.f (F : Nat) (a : ByteArray) : Option (List Go.VI.Line) :=
 (Option.bind (Tf.tapewrightref08_Lines.l5 F ((0 : Int), ((1 : Int), (([] : List Go.VI.Line), (a, ((⟨#[]⟩ : ByteArray), (([] : List ByteArray), Bool.false))))))) (fun y10 => (some y10)))
theorem Tf.tapewrightref08_Lines.f_ok (F : Nat) (a) : exec Go.VI.tyT (look [] : Fns) 73 (look [(5, fun st κ => hand [.slot 8, .slot 6, .own 3 8, .slot 0, .slot 5, .own 4 4, .slot 7] [.int .i64, .int .i64, .sl 8, .str, .str, .sl 4, .bool] [⟨.exit 0, [.own 3 8], [.sl 8]⟩] (Tf.tapewrightref08_Lines.l5 F) st κ)] : Loops) Tf.tapewrightref08_Lines.c (init [.p] (encKs [.str] a)) (finT (look [] : Fns) (⟨[.p], [.o 8]⟩ : Sig) [2] [.own] [.sl 8]) = Tf.tapewrightref08_Lines.f F a := by kernel_rfl
def Tf.tapewrightref08_Lines.e (F : Nat) : Fn := mkFn (⟨[.p], [.o 8]⟩ : Sig) [.str] [.own] [.sl 8] (Tf.tapewrightref08_Lines.f F)
theorem Tf.tapewrightref08_Lines.ok (F : Nat) : EntryOk Go.Proofs.Tryz.prog Go.VI.tyT.G 19 (Tf.tapewrightref08_Lines.e F) :=
  fn_ok Go.VI.tyT_ok rfl mix .nil (Λ := (look [(5, fun st κ => hand [.slot 8, .slot 6, .own 3 8, .slot 0, .slot 5, .own 4 4, .slot 7] [.int .i64, .int .i64, .sl 8, .str, .str, .sl 4, .bool] [⟨.exit 0, [.own 3 8], [.sl 8]⟩] (Tf.tapewrightref08_Lines.l5 F) st κ)] : Loops)) (fn := Go.Proofs.Tryz.f19) (c := Tf.tapewrightref08_Lines.c) (LoopsOk.of (bs := [Tf.tapewrightref08_Lines.b5]) (by kernel_rfl) (.cons rfl (Tf.tapewrightref08_Lines.l5_ok F) .nil)) (by kernel_rfl) (by kernel_rfl) (by kernel_rfl) (by kernel_rfl) (res1 (by kernel_rfl)) (by decide) (Tf.tapewrightref08_Lines.f_ok F)
end Go.VI
namespace Go.VI
open Go
noncomputable def Tf.tapewrightref10_Small.c : Code := (Go.Proofs.Tryz.f22.body).getD .skip
noncomputable def Tf.tapewrightref10_Small.b9 : Code := codeAt [1, 1, 0, 1, 0, 0, 1, 1, 0, 0, 1, 1, 1, 0, 0] Tf.tapewrightref10_Small.c
def Tf.tapewrightref10_Small.s9 (F : Nat) (L : (Int × ((List ByteArray) × ((List Go.VI.Node) × (Int × (Int × Int))))) → Option (Bool ⊕ ((List Go.VI.Node) × (Int × Int)))) (x : (Int × ((List ByteArray) × ((List Go.VI.Node) × (Int × (Int × Int)))))) : Option (Bool ⊕ ((List Go.VI.Node) × (Int × Int))) :=
 (bif (decide (x.1 < x.2.2.2.2.2)) then (bif (inR x.1 (List.length x.2.1)) then (bif (decide (((ByteArray.size (List.getD x.2.1 (Int.toNat x.1) (dflt 4))) : Int) > (30 : Int))) then (some (.inl Bool.false))
 else (L ((Go.IntKind.wrap IntKind.i64 (x.1 + (1 : Int))), (x.2.1, (x.2.2.1, (x.2.2.2.1, (x.2.2.2.2.1, x.2.2.2.2.2)))))))
 else none)
 else (some (.inr (x.2.2.1, (x.2.2.2.1, x.2.2.2.2.1)))))
def Tf.tapewrightref10_Small.l9 (F : Nat) : (Int × ((List ByteArray) × ((List Go.VI.Node) × (Int × (Int × Int))))) → Option (Bool ⊕ ((List Go.VI.Node) × (Int × Int))) := iter (Tf.tapewrightref10_Small.s9 F) F
theorem Tf.tapewrightref10_Small.s9_ok (F : Nat) (L a) : exec Go.VI.tyT (look [] : Fns) 52 (look [] : Loops) Tf.tapewrightref10_Small.b9 (rebuild [.slot 43, .view 41 4, .view 12 6, .slot 13, .slot 14, .slot 42] (encKs [.int .i64, .sl 4, .sl 6, .int .i64, .int .i64, .int .i64] a)) (bodyK [.slot 43, .view 41 4, .view 12 6, .slot 13, .slot 14, .slot 42] [.int .i64, .sl 4, .sl 6, .int .i64, .int .i64, .int .i64] [⟨.ret, [.slot 2], [.bool]⟩, ⟨.exit 2, [.view 12 6, .slot 13, .slot 14], [.sl 6, .int .i64, .int .i64]⟩] L) = Tf.tapewrightref10_Small.s9 F L a := by kernel_rfl
theorem Tf.tapewrightref10_Small.l9_ok (F : Nat) : LoopOk Go.Proofs.Tryz.prog Go.VI.tyT.G 52 Tf.tapewrightref10_Small.b9 (fun st κ => hand [.slot 43, .view 41 4, .view 12 6, .slot 13, .slot 14, .slot 42] [.int .i64, .sl 4, .sl 6, .int .i64, .int .i64, .int .i64] [⟨.ret, [.slot 2], [.bool]⟩, ⟨.exit 2, [.view 12 6, .slot 13, .slot 14], [.sl 6, .int .i64, .int .i64]⟩] (Tf.tapewrightref10_Small.l9 F) st κ) :=
  loop_ok Go.VI.tyT_ok rfl mix .nil (Λ := (look [] : Loops)) (LoopsOk.of (bs := []) (by kernel_rfl) .nil) (Tf.tapewrightref10_Small.s9_ok F) F
noncomputable def Tf.tapewrightref10_Small.b4 : Code := codeAt [1, 1, 0, 1, 0, 0] Tf.tapewrightref10_Small.c
def Tf.tapewrightref10_Small.s4 (F : Nat) (L : (Int × ((List Go.VI.Node) × Int)) → Option (Bool ⊕ Unit)) (x : (Int × ((List Go.VI.Node) × Int))) : Option (Bool ⊕ Unit) :=
 (bif (decide (x.1 < x.2.2)) then (bif (inR x.1 (List.length x.2.1)) then (bif (decide (((List.length (List.getD x.2.1 (Int.toNat x.1) (dflt 6)).shape) : Int) > (10 : Int))) then (some (.inl Bool.false))
 else (bif (decide (((List.length (List.getD x.2.1 (Int.toNat x.1) (dflt 6)).data) : Int) > (70 : Int))) then (some (.inl Bool.false))
 else (bif (decide (((ByteArray.size (List.getD x.2.1 (Int.toNat x.1) (dflt 6)).k) : Int) > (30 : Int))) then (some (.inl Bool.false))
 else (bif (decide (((ByteArray.size (List.getD x.2.1 (Int.toNat x.1) (dflt 6)).name) : Int) > (30 : Int))) then (some (.inl Bool.false))
 else (Option.bind (Tf.tapewrightref10_Small.l9 F ((0 : Int), ((List.getD x.2.1 (Int.toNat x.1) (dflt 6)).data, (x.2.1, (x.2.2, (x.1, ((List.length (List.getD x.2.1 (Int.toNat x.1) (dflt 6)).data) : Int))))))) (fun y45 => (sumE y45 (fun y46 => (some (.inl y46))) (fun y46 => (L ((Go.IntKind.wrap IntKind.i64 (y46.2.2 + (1 : Int))), (y46.1, y46.2.1)))))))))))
 else none)
 else (some (.inr ())))
def Tf.tapewrightref10_Small.l4 (F : Nat) : (Int × ((List Go.VI.Node) × Int)) → Option (Bool ⊕ Unit) := iter (Tf.tapewrightref10_Small.s4 F) F
theorem Tf.tapewrightref10_Small.s4_ok (F : Nat) (L a) : exec Go.VI.tyT (look [] : Fns) 52 (look [(9, fun st κ => hand [.slot 43, .view 41 4, .view 12 6, .slot 13, .slot 14, .slot 42] [.int .i64, .sl 4, .sl 6, .int .i64, .int .i64, .int .i64] [⟨.ret, [.slot 2], [.bool]⟩, ⟨.exit 2, [.view 12 6, .slot 13, .slot 14], [.sl 6, .int .i64, .int .i64]⟩] (Tf.tapewrightref10_Small.l9 F) st κ)] : Loops) Tf.tapewrightref10_Small.b4 (rebuild [.slot 14, .view 12 6, .slot 13] (encKs [.int .i64, .sl 6, .int .i64] a)) (bodyK [.slot 14, .view 12 6, .slot 13] [.int .i64, .sl 6, .int .i64] [⟨.ret, [.slot 2], [.bool]⟩, ⟨.exit 0, [], []⟩] L) = Tf.tapewrightref10_Small.s4 F L a := by kernel_rfl
theorem Tf.tapewrightref10_Small.l4_ok (F : Nat) : LoopOk Go.Proofs.Tryz.prog Go.VI.tyT.G 52 Tf.tapewrightref10_Small.b4 (fun st κ => hand [.slot 14, .view 12 6, .slot 13] [.int .i64, .sl 6, .int .i64] [⟨.ret, [.slot 2], [.bool]⟩, ⟨.exit 0, [], []⟩] (Tf.tapewrightref10_Small.l4 F) st κ) :=
  loop_ok Go.VI.tyT_ok rfl mix .nil (Λ := (look [(9, fun st κ => hand [.slot 43, .view 41 4, .view 12 6, .slot 13, .slot 14, .slot 42] [.int .i64, .sl 4, .sl 6, .int .i64, .int .i64, .int .i64] [⟨.ret, [.slot 2], [.bool]⟩, ⟨.exit 2, [.view 12 6, .slot 13, .slot 14], [.sl 6, .int .i64, .int .i64]⟩] (Tf.tapewrightref10_Small.l9 F) st κ)] : Loops)) (LoopsOk.of (bs := [Tf.tapewrightref10_Small.b9]) (by kernel_rfl) (.cons rfl (Tf.tapewrightref10_Small.l9_ok F) .nil)) (Tf.tapewrightref10_Small.s4_ok F) F
def Tf.tapewrightref10_Small.f (F : Nat) (a : ((List Go.VI.Node) × Int)) : Option Bool :=
 (bif (decide (((List.length a.1) : Int) > (40 : Int))) then (some Bool.false)
 else (Option.bind (Tf.tapewrightref10_Small.l4 F ((0 : Int), (a.1, ((List.length a.1) : Int)))) (fun y13 => (sumE y13 (fun y14 => (some y14)) (fun y14 => (some Bool.true))))))
theorem Tf.tapewrightref10_Small.f_ok (F : Nat) (a) : exec Go.VI.tyT (look [] : Fns) 52 (look [(4, fun st κ => hand [.slot 14, .view 12 6, .slot 13] [.int .i64, .sl 6, .int .i64] [⟨.ret, [.slot 2], [.bool]⟩, ⟨.exit 0, [], []⟩] (Tf.tapewrightref10_Small.l4 F) st κ)] : Loops) Tf.tapewrightref10_Small.c (init [.v 301] (encKs [.st [.sl 6, .int .i64]] a)) (finT (look [] : Fns) (⟨[.v 301], [.p]⟩ : Sig) [2] [.pure] [.bool]) = Tf.tapewrightref10_Small.f F a := by kernel_rfl
def Tf.tapewrightref10_Small.e (F : Nat) : Fn := mkFn (⟨[.v 301], [.p]⟩ : Sig) [.st [.sl 6, .int .i64]] [.pure] [.bool] (Tf.tapewrightref10_Small.f F)
theorem Tf.tapewrightref10_Small.ok (F : Nat) : EntryOk Go.Proofs.Tryz.prog Go.VI.tyT.G 22 (Tf.tapewrightref10_Small.e F) :=
  fn_ok Go.VI.tyT_ok rfl mix .nil (Λ := (look [(4, fun st κ => hand [.slot 14, .view 12 6, .slot 13] [.int .i64, .sl 6, .int .i64] [⟨.ret, [.slot 2], [.bool]⟩, ⟨.exit 0, [], []⟩] (Tf.tapewrightref10_Small.l4 F) st κ)] : Loops)) (fn := Go.Proofs.Tryz.f22) (c := Tf.tapewrightref10_Small.c) (LoopsOk.of (bs := [Tf.tapewrightref10_Small.b4]) (by kernel_rfl) (.cons rfl (Tf.tapewrightref10_Small.l4_ok F) .nil)) (by kernel_rfl) (by kernel_rfl) (by kernel_rfl) (by kernel_rfl) (res1 (by kernel_rfl)) (by decide) (Tf.tapewrightref10_Small.f_ok F)
end Go.VI
namespace Go.VI
open Go Go.Proofs
def nodeBs : List B := [.str, .int .i64, .int .i64, .str, .sl 0, .str, .int .i64, .sl 4]
def nodeOf (y : BTys nodeBs) : Rho 6 := (⟨y.1, y.2.1, y.2.2.1, y.2.2.2.1, y.2.2.2.2.1, y.2.2.2.2.2.1, y.2.2.2.2.2.2.1, y.2.2.2.2.2.2.2⟩ : Node)
theorem opInt : OpB Tryz.prog 3 (.int .i64) := OpB.int Tryz.underlying3
theorem opStr : OpB Tryz.prog 9 .str := OpB.str Tryz.underlying9
theorem opInts : OpB Tryz.prog 24 (.sl 0) := OpB.sl Tryz.underlying24 (by kernel_rfl) (opInt.toT (r := 0) id fun _ => rfl)
theorem opStrs : OpB Tryz.prog 22 (.sl 4) := OpB.sl Tryz.underlying22 (by kernel_rfl) (opStr.toT (r := 4) id fun _ => rfl)
theorem opNode : OpBs Tryz.prog 75 nodeBs :=
  OpBs.struct Tryz.underlying75 rfl (by kernel_rfl) (by kernel_rfl) fun i f b hf hb => by
    match i, hf, hb with
    | 0, hf, hb => cases hf; cases hb; exact opStr
    | 1, hf, hb => cases hf; cases hb; exact opInt
    | 2, hf, hb => cases hf; cases hb; exact opInt
    | 3, hf, hb => cases hf; cases hb; exact opStr
    | 4, hf, hb => cases hf; cases hb; exact opInts
    | 5, hf, hb => cases hf; cases hb; exact opStr
    | 6, hf, hb => cases hf; cases hb; exact opInt
    | 7, hf, hb => cases hf; cases hb; exact opStrs
    | _ + 8, hf, hb => cases hb
theorem opNodes : OpB Tryz.prog 48 (.sl 6) := OpB.sl Tryz.underlying48 (by kernel_rfl) (opNode.toT (r := 6) nodeOf (fun _ => rfl) rfl)
theorem opGraph : OpBs Tryz.prog 50 [.sl 6, .int .i64] :=
  OpBs.struct Tryz.underlying50 rfl (by kernel_rfl) (by kernel_rfl) fun i f b hf hb => by
    match i, hf, hb with
    | 0, hf, hb => cases hf; cases hb; exact opNodes
    | 1, hf, hb => cases hf; cases hb; exact opInt
    | _ + 2, hf, hb => cases hb
theorem argGraph : OpK Tryz.prog 50 (.st [.sl 6, .int .i64]) := OpK.st Tryz.underlying50 opGraph
theorem argInts : OpK Tryz.prog 24 (.sl 0) := OpK.sl Tryz.underlying24 opInts
theorem argInt : OpK Tryz.prog 3 (.int .i64) := OpK.int Tryz.underlying3
theorem argStrs : OpK Tryz.prog 22 (.sl 4) := OpK.sl Tryz.underlying22 opStrs
theorem argStr : OpK Tryz.prog 9 .str := OpK.str Tryz.underlying9
theorem argNode : OpK Tryz.prog 75 (.rc 6) := OpK.rc Tryz.underlying75 nodeOf (fun _ => rfl) opNode
theorem argByte : OpK Tryz.prog 5 (.int .u8) := OpK.int Tryz.underlying5
end Go.VI
