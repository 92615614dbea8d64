-- Written by a program of this session (wip/gen): functions and their contracts.
import Derived.Test.YtihaochmebejbaaDoorPLexWordsx0
namespace Go.Proofs.YtihaochmebejbaaDoor.PLexWords
open Go.RowKit Go.Proofs.YtihaochmebejbaaDoorW.PrintWords Go.Proofs.YtihaochmebejbaaDoorW.PrintLast Go.Proofs.YtihaochmebejbaaDoorW.PrintMore
attribute [local go_sem] max2_int min2_int max_two min_two max_three min_three max_four min_four   -- for this text's walks alone
set_option linter.unusedVariables false
set_option linter.unusedSimpArgs false

/-! ### strings_Split: function 15 -/
/-- The pieces between one byte. -/
def splitL (c : UInt8) : List UInt8 → List (List UInt8)
  | [] => [[]]
  | b :: l => if b = c then [] :: splitL c l else match splitL c l with
    | [] => [[b]]
    | p :: r => (b :: p) :: r
theorem splitL_ne (c : UInt8) (l : List UInt8) : splitL c l ≠ [] := by
  cases l with
  | nil => simp [splitL]
  | cons b l =>
    simp only [splitL]
    split
    · simp
    · split <;> simp
theorem splitL_at (c : UInt8) : ∀ l : List UInt8, (Go.Lib.indexByte l c = -1 → splitL c l = [l] ∧ l.count c = 0) ∧
    (Go.Lib.indexByte l c ≠ -1 → 0 ≤ Go.Lib.indexByte l c ∧ splitL c l = l.take (Go.Lib.indexByte l c).toNat :: splitL c (l.drop ((Go.Lib.indexByte l c).toNat + 1)) ∧ l.count c = (l.drop ((Go.Lib.indexByte l c).toNat + 1)).count c + 1)
  | [] => ⟨fun _ => by simp [splitL], fun h => absurd rfl h⟩
  | b :: l => by
    obtain ⟨i1, i2⟩ := splitL_at c l
    have hge := Go.Lib.indexByte_ge l c
    by_cases hb : b = c
    · subst hb
      have e : Go.Lib.indexByte (b :: l) b = 0 := by simp [Go.Lib.indexByte]
      rw [e]
      exact ⟨fun h => by simp at h, fun _ => ⟨by decide, by simp [splitL], by simp⟩⟩
    · have hb' : (b == c) = false := by simpa using hb
      by_cases hm : Go.Lib.indexByte l c = -1
      · have e : Go.Lib.indexByte (b :: l) c = -1 := by simp [Go.Lib.indexByte, hb', hm]
        obtain ⟨j1, j2⟩ := i1 hm
        rw [e]
        refine ⟨fun _ => ⟨by simp [splitL, hb, j1], by simp [List.count_cons, hb', j2]⟩, fun h => absurd rfl h⟩
      · have e : Go.Lib.indexByte (b :: l) c = Go.Lib.indexByte l c + 1 := by simp [Go.Lib.indexByte, hb', hm]
        obtain ⟨j0, j1, j2⟩ := i2 hm
        rw [e]
        have et : (Go.Lib.indexByte l c + 1).toNat = (Go.Lib.indexByte l c).toNat + 1 := by omega
        refine ⟨fun h => by omega, fun _ => ⟨by omega, ?_, ?_⟩⟩
        · rw [et, splitL, if_neg hb, j1]
          simp
        · rw [et, List.count_cons, hb', j2]
          simp
theorem splitK_eq (c : UInt8) : ∀ (k : Nat) (l : List UInt8), l.count c ≤ k → Go.Lib.splitK [c] 0 k l = splitL c l
  | 0, l, h => by
    have := (splitL_at c l).1
    by_cases hm : Go.Lib.indexByte l c = -1
    · rw [(this hm).1]; rfl
    · have := ((splitL_at c l).2 hm).2.2
      omega
  | k + 1, l, h => by
    unfold Go.Lib.splitK
    rw [Go.Lib.index_one]
    by_cases hm : Go.Lib.indexByte l c = -1
    · rw [((splitL_at c l).1 hm).1, if_pos (by simp [hm])]
    · obtain ⟨j0, j1, j2⟩ := (splitL_at c l).2 hm
      rw [if_neg (by simpa using hm), j1, Nat.add_zero]
      simp only [List.length_cons, List.length_nil, Nat.zero_add]
      rw [splitK_eq c k _ (by omega)]
theorem splitB_eq (c : UInt8) (s : ByteArray) : Go.Lib.splitB ⟨#[c]⟩ 0 (Go.Lib.countB s ⟨#[c]⟩) s = (splitL c s.data.toList).map fun l => (⟨l.toArray⟩ : ByteArray) := by
  have h := Go.Lib.splitB_data ⟨#[c]⟩ 0 (Go.Lib.countB s ⟨#[c]⟩) s
  have hc : Go.Lib.countB s ⟨#[c]⟩ = s.data.toList.count c := by
    show Go.Lib.count s.data.toList [c] = _
    rw [Go.Lib.count_one]
  rw [show (⟨#[c]⟩ : ByteArray).data.toList = [c] from rfl, splitK_eq c _ _ (by rw [hc]; exact Nat.le_refl _)] at h
  rw [← h, List.map_map]
  conv => lhs; rw [← List.map_id (Go.Lib.splitB ⟨#[c]⟩ 0 (Go.Lib.countB s ⟨#[c]⟩) s)]
  rfl
def strings_Split.f (a0 a1 : ByteArray) : Option (List ByteArray) := if a1.size = 1 ∧ a0.size < 4294967281 then some ((splitL (a1.data.toList.getD 0 0) a0.data.toList).map fun l => (⟨l.toArray⟩ : ByteArray)) else none
theorem strings_Split.calls (a0 : ByteArray) (a1 : ByteArray) (r : List ByteArray) (w : World) (h : strings_Split.f a0 a1 = some r) :
    Calls Tryd.prog 15 #[.string a0, .string a1] w fun e w' => ∃ v0_ : Value, e = .returned (v0_) ∧ Kd.R Kd.string 9 w' w.heap.size (fun _ => True) v0_ r ∧ Below w.heap.size w w' := by
  unfold strings_Split.f at h
  split at h
  · rename_i hc
    obtain rfl := Option.some.inj h
    obtain ⟨hc1, hc2⟩ := hc
    obtain ⟨c, rfl⟩ := Go.Lib.one_byte a1 hc1
    have hs1 : (⟨#[c]⟩ : ByteArray).size = 1 := rfl
    have hlen := Go.Lib.splitB_all ⟨#[c]⟩ (by omega) 0 _ a0 rfl
    have hle := Go.Lib.countB_le ⟨#[c]⟩ (by omega) a0.size a0 (Nat.le_refl _)
    have c1 := Any.strings_genSplit_core { Tryd.lays146 with } (by kernel_rfl) a0 ⟨#[c]⟩ 0 (-1) (Go.Lib.countB a0 ⟨#[c]⟩ + 1) w hc2 (by omega) (Nat.zero_le _)
      (fun x cc _ => (Any.strings_Index_one { Tryd.lays146 with } x c _).mono fun e w' hh => ⟨by rw [hh.1]; show _ = Ending.returned (Value.int .i64 (Go.Lib.index x.data.toList [c])); rw [Go.Lib.index_one], hh.2⟩)
      ((Any.strings_Count_one { Tryd.lays146 with } a0 c w).mono fun e w' hh => ⟨by rw [hh.1]; show _ = Ending.returned (Value.int .i64 ((Go.Lib.count a0.data.toList [c] : Nat) : Int)); rw [Go.Lib.count_one]; rfl, hh.2⟩)
      (by decide) (by decide) (by rw [if_pos (by decide)]; omega)
    rw [Nat.add_sub_cancel, hlen] at c1
    have e2 : Go.Lib.cellsOf (Go.Lib.splitB ⟨#[c]⟩ 0 (Go.Lib.countB a0 ⟨#[c]⟩) a0) (Go.Lib.countB a0 ⟨#[c]⟩ + 1) = ((Go.Lib.splitB ⟨#[c]⟩ 0 (Go.Lib.countB a0 ⟨#[c]⟩) a0).map Value.string).toArray := by rw [← hlen]; exact Go.Lib.cellsOf_full _
    rw [e2] at c1
    have e3 := splitB_eq c a0
    rw [show (⟨#[c]⟩ : ByteArray).data.toList.getD 0 0 = c from rfl]
    rw [e3] at hlen c1
    generalize (splitL c a0.data.toList).map (fun l => (⟨l.toArray⟩ : ByteArray)) = ps at hlen c1 ⊢
    generalize Go.Lib.countB a0 ⟨#[c]⟩ = n at hlen c1 hle
    clear e2 e3
    have HL := Aside0.mk hlen
    clear hlen
    go_enter Tryd.func15, Tryd.ntmps15
    go_wp2_with (go_at_call 18; refine c1.mono ?_; rintro e w' ⟨rfl, rfl⟩)
    go_ret
    refine ⟨_, rfl, ?_, (Below.refl _ _).alloc (Nat.le_refl _) _⟩
    have ho := own_lit_of (enc := Value.string) w w.heap.size 9 ps (Nat.le_refl _) (by rw [HL.out]; omega)
    rw [HL.out] at ho
    exact Kd.R_of_own (by rw [HL.out]; exact ho) (fun _ _ => trivial)
  · cases h


/-! ### stringslite_Index: function 30 -/
def stringslite_Index.f (a0 a1 : ByteArray) : Option (Int) := if a1.size = 1 then some (Go.Lib.indexByte a0.data.toList (a1.data.toList.getD 0 0)) else none
theorem stringslite_Index.calls (a0 : ByteArray) (a1 : ByteArray) (r : Int) (w : World) (h : stringslite_Index.f a0 a1 = some r) :
    Calls Tryd.prog 30 #[.string a0, .string a1] w fun e w' => e = .returned (.int .i64 r) ∧ Drawn0 w w' := by
  unfold stringslite_Index.f at h
  split at h
  · rename_i hc
    obtain rfl := Option.some.inj h
    obtain ⟨c, rfl⟩ := Go.Lib.one_byte a1 hc
    refine (Any.stringslite_Index_one { Tryd.lays143 with } a0 c w).mono ?_
    rintro e w' ⟨rfl, rfl⟩
    exact ⟨rfl, Drawn0.refl _⟩
  · cases h


/-! ### stringslite_Cut: function 19 -/
def stringslite_Cut.f (a0 : ByteArray) (a1 : ByteArray) : Option (ByteArray × ByteArray × Bool) := (stringslite_Index.f a0 a1).bind fun t101 => (if t101 ≥ 0 then (if 0 ≤ t101 then (if t101 ≤ (a0.size : Int) then (if 0 ≤ (wrap64 (t101 + (a1.size : Int))) then (if (wrap64 (t101 + (a1.size : Int))) ≤ (a0.size : Int) then (some (a0.extract 0 (t101 : Int).toNat, a0.extract ((wrap64 (t101 + (a1.size : Int))) : Int).toNat a0.size, true)) else (none)) else (none)) else (none)) else (none)) else (some (a0, (⟨#[]⟩ : ByteArray), false)))
set_option maxHeartbeats 8000000 in
set_option maxRecDepth 100000 in
theorem stringslite_Cut.calls (a0 : ByteArray) (a1 : ByteArray) (r1 : ByteArray) (r2 : ByteArray) (r3 : Bool) (w : World) (h : stringslite_Cut.f a0 a1 = some (r1, r2, r3)) :
    Calls Tryd.prog 19 #[.string a0, .string a1] w fun e w' => e = .returned (.tuple #[.string r1, .string r2, .bool r3]) ∧ Drawn0 w w' := by
  have H : ((stringslite_Index.f a0 a1).bind fun t101 => (if t101 ≥ 0 then (if 0 ≤ t101 then (if t101 ≤ (a0.size : Int) then (if 0 ≤ (wrap64 (t101 + (a1.size : Int))) then (if (wrap64 (t101 + (a1.size : Int))) ≤ (a0.size : Int) then (some (a0.extract 0 (t101 : Int).toNat, a0.extract ((wrap64 (t101 + (a1.size : Int))) : Int).toNat a0.size, true)) else (none)) else (none)) else (none)) else (none)) else (some (a0, (⟨#[]⟩ : ByteArray), false)))) = some (r1, r2, r3) := h
  clear h
  replace H := Option.bind_eq_some_iff.mp H
  obtain ⟨t101, A30, H⟩ := H
  replace H : (if t101 ≥ 0 then (if 0 ≤ t101 then (if t101 ≤ (a0.size : Int) then (if 0 ≤ (wrap64 (t101 + (a1.size : Int))) then (if (wrap64 (t101 + (a1.size : Int))) ≤ (a0.size : Int) then (some (a0.extract 0 (t101 : Int).toNat, a0.extract ((wrap64 (t101 + (a1.size : Int))) : Int).toNat a0.size, true)) else (none)) else (none)) else (none)) else (none)) else (some (a0, (⟨#[]⟩ : ByteArray), false))) = some (r1, r2, r3) := H
  have A3 := Aside0.mk A30
  clear A30
  by_cases c4 : t101 ≥ 0
  · rw [if_pos c4] at H
    have c4b0 : decide (0 ≤ t101) = true := decide_eq_true c4
    clear c4
    by_cases c5 : 0 ≤ t101
    · rw [if_pos c5] at H
      have c5b0 := eq_true c5
      have c5b1 : decide (0 ≤ t101) = true := decide_eq_true c5
      clear c5
      by_cases c6 : t101 ≤ (a0.size : Int)
      · rw [if_pos c6] at H
        have c6b0 := eq_true c6
        have c6b1 : decide (t101 ≤ (a0.size : Int)) = true := decide_eq_true c6
        clear c6
        obtain ⟨ji7, hji7⟩ : ∃ j_ : Int, (wrap64 (t101 + (a1.size : Int))) = j_ := ⟨_, rfl⟩
        replace H : (if 0 ≤ (ji7) then (if (ji7) ≤ (a0.size : Int) then (some (a0.extract 0 (t101 : Int).toNat, a0.extract ((ji7) : Int).toNat a0.size, true)) else (none)) else (none)) = some (r1, r2, r3) := by first | (rw [hji7] at H; exact H) | (simp only [hji7] at H ⊢; exact H)
        (try rw [hji7] at A3)
        have hji7w : (IntKind.i64.wrap (t101 + (a1.size : Int))) = ji7 := (i64_w _).trans hji7
        by_cases c8 : 0 ≤ (ji7)
        · rw [if_pos c8] at H
          have c8b0 := eq_true c8
          have c8b1 : decide (0 ≤ (ji7)) = true := decide_eq_true c8
          clear c8
          by_cases c9 : (ji7) ≤ (a0.size : Int)
          · rw [if_pos c9] at H
            have c9b0 := eq_true c9
            have c9b1 : decide ((ji7) ≤ (a0.size : Int)) = true := decide_eq_true c9
            clear c9
            simp only [Option.some.injEq, Prod.mk.injEq] at H
            obtain ⟨rfl, rfl, rfl⟩ := H
            go_enter Tryd.func19, Tryd.ntmps19
            go_wp2_with (first | (go_at_call 30; (with_reducible refine (stringslite_Index.calls a0 a1 t101 _ A3.out).mono ?_); rintro e w' ⟨rfl, ⟨nd, rfl⟩⟩; (try first | exact ⟨rfl, _, World.drewN_drewN _ _ _⟩ | exact ⟨rfl, _, Eq.trans (World.drewN_drewN _ _ _) (congrArg (World.drewN _) (Nat.add_assoc _ _ _))⟩)))
            repeat (go_quiet (first | (go_at_call 30; (with_reducible refine (stringslite_Index.calls a0 a1 t101 _ A3.out).mono ?_); rintro e w' ⟨rfl, ⟨nd, rfl⟩⟩; (try first | exact ⟨rfl, _, World.drewN_drewN _ _ _⟩ | exact ⟨rfl, _, Eq.trans (World.drewN_drewN _ _ _) (congrArg (World.drewN _) (Nat.add_assoc _ _ _))⟩))); try go_wp2_with (first | (go_at_call 30; (with_reducible refine (stringslite_Index.calls a0 a1 t101 _ A3.out).mono ?_); rintro e w' ⟨rfl, ⟨nd, rfl⟩⟩; (try first | exact ⟨rfl, _, World.drewN_drewN _ _ _⟩ | exact ⟨rfl, _, Eq.trans (World.drewN_drewN _ _ _) (congrArg (World.drewN _) (Nat.add_assoc _ _ _))⟩))))
            go_ret3
            exact ⟨by first | rfl | (simp; done) | (simp only [← hji7] <;> (first | rfl | simp)) | (simp [*]; done), by repeat (first | exact Drawn0.refl _ | apply Drawn0.step)⟩
          · rw [if_neg c9] at H
            exact absurd H (by simp)
        · rw [if_neg c8] at H
          exact absurd H (by simp)
      · rw [if_neg c6] at H
        exact absurd H (by simp)
    · rw [if_neg c5] at H
      exact absurd H (by simp)
  · rw [if_neg c4] at H
    have c4b0 : decide (0 ≤ t101) = false := decide_eq_false c4
    clear c4
    simp only [Option.some.injEq, Prod.mk.injEq] at H
    obtain ⟨rfl, rfl, rfl⟩ := H
    go_enter Tryd.func19, Tryd.ntmps19
    go_wp2_with (first | (go_at_call 30; (with_reducible refine (stringslite_Index.calls a0 a1 t101 _ A3.out).mono ?_); rintro e w' ⟨rfl, ⟨nd, rfl⟩⟩; (try first | exact ⟨rfl, _, World.drewN_drewN _ _ _⟩ | exact ⟨rfl, _, Eq.trans (World.drewN_drewN _ _ _) (congrArg (World.drewN _) (Nat.add_assoc _ _ _))⟩)))
    repeat (go_quiet (first | (go_at_call 30; (with_reducible refine (stringslite_Index.calls a0 a1 t101 _ A3.out).mono ?_); rintro e w' ⟨rfl, ⟨nd, rfl⟩⟩; (try first | exact ⟨rfl, _, World.drewN_drewN _ _ _⟩ | exact ⟨rfl, _, Eq.trans (World.drewN_drewN _ _ _) (congrArg (World.drewN _) (Nat.add_assoc _ _ _))⟩))); try go_wp2_with (first | (go_at_call 30; (with_reducible refine (stringslite_Index.calls a0 a1 t101 _ A3.out).mono ?_); rintro e w' ⟨rfl, ⟨nd, rfl⟩⟩; (try first | exact ⟨rfl, _, World.drewN_drewN _ _ _⟩ | exact ⟨rfl, _, Eq.trans (World.drewN_drewN _ _ _) (congrArg (World.drewN _) (Nat.add_assoc _ _ _))⟩))))
    go_ret3
    exact ⟨by first | rfl | (simp; done) | (simp [*]; done), by repeat (first | exact Drawn0.refl _ | apply Drawn0.step)⟩

/-! ### strings_Cut: function 16 -/
def strings_Cut.f (a0 : ByteArray) (a1 : ByteArray) : Option (ByteArray × ByteArray × Bool) := (stringslite_Cut.f a0 a1).bind fun bt102 => (some (bt102.1, bt102.2.1, bt102.2.2))
set_option maxHeartbeats 8000000 in
set_option maxRecDepth 100000 in
theorem strings_Cut.calls (a0 : ByteArray) (a1 : ByteArray) (r1 : ByteArray) (r2 : ByteArray) (r3 : Bool) (w : World) (h : strings_Cut.f a0 a1 = some (r1, r2, r3)) :
    Calls Tryd.prog 16 #[.string a0, .string a1] w fun e w' => e = .returned (.tuple #[.string r1, .string r2, .bool r3]) ∧ Drawn0 w w' := by
  have H : ((stringslite_Cut.f a0 a1).bind fun bt102 => (some (bt102.1, bt102.2.1, bt102.2.2))) = some (r1, r2, r3) := h
  clear h
  replace H := Option.bind_eq_some_iff.mp H
  obtain ⟨⟨t102, t103, t104⟩, A30, H⟩ := H
  replace H : (some (t102, t103, t104)) = some (r1, r2, r3) := H
  have A3 := Aside0.mk A30
  clear A30
  simp only [Option.some.injEq, Prod.mk.injEq] at H
  obtain ⟨rfl, rfl, rfl⟩ := H
  go_enter Tryd.func16, Tryd.ntmps16
  go_wp2_with (first | ((with_reducible refine gate_callee (f := 19) rfl ?_); refine goesL_ (some 9) rfl rfl Tryd.func19 (by kernel_rfl) rfl #[.string a0, .string a1] rfl (by (try simp only [List.map_toArray, List.map_cons, List.map_nil]); first | done | rfl | (simp only [List.length_drop, List.length_take]; rfl)) ?_; (with_reducible refine (stringslite_Cut.calls a0 a1 t102 t103 t104 _ A3.out).mono ?_); rintro e w' ⟨rfl, ⟨nd, rfl⟩⟩; refine ⟨_, rfl, ?_⟩))
  go_ret3
  exact ⟨by first | rfl | (simp; done) | (simp [*]; done), by repeat (first | exact Drawn0.refl _ | apply Drawn0.step)⟩

/-! ### lex_Lines: function 11 -/
mutual
def lex_Lines.l0 : Nat → List (S33) → List ByteArray → Int → Int → Option ((List (S33)))
  | 0, _, _, _, _ => none
  | k + 1, x3, x10, x11, x12 => if x12 < x11 then (if 0 ≤ x12 then (if x12 < (x10.length : Int) then ((strings_Cut.f (rdOf ByteArray.empty x10 x12) (⟨#[35]⟩ : ByteArray)).bind fun bt109 => ((strings_Split.f bt109.1 (⟨#[32]⟩ : ByteArray)).bind fun t112 => (lex_Lines.l1 k x3 x12 ([] : List ByteArray) x10 x11 x12 t112 (t112.length : Int) 0))) else (none)) else (none)) else (some x3)
def lex_Lines.l1 : Nat → List (S33) → Int → List ByteArray → List ByteArray → Int → Int → List ByteArray → Int → Int → Option ((List (S33)))
  | 0, _, _, _, _, _, _, _, _, _ => none
  | k + 1, x3, x4, x6, x10, x11, x12, x24, x25, x26 => if x26 < x25 then (if 0 ≤ x26 then (if x26 < (x24.length : Int) then (if (rdOf ByteArray.empty x24 x26).toList = ([] : List UInt8) then (lex_Lines.l1 k x3 x4 x6 x10 x11 x12 x24 x25 (wrap64 (x26 + 1))) else (if x6.length < 8796093022208 then (lex_Lines.l1 k x3 x4 (x6 ++ [rdOf ByteArray.empty x24 x26]) x10 x11 x12 x24 x25 (wrap64 (x26 + 1))) else (none))) else (none)) else (none)) else (if (x6.length : Int) > 0 then (if x3.length < 4398046511104 then (lex_Lines.l0 k (x3 ++ [(⟨wrap64 (x4 + 1), x6⟩ : S33)]) x10 x11 (wrap64 (x12 + 1))) else (none)) else (lex_Lines.l0 k x3 x10 x11 (wrap64 (x12 + 1))))
end
def lex_Lines.f (k : Nat) (a0 : ByteArray) : Option ((List (S33))) := (strings_Split.f a0 (⟨#[10]⟩ : ByteArray)).bind fun t105 => (lex_Lines.l0 k ([] : List (S33)) t105 (t105.length : Int) 0)
theorem lex_Lines.mono_l : ∀ k, (∀ y0 y1 y2 y3, LeO (lex_Lines.l0 k y0 y1 y2 y3) (lex_Lines.l0 (k + 1) y0 y1 y2 y3)) ∧ (∀ y0 y1 y2 y3 y4 y5 y6 y7 y8, LeO (lex_Lines.l1 k y0 y1 y2 y3 y4 y5 y6 y7 y8) (lex_Lines.l1 (k + 1) y0 y1 y2 y3 y4 y5 y6 y7 y8))
  | 0 => ⟨fun _ _ _ _ r h => by simp [lex_Lines.l0] at h, fun _ _ _ _ _ _ _ _ _ r h => by simp [lex_Lines.l1] at h⟩
  | k + 1 => by
    obtain ⟨ih0, ih1⟩ := lex_Lines.mono_l k
    refine ⟨?_, ?_⟩
    · intro y0 y1 y2 y3
      unfold lex_Lines.l0
      repeat' first
      | (with_reducible exact ih0 _ _ _ _)
      | (with_reducible exact ih1 _ _ _ _ _ _ _ _ _)
      | (with_reducible exact LeO.refl _)
      | (with_reducible exact LeO.none _)
      | (with_reducible refine LeO.ite ?_ ?_)
      | (with_reducible refine LeO.bind ?_ (fun _ => ?_))
      | exact ih0 _ _ _ _
      | exact ih1 _ _ _ _ _ _ _ _ _
      | exact LeO.none _
      | refine LeO.ite ?_ ?_
      | refine LeO.bind ?_ (fun _ => ?_)
    · intro y0 y1 y2 y3 y4 y5 y6 y7 y8
      unfold lex_Lines.l1
      repeat' first
      | (with_reducible exact ih0 _ _ _ _)
      | (with_reducible exact ih1 _ _ _ _ _ _ _ _ _)
      | (with_reducible exact LeO.refl _)
      | (with_reducible exact LeO.none _)
      | (with_reducible refine LeO.ite ?_ ?_)
      | (with_reducible refine LeO.bind ?_ (fun _ => ?_))
      | exact ih0 _ _ _ _
      | exact ih1 _ _ _ _ _ _ _ _ _
      | exact LeO.none _
      | refine LeO.ite ?_ ?_
      | refine LeO.bind ?_ (fun _ => ?_)
theorem lex_Lines.mono : ∀ a0 k, LeO (lex_Lines.f k a0) (lex_Lines.f (k + 1) a0) := by
  intro a0 k
  obtain ⟨ih0, ih1⟩ := lex_Lines.mono_l k
  unfold lex_Lines.f
  repeat' first
      | (with_reducible exact ih0 _ _ _ _)
      | (with_reducible exact ih1 _ _ _ _ _ _ _ _ _)
      | (with_reducible exact LeO.refl _)
      | (with_reducible exact LeO.none _)
      | (with_reducible refine LeO.ite ?_ ?_)
      | (with_reducible refine LeO.bind ?_ (fun _ => ?_))
      | exact ih0 _ _ _ _
      | exact ih1 _ _ _ _ _ _ _ _ _
      | exact LeO.none _
      | refine LeO.ite ?_ ?_
      | refine LeO.bind ?_ (fun _ => ?_)
set_option maxHeartbeats 8000000 in
set_option maxRecDepth 100000 in
theorem lex_Lines.calls (k : Nat) (a0 : ByteArray) (r : List (S33)) (w : World) (h : lex_Lines.f k a0 = some r) :
    Calls Tryd.prog 11 #[.string a0] w fun e w' => ∃ v0_ : Value, e = .returned (v0_) ∧ Kd.S k33 33 w' w.heap.size (fun _ => True) v0_ r ∧ Below w.heap.size w w' := by
  have hu33 := Tryd.underlying33
  have HB := Aside0.mk (Below.refl w.heap.size w)
  have H : ((strings_Split.f a0 (⟨#[10]⟩ : ByteArray)).bind fun t105 => (lex_Lines.l0 k ([] : List (S33)) t105 (t105.length : Int) 0)) = some r := h
  clear h
  replace H := Option.bind_eq_some_iff.mp H
  obtain ⟨t105, A20, H⟩ := H
  replace H : (lex_Lines.l0 k ([] : List (S33)) t105 (t105.length : Int) 0) = some r := H
  have A2 := Aside0.mk A20
  clear A20
  have H' := Aside0.mk H
  clear H
  go_enter Tryd.func11, Tryd.ntmps11
  go_wp2_with (first | ((with_reducible refine gate_callee (f := 15) rfl ?_); refine goesL_ (some 10) rfl rfl Tryd.func15 (by kernel_rfl) rfl #[.string a0, .string (⟨#[10]⟩ : ByteArray)] rfl (by (try simp only [List.map_toArray, List.map_cons, List.map_nil]); first | done | rfl | (simp only [List.length_drop, List.length_take]; rfl)) ?_; (with_reducible refine (strings_Split.calls a0 (⟨#[10]⟩ : ByteArray) t105 _ A2.out).mono ?_); rintro e w3 ⟨v106, rfl, ho0, hb⟩; refine ⟨_, rfl, ?_⟩; have n0_ := Aside0.mk (Kd.R_lower ho0 (below_size (by repeat (first | (with_reducible first | exact HB.out | apply below_alloc | apply pw_below_drewN | apply below_drew1) | exact HB.out)))); have n1_ := Aside0.mk (below_step (by repeat (first | (with_reducible first | exact HB.out | apply below_alloc | apply pw_below_drewN | apply below_drew1) | exact HB.out)) hb); clear HB; have HO107 := n0_; have HB := n1_; clear n0_ n1_; (try clear hb); (try clear hb2); (try clear hk); (try clear hi); (try clear ho0); obtain ⟨Ao4, co4, eo4⟩ := Kd.R_slice HO107.out; subst eo4))
  go_loopg [3, 12] k (fun kq v3 v12 w' => ∃ (x3_1 : List (S33)) (x12_1 : Int), v12 = .int .i64 x12_1 ∧ Aside0 (lex_Lines.l0 kq x3_1 t105 (t105.length : Int) x12_1 = some r) ∧ Aside0 (kq ≤ k) ∧ Aside0 (Kd.S k33 33 w' w.heap.size (fun k_ => some k_ ≠ ((.slice Ao4 t105.length co4) : Value).ownBlock) v3 x3_1) ∧ Aside0 (Kd.R Kd.string 9 w' w.heap.size (fun _ => True) (.slice Ao4 t105.length co4) t105) ∧ Aside0 (Below w.heap.size w w'))
  case atStart => exact ⟨(([] : List (S33))), (0), (by first | rfl | (simp; done) | (simp [*]; done)), H', ⟨Nat.le_refl _⟩, ⟨by first | exact Kd.S_nil _ _ _ _ _ | exact Kd.N_nil _ _ _ _ _ | exact Kd.V_nil _ _ _ _ _ | exact Kd.Q_nil _ _ _ _ _ | exact Kd.R_nil _ _ _ _ _⟩, ⟨by (with_reducible repeat (first | apply Kd.R_alloc | apply Kd.R_drewN | apply Kd.R_drew)); exact HO107.out⟩, ⟨by repeat (first | (with_reducible first | exact HB.out | apply below_alloc | apply pw_below_drewN | apply below_drew1) | exact HB.out)⟩⟩
  case round =>
    clear H'
    try clear c1
    try clear p2
    obtain ⟨x3_1, x12_1, rfl, HA, HK1, HO_3, HO_10, HB⟩ := hrel
    cases gk with
    | zero => exact absurd HA.out (by simp [lex_Lines.l0])
    | succ k1 =>
      have H := HA.out
      clear HA
      simp only [lex_Lines.l0] at H
      by_cases c5 : x12_1 < (t105.length : Int)
      · rw [if_pos c5] at H
        have c5b0 : decide (x12_1 < (t105.length : Int)) = true := decide_eq_true c5
        clear c5
        by_cases c6 : 0 ≤ x12_1
        · rw [if_pos c6] at H
          have c6b0 : decide (0 ≤ x12_1) = true := decide_eq_true c6
          clear c6
          by_cases c7 : x12_1 < (t105.length : Int)
          · rw [if_pos c7] at H
            have c7b0 : decide (x12_1 < (t105.length : Int)) = true := decide_eq_true c7
            clear c7
            replace H := Option.bind_eq_some_iff.mp H
            obtain ⟨⟨t109, t110, t111⟩, A80, H⟩ := H
            replace H : ((strings_Split.f t109 (⟨#[32]⟩ : ByteArray)).bind fun t112 => (lex_Lines.l1 k1 x3_1 x12_1 ([] : List ByteArray) t105 (t105.length : Int) x12_1 t112 (t112.length : Int) 0)) = some r := H
            have A8 := Aside0.mk A80
            clear A80
            replace H := Option.bind_eq_some_iff.mp H
            obtain ⟨t112, A90, H⟩ := H
            replace H : (lex_Lines.l1 k1 x3_1 x12_1 ([] : List ByteArray) t105 (t105.length : Int) x12_1 t112 (t112.length : Int) 0) = some r := H
            have A9 := Aside0.mk A90
            clear A90
            have H' := Aside0.mk H
            clear H
            have p108 : 0 ≤ (x12_1 : Int) := of_decide_eq_true (by first | (with_reducible assumption) | assumption)
            have q108 : x12_1 < (t105.length : Int) := of_decide_eq_true (by first | (with_reducible assumption) | assumption)
            obtain ⟨ad108, e108, hx108_0⟩ := Kd.at_string (Kd.R_reads' HO_10.out).2.2 x12_1 p108 q108
            cases e108
            replace p108 := eq_true p108
            replace q108 := eq_true q108
            go_wp2_with (first | ((with_reducible refine gate_callee (f := 16) rfl ?_); refine goesL_ (some 19) rfl rfl Tryd.func16 (by kernel_rfl) rfl #[.string (rdOf ByteArray.empty t105 x12_1), .string (⟨#[35]⟩ : ByteArray)] rfl (by (try simp only [List.map_toArray, List.map_cons, List.map_nil]); first | done | rfl | (simp only [List.length_drop, List.length_take]; rfl)) ?_; (with_reducible refine (strings_Cut.calls (rdOf ByteArray.empty t105 x12_1) (⟨#[35]⟩ : ByteArray) t109 t110 t111 _ A8.out).mono ?_); rintro e w' ⟨rfl, ⟨nd, rfl⟩⟩; refine ⟨_, rfl, ?_⟩) | ((with_reducible refine gate_callee (f := 15) rfl ?_); refine goesL_ (some 24) rfl rfl Tryd.func15 (by kernel_rfl) rfl #[.string t109, .string (⟨#[32]⟩ : ByteArray)] rfl (by (try simp only [List.map_toArray, List.map_cons, List.map_nil]); first | done | rfl | (simp only [List.length_drop, List.length_take]; rfl)) ?_; (with_reducible refine (strings_Split.calls t109 (⟨#[32]⟩ : ByteArray) t112 _ A9.out).mono ?_); rintro e w10 ⟨v113, rfl, ho0, hb⟩; refine ⟨_, rfl, ?_⟩; have n0_ := Aside0.mk (Kd.S_elder' (by (with_reducible repeat (first | apply Kd.S_alloc | apply Kd.S_drewN | apply Kd.S_drew)); exact HO_3.out) (Kd.R_base ho0) hb); have n1_ := Aside0.mk (Kd.R_elder' (by (with_reducible repeat (first | apply Kd.R_alloc | apply Kd.R_drewN | apply Kd.R_drew)); exact HO_10.out) (Kd.R_base ho0) hb); have n2_ := Aside0.mk (Kd.R_lower (Kd.R_new' ho0 (Kd.R_lt (by (with_reducible repeat (first | apply Kd.R_alloc | apply Kd.R_drewN | apply Kd.R_drew)); exact HO_10.out))) (below_size (by repeat (first | (with_reducible first | exact HB.out | apply below_alloc | apply pw_below_drewN | apply below_drew1) | exact HB.out)))); have n3_ := Aside0.mk (below_step (by repeat (first | (with_reducible first | exact HB.out | apply below_alloc | apply pw_below_drewN | apply below_drew1) | exact HB.out)) hb); clear HO_3; clear HO_10; clear HB; have HO_3 := n0_; have HO_10 := n1_; have HO114 := n2_; have HB := n3_; clear n0_ n1_ n2_ n3_; (try clear hb); (try clear hb2); (try clear hk); (try clear hi); (try clear ho0); obtain ⟨Ao11, co11, eo11⟩ := Kd.R_slice HO114.out; subst eo11))
            go_loopg [6, 26] k1 (fun kq v6 v26 w' => ∃ (x6_2 : List ByteArray) (x26_2 : Int), v26 = .int .i64 x26_2 ∧ Aside0 (lex_Lines.l1 kq x3_1 x12_1 x6_2 t105 (t105.length : Int) x12_1 t112 (t112.length : Int) x26_2 = some r) ∧ Aside0 (kq ≤ k1) ∧ Aside0 (Kd.S k33 33 w' w.heap.size (fun k_ => some k_ ≠ (v6 : Value).ownBlock ∧ some k_ ≠ ((.slice (some ad108) t105.length co4) : Value).ownBlock ∧ some k_ ≠ ((.slice Ao11 t112.length co11) : Value).ownBlock) u3 x3_1) ∧ Aside0 (Kd.R Kd.string 9 w' w.heap.size (fun k_ => some k_ ≠ ((.slice (some ad108) t105.length co4) : Value).ownBlock ∧ some k_ ≠ ((.slice Ao11 t112.length co11) : Value).ownBlock) v6 x6_2) ∧ Aside0 (Kd.R Kd.string 9 w' w.heap.size (fun k_ => some k_ ≠ (v6 : Value).ownBlock ∧ some k_ ≠ ((.slice Ao11 t112.length co11) : Value).ownBlock) (.slice (some ad108) t105.length co4) t105) ∧ Aside0 (Kd.R Kd.string 9 w' w.heap.size (fun k_ => some k_ ≠ (v6 : Value).ownBlock ∧ some k_ ≠ ((.slice (some ad108) t105.length co4) : Value).ownBlock) (.slice Ao11 t112.length co11) t112) ∧ Aside0 (Below w.heap.size w w'))
            case atStart => exact ⟨(([] : List ByteArray)), (0), (by first | rfl | (simp; done) | (simp [*]; done)), H', ⟨Nat.le_refl _⟩, ⟨by (with_reducible repeat (first | apply Kd.S_alloc | apply Kd.S_drewN | apply Kd.S_drew)); exact Kd.S_mono HO_3.out (fun _ hk => ⟨(by simp [Value.ownBlock]), ⟨hk.1, hk.2⟩⟩)⟩, ⟨by first | exact Kd.R_nil _ _ _ _ _ | exact Kd.N_nil _ _ _ _ _ | exact Kd.V_nil _ _ _ _ _ | exact Kd.Q_nil _ _ _ _ _ | exact Kd.S_nil _ _ _ _ _⟩, ⟨by (with_reducible repeat (first | apply Kd.R_alloc | apply Kd.R_drewN | apply Kd.R_drew)); exact Kd.R_mono HO_10.out (fun _ hk => ⟨(by simp [Value.ownBlock]), hk.2⟩)⟩, ⟨by (with_reducible repeat (first | apply Kd.R_alloc | apply Kd.R_drewN | apply Kd.R_drew)); exact Kd.R_mono HO114.out (fun _ hk => ⟨(by simp [Value.ownBlock]), hk.2⟩)⟩, ⟨by repeat (first | (with_reducible first | exact HB.out | apply below_alloc | apply pw_below_drewN | apply below_drew1) | exact HB.out)⟩⟩
            case round =>
              clear H'
              try clear c1
              try clear p1
              try clear q1
              try clear hx1
              try clear p2
              try clear c5
              try clear c5b0
              try clear c6
              try clear c6b0
              try clear c7
              try clear c7b0
              try clear p10
              try clear q10
              try clear hx10
              try clear c11
              try clear hx108_0
              try clear p108
              try clear p2
              try clear q108
              obtain ⟨x6_2, x26_2, rfl, HA, HK2, HO_3, HO_6, HO_10, HO_24, HB⟩ := hrel
              cases gk with
              | zero => exact absurd HA.out (by simp [lex_Lines.l1])
              | succ k2 =>
                have H := HA.out
                clear HA
                simp only [lex_Lines.l1] at H
                by_cases c12 : x26_2 < (t112.length : Int)
                · rw [if_pos c12] at H
                  have c12b0 : decide (x26_2 < (t112.length : Int)) = true := decide_eq_true c12
                  clear c12
                  by_cases c13 : 0 ≤ x26_2
                  · rw [if_pos c13] at H
                    have c13b0 : decide (0 ≤ x26_2) = true := decide_eq_true c13
                    clear c13
                    by_cases c14 : x26_2 < (t112.length : Int)
                    · rw [if_pos c14] at H
                      have c14b0 : decide (x26_2 < (t112.length : Int)) = true := decide_eq_true c14
                      clear c14
                      by_cases c15 : (rdOf ByteArray.empty t112 x26_2).toList = ([] : List UInt8)
                      · rw [if_pos c15] at H
                        have c15b0 : ((rdOf ByteArray.empty t112 x26_2).toList == ([] : List UInt8)) = true := beq_iff_eq.mpr c15
                        have c15b1 : ((rdOf ByteArray.empty t112 x26_2).toList != ([] : List UInt8)) = false := bne_eq_false_iff_eq.mpr c15
                        clear c15
                        have H' := Aside0.mk H
                        clear H
                        have p115 : 0 ≤ (x26_2 : Int) := of_decide_eq_true (by first | (with_reducible assumption) | assumption)
                        have q115 : x26_2 < (t112.length : Int) := of_decide_eq_true (by first | (with_reducible assumption) | assumption)
                        obtain ⟨ad115, e115, hx115_0⟩ := Kd.at_string (Kd.R_reads' HO_24.out).2.2 x26_2 p115 q115
                        cases e115
                        replace p115 := eq_true p115
                        replace q115 := eq_true q115
                        go_wp2
                        go_roundg k2
                        case measure => have := HK1.out; have := HK2.out; omega
                        case rel => exact ⟨(x6_2), (wrap64 (x26_2 + 1)), (by first | rfl | (simp; done) | (simp [*]; done)), H', ⟨by have := HK1.out; have := HK2.out; omega⟩, ⟨by (with_reducible repeat (first | apply Kd.S_alloc | apply Kd.S_drewN | apply Kd.S_drew)); exact HO_3.out⟩, ⟨by (with_reducible repeat (first | apply Kd.R_alloc | apply Kd.R_drewN | apply Kd.R_drew)); exact HO_6.out⟩, ⟨by (with_reducible repeat (first | apply Kd.R_alloc | apply Kd.R_drewN | apply Kd.R_drew)); exact HO_10.out⟩, ⟨by (with_reducible repeat (first | apply Kd.R_alloc | apply Kd.R_drewN | apply Kd.R_drew)); exact HO_24.out⟩, ⟨by repeat (first | (with_reducible first | exact HB.out | apply below_alloc | apply pw_below_drewN | apply below_drew1) | exact HB.out)⟩⟩
                      · rw [if_neg c15] at H
                        have c15b0 : ((rdOf ByteArray.empty t112 x26_2).toList == ([] : List UInt8)) = false := beq_eq_false_iff_ne.mpr c15
                        have c15b1 : ((rdOf ByteArray.empty t112 x26_2).toList != ([] : List UInt8)) = true := bne_iff_ne.mpr c15
                        by_cases c16 : x6_2.length < 8796093022208
                        · rw [if_pos c16] at H
                          have LMc16 := Aside0.mk c16
                          clear c16
                          obtain ⟨y116, hy116⟩ : ∃ y_ : List ByteArray, y_ = (x6_2 ++ [rdOf ByteArray.empty t112 x26_2]) := ⟨_, rfl⟩
                          replace H : (lex_Lines.l1 k2 x3_1 x12_1 y116 t105 (t105.length : Int) x12_1 t112 (t112.length : Int) (wrap64 (x26_2 + 1))) = some r := by first | (rw [hy116]; with_reducible exact H) | (have H2_ := (Option.bind_some _ _).symm.trans H; rw [hy116]; with_reducible exact H2_) | (have H2_ := (Option.bind_some _ _).symm.trans H; with_reducible exact H2_) | with_reducible exact H | (rw [hy116]; exact H) | exact H
                          have Ny116 := Aside0.mk hy116
                          clear hy116
                          have H' := Aside0.mk H
                          clear H
                          have p115 : 0 ≤ (x26_2 : Int) := of_decide_eq_true (by first | (with_reducible assumption) | assumption)
                          have q115 : x26_2 < (t112.length : Int) := of_decide_eq_true (by first | (with_reducible assumption) | assumption)
                          obtain ⟨ad115, e115, hx115_0⟩ := Kd.at_string (Kd.R_reads' HO_24.out).2.2 x26_2 p115 q115
                          cases e115
                          replace p115 := eq_true p115
                          replace q115 := eq_true q115
                          go_wp2_with (first | ((with_reducible refine gate_builtin (b := .append) (xs := #[.tmp 32, .tmp 34]) rfl ?_); at_builtin; refine Kd.R_append Kd.string (w0 := w) w.heap.size rfl (.tmp 32) (.tmp 34) 31 9 (.string ⟨#[]⟩) 16 rfl Tryd.underlying31 info9 rfl (by decide) (by omega) u6 x6_2 (rdOf ByteArray.empty t112 x26_2) [.string (rdOf ByteArray.empty t112 x26_2)] (fun k_ => some k_ ≠ (.slice (some ad108) t105.length co4 : Value).ownBlock ∧ some k_ ≠ (.slice (some ad115) t112.length co11 : Value).ownBlock) (fun _ => False) rfl rfl ?aP (fun _ hk => hk.elim) ?aF ?aO ?aB ?aS ?aL ?_; (case aP => exact rfl); (case aB => exact (by repeat (first | (with_reducible first | exact HB.out | apply below_alloc | apply pw_below_drewN | apply below_drew1) | exact HB.out))); (case aF => exact (fun k_ hk => ⟨Kd.fresh' (Kd.R_lt (by (with_reducible repeat (first | apply Kd.R_alloc | apply Kd.R_drewN | apply Kd.R_drew)); exact HO_10.out)) k_ hk, Kd.fresh' (Kd.R_lt (by (with_reducible repeat (first | apply Kd.R_alloc | apply Kd.R_drewN | apply Kd.R_drew)); exact HO_24.out)) k_ hk⟩)); (case aO => exact (by (with_reducible repeat (first | apply Kd.R_alloc | apply Kd.R_drewN | apply Kd.R_drew)); exact HO_6.out)); (case aS => exact (below_size (by repeat (first | (with_reducible first | exact HB.out | apply below_alloc | apply pw_below_drewN | apply below_drew1) | exact HB.out)))); (case aL => have := LMc16.out; omega); intro v117 w17 ho hb hg hat; rw [← Ny116.out] at ho; have n0_ := Aside0.mk (Kd.S_after (ok := (fun k_ => some k_ ≠ (.slice (some ad108) t105.length co4 : Value).ownBlock ∧ some k_ ≠ (.slice (some ad115) t112.length co11 : Value).ownBlock)) (by (with_reducible repeat (first | apply Kd.S_alloc | apply Kd.S_drewN | apply Kd.S_drew)); exact Kd.S_mono HO_3.out (fun _ hk => ⟨⟨hk.2.1, hk.2.2⟩, hk.1⟩)) hg hat); have n1_ := Aside0.mk (Kd.R_after (ok := (fun k_ => some k_ ≠ (.slice (some ad115) t112.length co11 : Value).ownBlock)) (by (with_reducible repeat (first | apply Kd.R_alloc | apply Kd.R_drewN | apply Kd.R_drew)); exact Kd.R_mono HO_10.out (fun _ hk => ⟨hk.2, hk.1⟩)) hg hat); have n2_ := Aside0.mk (Kd.R_after (ok := (fun k_ => some k_ ≠ (.slice (some ad108) t105.length co4 : Value).ownBlock)) (by (with_reducible repeat (first | apply Kd.R_alloc | apply Kd.R_drewN | apply Kd.R_drew)); exact Kd.R_mono HO_24.out (fun _ hk => ⟨hk.2, hk.1⟩)) hg hat); have n3_ := Aside0.mk (hb); have n4_ := Aside0.mk (ho); clear HO_3; clear HO_10; clear HO_24; clear HB; clear HO_6; have HO_3 := n0_; have HO_10 := n1_; have HO_24 := n2_; have HB := n3_; have HO118 := n4_; clear n0_ n1_ n2_ n3_ n4_; clear ho hb hg hat))
                          go_roundg k2
                          case measure => have := HK1.out; have := HK2.out; omega
                          case rel => exact ⟨(y116), (wrap64 (x26_2 + 1)), (by first | rfl | (simp; done) | (simp [*]; done)), H', ⟨by have := HK1.out; have := HK2.out; omega⟩, ⟨by (with_reducible repeat (first | apply Kd.S_alloc | apply Kd.S_drewN | apply Kd.S_drew)); exact Kd.S_mono HO_3.out (fun _ hk => ⟨hk.2, ⟨hk.1.1, hk.1.2⟩⟩)⟩, ⟨by (with_reducible repeat (first | apply Kd.R_alloc | apply Kd.R_drewN | apply Kd.R_drew)); exact HO118.out⟩, ⟨by (with_reducible repeat (first | apply Kd.R_alloc | apply Kd.R_drewN | apply Kd.R_drew)); exact Kd.R_mono HO_10.out (fun _ hk => ⟨hk.2, hk.1⟩)⟩, ⟨by (with_reducible repeat (first | apply Kd.R_alloc | apply Kd.R_drewN | apply Kd.R_drew)); exact Kd.R_mono HO_24.out (fun _ hk => ⟨hk.2, hk.1⟩)⟩, ⟨by repeat (first | (with_reducible first | exact HB.out | apply below_alloc | apply pw_below_drewN | apply below_drew1) | exact HB.out)⟩⟩
                        · rw [if_neg c16] at H
                          exact absurd H (by simp)
                    · rw [if_neg c14] at H
                      exact absurd H (by simp)
                  · rw [if_neg c13] at H
                    exact absurd H (by simp)
                · rw [if_neg c12] at H
                  have c12b0 : decide (x26_2 < (t112.length : Int)) = false := decide_eq_false c12
                  clear c12
                  by_cases c18 : (x6_2.length : Int) > 0
                  · rw [if_pos c18] at H
                    have c18b0 : decide (0 < (x6_2.length : Int)) = true := decide_eq_true c18
                    have c18b1 : decide (0 < x6_2.length) = true := decide_eq_true (by omega)
                    clear c18
                    by_cases c19 : x3_1.length < 4398046511104
                    · rw [if_pos c19] at H
                      have LMc19 := Aside0.mk c19
                      clear c19
                      obtain ⟨y119, hy119⟩ : ∃ y_ : List (S33), y_ = (x3_1 ++ [(⟨wrap64 (x12_1 + 1), x6_2⟩ : S33)]) := ⟨_, rfl⟩
                      replace H : (lex_Lines.l0 k2 y119 t105 (t105.length : Int) (wrap64 (x12_1 + 1))) = some r := by first | (rw [hy119]; with_reducible exact H) | (have H2_ := (Option.bind_some _ _).symm.trans H; rw [hy119]; with_reducible exact H2_) | (have H2_ := (Option.bind_some _ _).symm.trans H; with_reducible exact H2_) | with_reducible exact H | (rw [hy119]; exact H) | exact H
                      have Ny119 := Aside0.mk hy119
                      clear hy119
                      have H' := Aside0.mk H
                      clear H
                      obtain ⟨Ao20, co20, eo20⟩ := Kd.R_slice HO_6.out
                      subst eo20
                      go_wp2_with (first | ((with_reducible refine gate_builtin (b := .append) (xs := #[.tmp 40, .tmp 45]) rfl ?_); at_builtin; refine Kd.S_append k33 (w0 := w) w.heap.size rfl (.tmp 40) (.tmp 45) 26 33 (.agg #[(.int .i64 0), (.slice none 0 0)]) 32 rfl Tryd.underlying26 info33 rfl (by decide) (by omega) u3 x3_1 (⟨wrap64 (x12_1 + 1), x6_2⟩ : S33) [.int .i64 (wrap64 (x12_1 + 1)), .slice Ao20 x6_2.length co20] (fun k_ => some k_ ≠ (.slice (some ad108) t105.length co4 : Value).ownBlock ∧ some k_ ≠ (.slice Ao11 t112.length co11 : Value).ownBlock) (fun k_ => some k_ = (.slice Ao20 x6_2.length co20 : Value).ownBlock) rfl rfl ?aP (fun k_ hk_ => ((Kd.R_mono (ok' := fun k_ => ((fun k_ => some k_ ≠ (.slice (some ad108) t105.length co4 : Value).ownBlock ∧ some k_ ≠ (.slice Ao11 t112.length co11 : Value).ownBlock)) k_ ∧ some k_ ≠ (u3 : Value).ownBlock) (Kd.R_apart' (HO_6.out) (Kd.S_typed HO_3.out) (by decide)) (fun k_ hk => ⟨⟨hk.1.1, hk.1.2⟩, hk.2⟩))).1 k_ hk_.symm) ?aF ?aO ?aB ?aS ?aL ?_; (case aP => exact k33_mkM _ _ _ (⟨wrap64 (x12_1 + 1), x6_2⟩ : S33) (Kd.R_mono (Kd.R_tight rfl (Kd.R_mono (ok' := fun k_ => ((fun k_ => some k_ ≠ (.slice (some ad108) t105.length co4 : Value).ownBlock ∧ some k_ ≠ (.slice Ao11 t112.length co11 : Value).ownBlock)) k_ ∧ some k_ ≠ (u3 : Value).ownBlock) (Kd.R_apart' (HO_6.out) (Kd.S_typed HO_3.out) (by decide)) (fun k_ hk => ⟨⟨hk.1.1, hk.1.2⟩, hk.2⟩))) (fun _ h_ => h_))); (case aB => exact (by repeat (first | (with_reducible first | exact HB.out | apply below_alloc | apply pw_below_drewN | apply below_drew1) | exact HB.out))); (case aF => exact (fun k_ hk => ⟨Kd.fresh' (Kd.R_lt (by (with_reducible repeat (first | apply Kd.R_alloc | apply Kd.R_drewN | apply Kd.R_drew)); exact HO_10.out)) k_ hk, Kd.fresh' (Kd.R_lt (by (with_reducible repeat (first | apply Kd.R_alloc | apply Kd.R_drewN | apply Kd.R_drew)); exact HO_24.out)) k_ hk⟩)); (case aO => exact (by (with_reducible repeat (first | apply Kd.S_alloc | apply Kd.S_drewN | apply Kd.S_drew)); exact Kd.S_mono HO_3.out (fun k_ hk => ⟨⟨hk.2.1, hk.2.2⟩, fun e_ => hk.1 e_⟩))); (case aS => exact (below_size (by repeat (first | (with_reducible first | exact HB.out | apply below_alloc | apply pw_below_drewN | apply below_drew1) | exact HB.out)))); (case aL => have := LMc19.out; omega); intro v120 w21 ho hb hg hat; rw [← Ny119.out] at ho; have n0_ := Aside0.mk (Kd.R_over' (by (with_reducible repeat (first | apply Kd.R_alloc | apply Kd.R_drewN | apply Kd.R_drew)); exact HO_10.out) (Kd.S_typed (by (with_reducible repeat (first | apply Kd.S_alloc | apply Kd.S_drewN | apply Kd.S_drew)); exact HO_3.out)) (by decide) hg); have n1_ := Aside0.mk (Kd.R_over' (by (with_reducible repeat (first | apply Kd.R_alloc | apply Kd.R_drewN | apply Kd.R_drew)); exact HO_24.out) (Kd.S_typed (by (with_reducible repeat (first | apply Kd.S_alloc | apply Kd.S_drewN | apply Kd.S_drew)); exact HO_3.out)) (by decide) hg); have n2_ := Aside0.mk (hb); have n3_ := Aside0.mk (ho); clear HO_10; clear HO_24; clear HB; clear HO_3; clear HO_6; have HO_10 := n0_; have HO_24 := n1_; have HB := n2_; have HO121 := n3_; clear n0_ n1_ n2_ n3_; clear ho hb hg hat))
                      go_roundg k2
                      case measure => have := HK1.out; have := HK2.out; omega
                      case rel => exact ⟨(y119), (wrap64 (x12_1 + 1)), (by first | rfl | (simp; done) | (simp [*]; done)), H', ⟨by have := HK1.out; have := HK2.out; omega⟩, ⟨by (with_reducible repeat (first | apply Kd.S_alloc | apply Kd.S_drewN | apply Kd.S_drew)); exact Kd.S_mono HO121.out (fun _ hk => hk.1)⟩, ⟨by (with_reducible repeat (first | apply Kd.R_alloc | apply Kd.R_drewN | apply Kd.R_drew)); exact Kd.R_mono HO_10.out (fun _ hk => trivial)⟩, ⟨by repeat (first | (with_reducible first | exact HB.out | apply below_alloc | apply pw_below_drewN | apply below_drew1) | exact HB.out)⟩⟩
                    · rw [if_neg c19] at H
                      exact absurd H (by simp)
                  · rw [if_neg c18] at H
                    have c18b0 : decide (0 < (x6_2.length : Int)) = false := decide_eq_false c18
                    have c18b1 : decide (0 < x6_2.length) = false := decide_eq_false (by omega)
                    clear c18
                    have H' := Aside0.mk H
                    clear H
                    obtain ⟨Ao22, co22, eo22⟩ := Kd.R_slice HO_6.out
                    subst eo22
                    go_wp2
                    go_roundg k2
                    case measure => have := HK1.out; have := HK2.out; omega
                    case rel => exact ⟨(x3_1), (wrap64 (x12_1 + 1)), (by first | rfl | (simp; done) | (simp [*]; done)), H', ⟨by have := HK1.out; have := HK2.out; omega⟩, ⟨by (with_reducible repeat (first | apply Kd.S_alloc | apply Kd.S_drewN | apply Kd.S_drew)); exact Kd.S_mono HO_3.out (fun _ hk => hk.2.1)⟩, ⟨by (with_reducible repeat (first | apply Kd.R_alloc | apply Kd.R_drewN | apply Kd.R_drew)); exact Kd.R_mono HO_10.out (fun _ hk => trivial)⟩, ⟨by repeat (first | (with_reducible first | exact HB.out | apply below_alloc | apply pw_below_drewN | apply below_drew1) | exact HB.out)⟩⟩
          · rw [if_neg c7] at H
            exact absurd H (by simp)
        · rw [if_neg c6] at H
          exact absurd H (by simp)
      · rw [if_neg c5] at H
        have c5b0 : decide (x12_1 < (t105.length : Int)) = false := decide_eq_false c5
        clear c5
        obtain rfl := Option.some.inj H
        go_wp2
        go_ret
        exact ⟨_, by first | rfl | (simp [errW_none, errW_some] <;> rfl) | (simp [*, errW_none, errW_some] <;> rfl), by (with_reducible repeat (first | apply Kd.S_alloc | apply Kd.S_drewN | apply Kd.S_drew)); exact Kd.S_mono HO_3.out (fun _ hk => trivial), by repeat (first | (with_reducible first | exact HB.out | apply below_alloc | apply pw_below_drewN | apply below_drew1) | exact HB.out)⟩

/-! ### strings_Trim: function 17 -/
def strings_Trim.f (a0 a1 : ByteArray) : Option (ByteArray) := if a0.size ≤ 9223372036854775807 ∧ a1.size < 4294967281 ∧ a1.data.toList.all (fun b => decide (b.toNat < 128)) = true then some ⟨(Go.Lib.trimS a0.data.toList a1.data.toList).toArray⟩ else none
theorem strings_Trim.calls (a0 : ByteArray) (a1 : ByteArray) (r : ByteArray) (w : World) (h : strings_Trim.f a0 a1 = some r) :
    Calls Tryd.prog 17 #[.string a0, .string a1] w fun e w' => e = .returned (.string r) ∧ Below w.heap.size w w' := by
  unfold strings_Trim.f at h
  split at h
  · rename_i hc
    obtain rfl := Option.some.inj h
    exact Any.strings_Trim_laid Tryd.lays160 (by kernel_rfl) a0 a1 w hc.1 hc.2.1 (ascii_of_all hc.2.2)
  · cases h


/-! ### lex_Name: function 13 -/
def lex_Name.f (a0 : ByteArray) : Option (Bool) := if a0.toList = ([] : List UInt8) then (some false) else (if (a0.size : Int) > 8 then (some false) else (if 0 < (a0.size : Int) then (if (bt a0 0) < 97 then (some false) else (if (bt a0 0) > 122 then (some false) else ((strings_Trim.f a0 (⟨#[97, 98, 99, 100, 101, 102, 103, 104, 105, 106, 107, 108, 109, 110, 111, 112, 113, 114, 115, 116, 117, 118, 119, 120, 121, 122, 48, 49, 50, 51, 52, 53, 54, 55, 56, 57]⟩ : ByteArray)).bind fun t122 => (some (t122.toList == ([] : List UInt8)))))) else (none)))
set_option maxHeartbeats 8000000 in
set_option maxRecDepth 100000 in
theorem lex_Name.calls (a0 : ByteArray) (r : Bool) (w : World) (h : lex_Name.f a0 = some r) :
    Calls Tryd.prog 13 #[.string a0] w fun e w' => e = .returned (.bool r) ∧ Below w.heap.size w w' := by
  have HB := Aside0.mk (Below.refl w.heap.size w)
  have H : (if a0.toList = ([] : List UInt8) then (some false) else (if (a0.size : Int) > 8 then (some false) else (if 0 < (a0.size : Int) then (if (bt a0 0) < 97 then (some false) else (if (bt a0 0) > 122 then (some false) else ((strings_Trim.f a0 (⟨#[97, 98, 99, 100, 101, 102, 103, 104, 105, 106, 107, 108, 109, 110, 111, 112, 113, 114, 115, 116, 117, 118, 119, 120, 121, 122, 48, 49, 50, 51, 52, 53, 54, 55, 56, 57]⟩ : ByteArray)).bind fun t122 => (some (t122.toList == ([] : List UInt8)))))) else (none)))) = some r := h
  clear h
  by_cases c2 : a0.toList = ([] : List UInt8)
  · rw [if_pos c2] at H
    have c2b0 : (a0.toList == ([] : List UInt8)) = true := beq_iff_eq.mpr c2
    have c2b1 : (a0.toList != ([] : List UInt8)) = false := bne_eq_false_iff_eq.mpr c2
    clear c2
    obtain rfl := Option.some.inj H
    go_enter Tryd.func13, Tryd.ntmps13
    go_wp2
    go_ret
    exact ⟨by first | rfl | (simp [errW_none, errW_some] <;> rfl) | (simp [*, errW_none, errW_some] <;> rfl), by repeat (first | (with_reducible first | exact HB.out | apply below_alloc | apply pw_below_drewN | apply below_drew1) | exact HB.out)⟩
  · rw [if_neg c2] at H
    have c2b0 : (a0.toList == ([] : List UInt8)) = false := beq_eq_false_iff_ne.mpr c2
    have c2b1 : (a0.toList != ([] : List UInt8)) = true := bne_iff_ne.mpr c2
    by_cases c3 : (a0.size : Int) > 8
    · rw [if_pos c3] at H
      have c3b0 : decide (8 < (a0.size : Int)) = true := decide_eq_true c3
      have c3b1 : decide (8 < a0.size) = true := decide_eq_true (by omega)
      clear c3
      obtain rfl := Option.some.inj H
      go_enter Tryd.func13, Tryd.ntmps13
      go_wp2
      go_ret
      exact ⟨by first | rfl | (simp [errW_none, errW_some] <;> rfl) | (simp [*, errW_none, errW_some] <;> rfl), by repeat (first | (with_reducible first | exact HB.out | apply below_alloc | apply pw_below_drewN | apply below_drew1) | exact HB.out)⟩
    · rw [if_neg c3] at H
      have c3b0 : decide (8 < (a0.size : Int)) = false := decide_eq_false c3
      have c3b1 : decide (8 < a0.size) = false := decide_eq_false (by omega)
      clear c3
      by_cases c4 : 0 < (a0.size : Int)
      · rw [if_pos c4] at H
        have c4b0 : decide (0 < (a0.size : Int)) = true := decide_eq_true c4
        have c4b1 : decide (0 < a0.size) = true := decide_eq_true (by omega)
        clear c4
        by_cases c6 : (bt a0 0) < 97
        · rw [if_pos c6] at H
          have c6b0 : decide ((bt a0 0) < 97) = true := decide_eq_true c6
          clear c6
          obtain rfl := Option.some.inj H
          have p5 : 0 ≤ (0 : Int) := (by omega)
          have q5 : 0 < a0.size := (by have : (0 : Int) < (a0.size : Int) := of_decide_eq_true (by first | (with_reducible assumption) | assumption); omega)
          have hx5 : ∀ h : 0 < a0.size, ((a0[0]'h).toNat : Int) = bt a0 0 := bt_at a0 0
          clear p5
          have qi5 : (0 < (a0.size : Int)) = True := eq_true (of_decide_eq_true (by first | (with_reducible assumption) | assumption))
          replace q5 := eq_true q5
          go_enter Tryd.func13, Tryd.ntmps13
          go_wp2
          go_ret
          exact ⟨by first | rfl | (simp [errW_none, errW_some] <;> rfl) | (simp [*, errW_none, errW_some] <;> rfl), by repeat (first | (with_reducible first | exact HB.out | apply below_alloc | apply pw_below_drewN | apply below_drew1) | exact HB.out)⟩
        · rw [if_neg c6] at H
          have c6b0 : decide ((bt a0 0) < 97) = false := decide_eq_false c6
          clear c6
          by_cases c8 : (bt a0 0) > 122
          · rw [if_pos c8] at H
            have c8b0 : decide (122 < (bt a0 0)) = true := decide_eq_true c8
            clear c8
            obtain rfl := Option.some.inj H
            have p5 : 0 ≤ (0 : Int) := (by omega)
            have q5 : 0 < a0.size := (by have : (0 : Int) < (a0.size : Int) := of_decide_eq_true (by first | (with_reducible assumption) | assumption); omega)
            have hx5 : ∀ h : 0 < a0.size, ((a0[0]'h).toNat : Int) = bt a0 0 := bt_at a0 0
            clear p5
            have qi5 : (0 < (a0.size : Int)) = True := eq_true (of_decide_eq_true (by first | (with_reducible assumption) | assumption))
            replace q5 := eq_true q5
            have p7 : 0 ≤ (0 : Int) := (by omega)
            have q7 : 0 < a0.size := (by have : (0 : Int) < (a0.size : Int) := of_decide_eq_true (by first | (with_reducible assumption) | assumption); omega)
            have hx7 : ∀ h : 0 < a0.size, ((a0[0]'h).toNat : Int) = bt a0 0 := bt_at a0 0
            clear p7
            have qi7 : (0 < (a0.size : Int)) = True := eq_true (of_decide_eq_true (by first | (with_reducible assumption) | assumption))
            replace q7 := eq_true q7
            go_enter Tryd.func13, Tryd.ntmps13
            go_wp2
            go_ret
            exact ⟨by first | rfl | (simp [errW_none, errW_some] <;> rfl) | (simp [*, errW_none, errW_some] <;> rfl), by repeat (first | (with_reducible first | exact HB.out | apply below_alloc | apply pw_below_drewN | apply below_drew1) | exact HB.out)⟩
          · rw [if_neg c8] at H
            have c8b0 : decide (122 < (bt a0 0)) = false := decide_eq_false c8
            clear c8
            replace H := Option.bind_eq_some_iff.mp H
            obtain ⟨t122, A90, H⟩ := H
            replace H : (some (t122.toList == ([] : List UInt8))) = some r := H
            have A9 := Aside0.mk A90
            clear A90
            obtain rfl := Option.some.inj H
            have p5 : 0 ≤ (0 : Int) := (by omega)
            have q5 : 0 < a0.size := (by have : (0 : Int) < (a0.size : Int) := of_decide_eq_true (by first | (with_reducible assumption) | assumption); omega)
            have hx5 : ∀ h : 0 < a0.size, ((a0[0]'h).toNat : Int) = bt a0 0 := bt_at a0 0
            clear p5
            have qi5 : (0 < (a0.size : Int)) = True := eq_true (of_decide_eq_true (by first | (with_reducible assumption) | assumption))
            replace q5 := eq_true q5
            have p7 : 0 ≤ (0 : Int) := (by omega)
            have q7 : 0 < a0.size := (by have : (0 : Int) < (a0.size : Int) := of_decide_eq_true (by first | (with_reducible assumption) | assumption); omega)
            have hx7 : ∀ h : 0 < a0.size, ((a0[0]'h).toNat : Int) = bt a0 0 := bt_at a0 0
            clear p7
            have qi7 : (0 < (a0.size : Int)) = True := eq_true (of_decide_eq_true (by first | (with_reducible assumption) | assumption))
            replace q7 := eq_true q7
            go_enter Tryd.func13, Tryd.ntmps13
            go_wp2_with (first | ((with_reducible refine gate_callee (f := 17) rfl ?_); refine goesL_ (some 21) rfl rfl Tryd.func17 (by kernel_rfl) rfl #[.string a0, .string (⟨#[97, 98, 99, 100, 101, 102, 103, 104, 105, 106, 107, 108, 109, 110, 111, 112, 113, 114, 115, 116, 117, 118, 119, 120, 121, 122, 48, 49, 50, 51, 52, 53, 54, 55, 56, 57]⟩ : ByteArray)] rfl (by (try simp only [List.map_toArray, List.map_cons, List.map_nil]); first | done | rfl | (simp only [List.length_drop, List.length_take]; rfl)) ?_; (with_reducible refine (strings_Trim.calls a0 (⟨#[97, 98, 99, 100, 101, 102, 103, 104, 105, 106, 107, 108, 109, 110, 111, 112, 113, 114, 115, 116, 117, 118, 119, 120, 121, 122, 48, 49, 50, 51, 52, 53, 54, 55, 56, 57]⟩ : ByteArray) t122 _ A9.out).mono ?_); rintro e w10 ⟨rfl, hb⟩; refine ⟨_, rfl, ?_⟩; have n0_ := Aside0.mk (below_step (by repeat (first | (with_reducible first | exact HB.out | apply below_alloc | apply pw_below_drewN | apply below_drew1) | exact HB.out)) hb); clear HB; have HB := n0_; clear n0_; (try clear hb); (try clear hb2); (try clear hk); (try clear hi)))
            go_ret
            exact ⟨by first | rfl | (simp [errW_none, errW_some] <;> rfl) | (simp [*, errW_none, errW_some] <;> rfl), by repeat (first | (with_reducible first | exact HB.out | apply below_alloc | apply pw_below_drewN | apply below_drew1) | exact HB.out)⟩
      · rw [if_neg c4] at H
        exact absurd H (by simp)

/-! ### tapewrightlaw08_awake: function 8 -/
def tapewrightlaw08_awake.f (k : Nat)  : Option (Bool) := (lex_Lines.f k (⟨#[10, 97, 32, 32, 98, 32, 35, 32, 99]⟩ : ByteArray)).bind fun t123 => (if (t123.length : Int) = 1 then (if 0 < (t123.length : Int) then (if ((rd_T33 t123 0).f0) = 2 then (if (((rd_T33 t123 0).f1).length : Int) = 2 then (if 1 < (((rd_T33 t123 0).f1).length : Int) then (if (rdOf ByteArray.empty ((rd_T33 t123 0).f1) 1).toList = ([98] : List UInt8) then ((lex_Name.f (⟨#[119, 49]⟩ : ByteArray)).bind fun t130 => (if t130 = true then ((lex_Name.f (⟨#[49, 119]⟩ : ByteArray)).bind fun t131 => (some (!t131))) else (some false))) else (some false)) else (none)) else (some false)) else (some false)) else (none)) else (some false))
theorem tapewrightlaw08_awake.mono : ∀ k, LeO (tapewrightlaw08_awake.f k ) (tapewrightlaw08_awake.f (k + 1) ) := by
  intro  k
  unfold tapewrightlaw08_awake.f
  repeat' first
      | (with_reducible exact lex_Lines.mono _ _)
      | (with_reducible exact LeO.refl _)
      | (with_reducible exact LeO.none _)
      | (with_reducible refine LeO.ite ?_ ?_)
      | (with_reducible refine LeO.bind ?_ (fun _ => ?_))
      | exact lex_Lines.mono _ _
      | exact LeO.none _
      | refine LeO.ite ?_ ?_
      | refine LeO.bind ?_ (fun _ => ?_)
set_option maxHeartbeats 8000000 in
set_option maxRecDepth 100000 in
theorem tapewrightlaw08_awake.calls (k : Nat)  (r : Bool) (w : World) (h : tapewrightlaw08_awake.f k  = some r) :
    Calls Tryd.prog 8 #[] w fun e w' => e = .returned (.bool r) ∧ Below w.heap.size w w' := by
  have HB := Aside0.mk (Below.refl w.heap.size w)
  have H : ((lex_Lines.f k (⟨#[10, 97, 32, 32, 98, 32, 35, 32, 99]⟩ : ByteArray)).bind fun t123 => (if (t123.length : Int) = 1 then (if 0 < (t123.length : Int) then (if ((rd_T33 t123 0).f0) = 2 then (if (((rd_T33 t123 0).f1).length : Int) = 2 then (if 1 < (((rd_T33 t123 0).f1).length : Int) then (if (rdOf ByteArray.empty ((rd_T33 t123 0).f1) 1).toList = ([98] : List UInt8) then ((lex_Name.f (⟨#[119, 49]⟩ : ByteArray)).bind fun t130 => (if t130 = true then ((lex_Name.f (⟨#[49, 119]⟩ : ByteArray)).bind fun t131 => (some (!t131))) else (some false))) else (some false)) else (none)) else (some false)) else (some false)) else (none)) else (some false))) = some r := h
  clear h
  replace H := Option.bind_eq_some_iff.mp H
  obtain ⟨t123, A10, H⟩ := H
  replace H : (if (t123.length : Int) = 1 then (if 0 < (t123.length : Int) then (if ((rd_T33 t123 0).f0) = 2 then (if (((rd_T33 t123 0).f1).length : Int) = 2 then (if 1 < (((rd_T33 t123 0).f1).length : Int) then (if (rdOf ByteArray.empty ((rd_T33 t123 0).f1) 1).toList = ([98] : List UInt8) then ((lex_Name.f (⟨#[119, 49]⟩ : ByteArray)).bind fun t130 => (if t130 = true then ((lex_Name.f (⟨#[49, 119]⟩ : ByteArray)).bind fun t131 => (some (!t131))) else (some false))) else (some false)) else (none)) else (some false)) else (some false)) else (none)) else (some false)) = some r := H
  have A1 := Aside0.mk A10
  clear A10
  by_cases c2 : (t123.length : Int) = 1
  · rw [if_pos c2] at H
    have c2b0 : ((t123.length : Int) == 1) = true := beq_iff_eq.mpr c2
    have c2b1 : ((t123.length : Int) != 1) = false := bne_eq_false_iff_eq.mpr c2
    clear c2
    by_cases c3 : 0 < (t123.length : Int)
    · rw [if_pos c3] at H
      have c3b0 : decide (0 < (t123.length : Int)) = true := decide_eq_true c3
      have c3b1 : decide (0 < t123.length) = true := decide_eq_true (by omega)
      clear c3
      by_cases c4 : ((rd_T33 t123 0).f0) = 2
      · rw [if_pos c4] at H
        have c4b0 : (((rd_T33 t123 0).f0) == 2) = true := beq_iff_eq.mpr c4
        have c4b1 : (((rd_T33 t123 0).f0) != 2) = false := bne_eq_false_iff_eq.mpr c4
        clear c4
        by_cases c5 : (((rd_T33 t123 0).f1).length : Int) = 2
        · rw [if_pos c5] at H
          have c5b0 : ((((rd_T33 t123 0).f1).length : Int) == 2) = true := beq_iff_eq.mpr c5
          have c5b1 : ((((rd_T33 t123 0).f1).length : Int) != 2) = false := bne_eq_false_iff_eq.mpr c5
          clear c5
          by_cases c6 : 1 < (((rd_T33 t123 0).f1).length : Int)
          · rw [if_pos c6] at H
            have c6b0 : decide (1 < (((rd_T33 t123 0).f1).length : Int)) = true := decide_eq_true c6
            have c6b1 : decide (1 < ((rd_T33 t123 0).f1).length) = true := decide_eq_true (by omega)
            clear c6
            by_cases c7 : (rdOf ByteArray.empty ((rd_T33 t123 0).f1) 1).toList = ([98] : List UInt8)
            · rw [if_pos c7] at H
              have c7b0 : ((rdOf ByteArray.empty ((rd_T33 t123 0).f1) 1).toList == ([98] : List UInt8)) = true := beq_iff_eq.mpr c7
              have c7b1 : ((rdOf ByteArray.empty ((rd_T33 t123 0).f1) 1).toList != ([98] : List UInt8)) = false := bne_eq_false_iff_eq.mpr c7
              clear c7
              replace H := Option.bind_eq_some_iff.mp H
              obtain ⟨t130, A80, H⟩ := H
              replace H : (if t130 = true then ((lex_Name.f (⟨#[49, 119]⟩ : ByteArray)).bind fun t131 => (some (!t131))) else (some false)) = some r := H
              have A8 := Aside0.mk A80
              clear A80
              by_cases c9 : t130 = true
              · subst c9
                have H1 : ((lex_Name.f (⟨#[49, 119]⟩ : ByteArray)).bind fun t131 => (some (!t131))) = some r := by rw [if_pos rfl] at H; exact H
                clear H
                have H := H1
                clear H1
                replace H := Option.bind_eq_some_iff.mp H
                obtain ⟨t131, A100, H⟩ := H
                replace H : (some (!t131)) = some r := H
                have A10 := Aside0.mk A100
                clear A100
                obtain rfl := Option.some.inj H
                go_enter Tryd.func8, Tryd.ntmps8
                go_wp2_with (first | ((with_reducible refine gate_callee (f := 11) rfl ?_); refine goesL_ (some 2) rfl rfl Tryd.func11 (by kernel_rfl) rfl #[.string (⟨#[10, 97, 32, 32, 98, 32, 35, 32, 99]⟩ : ByteArray)] rfl (by (try simp only [List.map_toArray, List.map_cons, List.map_nil]); first | done | rfl | (simp only [List.length_drop, List.length_take]; rfl)) ?_; (with_reducible refine (lex_Lines.calls k (⟨#[10, 97, 32, 32, 98, 32, 35, 32, 99]⟩ : ByteArray) t123 _ A1.out).mono ?_); rintro e w11 ⟨v124, rfl, ho0, hb⟩; refine ⟨_, rfl, ?_⟩; have n0_ := Aside0.mk (Kd.S_lower ho0 (below_size (by repeat (first | (with_reducible first | exact HB.out | apply below_alloc | apply pw_below_drewN | apply below_drew1) | exact HB.out)))); have n1_ := Aside0.mk (below_step (by repeat (first | (with_reducible first | exact HB.out | apply below_alloc | apply pw_below_drewN | apply below_drew1) | exact HB.out)) hb); clear HB; have HO125 := n0_; have HB := n1_; clear n0_ n1_; (try clear hb); (try clear hb2); (try clear hk); (try clear hi); (try clear ho0); obtain ⟨Ao12, co12, eo12⟩ := Kd.S_slice HO125.out; subst eo12; have p126 : 0 ≤ (0 : Int) := (by omega); have q126 : 0 < (t123.length : Int) := of_decide_eq_true (by first | (with_reducible assumption) | assumption); obtain ⟨ad126, A126_1, c126_1, e126, hx126_0, hx126_1, hl126_1, hi126_1⟩ := at_T33 (Kd.S_reads' HO125.out).2.2 0 p126 q126; cases e126; obtain ⟨ce126, hce126, hMe126, hcc126⟩ := Kd.S_get HO125.out z33 0 p126 (by first | exact q126 | exact of_decide_eq_true (by first | (with_reducible assumption) | assumption) | (have e_ := (Kd.S_reads' HO125.out).1; omega)); obtain ⟨ve126_1, rfl, ge126_1⟩ := k33_openM hMe126; have hv126_1 := hcc126 1 _ rfl; rw [add_field _ _ 1 (by omega)] at hv126_1; replace hv126_1 := Option.some.inj (hv126_1.symm.trans hx126_1); rw [hv126_1] at ge126_1; have HL126_1 := Aside0.mk (show Kd.R Kd.string 9 _ _ _ _ ((rd_T33 t123 0).f1) from ge126_1); clear hv126_1 ge126_1; clear hcc126 hce126; have qi126 : (0 < t123.length) = True := eq_true (by omega); (try rw [show ((0 : Int)).toNat = 0 from rfl] at hx126_0); (try rw [show 0 * 2 = 0 from rfl] at hx126_0); (try rw [Addr.add_zero'] at hx126_0); (try rw [show ((0 : Int)).toNat = 0 from rfl] at hx126_1); (try rw [show 0 * 2 = 0 from rfl] at hx126_1); (try rw [Addr.add_zero'] at hx126_1); have HR126_1 := Aside0.mk hi126_1; have HC126_1 := Aside0.mk hl126_1; clear hi126_1 hl126_1; replace p126 := eq_true p126; replace q126 := eq_true q126; have p127 : 0 ≤ (0 : Int) := (by omega); have q127 : 0 < (t123.length : Int) := of_decide_eq_true (by first | (with_reducible assumption) | assumption); obtain ⟨ad127, A127_1, c127_1, e127, hx127_0, hx127_1, hl127_1, hi127_1⟩ := at_T33 (Kd.S_reads' HO125.out).2.2 0 p127 q127; obtain rfl : ad126 = ad127 := (by injection e127); obtain ⟨ce127, hce127, hMe127, hcc127⟩ := Kd.S_get HO125.out z33 0 p127 (by first | exact q127 | exact of_decide_eq_true (by first | (with_reducible assumption) | assumption) | (have e_ := (Kd.S_reads' HO125.out).1; omega)); obtain ⟨ve127_1, rfl, ge127_1⟩ := k33_openM hMe127; have hv127_1 := hcc127 1 _ rfl; rw [add_field _ _ 1 (by omega)] at hv127_1; replace hv127_1 := Option.some.inj (hv127_1.symm.trans hx127_1); rw [hv127_1] at ge127_1; have HL127_1 := Aside0.mk (show Kd.R Kd.string 9 _ _ _ _ ((rd_T33 t123 0).f1) from ge127_1); clear hv127_1 ge127_1; clear hcc127 hce127; have qi127 : (0 < t123.length) = True := eq_true (by omega); (try rw [show ((0 : Int)).toNat = 0 from rfl] at hx127_0); (try rw [show 0 * 2 = 0 from rfl] at hx127_0); (try rw [Addr.add_zero'] at hx127_0); (try rw [show ((0 : Int)).toNat = 0 from rfl] at hx127_1); (try rw [show 0 * 2 = 0 from rfl] at hx127_1); (try rw [Addr.add_zero'] at hx127_1); have HR127_1 := Aside0.mk hi127_1; have HC127_1 := Aside0.mk hl127_1; clear hi127_1 hl127_1; replace p127 := eq_true p127; replace q127 := eq_true q127; have ea_ := Option.some.inj (hx126_1.symm.trans hx127_1); injection ea_ with ea_ en_ ec_; subst ea_; subst ec_; clear en_; have p128 : 0 ≤ (0 : Int) := (by omega); have q128 : 0 < (t123.length : Int) := of_decide_eq_true (by first | (with_reducible assumption) | assumption); obtain ⟨ad128, A128_1, c128_1, e128, hx128_0, hx128_1, hl128_1, hi128_1⟩ := at_T33 (Kd.S_reads' HO125.out).2.2 0 p128 q128; obtain rfl : ad126 = ad128 := (by injection e128); obtain ⟨ce128, hce128, hMe128, hcc128⟩ := Kd.S_get HO125.out z33 0 p128 (by first | exact q128 | exact of_decide_eq_true (by first | (with_reducible assumption) | assumption) | (have e_ := (Kd.S_reads' HO125.out).1; omega)); obtain ⟨ve128_1, rfl, ge128_1⟩ := k33_openM hMe128; have hv128_1 := hcc128 1 _ rfl; rw [add_field _ _ 1 (by omega)] at hv128_1; replace hv128_1 := Option.some.inj (hv128_1.symm.trans hx128_1); rw [hv128_1] at ge128_1; have HL128_1 := Aside0.mk (show Kd.R Kd.string 9 _ _ _ _ ((rd_T33 t123 0).f1) from ge128_1); clear hv128_1 ge128_1; clear hcc128 hce128; have qi128 : (0 < t123.length) = True := eq_true (by omega); (try rw [show ((0 : Int)).toNat = 0 from rfl] at hx128_0); (try rw [show 0 * 2 = 0 from rfl] at hx128_0); (try rw [Addr.add_zero'] at hx128_0); (try rw [show ((0 : Int)).toNat = 0 from rfl] at hx128_1); (try rw [show 0 * 2 = 0 from rfl] at hx128_1); (try rw [Addr.add_zero'] at hx128_1); have HR128_1 := Aside0.mk hi128_1; have HC128_1 := Aside0.mk hl128_1; clear hi128_1 hl128_1; replace p128 := eq_true p128; replace q128 := eq_true q128; have ea_ := Option.some.inj (hx126_1.symm.trans hx128_1); injection ea_ with ea_ en_ ec_; subst ea_; subst ec_; clear en_; have p129 : 0 ≤ (1 : Int) := (by omega); have q129 : 1 < (((rd_T33 t123 0).f1).length : Int) := of_decide_eq_true (by first | (with_reducible assumption) | assumption); obtain ⟨ad129, e129, hx129_0⟩ := Kd.at_string (by repeat (first | (with_reducible exact HR128_1.out) | (with_reducible refine Kd.C_alloc ?_ _) | (with_reducible refine Kd.C_drewN ?_ _) | (with_reducible refine Kd.C_drew ?_) | exact HR128_1.out)) 1 p129 q129; cases e129; (try simp only [show (1 : Int).toNat = 1 from rfl, Nat.reduceMul, Nat.reduceEqDiff, Go.Addr.add, ↓reduceIte] at hx129_0); have qi129 : (1 < ((rd_T33 t123 0).f1).length) = True := eq_true (by omega); (try rw [show ((1 : Int)).toNat = 1 from rfl] at hx129_0); replace p129 := eq_true p129; replace q129 := eq_true q129) | (go_at_call 13; (with_reducible refine (lex_Name.calls (⟨#[119, 49]⟩ : ByteArray) true _ A8.out).mono ?_); rintro e w13 ⟨rfl, hb⟩; have n0_ := Aside0.mk (Kd.S_below (by (with_reducible repeat (first | apply Kd.S_alloc | apply Kd.S_drewN | apply Kd.S_drew)); exact HO125.out) hb); have n1_ := Aside0.mk (Kd.R_below (by (with_reducible repeat (first | apply Kd.R_alloc | apply Kd.R_drewN | apply Kd.R_drew)); exact HL126_1.out) hb); have n2_ := Aside0.mk (Kd.R_below (by (with_reducible repeat (first | apply Kd.R_alloc | apply Kd.R_drewN | apply Kd.R_drew)); exact HL127_1.out) hb); have n3_ := Aside0.mk (Kd.R_below (by (with_reducible repeat (first | apply Kd.R_alloc | apply Kd.R_drewN | apply Kd.R_drew)); exact HL128_1.out) hb); have n4_ := Aside0.mk (Kd.C_below (by repeat (first | (with_reducible exact HR126_1.out) | (with_reducible refine Kd.C_alloc ?_ _) | (with_reducible refine Kd.C_drewN ?_ _) | (with_reducible refine Kd.C_drew ?_) | exact HR126_1.out)) hb); have n5_ := Aside0.mk (Kd.C_below (by repeat (first | (with_reducible exact HR127_1.out) | (with_reducible refine Kd.C_alloc ?_ _) | (with_reducible refine Kd.C_drewN ?_ _) | (with_reducible refine Kd.C_drew ?_) | exact HR127_1.out)) hb); have n6_ := Aside0.mk (Kd.C_below (by repeat (first | (with_reducible exact HR128_1.out) | (with_reducible refine Kd.C_alloc ?_ _) | (with_reducible refine Kd.C_drewN ?_ _) | (with_reducible refine Kd.C_drew ?_) | exact HR128_1.out)) hb); have n7_ := Aside0.mk (below_step (by repeat (first | (with_reducible first | exact HB.out | apply below_alloc | apply pw_below_drewN | apply below_drew1) | exact HB.out)) hb); clear HO125; clear HL126_1; clear HL127_1; clear HL128_1; clear HR126_1; clear HR127_1; clear HR128_1; clear HB; have HO125 := n0_; have HL126_1 := n1_; have HL127_1 := n2_; have HL128_1 := n3_; have HR126_1 := n4_; have HR127_1 := n5_; have HR128_1 := n6_; have HB := n7_; clear n0_ n1_ n2_ n3_ n4_ n5_ n6_ n7_; (try clear hb); (try clear hb2); (try clear hk); (try clear hi)) | (go_at_call 13; (with_reducible refine (lex_Name.calls (⟨#[49, 119]⟩ : ByteArray) t131 _ A10.out).mono ?_); rintro e w14 ⟨rfl, hb⟩; have n0_ := Aside0.mk (Kd.S_below (by (with_reducible repeat (first | apply Kd.S_alloc | apply Kd.S_drewN | apply Kd.S_drew)); exact HO125.out) hb); have n1_ := Aside0.mk (Kd.R_below (by (with_reducible repeat (first | apply Kd.R_alloc | apply Kd.R_drewN | apply Kd.R_drew)); exact HL126_1.out) hb); have n2_ := Aside0.mk (Kd.R_below (by (with_reducible repeat (first | apply Kd.R_alloc | apply Kd.R_drewN | apply Kd.R_drew)); exact HL127_1.out) hb); have n3_ := Aside0.mk (Kd.R_below (by (with_reducible repeat (first | apply Kd.R_alloc | apply Kd.R_drewN | apply Kd.R_drew)); exact HL128_1.out) hb); have n4_ := Aside0.mk (Kd.C_below (by repeat (first | (with_reducible exact HR126_1.out) | (with_reducible refine Kd.C_alloc ?_ _) | (with_reducible refine Kd.C_drewN ?_ _) | (with_reducible refine Kd.C_drew ?_) | exact HR126_1.out)) hb); have n5_ := Aside0.mk (Kd.C_below (by repeat (first | (with_reducible exact HR127_1.out) | (with_reducible refine Kd.C_alloc ?_ _) | (with_reducible refine Kd.C_drewN ?_ _) | (with_reducible refine Kd.C_drew ?_) | exact HR127_1.out)) hb); have n6_ := Aside0.mk (Kd.C_below (by repeat (first | (with_reducible exact HR128_1.out) | (with_reducible refine Kd.C_alloc ?_ _) | (with_reducible refine Kd.C_drewN ?_ _) | (with_reducible refine Kd.C_drew ?_) | exact HR128_1.out)) hb); have n7_ := Aside0.mk (below_step (by repeat (first | (with_reducible first | exact HB.out | apply below_alloc | apply pw_below_drewN | apply below_drew1) | exact HB.out)) hb); clear HO125; clear HL126_1; clear HL127_1; clear HL128_1; clear HR126_1; clear HR127_1; clear HR128_1; clear HB; have HO125 := n0_; have HL126_1 := n1_; have HL127_1 := n2_; have HL128_1 := n3_; have HR126_1 := n4_; have HR127_1 := n5_; have HR128_1 := n6_; have HB := n7_; clear n0_ n1_ n2_ n3_ n4_ n5_ n6_ n7_; (try clear hb); (try clear hb2); (try clear hk); (try clear hi)))
                go_ret
                exact ⟨by first | rfl | (simp [errW_none, errW_some] <;> rfl) | (simp [*, errW_none, errW_some] <;> rfl), by repeat (first | (with_reducible first | exact HB.out | apply below_alloc | apply pw_below_drewN | apply below_drew1) | exact HB.out)⟩
              · replace c9 := Bool.eq_false_iff.mpr c9
                subst c9
                have H1 : (some false) = some r := by rw [if_neg (show ¬ (false = true) by decide)] at H; exact H
                clear H
                have H := H1
                clear H1
                obtain rfl := Option.some.inj H
                go_enter Tryd.func8, Tryd.ntmps8
                go_wp2_with (first | ((with_reducible refine gate_callee (f := 11) rfl ?_); refine goesL_ (some 2) rfl rfl Tryd.func11 (by kernel_rfl) rfl #[.string (⟨#[10, 97, 32, 32, 98, 32, 35, 32, 99]⟩ : ByteArray)] rfl (by (try simp only [List.map_toArray, List.map_cons, List.map_nil]); first | done | rfl | (simp only [List.length_drop, List.length_take]; rfl)) ?_; (with_reducible refine (lex_Lines.calls k (⟨#[10, 97, 32, 32, 98, 32, 35, 32, 99]⟩ : ByteArray) t123 _ A1.out).mono ?_); rintro e w15 ⟨v124, rfl, ho0, hb⟩; refine ⟨_, rfl, ?_⟩; have n0_ := Aside0.mk (Kd.S_lower ho0 (below_size (by repeat (first | (with_reducible first | exact HB.out | apply below_alloc | apply pw_below_drewN | apply below_drew1) | exact HB.out)))); have n1_ := Aside0.mk (below_step (by repeat (first | (with_reducible first | exact HB.out | apply below_alloc | apply pw_below_drewN | apply below_drew1) | exact HB.out)) hb); clear HB; have HO125 := n0_; have HB := n1_; clear n0_ n1_; (try clear hb); (try clear hb2); (try clear hk); (try clear hi); (try clear ho0); obtain ⟨Ao16, co16, eo16⟩ := Kd.S_slice HO125.out; subst eo16; have p126 : 0 ≤ (0 : Int) := (by omega); have q126 : 0 < (t123.length : Int) := of_decide_eq_true (by first | (with_reducible assumption) | assumption); obtain ⟨ad126, A126_1, c126_1, e126, hx126_0, hx126_1, hl126_1, hi126_1⟩ := at_T33 (Kd.S_reads' HO125.out).2.2 0 p126 q126; cases e126; obtain ⟨ce126, hce126, hMe126, hcc126⟩ := Kd.S_get HO125.out z33 0 p126 (by first | exact q126 | exact of_decide_eq_true (by first | (with_reducible assumption) | assumption) | (have e_ := (Kd.S_reads' HO125.out).1; omega)); obtain ⟨ve126_1, rfl, ge126_1⟩ := k33_openM hMe126; have hv126_1 := hcc126 1 _ rfl; rw [add_field _ _ 1 (by omega)] at hv126_1; replace hv126_1 := Option.some.inj (hv126_1.symm.trans hx126_1); rw [hv126_1] at ge126_1; have HL126_1 := Aside0.mk (show Kd.R Kd.string 9 _ _ _ _ ((rd_T33 t123 0).f1) from ge126_1); clear hv126_1 ge126_1; clear hcc126 hce126; have qi126 : (0 < t123.length) = True := eq_true (by omega); (try rw [show ((0 : Int)).toNat = 0 from rfl] at hx126_0); (try rw [show 0 * 2 = 0 from rfl] at hx126_0); (try rw [Addr.add_zero'] at hx126_0); (try rw [show ((0 : Int)).toNat = 0 from rfl] at hx126_1); (try rw [show 0 * 2 = 0 from rfl] at hx126_1); (try rw [Addr.add_zero'] at hx126_1); have HR126_1 := Aside0.mk hi126_1; have HC126_1 := Aside0.mk hl126_1; clear hi126_1 hl126_1; replace p126 := eq_true p126; replace q126 := eq_true q126; have p127 : 0 ≤ (0 : Int) := (by omega); have q127 : 0 < (t123.length : Int) := of_decide_eq_true (by first | (with_reducible assumption) | assumption); obtain ⟨ad127, A127_1, c127_1, e127, hx127_0, hx127_1, hl127_1, hi127_1⟩ := at_T33 (Kd.S_reads' HO125.out).2.2 0 p127 q127; obtain rfl : ad126 = ad127 := (by injection e127); obtain ⟨ce127, hce127, hMe127, hcc127⟩ := Kd.S_get HO125.out z33 0 p127 (by first | exact q127 | exact of_decide_eq_true (by first | (with_reducible assumption) | assumption) | (have e_ := (Kd.S_reads' HO125.out).1; omega)); obtain ⟨ve127_1, rfl, ge127_1⟩ := k33_openM hMe127; have hv127_1 := hcc127 1 _ rfl; rw [add_field _ _ 1 (by omega)] at hv127_1; replace hv127_1 := Option.some.inj (hv127_1.symm.trans hx127_1); rw [hv127_1] at ge127_1; have HL127_1 := Aside0.mk (show Kd.R Kd.string 9 _ _ _ _ ((rd_T33 t123 0).f1) from ge127_1); clear hv127_1 ge127_1; clear hcc127 hce127; have qi127 : (0 < t123.length) = True := eq_true (by omega); (try rw [show ((0 : Int)).toNat = 0 from rfl] at hx127_0); (try rw [show 0 * 2 = 0 from rfl] at hx127_0); (try rw [Addr.add_zero'] at hx127_0); (try rw [show ((0 : Int)).toNat = 0 from rfl] at hx127_1); (try rw [show 0 * 2 = 0 from rfl] at hx127_1); (try rw [Addr.add_zero'] at hx127_1); have HR127_1 := Aside0.mk hi127_1; have HC127_1 := Aside0.mk hl127_1; clear hi127_1 hl127_1; replace p127 := eq_true p127; replace q127 := eq_true q127; have ea_ := Option.some.inj (hx126_1.symm.trans hx127_1); injection ea_ with ea_ en_ ec_; subst ea_; subst ec_; clear en_; have p128 : 0 ≤ (0 : Int) := (by omega); have q128 : 0 < (t123.length : Int) := of_decide_eq_true (by first | (with_reducible assumption) | assumption); obtain ⟨ad128, A128_1, c128_1, e128, hx128_0, hx128_1, hl128_1, hi128_1⟩ := at_T33 (Kd.S_reads' HO125.out).2.2 0 p128 q128; obtain rfl : ad126 = ad128 := (by injection e128); obtain ⟨ce128, hce128, hMe128, hcc128⟩ := Kd.S_get HO125.out z33 0 p128 (by first | exact q128 | exact of_decide_eq_true (by first | (with_reducible assumption) | assumption) | (have e_ := (Kd.S_reads' HO125.out).1; omega)); obtain ⟨ve128_1, rfl, ge128_1⟩ := k33_openM hMe128; have hv128_1 := hcc128 1 _ rfl; rw [add_field _ _ 1 (by omega)] at hv128_1; replace hv128_1 := Option.some.inj (hv128_1.symm.trans hx128_1); rw [hv128_1] at ge128_1; have HL128_1 := Aside0.mk (show Kd.R Kd.string 9 _ _ _ _ ((rd_T33 t123 0).f1) from ge128_1); clear hv128_1 ge128_1; clear hcc128 hce128; have qi128 : (0 < t123.length) = True := eq_true (by omega); (try rw [show ((0 : Int)).toNat = 0 from rfl] at hx128_0); (try rw [show 0 * 2 = 0 from rfl] at hx128_0); (try rw [Addr.add_zero'] at hx128_0); (try rw [show ((0 : Int)).toNat = 0 from rfl] at hx128_1); (try rw [show 0 * 2 = 0 from rfl] at hx128_1); (try rw [Addr.add_zero'] at hx128_1); have HR128_1 := Aside0.mk hi128_1; have HC128_1 := Aside0.mk hl128_1; clear hi128_1 hl128_1; replace p128 := eq_true p128; replace q128 := eq_true q128; have ea_ := Option.some.inj (hx126_1.symm.trans hx128_1); injection ea_ with ea_ en_ ec_; subst ea_; subst ec_; clear en_; have p129 : 0 ≤ (1 : Int) := (by omega); have q129 : 1 < (((rd_T33 t123 0).f1).length : Int) := of_decide_eq_true (by first | (with_reducible assumption) | assumption); obtain ⟨ad129, e129, hx129_0⟩ := Kd.at_string (by repeat (first | (with_reducible exact HR128_1.out) | (with_reducible refine Kd.C_alloc ?_ _) | (with_reducible refine Kd.C_drewN ?_ _) | (with_reducible refine Kd.C_drew ?_) | exact HR128_1.out)) 1 p129 q129; cases e129; (try simp only [show (1 : Int).toNat = 1 from rfl, Nat.reduceMul, Nat.reduceEqDiff, Go.Addr.add, ↓reduceIte] at hx129_0); have qi129 : (1 < ((rd_T33 t123 0).f1).length) = True := eq_true (by omega); (try rw [show ((1 : Int)).toNat = 1 from rfl] at hx129_0); replace p129 := eq_true p129; replace q129 := eq_true q129) | (go_at_call 13; (with_reducible refine (lex_Name.calls (⟨#[119, 49]⟩ : ByteArray) false _ A8.out).mono ?_); rintro e w17 ⟨rfl, hb⟩; have n0_ := Aside0.mk (Kd.S_below (by (with_reducible repeat (first | apply Kd.S_alloc | apply Kd.S_drewN | apply Kd.S_drew)); exact HO125.out) hb); have n1_ := Aside0.mk (Kd.R_below (by (with_reducible repeat (first | apply Kd.R_alloc | apply Kd.R_drewN | apply Kd.R_drew)); exact HL126_1.out) hb); have n2_ := Aside0.mk (Kd.R_below (by (with_reducible repeat (first | apply Kd.R_alloc | apply Kd.R_drewN | apply Kd.R_drew)); exact HL127_1.out) hb); have n3_ := Aside0.mk (Kd.R_below (by (with_reducible repeat (first | apply Kd.R_alloc | apply Kd.R_drewN | apply Kd.R_drew)); exact HL128_1.out) hb); have n4_ := Aside0.mk (Kd.C_below (by repeat (first | (with_reducible exact HR126_1.out) | (with_reducible refine Kd.C_alloc ?_ _) | (with_reducible refine Kd.C_drewN ?_ _) | (with_reducible refine Kd.C_drew ?_) | exact HR126_1.out)) hb); have n5_ := Aside0.mk (Kd.C_below (by repeat (first | (with_reducible exact HR127_1.out) | (with_reducible refine Kd.C_alloc ?_ _) | (with_reducible refine Kd.C_drewN ?_ _) | (with_reducible refine Kd.C_drew ?_) | exact HR127_1.out)) hb); have n6_ := Aside0.mk (Kd.C_below (by repeat (first | (with_reducible exact HR128_1.out) | (with_reducible refine Kd.C_alloc ?_ _) | (with_reducible refine Kd.C_drewN ?_ _) | (with_reducible refine Kd.C_drew ?_) | exact HR128_1.out)) hb); have n7_ := Aside0.mk (below_step (by repeat (first | (with_reducible first | exact HB.out | apply below_alloc | apply pw_below_drewN | apply below_drew1) | exact HB.out)) hb); clear HO125; clear HL126_1; clear HL127_1; clear HL128_1; clear HR126_1; clear HR127_1; clear HR128_1; clear HB; have HO125 := n0_; have HL126_1 := n1_; have HL127_1 := n2_; have HL128_1 := n3_; have HR126_1 := n4_; have HR127_1 := n5_; have HR128_1 := n6_; have HB := n7_; clear n0_ n1_ n2_ n3_ n4_ n5_ n6_ n7_; (try clear hb); (try clear hb2); (try clear hk); (try clear hi)))
                go_ret
                exact ⟨by first | rfl | (simp [errW_none, errW_some] <;> rfl) | (simp [*, errW_none, errW_some] <;> rfl), by repeat (first | (with_reducible first | exact HB.out | apply below_alloc | apply pw_below_drewN | apply below_drew1) | exact HB.out)⟩
            · rw [if_neg c7] at H
              have c7b0 : ((rdOf ByteArray.empty ((rd_T33 t123 0).f1) 1).toList == ([98] : List UInt8)) = false := beq_eq_false_iff_ne.mpr c7
              have c7b1 : ((rdOf ByteArray.empty ((rd_T33 t123 0).f1) 1).toList != ([98] : List UInt8)) = true := bne_iff_ne.mpr c7
              obtain rfl := Option.some.inj H
              go_enter Tryd.func8, Tryd.ntmps8
              go_wp2_with (first | ((with_reducible refine gate_callee (f := 11) rfl ?_); refine goesL_ (some 2) rfl rfl Tryd.func11 (by kernel_rfl) rfl #[.string (⟨#[10, 97, 32, 32, 98, 32, 35, 32, 99]⟩ : ByteArray)] rfl (by (try simp only [List.map_toArray, List.map_cons, List.map_nil]); first | done | rfl | (simp only [List.length_drop, List.length_take]; rfl)) ?_; (with_reducible refine (lex_Lines.calls k (⟨#[10, 97, 32, 32, 98, 32, 35, 32, 99]⟩ : ByteArray) t123 _ A1.out).mono ?_); rintro e w18 ⟨v124, rfl, ho0, hb⟩; refine ⟨_, rfl, ?_⟩; have n0_ := Aside0.mk (Kd.S_lower ho0 (below_size (by repeat (first | (with_reducible first | exact HB.out | apply below_alloc | apply pw_below_drewN | apply below_drew1) | exact HB.out)))); have n1_ := Aside0.mk (below_step (by repeat (first | (with_reducible first | exact HB.out | apply below_alloc | apply pw_below_drewN | apply below_drew1) | exact HB.out)) hb); clear HB; have HO125 := n0_; have HB := n1_; clear n0_ n1_; (try clear hb); (try clear hb2); (try clear hk); (try clear hi); (try clear ho0); obtain ⟨Ao19, co19, eo19⟩ := Kd.S_slice HO125.out; subst eo19; have p126 : 0 ≤ (0 : Int) := (by omega); have q126 : 0 < (t123.length : Int) := of_decide_eq_true (by first | (with_reducible assumption) | assumption); obtain ⟨ad126, A126_1, c126_1, e126, hx126_0, hx126_1, hl126_1, hi126_1⟩ := at_T33 (Kd.S_reads' HO125.out).2.2 0 p126 q126; cases e126; obtain ⟨ce126, hce126, hMe126, hcc126⟩ := Kd.S_get HO125.out z33 0 p126 (by first | exact q126 | exact of_decide_eq_true (by first | (with_reducible assumption) | assumption) | (have e_ := (Kd.S_reads' HO125.out).1; omega)); obtain ⟨ve126_1, rfl, ge126_1⟩ := k33_openM hMe126; have hv126_1 := hcc126 1 _ rfl; rw [add_field _ _ 1 (by omega)] at hv126_1; replace hv126_1 := Option.some.inj (hv126_1.symm.trans hx126_1); rw [hv126_1] at ge126_1; have HL126_1 := Aside0.mk (show Kd.R Kd.string 9 _ _ _ _ ((rd_T33 t123 0).f1) from ge126_1); clear hv126_1 ge126_1; clear hcc126 hce126; have qi126 : (0 < t123.length) = True := eq_true (by omega); (try rw [show ((0 : Int)).toNat = 0 from rfl] at hx126_0); (try rw [show 0 * 2 = 0 from rfl] at hx126_0); (try rw [Addr.add_zero'] at hx126_0); (try rw [show ((0 : Int)).toNat = 0 from rfl] at hx126_1); (try rw [show 0 * 2 = 0 from rfl] at hx126_1); (try rw [Addr.add_zero'] at hx126_1); have HR126_1 := Aside0.mk hi126_1; have HC126_1 := Aside0.mk hl126_1; clear hi126_1 hl126_1; replace p126 := eq_true p126; replace q126 := eq_true q126; have p127 : 0 ≤ (0 : Int) := (by omega); have q127 : 0 < (t123.length : Int) := of_decide_eq_true (by first | (with_reducible assumption) | assumption); obtain ⟨ad127, A127_1, c127_1, e127, hx127_0, hx127_1, hl127_1, hi127_1⟩ := at_T33 (Kd.S_reads' HO125.out).2.2 0 p127 q127; obtain rfl : ad126 = ad127 := (by injection e127); obtain ⟨ce127, hce127, hMe127, hcc127⟩ := Kd.S_get HO125.out z33 0 p127 (by first | exact q127 | exact of_decide_eq_true (by first | (with_reducible assumption) | assumption) | (have e_ := (Kd.S_reads' HO125.out).1; omega)); obtain ⟨ve127_1, rfl, ge127_1⟩ := k33_openM hMe127; have hv127_1 := hcc127 1 _ rfl; rw [add_field _ _ 1 (by omega)] at hv127_1; replace hv127_1 := Option.some.inj (hv127_1.symm.trans hx127_1); rw [hv127_1] at ge127_1; have HL127_1 := Aside0.mk (show Kd.R Kd.string 9 _ _ _ _ ((rd_T33 t123 0).f1) from ge127_1); clear hv127_1 ge127_1; clear hcc127 hce127; have qi127 : (0 < t123.length) = True := eq_true (by omega); (try rw [show ((0 : Int)).toNat = 0 from rfl] at hx127_0); (try rw [show 0 * 2 = 0 from rfl] at hx127_0); (try rw [Addr.add_zero'] at hx127_0); (try rw [show ((0 : Int)).toNat = 0 from rfl] at hx127_1); (try rw [show 0 * 2 = 0 from rfl] at hx127_1); (try rw [Addr.add_zero'] at hx127_1); have HR127_1 := Aside0.mk hi127_1; have HC127_1 := Aside0.mk hl127_1; clear hi127_1 hl127_1; replace p127 := eq_true p127; replace q127 := eq_true q127; have ea_ := Option.some.inj (hx126_1.symm.trans hx127_1); injection ea_ with ea_ en_ ec_; subst ea_; subst ec_; clear en_; have p128 : 0 ≤ (0 : Int) := (by omega); have q128 : 0 < (t123.length : Int) := of_decide_eq_true (by first | (with_reducible assumption) | assumption); obtain ⟨ad128, A128_1, c128_1, e128, hx128_0, hx128_1, hl128_1, hi128_1⟩ := at_T33 (Kd.S_reads' HO125.out).2.2 0 p128 q128; obtain rfl : ad126 = ad128 := (by injection e128); obtain ⟨ce128, hce128, hMe128, hcc128⟩ := Kd.S_get HO125.out z33 0 p128 (by first | exact q128 | exact of_decide_eq_true (by first | (with_reducible assumption) | assumption) | (have e_ := (Kd.S_reads' HO125.out).1; omega)); obtain ⟨ve128_1, rfl, ge128_1⟩ := k33_openM hMe128; have hv128_1 := hcc128 1 _ rfl; rw [add_field _ _ 1 (by omega)] at hv128_1; replace hv128_1 := Option.some.inj (hv128_1.symm.trans hx128_1); rw [hv128_1] at ge128_1; have HL128_1 := Aside0.mk (show Kd.R Kd.string 9 _ _ _ _ ((rd_T33 t123 0).f1) from ge128_1); clear hv128_1 ge128_1; clear hcc128 hce128; have qi128 : (0 < t123.length) = True := eq_true (by omega); (try rw [show ((0 : Int)).toNat = 0 from rfl] at hx128_0); (try rw [show 0 * 2 = 0 from rfl] at hx128_0); (try rw [Addr.add_zero'] at hx128_0); (try rw [show ((0 : Int)).toNat = 0 from rfl] at hx128_1); (try rw [show 0 * 2 = 0 from rfl] at hx128_1); (try rw [Addr.add_zero'] at hx128_1); have HR128_1 := Aside0.mk hi128_1; have HC128_1 := Aside0.mk hl128_1; clear hi128_1 hl128_1; replace p128 := eq_true p128; replace q128 := eq_true q128; have ea_ := Option.some.inj (hx126_1.symm.trans hx128_1); injection ea_ with ea_ en_ ec_; subst ea_; subst ec_; clear en_; have p129 : 0 ≤ (1 : Int) := (by omega); have q129 : 1 < (((rd_T33 t123 0).f1).length : Int) := of_decide_eq_true (by first | (with_reducible assumption) | assumption); obtain ⟨ad129, e129, hx129_0⟩ := Kd.at_string (by repeat (first | (with_reducible exact HR128_1.out) | (with_reducible refine Kd.C_alloc ?_ _) | (with_reducible refine Kd.C_drewN ?_ _) | (with_reducible refine Kd.C_drew ?_) | exact HR128_1.out)) 1 p129 q129; cases e129; (try simp only [show (1 : Int).toNat = 1 from rfl, Nat.reduceMul, Nat.reduceEqDiff, Go.Addr.add, ↓reduceIte] at hx129_0); have qi129 : (1 < ((rd_T33 t123 0).f1).length) = True := eq_true (by omega); (try rw [show ((1 : Int)).toNat = 1 from rfl] at hx129_0); replace p129 := eq_true p129; replace q129 := eq_true q129))
              go_ret
              exact ⟨by first | rfl | (simp [errW_none, errW_some] <;> rfl) | (simp [*, errW_none, errW_some] <;> rfl), by repeat (first | (with_reducible first | exact HB.out | apply below_alloc | apply pw_below_drewN | apply below_drew1) | exact HB.out)⟩
          · rw [if_neg c6] at H
            exact absurd H (by simp)
        · rw [if_neg c5] at H
          have c5b0 : ((((rd_T33 t123 0).f1).length : Int) == 2) = false := beq_eq_false_iff_ne.mpr c5
          have c5b1 : ((((rd_T33 t123 0).f1).length : Int) != 2) = true := bne_iff_ne.mpr c5
          obtain rfl := Option.some.inj H
          go_enter Tryd.func8, Tryd.ntmps8
          go_wp2_with (first | ((with_reducible refine gate_callee (f := 11) rfl ?_); refine goesL_ (some 2) rfl rfl Tryd.func11 (by kernel_rfl) rfl #[.string (⟨#[10, 97, 32, 32, 98, 32, 35, 32, 99]⟩ : ByteArray)] rfl (by (try simp only [List.map_toArray, List.map_cons, List.map_nil]); first | done | rfl | (simp only [List.length_drop, List.length_take]; rfl)) ?_; (with_reducible refine (lex_Lines.calls k (⟨#[10, 97, 32, 32, 98, 32, 35, 32, 99]⟩ : ByteArray) t123 _ A1.out).mono ?_); rintro e w20 ⟨v124, rfl, ho0, hb⟩; refine ⟨_, rfl, ?_⟩; have n0_ := Aside0.mk (Kd.S_lower ho0 (below_size (by repeat (first | (with_reducible first | exact HB.out | apply below_alloc | apply pw_below_drewN | apply below_drew1) | exact HB.out)))); have n1_ := Aside0.mk (below_step (by repeat (first | (with_reducible first | exact HB.out | apply below_alloc | apply pw_below_drewN | apply below_drew1) | exact HB.out)) hb); clear HB; have HO125 := n0_; have HB := n1_; clear n0_ n1_; (try clear hb); (try clear hb2); (try clear hk); (try clear hi); (try clear ho0); obtain ⟨Ao21, co21, eo21⟩ := Kd.S_slice HO125.out; subst eo21; have p126 : 0 ≤ (0 : Int) := (by omega); have q126 : 0 < (t123.length : Int) := of_decide_eq_true (by first | (with_reducible assumption) | assumption); obtain ⟨ad126, A126_1, c126_1, e126, hx126_0, hx126_1, hl126_1, hi126_1⟩ := at_T33 (Kd.S_reads' HO125.out).2.2 0 p126 q126; cases e126; obtain ⟨ce126, hce126, hMe126, hcc126⟩ := Kd.S_get HO125.out z33 0 p126 (by first | exact q126 | exact of_decide_eq_true (by first | (with_reducible assumption) | assumption) | (have e_ := (Kd.S_reads' HO125.out).1; omega)); obtain ⟨ve126_1, rfl, ge126_1⟩ := k33_openM hMe126; have hv126_1 := hcc126 1 _ rfl; rw [add_field _ _ 1 (by omega)] at hv126_1; replace hv126_1 := Option.some.inj (hv126_1.symm.trans hx126_1); rw [hv126_1] at ge126_1; have HL126_1 := Aside0.mk (show Kd.R Kd.string 9 _ _ _ _ ((rd_T33 t123 0).f1) from ge126_1); clear hv126_1 ge126_1; clear hcc126 hce126; have qi126 : (0 < t123.length) = True := eq_true (by omega); (try rw [show ((0 : Int)).toNat = 0 from rfl] at hx126_0); (try rw [show 0 * 2 = 0 from rfl] at hx126_0); (try rw [Addr.add_zero'] at hx126_0); (try rw [show ((0 : Int)).toNat = 0 from rfl] at hx126_1); (try rw [show 0 * 2 = 0 from rfl] at hx126_1); (try rw [Addr.add_zero'] at hx126_1); have HR126_1 := Aside0.mk hi126_1; have HC126_1 := Aside0.mk hl126_1; clear hi126_1 hl126_1; replace p126 := eq_true p126; replace q126 := eq_true q126; have p127 : 0 ≤ (0 : Int) := (by omega); have q127 : 0 < (t123.length : Int) := of_decide_eq_true (by first | (with_reducible assumption) | assumption); obtain ⟨ad127, A127_1, c127_1, e127, hx127_0, hx127_1, hl127_1, hi127_1⟩ := at_T33 (Kd.S_reads' HO125.out).2.2 0 p127 q127; obtain rfl : ad126 = ad127 := (by injection e127); obtain ⟨ce127, hce127, hMe127, hcc127⟩ := Kd.S_get HO125.out z33 0 p127 (by first | exact q127 | exact of_decide_eq_true (by first | (with_reducible assumption) | assumption) | (have e_ := (Kd.S_reads' HO125.out).1; omega)); obtain ⟨ve127_1, rfl, ge127_1⟩ := k33_openM hMe127; have hv127_1 := hcc127 1 _ rfl; rw [add_field _ _ 1 (by omega)] at hv127_1; replace hv127_1 := Option.some.inj (hv127_1.symm.trans hx127_1); rw [hv127_1] at ge127_1; have HL127_1 := Aside0.mk (show Kd.R Kd.string 9 _ _ _ _ ((rd_T33 t123 0).f1) from ge127_1); clear hv127_1 ge127_1; clear hcc127 hce127; have qi127 : (0 < t123.length) = True := eq_true (by omega); (try rw [show ((0 : Int)).toNat = 0 from rfl] at hx127_0); (try rw [show 0 * 2 = 0 from rfl] at hx127_0); (try rw [Addr.add_zero'] at hx127_0); (try rw [show ((0 : Int)).toNat = 0 from rfl] at hx127_1); (try rw [show 0 * 2 = 0 from rfl] at hx127_1); (try rw [Addr.add_zero'] at hx127_1); have HR127_1 := Aside0.mk hi127_1; have HC127_1 := Aside0.mk hl127_1; clear hi127_1 hl127_1; replace p127 := eq_true p127; replace q127 := eq_true q127; have ea_ := Option.some.inj (hx126_1.symm.trans hx127_1); injection ea_ with ea_ en_ ec_; subst ea_; subst ec_; clear en_))
          go_ret
          exact ⟨by first | rfl | (simp [errW_none, errW_some] <;> rfl) | (simp [*, errW_none, errW_some] <;> rfl), by repeat (first | (with_reducible first | exact HB.out | apply below_alloc | apply pw_below_drewN | apply below_drew1) | exact HB.out)⟩
      · rw [if_neg c4] at H
        have c4b0 : (((rd_T33 t123 0).f0) == 2) = false := beq_eq_false_iff_ne.mpr c4
        have c4b1 : (((rd_T33 t123 0).f0) != 2) = true := bne_iff_ne.mpr c4
        obtain rfl := Option.some.inj H
        go_enter Tryd.func8, Tryd.ntmps8
        go_wp2_with (first | ((with_reducible refine gate_callee (f := 11) rfl ?_); refine goesL_ (some 2) rfl rfl Tryd.func11 (by kernel_rfl) rfl #[.string (⟨#[10, 97, 32, 32, 98, 32, 35, 32, 99]⟩ : ByteArray)] rfl (by (try simp only [List.map_toArray, List.map_cons, List.map_nil]); first | done | rfl | (simp only [List.length_drop, List.length_take]; rfl)) ?_; (with_reducible refine (lex_Lines.calls k (⟨#[10, 97, 32, 32, 98, 32, 35, 32, 99]⟩ : ByteArray) t123 _ A1.out).mono ?_); rintro e w22 ⟨v124, rfl, ho0, hb⟩; refine ⟨_, rfl, ?_⟩; have n0_ := Aside0.mk (Kd.S_lower ho0 (below_size (by repeat (first | (with_reducible first | exact HB.out | apply below_alloc | apply pw_below_drewN | apply below_drew1) | exact HB.out)))); have n1_ := Aside0.mk (below_step (by repeat (first | (with_reducible first | exact HB.out | apply below_alloc | apply pw_below_drewN | apply below_drew1) | exact HB.out)) hb); clear HB; have HO125 := n0_; have HB := n1_; clear n0_ n1_; (try clear hb); (try clear hb2); (try clear hk); (try clear hi); (try clear ho0); obtain ⟨Ao23, co23, eo23⟩ := Kd.S_slice HO125.out; subst eo23; have p126 : 0 ≤ (0 : Int) := (by omega); have q126 : 0 < (t123.length : Int) := of_decide_eq_true (by first | (with_reducible assumption) | assumption); obtain ⟨ad126, A126_1, c126_1, e126, hx126_0, hx126_1, hl126_1, hi126_1⟩ := at_T33 (Kd.S_reads' HO125.out).2.2 0 p126 q126; cases e126; obtain ⟨ce126, hce126, hMe126, hcc126⟩ := Kd.S_get HO125.out z33 0 p126 (by first | exact q126 | exact of_decide_eq_true (by first | (with_reducible assumption) | assumption) | (have e_ := (Kd.S_reads' HO125.out).1; omega)); obtain ⟨ve126_1, rfl, ge126_1⟩ := k33_openM hMe126; have hv126_1 := hcc126 1 _ rfl; rw [add_field _ _ 1 (by omega)] at hv126_1; replace hv126_1 := Option.some.inj (hv126_1.symm.trans hx126_1); rw [hv126_1] at ge126_1; have HL126_1 := Aside0.mk (show Kd.R Kd.string 9 _ _ _ _ ((rd_T33 t123 0).f1) from ge126_1); clear hv126_1 ge126_1; clear hcc126 hce126; have qi126 : (0 < t123.length) = True := eq_true (by omega); (try rw [show ((0 : Int)).toNat = 0 from rfl] at hx126_0); (try rw [show 0 * 2 = 0 from rfl] at hx126_0); (try rw [Addr.add_zero'] at hx126_0); (try rw [show ((0 : Int)).toNat = 0 from rfl] at hx126_1); (try rw [show 0 * 2 = 0 from rfl] at hx126_1); (try rw [Addr.add_zero'] at hx126_1); have HR126_1 := Aside0.mk hi126_1; have HC126_1 := Aside0.mk hl126_1; clear hi126_1 hl126_1; replace p126 := eq_true p126; replace q126 := eq_true q126))
        go_ret
        exact ⟨by first | rfl | (simp [errW_none, errW_some] <;> rfl) | (simp [*, errW_none, errW_some] <;> rfl), by repeat (first | (with_reducible first | exact HB.out | apply below_alloc | apply pw_below_drewN | apply below_drew1) | exact HB.out)⟩
    · rw [if_neg c3] at H
      exact absurd H (by simp)
  · rw [if_neg c2] at H
    have c2b0 : ((t123.length : Int) == 1) = false := beq_eq_false_iff_ne.mpr c2
    have c2b1 : ((t123.length : Int) != 1) = true := bne_iff_ne.mpr c2
    obtain rfl := Option.some.inj H
    go_enter Tryd.func8, Tryd.ntmps8
    go_wp2_with (first | ((with_reducible refine gate_callee (f := 11) rfl ?_); refine goesL_ (some 2) rfl rfl Tryd.func11 (by kernel_rfl) rfl #[.string (⟨#[10, 97, 32, 32, 98, 32, 35, 32, 99]⟩ : ByteArray)] rfl (by (try simp only [List.map_toArray, List.map_cons, List.map_nil]); first | done | rfl | (simp only [List.length_drop, List.length_take]; rfl)) ?_; (with_reducible refine (lex_Lines.calls k (⟨#[10, 97, 32, 32, 98, 32, 35, 32, 99]⟩ : ByteArray) t123 _ A1.out).mono ?_); rintro e w24 ⟨v124, rfl, ho0, hb⟩; refine ⟨_, rfl, ?_⟩; have n0_ := Aside0.mk (Kd.S_lower ho0 (below_size (by repeat (first | (with_reducible first | exact HB.out | apply below_alloc | apply pw_below_drewN | apply below_drew1) | exact HB.out)))); have n1_ := Aside0.mk (below_step (by repeat (first | (with_reducible first | exact HB.out | apply below_alloc | apply pw_below_drewN | apply below_drew1) | exact HB.out)) hb); clear HB; have HO125 := n0_; have HB := n1_; clear n0_ n1_; (try clear hb); (try clear hb2); (try clear hk); (try clear hi); (try clear ho0); obtain ⟨Ao25, co25, eo25⟩ := Kd.S_slice HO125.out; subst eo25))
    go_ret
    exact ⟨by first | rfl | (simp [errW_none, errW_some] <;> rfl) | (simp [*, errW_none, errW_some] <;> rfl), by repeat (first | (with_reducible first | exact HB.out | apply below_alloc | apply pw_below_drewN | apply below_drew1) | exact HB.out)⟩

end Go.Proofs.YtihaochmebejbaaDoor.PLexWords
