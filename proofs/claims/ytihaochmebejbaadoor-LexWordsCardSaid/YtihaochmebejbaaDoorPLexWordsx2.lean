-- Written by a program of this session (wip/gen): functions and their contracts.
import Derived.Test.YtihaochmebejbaaDoorPLexWordsx0
import Derived.Test.YtihaochmebejbaaDoorPLexWordsx1
namespace Go.Proofs.YtihaochmebejbaaDoor.PLexWords
open Go.RowKit Go.Proofs.YtihaochmebejbaaDoorW.PrintWords Go.Proofs.YtihaochmebejbaaDoorW.PrintLast Go.Proofs.YtihaochmebejbaaDoorW.PrintMore
attribute [local go_sem] max2_int min2_int max_two min_two max_three min_three max_four min_four   -- for this text's walks alone
set_option linter.unusedVariables false
set_option linter.unusedSimpArgs false

/-! ### tapewrightlaw08_LexWords: function 7 -/
mutual
def tapewrightlaw08_LexWords.l0 : Nat → List ByteArray → ByteArray → ByteArray → List ByteArray → Int → Int → Option (Bool)
  | 0, _, _, _, _, _, _ => none
  | k + 1, x0, x3, x4, x15, x16, x17 => if x17 < x16 then (if 0 ≤ x17 then (if x17 < (x15.length : Int) then ((lex_Name.f (rdOf ByteArray.empty x15 x17)).bind fun t134 => (if t134 = true then (if x17 > 0 then (if x3.size + 1 ≤ 9223372036854775807 then (if x4.size + 1 ≤ 9223372036854775807 then (if (x3 ++ (⟨#[32]⟩ : ByteArray)).size + (rdOf ByteArray.empty x15 x17).size ≤ 9223372036854775807 then (if (x4 ++ (⟨#[10]⟩ : ByteArray)).size + (rdOf ByteArray.empty x15 x17).size ≤ 9223372036854775807 then (tapewrightlaw08_LexWords.l0 k x0 ((x3 ++ (⟨#[32]⟩ : ByteArray)) ++ (rdOf ByteArray.empty x15 x17)) ((x4 ++ (⟨#[10]⟩ : ByteArray)) ++ (rdOf ByteArray.empty x15 x17)) x15 x16 (wrap64 (x17 + 1))) else (none)) else (none)) else (none)) else (none)) else (if x3.size + (rdOf ByteArray.empty x15 x17).size ≤ 9223372036854775807 then (if x4.size + (rdOf ByteArray.empty x15 x17).size ≤ 9223372036854775807 then (tapewrightlaw08_LexWords.l0 k x0 (x3 ++ (rdOf ByteArray.empty x15 x17)) (x4 ++ (rdOf ByteArray.empty x15 x17)) x15 x16 (wrap64 (x17 + 1))) else (none)) else (none))) else ((tapewrightlaw08_awake.f k).bind fun t135 => (some t135)))) else (none)) else (none)) else ((lex_Lines.f k x3).bind fun t136 => ((lex_Lines.f k x4).bind fun t139 => (if (x0.length : Int) = 0 then (if (wrap64 ((t136.length : Int) + (t139.length : Int))) = 0 then ((tapewrightlaw08_awake.f k).bind fun t142 => (some t142)) else (some false)) else (if (t136.length : Int) = 1 then (if 0 < (t136.length : Int) then (if ((rd_T33 t136 0).f0) = 1 then (if (((rd_T33 t136 0).f1).length : Int) = (x0.length : Int) then (tapewrightlaw08_LexWords.j1 k x0 t136 t139 ((t139.length : Int) != (x0.length : Int))) else (tapewrightlaw08_LexWords.j1 k x0 t136 t139 true)) else (tapewrightlaw08_LexWords.j1 k x0 t136 t139 true)) else (none)) else (tapewrightlaw08_LexWords.j1 k x0 t136 t139 true)))))
def tapewrightlaw08_LexWords.j1 : Nat → List ByteArray → List (S33) → List (S33) → Bool → Option (Bool)
  | 0, _, _, _, _ => none
  | k + 1, x0, x7, x8, x81 => if x81 = true then (some false) else (tapewrightlaw08_LexWords.l1 k x7 x8 x0 (x0.length : Int) 0)
def tapewrightlaw08_LexWords.l1 : Nat → List (S33) → List (S33) → List ByteArray → Int → Int → Option (Bool)
  | 0, _, _, _, _, _ => none
  | k + 1, x7, x8, x82, x83, x84 => if x84 < x83 then (if 0 ≤ x84 then (if x84 < (x82.length : Int) then (if 0 < (x7.length : Int) then (if x84 < (((rd_T33 x7 0).f1).length : Int) then (if (rdOf ByteArray.empty ((rd_T33 x7 0).f1) x84).toList = (rdOf ByteArray.empty x82 x84).toList then (if x84 < (x8.length : Int) then (if ((rd_T33 x8 x84).f0) = (wrap64 (x84 + 1)) then (if (((rd_T33 x8 x84).f1).length : Int) = 1 then (if 0 < (((rd_T33 x8 x84).f1).length : Int) then (if (rdOf ByteArray.empty ((rd_T33 x8 x84).f1) 0).toList = (rdOf ByteArray.empty x82 x84).toList then (tapewrightlaw08_LexWords.l1 k x7 x8 x82 x83 (wrap64 (x84 + 1))) else (some false)) else (none)) else (some false)) else (some false)) else (none)) else (some false)) else (none)) else (none)) else (none)) else (none)) else ((tapewrightlaw08_awake.f k).bind fun t152 => (some t152))
end
def tapewrightlaw08_LexWords.f (k : Nat) (l0 : List ByteArray) : Option (Bool) := if (l0.length : Int) > 30 then ((tapewrightlaw08_awake.f k).bind fun t132 => (some t132)) else (tapewrightlaw08_LexWords.l0 k l0 (⟨#[]⟩ : ByteArray) (⟨#[]⟩ : ByteArray) l0 (l0.length : Int) 0)
theorem tapewrightlaw08_LexWords.mono_l : ∀ k, (∀ y0 y1 y2 y3 y4 y5, LeO (tapewrightlaw08_LexWords.l0 k y0 y1 y2 y3 y4 y5) (tapewrightlaw08_LexWords.l0 (k + 1) y0 y1 y2 y3 y4 y5)) ∧ (∀ y0 y1 y2 y3, LeO (tapewrightlaw08_LexWords.j1 k y0 y1 y2 y3) (tapewrightlaw08_LexWords.j1 (k + 1) y0 y1 y2 y3)) ∧ (∀ y0 y1 y2 y3 y4, LeO (tapewrightlaw08_LexWords.l1 k y0 y1 y2 y3 y4) (tapewrightlaw08_LexWords.l1 (k + 1) y0 y1 y2 y3 y4))
  | 0 => ⟨fun _ _ _ _ _ _ r h => by simp [tapewrightlaw08_LexWords.l0] at h, fun _ _ _ _ r h => by simp [tapewrightlaw08_LexWords.j1] at h, fun _ _ _ _ _ r h => by simp [tapewrightlaw08_LexWords.l1] at h⟩
  | k + 1 => by
    obtain ⟨ih0, ih1, ih2⟩ := tapewrightlaw08_LexWords.mono_l k
    refine ⟨?_, ?_, ?_⟩
    · intro y0 y1 y2 y3 y4 y5
      unfold tapewrightlaw08_LexWords.l0
      repeat' first
      | (with_reducible exact ih0 _ _ _ _ _ _)
      | (with_reducible exact ih1 _ _ _ _)
      | (with_reducible exact ih2 _ _ _ _ _)
      | (with_reducible exact lex_Lines.mono _ _)
      | (with_reducible exact tapewrightlaw08_awake.mono _)
      | (with_reducible exact LeO.refl _)
      | (with_reducible exact LeO.none _)
      | (with_reducible refine LeO.ite ?_ ?_)
      | (with_reducible refine LeO.bind ?_ (fun _ => ?_))
      | exact ih0 _ _ _ _ _ _
      | exact ih1 _ _ _ _
      | exact ih2 _ _ _ _ _
      | exact lex_Lines.mono _ _
      | exact tapewrightlaw08_awake.mono _
      | exact LeO.none _
      | refine LeO.ite ?_ ?_
      | refine LeO.bind ?_ (fun _ => ?_)
    · intro y0 y1 y2 y3
      unfold tapewrightlaw08_LexWords.j1
      repeat' first
      | (with_reducible exact ih0 _ _ _ _ _ _)
      | (with_reducible exact ih1 _ _ _ _)
      | (with_reducible exact ih2 _ _ _ _ _)
      | (with_reducible exact lex_Lines.mono _ _)
      | (with_reducible exact tapewrightlaw08_awake.mono _)
      | (with_reducible exact LeO.refl _)
      | (with_reducible exact LeO.none _)
      | (with_reducible refine LeO.ite ?_ ?_)
      | (with_reducible refine LeO.bind ?_ (fun _ => ?_))
      | exact ih0 _ _ _ _ _ _
      | exact ih1 _ _ _ _
      | exact ih2 _ _ _ _ _
      | exact lex_Lines.mono _ _
      | exact tapewrightlaw08_awake.mono _
      | exact LeO.none _
      | refine LeO.ite ?_ ?_
      | refine LeO.bind ?_ (fun _ => ?_)
    · intro y0 y1 y2 y3 y4
      unfold tapewrightlaw08_LexWords.l1
      repeat' first
      | (with_reducible exact ih0 _ _ _ _ _ _)
      | (with_reducible exact ih1 _ _ _ _)
      | (with_reducible exact ih2 _ _ _ _ _)
      | (with_reducible exact lex_Lines.mono _ _)
      | (with_reducible exact tapewrightlaw08_awake.mono _)
      | (with_reducible exact LeO.refl _)
      | (with_reducible exact LeO.none _)
      | (with_reducible refine LeO.ite ?_ ?_)
      | (with_reducible refine LeO.bind ?_ (fun _ => ?_))
      | exact ih0 _ _ _ _ _ _
      | exact ih1 _ _ _ _
      | exact ih2 _ _ _ _ _
      | exact lex_Lines.mono _ _
      | exact tapewrightlaw08_awake.mono _
      | exact LeO.none _
      | refine LeO.ite ?_ ?_
      | refine LeO.bind ?_ (fun _ => ?_)
theorem tapewrightlaw08_LexWords.mono : ∀ a0 k, LeO (tapewrightlaw08_LexWords.f k a0) (tapewrightlaw08_LexWords.f (k + 1) a0) := by
  intro a0 k
  obtain ⟨ih0, ih1, ih2⟩ := tapewrightlaw08_LexWords.mono_l k
  unfold tapewrightlaw08_LexWords.f
  repeat' first
      | (with_reducible exact ih0 _ _ _ _ _ _)
      | (with_reducible exact ih1 _ _ _ _)
      | (with_reducible exact ih2 _ _ _ _ _)
      | (with_reducible exact lex_Lines.mono _ _)
      | (with_reducible exact tapewrightlaw08_awake.mono _)
      | (with_reducible exact LeO.refl _)
      | (with_reducible exact LeO.none _)
      | (with_reducible refine LeO.ite ?_ ?_)
      | (with_reducible refine LeO.bind ?_ (fun _ => ?_))
      | exact ih0 _ _ _ _ _ _
      | exact ih1 _ _ _ _
      | exact ih2 _ _ _ _ _
      | exact lex_Lines.mono _ _
      | exact tapewrightlaw08_awake.mono _
      | exact LeO.none _
      | refine LeO.ite ?_ ?_
      | refine LeO.bind ?_ (fun _ => ?_)
set_option maxHeartbeats 8000000 in
set_option maxRecDepth 100000 in
theorem tapewrightlaw08_LexWords.calls (k : Nat) (A0 : Option Addr) (c0 : Nat) (l0 : List ByteArray) (r : Bool) (w : World) (hr0 : Kd.C Kd.string w A0 l0.length l0) (hc0 : l0.length ≤ c0) (h : tapewrightlaw08_LexWords.f k l0 = some r) :
    Calls Tryd.prog 7 #[.slice A0 l0.length c0] w fun e w' => e = .returned (.bool r) ∧ Below w.heap.size w w' := by
  have HR0 := Aside0.mk hr0
  have HC0 := Aside0.mk hc0
  clear hr0 hc0
  have HB := Aside0.mk (Below.refl w.heap.size w)
  have H : (if (l0.length : Int) > 30 then ((tapewrightlaw08_awake.f k).bind fun t132 => (some t132)) else (tapewrightlaw08_LexWords.l0 k l0 (⟨#[]⟩ : ByteArray) (⟨#[]⟩ : ByteArray) l0 (l0.length : Int) 0)) = some r := h
  clear h
  by_cases c2 : (l0.length : Int) > 30
  · rw [if_pos c2] at H
    have c2b0 : decide (30 < (l0.length : Int)) = true := decide_eq_true c2
    have c2b1 : decide (30 < l0.length) = true := decide_eq_true (by omega)
    clear c2
    replace H := Option.bind_eq_some_iff.mp H
    obtain ⟨t132, A30, H⟩ := H
    replace H : (some t132) = some r := H
    have A3 := Aside0.mk A30
    clear A30
    obtain rfl := Option.some.inj H
    go_enter Tryd.func7, Tryd.ntmps7
    go_wp2_with (first | ((with_reducible refine gate_callee (f := 8) rfl ?_); refine goesL_ (some 14) rfl rfl Tryd.func8 (by kernel_rfl) rfl #[] rfl (by (try simp only [List.map_toArray, List.map_cons, List.map_nil]); first | done | rfl | (simp only [List.length_drop, List.length_take]; rfl)) ?_; (with_reducible refine (tapewrightlaw08_awake.calls k  t132 _ A3.out).mono ?_); rintro e w4 ⟨rfl, hb⟩; refine ⟨_, rfl, ?_⟩; have n0_ := Aside0.mk (below_step (by repeat (first | (with_reducible first | exact HB.out | apply below_alloc | apply pw_below_drewN | apply below_drew1) | exact HB.out)) hb); clear HB; have HB := n0_; clear n0_; (try clear hb); (try clear hb2); (try clear hk); (try clear hi)))
    go_ret
    exact ⟨by first | rfl | (simp [errW_none, errW_some] <;> rfl) | (simp [*, errW_none, errW_some] <;> rfl), by repeat (first | (with_reducible first | exact HB.out | apply below_alloc | apply pw_below_drewN | apply below_drew1) | exact HB.out)⟩
  · rw [if_neg c2] at H
    have c2b0 : decide (30 < (l0.length : Int)) = false := decide_eq_false c2
    have c2b1 : decide (30 < l0.length) = false := decide_eq_false (by omega)
    clear c2
    have H' := Aside0.mk H
    clear H
    go_enter Tryd.func7, Tryd.ntmps7
    go_wp2
    go_loopg [3, 4, 17] k (fun kq v3 v4 v17 w' => ∃ (x3_1 : ByteArray) (x4_1 : ByteArray) (x17_1 : Int), v3 = .string x3_1 ∧ v4 = .string x4_1 ∧ v17 = .int .i64 x17_1 ∧ Aside0 (tapewrightlaw08_LexWords.l0 kq l0 x3_1 x4_1 l0 (l0.length : Int) x17_1 = some r) ∧ Aside0 (kq ≤ k) ∧ Aside0 (Below w.heap.size w w'))
    case atStart => exact ⟨((⟨#[]⟩ : ByteArray)), ((⟨#[]⟩ : ByteArray)), (0), (by first | rfl | (simp; done) | (simp [*]; done)), (by first | rfl | (simp; done) | (simp [*]; done)), (by first | rfl | (simp; done) | (simp [*]; done)), H', ⟨Nat.le_refl _⟩, ⟨by repeat (first | (with_reducible first | exact HB.out | apply below_alloc | apply pw_below_drewN | apply below_drew1) | exact HB.out)⟩⟩
    case round =>
      clear H'
      try clear c2
      try clear c2b0
      try clear c2b1
      try clear p2
      obtain ⟨x3_1, x4_1, x17_1, rfl, rfl, rfl, HA, HK1, HB⟩ := hrel
      cases gk with
      | zero => exact absurd HA.out (by simp [tapewrightlaw08_LexWords.l0])
      | succ k1 =>
        have H := HA.out
        clear HA
        simp only [tapewrightlaw08_LexWords.l0] at H
        by_cases c5 : x17_1 < (l0.length : Int)
        · rw [if_pos c5] at H
          have c5b0 : decide (x17_1 < (l0.length : Int)) = true := decide_eq_true c5
          clear c5
          by_cases c6 : 0 ≤ x17_1
          · rw [if_pos c6] at H
            have c6b0 : decide (0 ≤ x17_1) = true := decide_eq_true c6
            clear c6
            by_cases c7 : x17_1 < (l0.length : Int)
            · rw [if_pos c7] at H
              have c7b0 : decide (x17_1 < (l0.length : Int)) = true := decide_eq_true c7
              clear c7
              replace H := Option.bind_eq_some_iff.mp H
              obtain ⟨t134, A80, H⟩ := H
              replace H : (if t134 = true then (if x17_1 > 0 then (if x3_1.size + 1 ≤ 9223372036854775807 then (if x4_1.size + 1 ≤ 9223372036854775807 then (if (x3_1 ++ (⟨#[32]⟩ : ByteArray)).size + (rdOf ByteArray.empty l0 x17_1).size ≤ 9223372036854775807 then (if (x4_1 ++ (⟨#[10]⟩ : ByteArray)).size + (rdOf ByteArray.empty l0 x17_1).size ≤ 9223372036854775807 then (tapewrightlaw08_LexWords.l0 k1 l0 ((x3_1 ++ (⟨#[32]⟩ : ByteArray)) ++ (rdOf ByteArray.empty l0 x17_1)) ((x4_1 ++ (⟨#[10]⟩ : ByteArray)) ++ (rdOf ByteArray.empty l0 x17_1)) l0 (l0.length : Int) (wrap64 (x17_1 + 1))) else (none)) else (none)) else (none)) else (none)) else (if x3_1.size + (rdOf ByteArray.empty l0 x17_1).size ≤ 9223372036854775807 then (if x4_1.size + (rdOf ByteArray.empty l0 x17_1).size ≤ 9223372036854775807 then (tapewrightlaw08_LexWords.l0 k1 l0 (x3_1 ++ (rdOf ByteArray.empty l0 x17_1)) (x4_1 ++ (rdOf ByteArray.empty l0 x17_1)) l0 (l0.length : Int) (wrap64 (x17_1 + 1))) else (none)) else (none))) else ((tapewrightlaw08_awake.f k1).bind fun t135 => (some t135))) = some r := H
              have A8 := Aside0.mk A80
              clear A80
              by_cases c9 : t134 = true
              · subst c9
                have H1 : (if x17_1 > 0 then (if x3_1.size + 1 ≤ 9223372036854775807 then (if x4_1.size + 1 ≤ 9223372036854775807 then (if (x3_1 ++ (⟨#[32]⟩ : ByteArray)).size + (rdOf ByteArray.empty l0 x17_1).size ≤ 9223372036854775807 then (if (x4_1 ++ (⟨#[10]⟩ : ByteArray)).size + (rdOf ByteArray.empty l0 x17_1).size ≤ 9223372036854775807 then (tapewrightlaw08_LexWords.l0 k1 l0 ((x3_1 ++ (⟨#[32]⟩ : ByteArray)) ++ (rdOf ByteArray.empty l0 x17_1)) ((x4_1 ++ (⟨#[10]⟩ : ByteArray)) ++ (rdOf ByteArray.empty l0 x17_1)) l0 (l0.length : Int) (wrap64 (x17_1 + 1))) else (none)) else (none)) else (none)) else (none)) else (if x3_1.size + (rdOf ByteArray.empty l0 x17_1).size ≤ 9223372036854775807 then (if x4_1.size + (rdOf ByteArray.empty l0 x17_1).size ≤ 9223372036854775807 then (tapewrightlaw08_LexWords.l0 k1 l0 (x3_1 ++ (rdOf ByteArray.empty l0 x17_1)) (x4_1 ++ (rdOf ByteArray.empty l0 x17_1)) l0 (l0.length : Int) (wrap64 (x17_1 + 1))) else (none)) else (none))) = some r := by rw [if_pos rfl] at H; exact H
                clear H
                have H := H1
                clear H1
                by_cases c10 : x17_1 > 0
                · rw [if_pos c10] at H
                  have c10b0 : decide (0 < x17_1) = true := decide_eq_true c10
                  clear c10
                  by_cases c11 : x3_1.size + 1 ≤ 9223372036854775807
                  · rw [if_pos c11] at H
                    have c11b0 := eq_true c11
                    have c11b1 : decide (x3_1.size + 1 ≤ 9223372036854775807) = true := decide_eq_true c11
                    try have c11b2 : (9223372036854775807 < x3_1.size + 1) = False := eq_false (Nat.not_lt.2 c11)
                    by_cases c12 : x4_1.size + 1 ≤ 9223372036854775807
                    · rw [if_pos c12] at H
                      have c12b0 := eq_true c12
                      have c12b1 : decide (x4_1.size + 1 ≤ 9223372036854775807) = true := decide_eq_true c12
                      try have c12b2 : (9223372036854775807 < x4_1.size + 1) = False := eq_false (Nat.not_lt.2 c12)
                      by_cases c13 : (x3_1 ++ (⟨#[32]⟩ : ByteArray)).size + (rdOf ByteArray.empty l0 x17_1).size ≤ 9223372036854775807
                      · rw [if_pos c13] at H
                        have c13b0 := eq_true c13
                        have c13b1 : decide ((x3_1 ++ (⟨#[32]⟩ : ByteArray)).size + (rdOf ByteArray.empty l0 x17_1).size ≤ 9223372036854775807) = true := decide_eq_true c13
                        try have c13b2 : (9223372036854775807 < (x3_1 ++ (⟨#[32]⟩ : ByteArray)).size + (rdOf ByteArray.empty l0 x17_1).size) = False := eq_false (Nat.not_lt.2 c13)
                        by_cases c14 : (x4_1 ++ (⟨#[10]⟩ : ByteArray)).size + (rdOf ByteArray.empty l0 x17_1).size ≤ 9223372036854775807
                        · rw [if_pos c14] at H
                          have c14b0 := eq_true c14
                          have c14b1 : decide ((x4_1 ++ (⟨#[10]⟩ : ByteArray)).size + (rdOf ByteArray.empty l0 x17_1).size ≤ 9223372036854775807) = true := decide_eq_true c14
                          try have c14b2 : (9223372036854775807 < (x4_1 ++ (⟨#[10]⟩ : ByteArray)).size + (rdOf ByteArray.empty l0 x17_1).size) = False := eq_false (Nat.not_lt.2 c14)
                          have H' := Aside0.mk H
                          clear H
                          have p133 : 0 ≤ (x17_1 : Int) := of_decide_eq_true (by first | (with_reducible assumption) | assumption)
                          have q133 : x17_1 < (l0.length : Int) := of_decide_eq_true (by first | (with_reducible assumption) | assumption)
                          obtain ⟨ad133, e133, hx133_0⟩ := Kd.at_string HR0.out x17_1 p133 q133
                          cases e133
                          replace hx133_0 := (HB.out.cell (World.block_lt_of_cell? w _ hx133_0)).trans hx133_0
                          replace p133 := eq_true p133
                          replace q133 := eq_true q133
                          go_wp2_with (first | ((with_reducible refine gate_callee (f := 13) rfl ?_); refine goesL_ (some 23) rfl rfl Tryd.func13 (by kernel_rfl) rfl #[.string (rdOf ByteArray.empty l0 x17_1)] rfl (by (try simp only [List.map_toArray, List.map_cons, List.map_nil]); first | done | rfl | (simp only [List.length_drop, List.length_take]; rfl)) ?_; (with_reducible refine (lex_Name.calls (rdOf ByteArray.empty l0 x17_1) true _ A8.out).mono ?_); rintro e w15 ⟨rfl, hb⟩; refine ⟨_, rfl, ?_⟩; have n0_ := Aside0.mk (below_step (by repeat (first | (with_reducible first | exact HB.out | apply below_alloc | apply pw_below_drewN | apply below_drew1) | exact HB.out)) hb); clear HB; have HB := n0_; clear n0_; (try clear hb); (try clear hb2); (try clear hk); (try clear hi)))
                          go_roundg k1
                          case measure => have := HK1.out; omega
                          case rel => exact ⟨((x3_1 ++ (⟨#[32]⟩ : ByteArray)) ++ (rdOf ByteArray.empty l0 x17_1)), ((x4_1 ++ (⟨#[10]⟩ : ByteArray)) ++ (rdOf ByteArray.empty l0 x17_1)), (wrap64 (x17_1 + 1)), (by first | rfl | (simp; done) | (simp [*]; done)), (by first | rfl | (simp; done) | (simp [*]; done)), (by first | rfl | (simp; done) | (simp [*]; done)), H', ⟨by have := HK1.out; omega⟩, ⟨by repeat (first | (with_reducible first | exact HB.out | apply below_alloc | apply pw_below_drewN | apply below_drew1) | exact HB.out)⟩⟩
                        · rw [if_neg c14] at H
                          exact absurd H (by simp)
                      · rw [if_neg c13] at H
                        exact absurd H (by simp)
                    · rw [if_neg c12] at H
                      exact absurd H (by simp)
                  · rw [if_neg c11] at H
                    exact absurd H (by simp)
                · rw [if_neg c10] at H
                  have c10b0 : decide (0 < x17_1) = false := decide_eq_false c10
                  clear c10
                  by_cases c16 : x3_1.size + (rdOf ByteArray.empty l0 x17_1).size ≤ 9223372036854775807
                  · rw [if_pos c16] at H
                    have c16b0 := eq_true c16
                    have c16b1 : decide (x3_1.size + (rdOf ByteArray.empty l0 x17_1).size ≤ 9223372036854775807) = true := decide_eq_true c16
                    try have c16b2 : (9223372036854775807 < x3_1.size + (rdOf ByteArray.empty l0 x17_1).size) = False := eq_false (Nat.not_lt.2 c16)
                    by_cases c17 : x4_1.size + (rdOf ByteArray.empty l0 x17_1).size ≤ 9223372036854775807
                    · rw [if_pos c17] at H
                      have c17b0 := eq_true c17
                      have c17b1 : decide (x4_1.size + (rdOf ByteArray.empty l0 x17_1).size ≤ 9223372036854775807) = true := decide_eq_true c17
                      try have c17b2 : (9223372036854775807 < x4_1.size + (rdOf ByteArray.empty l0 x17_1).size) = False := eq_false (Nat.not_lt.2 c17)
                      have H' := Aside0.mk H
                      clear H
                      have p133 : 0 ≤ (x17_1 : Int) := of_decide_eq_true (by first | (with_reducible assumption) | assumption)
                      have q133 : x17_1 < (l0.length : Int) := of_decide_eq_true (by first | (with_reducible assumption) | assumption)
                      obtain ⟨ad133, e133, hx133_0⟩ := Kd.at_string HR0.out x17_1 p133 q133
                      cases e133
                      replace hx133_0 := (HB.out.cell (World.block_lt_of_cell? w _ hx133_0)).trans hx133_0
                      replace p133 := eq_true p133
                      replace q133 := eq_true q133
                      go_wp2_with (first | ((with_reducible refine gate_callee (f := 13) rfl ?_); refine goesL_ (some 23) rfl rfl Tryd.func13 (by kernel_rfl) rfl #[.string (rdOf ByteArray.empty l0 x17_1)] rfl (by (try simp only [List.map_toArray, List.map_cons, List.map_nil]); first | done | rfl | (simp only [List.length_drop, List.length_take]; rfl)) ?_; (with_reducible refine (lex_Name.calls (rdOf ByteArray.empty l0 x17_1) true _ A8.out).mono ?_); rintro e w18 ⟨rfl, hb⟩; refine ⟨_, rfl, ?_⟩; have n0_ := Aside0.mk (below_step (by repeat (first | (with_reducible first | exact HB.out | apply below_alloc | apply pw_below_drewN | apply below_drew1) | exact HB.out)) hb); clear HB; have HB := n0_; clear n0_; (try clear hb); (try clear hb2); (try clear hk); (try clear hi)))
                      go_roundg k1
                      case measure => have := HK1.out; omega
                      case rel => exact ⟨(x3_1 ++ (rdOf ByteArray.empty l0 x17_1)), (x4_1 ++ (rdOf ByteArray.empty l0 x17_1)), (wrap64 (x17_1 + 1)), (by first | rfl | (simp; done) | (simp [*]; done)), (by first | rfl | (simp; done) | (simp [*]; done)), (by first | rfl | (simp; done) | (simp [*]; done)), H', ⟨by have := HK1.out; omega⟩, ⟨by repeat (first | (with_reducible first | exact HB.out | apply below_alloc | apply pw_below_drewN | apply below_drew1) | exact HB.out)⟩⟩
                    · rw [if_neg c17] at H
                      exact absurd H (by simp)
                  · rw [if_neg c16] at H
                    exact absurd H (by simp)
              · replace c9 := Bool.eq_false_iff.mpr c9
                subst c9
                have H1 : ((tapewrightlaw08_awake.f k1).bind fun t135 => (some t135)) = some r := by rw [if_neg (show ¬ (false = true) by decide)] at H; exact H
                clear H
                have H := H1
                clear H1
                replace H := Option.bind_eq_some_iff.mp H
                obtain ⟨t135, A190, H⟩ := H
                replace H : (some t135) = some r := H
                have A19 := Aside0.mk A190
                clear A190
                obtain rfl := Option.some.inj H
                have p133 : 0 ≤ (x17_1 : Int) := of_decide_eq_true (by first | (with_reducible assumption) | assumption)
                have q133 : x17_1 < (l0.length : Int) := of_decide_eq_true (by first | (with_reducible assumption) | assumption)
                obtain ⟨ad133, e133, hx133_0⟩ := Kd.at_string HR0.out x17_1 p133 q133
                cases e133
                replace hx133_0 := (HB.out.cell (World.block_lt_of_cell? w _ hx133_0)).trans hx133_0
                replace p133 := eq_true p133
                replace q133 := eq_true q133
                go_wp2_with (first | ((with_reducible refine gate_callee (f := 13) rfl ?_); refine goesL_ (some 23) rfl rfl Tryd.func13 (by kernel_rfl) rfl #[.string (rdOf ByteArray.empty l0 x17_1)] rfl (by (try simp only [List.map_toArray, List.map_cons, List.map_nil]); first | done | rfl | (simp only [List.length_drop, List.length_take]; rfl)) ?_; (with_reducible refine (lex_Name.calls (rdOf ByteArray.empty l0 x17_1) false _ A8.out).mono ?_); rintro e w20 ⟨rfl, hb⟩; refine ⟨_, rfl, ?_⟩; have n0_ := Aside0.mk (below_step (by repeat (first | (with_reducible first | exact HB.out | apply below_alloc | apply pw_below_drewN | apply below_drew1) | exact HB.out)) hb); clear HB; have HB := n0_; clear n0_; (try clear hb); (try clear hb2); (try clear hk); (try clear hi)) | ((with_reducible refine gate_callee (f := 8) rfl ?_); refine goesL_ (some 25) rfl rfl Tryd.func8 (by kernel_rfl) rfl #[] rfl (by (try simp only [List.map_toArray, List.map_cons, List.map_nil]); first | done | rfl | (simp only [List.length_drop, List.length_take]; rfl)) ?_; (with_reducible refine (tapewrightlaw08_awake.calls k1  t135 _ A19.out).mono ?_); rintro e w21 ⟨rfl, hb⟩; refine ⟨_, rfl, ?_⟩; have n0_ := Aside0.mk (below_step (by repeat (first | (with_reducible first | exact HB.out | apply below_alloc | apply pw_below_drewN | apply below_drew1) | exact HB.out)) hb); clear HB; have HB := n0_; clear n0_; (try clear hb); (try clear hb2); (try clear hk); (try clear hi)))
                go_ret
                exact ⟨by first | rfl | (simp [errW_none, errW_some] <;> rfl) | (simp [*, errW_none, errW_some] <;> rfl), by repeat (first | (with_reducible first | exact HB.out | apply below_alloc | apply pw_below_drewN | apply below_drew1) | exact HB.out)⟩
            · rw [if_neg c7] at H
              exact absurd H (by simp)
          · rw [if_neg c6] at H
            exact absurd H (by simp)
        · rw [if_neg c5] at H
          have c5b0 : decide (x17_1 < (l0.length : Int)) = false := decide_eq_false c5
          clear c5
          replace H := Option.bind_eq_some_iff.mp H
          obtain ⟨t136, A220, H⟩ := H
          replace H : ((lex_Lines.f k1 x4_1).bind fun t139 => (if (l0.length : Int) = 0 then (if (wrap64 ((t136.length : Int) + (t139.length : Int))) = 0 then ((tapewrightlaw08_awake.f k1).bind fun t142 => (some t142)) else (some false)) else (if (t136.length : Int) = 1 then (if 0 < (t136.length : Int) then (if ((rd_T33 t136 0).f0) = 1 then (if (((rd_T33 t136 0).f1).length : Int) = (l0.length : Int) then (tapewrightlaw08_LexWords.j1 k1 l0 t136 t139 ((t139.length : Int) != (l0.length : Int))) else (tapewrightlaw08_LexWords.j1 k1 l0 t136 t139 true)) else (tapewrightlaw08_LexWords.j1 k1 l0 t136 t139 true)) else (none)) else (tapewrightlaw08_LexWords.j1 k1 l0 t136 t139 true)))) = some r := H
          have A22 := Aside0.mk A220
          clear A220
          replace H := Option.bind_eq_some_iff.mp H
          obtain ⟨t139, A230, H⟩ := H
          replace H : (if (l0.length : Int) = 0 then (if (wrap64 ((t136.length : Int) + (t139.length : Int))) = 0 then ((tapewrightlaw08_awake.f k1).bind fun t142 => (some t142)) else (some false)) else (if (t136.length : Int) = 1 then (if 0 < (t136.length : Int) then (if ((rd_T33 t136 0).f0) = 1 then (if (((rd_T33 t136 0).f1).length : Int) = (l0.length : Int) then (tapewrightlaw08_LexWords.j1 k1 l0 t136 t139 ((t139.length : Int) != (l0.length : Int))) else (tapewrightlaw08_LexWords.j1 k1 l0 t136 t139 true)) else (tapewrightlaw08_LexWords.j1 k1 l0 t136 t139 true)) else (none)) else (tapewrightlaw08_LexWords.j1 k1 l0 t136 t139 true))) = some r := H
          have A23 := Aside0.mk A230
          clear A230
          by_cases c24 : (l0.length : Int) = 0
          · rw [if_pos c24] at H
            have c24b0 : ((l0.length : Int) == 0) = true := beq_iff_eq.mpr c24
            have c24b1 : ((l0.length : Int) != 0) = false := bne_eq_false_iff_eq.mpr c24
            clear c24
            by_cases c25 : (wrap64 ((t136.length : Int) + (t139.length : Int))) = 0
            · rw [if_pos c25] at H
              have c25b0 : ((wrap64 ((t136.length : Int) + (t139.length : Int))) == 0) = true := beq_iff_eq.mpr c25
              have c25b1 : ((wrap64 ((t136.length : Int) + (t139.length : Int))) != 0) = false := bne_eq_false_iff_eq.mpr c25
              clear c25
              replace H := Option.bind_eq_some_iff.mp H
              obtain ⟨t142, A260, H⟩ := H
              replace H : (some t142) = some r := H
              have A26 := Aside0.mk A260
              clear A260
              obtain rfl := Option.some.inj H
              go_wp2_with (first | ((with_reducible refine gate_callee (f := 11) rfl ?_); refine goesL_ (some 40) rfl rfl Tryd.func11 (by kernel_rfl) rfl #[.string x3_1] rfl (by (try simp only [List.map_toArray, List.map_cons, List.map_nil]); first | done | rfl | (simp only [List.length_drop, List.length_take]; rfl)) ?_; (with_reducible refine (lex_Lines.calls k1 x3_1 t136 _ A22.out).mono ?_); rintro e w27 ⟨v137, rfl, ho0, hb⟩; refine ⟨_, rfl, ?_⟩; have n0_ := Aside0.mk (Kd.S_lower ho0 (below_size (by repeat (first | (with_reducible first | exact HB.out | apply below_alloc | apply pw_below_drewN | apply below_drew1) | exact HB.out)))); have n1_ := Aside0.mk (below_step (by repeat (first | (with_reducible first | exact HB.out | apply below_alloc | apply pw_below_drewN | apply below_drew1) | exact HB.out)) hb); clear HB; have HO138 := n0_; have HB := n1_; clear n0_ n1_; (try clear hb); (try clear hb2); (try clear hk); (try clear hi); (try clear ho0)) | ((with_reducible refine gate_callee (f := 11) rfl ?_); refine goesL_ (some 42) rfl rfl Tryd.func11 (by kernel_rfl) rfl #[.string x4_1] rfl (by (try simp only [List.map_toArray, List.map_cons, List.map_nil]); first | done | rfl | (simp only [List.length_drop, List.length_take]; rfl)) ?_; (with_reducible refine (lex_Lines.calls k1 x4_1 t139 _ A23.out).mono ?_); rintro e w28 ⟨v140, rfl, ho0, hb⟩; refine ⟨_, rfl, ?_⟩; have n0_ := Aside0.mk (Kd.S_elder' (by (with_reducible repeat (first | apply Kd.S_alloc | apply Kd.S_drewN | apply Kd.S_drew)); exact HO138.out) (Kd.S_base ho0) hb); have n1_ := Aside0.mk (Kd.S_lower (Kd.S_new' ho0 (Kd.S_lt (by (with_reducible repeat (first | apply Kd.S_alloc | apply Kd.S_drewN | apply Kd.S_drew)); exact HO138.out))) (below_size (by repeat (first | (with_reducible first | exact HB.out | apply below_alloc | apply pw_below_drewN | apply below_drew1) | exact HB.out)))); have n2_ := Aside0.mk (below_step (by repeat (first | (with_reducible first | exact HB.out | apply below_alloc | apply pw_below_drewN | apply below_drew1) | exact HB.out)) hb); clear HO138; clear HB; have HO138 := n0_; have HO141 := n1_; have HB := n2_; clear n0_ n1_ n2_; (try clear hb); (try clear hb2); (try clear hk); (try clear hi); (try clear ho0); obtain ⟨Ao29, co29, eo29⟩ := Kd.S_slice HO138.out; subst eo29; obtain ⟨Ao30, co30, eo30⟩ := Kd.S_slice HO141.out; subst eo30) | (go_at_call 8; (with_reducible refine (tapewrightlaw08_awake.calls k1  t142 _ A26.out).mono ?_); rintro e w31 ⟨rfl, hb⟩; have n0_ := Aside0.mk (Kd.S_below (by (with_reducible repeat (first | apply Kd.S_alloc | apply Kd.S_drewN | apply Kd.S_drew)); exact HO138.out) hb); have n1_ := Aside0.mk (Kd.S_below (by (with_reducible repeat (first | apply Kd.S_alloc | apply Kd.S_drewN | apply Kd.S_drew)); exact HO141.out) hb); have n2_ := Aside0.mk (below_step (by repeat (first | (with_reducible first | exact HB.out | apply below_alloc | apply pw_below_drewN | apply below_drew1) | exact HB.out)) hb); clear HO138; clear HO141; clear HB; have HO138 := n0_; have HO141 := n1_; have HB := n2_; clear n0_ n1_ n2_; (try clear hb); (try clear hb2); (try clear hk); (try clear hi)))
              go_ret
              exact ⟨by first | rfl | (simp [errW_none, errW_some] <;> rfl) | (simp [*, errW_none, errW_some] <;> rfl), by repeat (first | (with_reducible first | exact HB.out | apply below_alloc | apply pw_below_drewN | apply below_drew1) | exact HB.out)⟩
            · rw [if_neg c25] at H
              have c25b0 : ((wrap64 ((t136.length : Int) + (t139.length : Int))) == 0) = false := beq_eq_false_iff_ne.mpr c25
              have c25b1 : ((wrap64 ((t136.length : Int) + (t139.length : Int))) != 0) = true := bne_iff_ne.mpr c25
              obtain rfl := Option.some.inj H
              go_wp2_with (first | ((with_reducible refine gate_callee (f := 11) rfl ?_); refine goesL_ (some 40) rfl rfl Tryd.func11 (by kernel_rfl) rfl #[.string x3_1] rfl (by (try simp only [List.map_toArray, List.map_cons, List.map_nil]); first | done | rfl | (simp only [List.length_drop, List.length_take]; rfl)) ?_; (with_reducible refine (lex_Lines.calls k1 x3_1 t136 _ A22.out).mono ?_); rintro e w32 ⟨v137, rfl, ho0, hb⟩; refine ⟨_, rfl, ?_⟩; have n0_ := Aside0.mk (Kd.S_lower ho0 (below_size (by repeat (first | (with_reducible first | exact HB.out | apply below_alloc | apply pw_below_drewN | apply below_drew1) | exact HB.out)))); have n1_ := Aside0.mk (below_step (by repeat (first | (with_reducible first | exact HB.out | apply below_alloc | apply pw_below_drewN | apply below_drew1) | exact HB.out)) hb); clear HB; have HO138 := n0_; have HB := n1_; clear n0_ n1_; (try clear hb); (try clear hb2); (try clear hk); (try clear hi); (try clear ho0)) | ((with_reducible refine gate_callee (f := 11) rfl ?_); refine goesL_ (some 42) rfl rfl Tryd.func11 (by kernel_rfl) rfl #[.string x4_1] rfl (by (try simp only [List.map_toArray, List.map_cons, List.map_nil]); first | done | rfl | (simp only [List.length_drop, List.length_take]; rfl)) ?_; (with_reducible refine (lex_Lines.calls k1 x4_1 t139 _ A23.out).mono ?_); rintro e w33 ⟨v140, rfl, ho0, hb⟩; refine ⟨_, rfl, ?_⟩; have n0_ := Aside0.mk (Kd.S_elder' (by (with_reducible repeat (first | apply Kd.S_alloc | apply Kd.S_drewN | apply Kd.S_drew)); exact HO138.out) (Kd.S_base ho0) hb); have n1_ := Aside0.mk (Kd.S_lower (Kd.S_new' ho0 (Kd.S_lt (by (with_reducible repeat (first | apply Kd.S_alloc | apply Kd.S_drewN | apply Kd.S_drew)); exact HO138.out))) (below_size (by repeat (first | (with_reducible first | exact HB.out | apply below_alloc | apply pw_below_drewN | apply below_drew1) | exact HB.out)))); have n2_ := Aside0.mk (below_step (by repeat (first | (with_reducible first | exact HB.out | apply below_alloc | apply pw_below_drewN | apply below_drew1) | exact HB.out)) hb); clear HO138; clear HB; have HO138 := n0_; have HO141 := n1_; have HB := n2_; clear n0_ n1_ n2_; (try clear hb); (try clear hb2); (try clear hk); (try clear hi); (try clear ho0); obtain ⟨Ao34, co34, eo34⟩ := Kd.S_slice HO138.out; subst eo34; obtain ⟨Ao35, co35, eo35⟩ := Kd.S_slice HO141.out; subst eo35))
              go_ret
              exact ⟨by first | rfl | (simp [errW_none, errW_some] <;> rfl) | (simp [*, errW_none, errW_some] <;> rfl), by repeat (first | (with_reducible first | exact HB.out | apply below_alloc | apply pw_below_drewN | apply below_drew1) | exact HB.out)⟩
          · rw [if_neg c24] at H
            have c24b0 : ((l0.length : Int) == 0) = false := beq_eq_false_iff_ne.mpr c24
            have c24b1 : ((l0.length : Int) != 0) = true := bne_iff_ne.mpr c24
            have c24b2 : ¬ (l0 = []) := fun h_ => c24 (by rw [h_]; rfl)
            have HC36 := Aside0.mk H
            clear H
            go_upto_region 16 with (first | ((with_reducible refine gate_callee (f := 11) rfl ?_); refine goesL_ (some 40) rfl rfl Tryd.func11 (by kernel_rfl) rfl #[.string x3_1] rfl (by (try simp only [List.map_toArray, List.map_cons, List.map_nil]); first | done | rfl | (simp only [List.length_drop, List.length_take]; rfl)) ?_; (with_reducible refine (lex_Lines.calls k1 x3_1 t136 _ A22.out).mono ?_); rintro e w37 ⟨v137, rfl, ho0, hb⟩; refine ⟨_, rfl, ?_⟩; have n0_ := Aside0.mk (Kd.S_lower ho0 (below_size (by repeat (first | (with_reducible first | exact HB.out | apply below_alloc | apply pw_below_drewN | apply below_drew1) | exact HB.out)))); have n1_ := Aside0.mk (below_step (by repeat (first | (with_reducible first | exact HB.out | apply below_alloc | apply pw_below_drewN | apply below_drew1) | exact HB.out)) hb); clear HB; have HO138 := n0_; have HB := n1_; clear n0_ n1_; (try clear hb); (try clear hb2); (try clear hk); (try clear hi); (try clear ho0)) | ((with_reducible refine gate_callee (f := 11) rfl ?_); refine goesL_ (some 42) rfl rfl Tryd.func11 (by kernel_rfl) rfl #[.string x4_1] rfl (by (try simp only [List.map_toArray, List.map_cons, List.map_nil]); first | done | rfl | (simp only [List.length_drop, List.length_take]; rfl)) ?_; (with_reducible refine (lex_Lines.calls k1 x4_1 t139 _ A23.out).mono ?_); rintro e w38 ⟨v140, rfl, ho0, hb⟩; refine ⟨_, rfl, ?_⟩; have n0_ := Aside0.mk (Kd.S_elder' (by (with_reducible repeat (first | apply Kd.S_alloc | apply Kd.S_drewN | apply Kd.S_drew)); exact HO138.out) (Kd.S_base ho0) hb); have n1_ := Aside0.mk (Kd.S_lower (Kd.S_new' ho0 (Kd.S_lt (by (with_reducible repeat (first | apply Kd.S_alloc | apply Kd.S_drewN | apply Kd.S_drew)); exact HO138.out))) (below_size (by repeat (first | (with_reducible first | exact HB.out | apply below_alloc | apply pw_below_drewN | apply below_drew1) | exact HB.out)))); have n2_ := Aside0.mk (below_step (by repeat (first | (with_reducible first | exact HB.out | apply below_alloc | apply pw_below_drewN | apply below_drew1) | exact HB.out)) hb); clear HO138; clear HB; have HO138 := n0_; have HO141 := n1_; have HB := n2_; clear n0_ n1_ n2_; (try clear hb); (try clear hb2); (try clear hk); (try clear hi); (try clear ho0)))
            (try simp only [Act.put, List.setIfInBounds_toArray, List.set_cons_zero, List.set_cons_succ])
            go_cut [81] (fun v81 wc => ∃ (kq : Nat) (x81_35 : Bool), v81 = .bool x81_35 ∧ Aside0 (tapewrightlaw08_LexWords.j1 kq l0 t136 t139 x81_35 = some r) ∧ Aside0 (kq ≤ k1) ∧ Aside0 (Kd.S k33 33 wc w.heap.size (fun k_ => some k_ ≠ (v140 : Value).ownBlock) v137 t136) ∧ Aside0 (Kd.S k33 33 wc w.heap.size (fun k_ => some k_ ≠ (v137 : Value).ownBlock) v140 t139) ∧ Aside0 (Below w.heap.size w wc))
            case first =>
              have H := HC36.out
              clear HC36
              by_cases c39 : (t136.length : Int) = 1
              · rw [if_pos c39] at H
                have c39b0 : ((t136.length : Int) == 1) = true := beq_iff_eq.mpr c39
                have c39b1 : ((t136.length : Int) != 1) = false := bne_eq_false_iff_eq.mpr c39
                clear c39
                (first | rw [c39b0] | (simp only [i64_w, i32_w]; rw [c39b0]) | skip)
                by_cases c40 : 0 < (t136.length : Int)
                · rw [if_pos c40] at H
                  have c40b0 : decide (0 < (t136.length : Int)) = true := decide_eq_true c40
                  have c40b1 : decide (0 < t136.length) = true := decide_eq_true (by omega)
                  clear c40
                  by_cases c41 : ((rd_T33 t136 0).f0) = 1
                  · rw [if_pos c41] at H
                    have c41b0 : (((rd_T33 t136 0).f0) == 1) = true := beq_iff_eq.mpr c41
                    have c41b1 : (((rd_T33 t136 0).f0) != 1) = false := bne_eq_false_iff_eq.mpr c41
                    clear c41
                    by_cases c42 : (((rd_T33 t136 0).f1).length : Int) = (l0.length : Int)
                    · rw [if_pos c42] at H
                      have c42b0 : ((((rd_T33 t136 0).f1).length : Int) == (l0.length : Int)) = true := beq_iff_eq.mpr c42
                      have c42b1 : ((((rd_T33 t136 0).f1).length : Int) != (l0.length : Int)) = false := bne_eq_false_iff_eq.mpr c42
                      have c42b2 : (((rd_T33 t136 0).f1).length == l0.length) = true := by first | simpa using c42 | (simp at c42 ⊢; omega)
                      clear c42
                      have H' := Aside0.mk H
                      clear H
                      obtain ⟨Ao43, co43, eo43⟩ := Kd.S_slice HO138.out
                      subst eo43
                      have p143 : 0 ≤ (0 : Int) := (by omega)
                      have q143 : 0 < (t136.length : Int) := of_decide_eq_true (by first | (with_reducible assumption) | assumption)
                      obtain ⟨ad143, A143_1, c143_1, e143, hx143_0, hx143_1, hl143_1, hi143_1⟩ := at_T33 (Kd.S_reads' HO138.out).2.2 0 p143 q143
                      cases e143
                      obtain ⟨ce143, hce143, hMe143, hcc143⟩ := Kd.S_get HO138.out z33 0 p143 (by first | exact q143 | exact of_decide_eq_true (by first | (with_reducible assumption) | assumption) | (have e_ := (Kd.S_reads' HO138.out).1; omega))
                      obtain ⟨ve143_1, rfl, ge143_1⟩ := k33_openM hMe143
                      have hv143_1 := hcc143 1 _ rfl
                      rw [add_field _ _ 1 (by omega)] at hv143_1
                      replace hv143_1 := Option.some.inj (hv143_1.symm.trans hx143_1)
                      rw [hv143_1] at ge143_1
                      have HL143_1 := Aside0.mk (show Kd.R Kd.string 9 _ _ _ _ ((rd_T33 t136 0).f1) from ge143_1)
                      clear hv143_1 ge143_1
                      clear hcc143 hce143
                      have qi143 : (0 < t136.length) = True := eq_true (by omega)
                      (try rw [show ((0 : Int)).toNat = 0 from rfl] at hx143_0)
                      (try rw [show 0 * 2 = 0 from rfl] at hx143_0)
                      (try rw [Addr.add_zero'] at hx143_0)
                      (try rw [show ((0 : Int)).toNat = 0 from rfl] at hx143_1)
                      (try rw [show 0 * 2 = 0 from rfl] at hx143_1)
                      (try rw [Addr.add_zero'] at hx143_1)
                      have HR143_1 := Aside0.mk hi143_1
                      have HC143_1 := Aside0.mk hl143_1
                      clear hi143_1 hl143_1
                      replace p143 := eq_true p143
                      replace q143 := eq_true q143
                      have p144 : 0 ≤ (0 : Int) := (by omega)
                      have q144 : 0 < (t136.length : Int) := of_decide_eq_true (by first | (with_reducible assumption) | assumption)
                      obtain ⟨ad144, A144_1, c144_1, e144, hx144_0, hx144_1, hl144_1, hi144_1⟩ := at_T33 (Kd.S_reads' HO138.out).2.2 0 p144 q144
                      obtain rfl : ad143 = ad144 := (by injection e144)
                      obtain ⟨ce144, hce144, hMe144, hcc144⟩ := Kd.S_get HO138.out z33 0 p144 (by first | exact q144 | exact of_decide_eq_true (by first | (with_reducible assumption) | assumption) | (have e_ := (Kd.S_reads' HO138.out).1; omega))
                      obtain ⟨ve144_1, rfl, ge144_1⟩ := k33_openM hMe144
                      have hv144_1 := hcc144 1 _ rfl
                      rw [add_field _ _ 1 (by omega)] at hv144_1
                      replace hv144_1 := Option.some.inj (hv144_1.symm.trans hx144_1)
                      rw [hv144_1] at ge144_1
                      have HL144_1 := Aside0.mk (show Kd.R Kd.string 9 _ _ _ _ ((rd_T33 t136 0).f1) from ge144_1)
                      clear hv144_1 ge144_1
                      clear hcc144 hce144
                      have qi144 : (0 < t136.length) = True := eq_true (by omega)
                      (try rw [show ((0 : Int)).toNat = 0 from rfl] at hx144_0)
                      (try rw [show 0 * 2 = 0 from rfl] at hx144_0)
                      (try rw [Addr.add_zero'] at hx144_0)
                      (try rw [show ((0 : Int)).toNat = 0 from rfl] at hx144_1)
                      (try rw [show 0 * 2 = 0 from rfl] at hx144_1)
                      (try rw [Addr.add_zero'] at hx144_1)
                      have HR144_1 := Aside0.mk hi144_1
                      have HC144_1 := Aside0.mk hl144_1
                      clear hi144_1 hl144_1
                      replace p144 := eq_true p144
                      replace q144 := eq_true q144
                      have ea_ := Option.some.inj (hx143_1.symm.trans hx144_1)
                      injection ea_ with ea_ en_ ec_
                      subst ea_
                      subst ec_
                      clear en_
                      obtain ⟨Ao44, co44, eo44⟩ := Kd.S_slice HO141.out
                      subst eo44
                      go_wp2
                      go_meet
                      case rel => exact ⟨_, (((t139.length : Int) != (l0.length : Int))), (by first | rfl | (simp; done) | (simp [*]; done)), H', ⟨by have := HK1.out; first | omega | exact Nat.le_refl _⟩, ⟨by (with_reducible repeat (first | apply Kd.S_alloc | apply Kd.S_drewN | apply Kd.S_drew)); exact Kd.S_mono HO138.out (fun _ hk => hk.2)⟩, ⟨by (with_reducible repeat (first | apply Kd.S_alloc | apply Kd.S_drewN | apply Kd.S_drew)); exact Kd.S_mono HO141.out (fun _ hk => hk.2)⟩, ⟨by repeat (first | (with_reducible first | exact HB.out | apply below_alloc | apply pw_below_drewN | apply below_drew1) | exact HB.out)⟩⟩
                    · rw [if_neg c42] at H
                      have c42b0 : ((((rd_T33 t136 0).f1).length : Int) == (l0.length : Int)) = false := beq_eq_false_iff_ne.mpr c42
                      have c42b1 : ((((rd_T33 t136 0).f1).length : Int) != (l0.length : Int)) = true := bne_iff_ne.mpr c42
                      have c42b2 : (((rd_T33 t136 0).f1).length == l0.length) = false := by first | simpa using c42 | (simp at c42 ⊢; omega)
                      have H' := Aside0.mk H
                      clear H
                      obtain ⟨Ao45, co45, eo45⟩ := Kd.S_slice HO138.out
                      subst eo45
                      have p143 : 0 ≤ (0 : Int) := (by omega)
                      have q143 : 0 < (t136.length : Int) := of_decide_eq_true (by first | (with_reducible assumption) | assumption)
                      obtain ⟨ad143, A143_1, c143_1, e143, hx143_0, hx143_1, hl143_1, hi143_1⟩ := at_T33 (Kd.S_reads' HO138.out).2.2 0 p143 q143
                      cases e143
                      obtain ⟨ce143, hce143, hMe143, hcc143⟩ := Kd.S_get HO138.out z33 0 p143 (by first | exact q143 | exact of_decide_eq_true (by first | (with_reducible assumption) | assumption) | (have e_ := (Kd.S_reads' HO138.out).1; omega))
                      obtain ⟨ve143_1, rfl, ge143_1⟩ := k33_openM hMe143
                      have hv143_1 := hcc143 1 _ rfl
                      rw [add_field _ _ 1 (by omega)] at hv143_1
                      replace hv143_1 := Option.some.inj (hv143_1.symm.trans hx143_1)
                      rw [hv143_1] at ge143_1
                      have HL143_1 := Aside0.mk (show Kd.R Kd.string 9 _ _ _ _ ((rd_T33 t136 0).f1) from ge143_1)
                      clear hv143_1 ge143_1
                      clear hcc143 hce143
                      have qi143 : (0 < t136.length) = True := eq_true (by omega)
                      (try rw [show ((0 : Int)).toNat = 0 from rfl] at hx143_0)
                      (try rw [show 0 * 2 = 0 from rfl] at hx143_0)
                      (try rw [Addr.add_zero'] at hx143_0)
                      (try rw [show ((0 : Int)).toNat = 0 from rfl] at hx143_1)
                      (try rw [show 0 * 2 = 0 from rfl] at hx143_1)
                      (try rw [Addr.add_zero'] at hx143_1)
                      have HR143_1 := Aside0.mk hi143_1
                      have HC143_1 := Aside0.mk hl143_1
                      clear hi143_1 hl143_1
                      replace p143 := eq_true p143
                      replace q143 := eq_true q143
                      have p144 : 0 ≤ (0 : Int) := (by omega)
                      have q144 : 0 < (t136.length : Int) := of_decide_eq_true (by first | (with_reducible assumption) | assumption)
                      obtain ⟨ad144, A144_1, c144_1, e144, hx144_0, hx144_1, hl144_1, hi144_1⟩ := at_T33 (Kd.S_reads' HO138.out).2.2 0 p144 q144
                      obtain rfl : ad143 = ad144 := (by injection e144)
                      obtain ⟨ce144, hce144, hMe144, hcc144⟩ := Kd.S_get HO138.out z33 0 p144 (by first | exact q144 | exact of_decide_eq_true (by first | (with_reducible assumption) | assumption) | (have e_ := (Kd.S_reads' HO138.out).1; omega))
                      obtain ⟨ve144_1, rfl, ge144_1⟩ := k33_openM hMe144
                      have hv144_1 := hcc144 1 _ rfl
                      rw [add_field _ _ 1 (by omega)] at hv144_1
                      replace hv144_1 := Option.some.inj (hv144_1.symm.trans hx144_1)
                      rw [hv144_1] at ge144_1
                      have HL144_1 := Aside0.mk (show Kd.R Kd.string 9 _ _ _ _ ((rd_T33 t136 0).f1) from ge144_1)
                      clear hv144_1 ge144_1
                      clear hcc144 hce144
                      have qi144 : (0 < t136.length) = True := eq_true (by omega)
                      (try rw [show ((0 : Int)).toNat = 0 from rfl] at hx144_0)
                      (try rw [show 0 * 2 = 0 from rfl] at hx144_0)
                      (try rw [Addr.add_zero'] at hx144_0)
                      (try rw [show ((0 : Int)).toNat = 0 from rfl] at hx144_1)
                      (try rw [show 0 * 2 = 0 from rfl] at hx144_1)
                      (try rw [Addr.add_zero'] at hx144_1)
                      have HR144_1 := Aside0.mk hi144_1
                      have HC144_1 := Aside0.mk hl144_1
                      clear hi144_1 hl144_1
                      replace p144 := eq_true p144
                      replace q144 := eq_true q144
                      have ea_ := Option.some.inj (hx143_1.symm.trans hx144_1)
                      injection ea_ with ea_ en_ ec_
                      subst ea_
                      subst ec_
                      clear en_
                      go_wp2
                      go_meet
                      case rel => exact ⟨_, (true), (by first | rfl | (simp; done) | (simp [*]; done)), H', ⟨by have := HK1.out; first | omega | exact Nat.le_refl _⟩, ⟨by (with_reducible repeat (first | apply Kd.S_alloc | apply Kd.S_drewN | apply Kd.S_drew)); exact Kd.S_mono HO138.out (fun _ hk => hk.2)⟩, ⟨by (with_reducible repeat (first | apply Kd.S_alloc | apply Kd.S_drewN | apply Kd.S_drew)); exact Kd.S_mono HO141.out (fun _ hk => hk.2)⟩, ⟨by repeat (first | (with_reducible first | exact HB.out | apply below_alloc | apply pw_below_drewN | apply below_drew1) | exact HB.out)⟩⟩
                  · rw [if_neg c41] at H
                    have c41b0 : (((rd_T33 t136 0).f0) == 1) = false := beq_eq_false_iff_ne.mpr c41
                    have c41b1 : (((rd_T33 t136 0).f0) != 1) = true := bne_iff_ne.mpr c41
                    have H' := Aside0.mk H
                    clear H
                    obtain ⟨Ao46, co46, eo46⟩ := Kd.S_slice HO138.out
                    subst eo46
                    have p143 : 0 ≤ (0 : Int) := (by omega)
                    have q143 : 0 < (t136.length : Int) := of_decide_eq_true (by first | (with_reducible assumption) | assumption)
                    obtain ⟨ad143, A143_1, c143_1, e143, hx143_0, hx143_1, hl143_1, hi143_1⟩ := at_T33 (Kd.S_reads' HO138.out).2.2 0 p143 q143
                    cases e143
                    obtain ⟨ce143, hce143, hMe143, hcc143⟩ := Kd.S_get HO138.out z33 0 p143 (by first | exact q143 | exact of_decide_eq_true (by first | (with_reducible assumption) | assumption) | (have e_ := (Kd.S_reads' HO138.out).1; omega))
                    obtain ⟨ve143_1, rfl, ge143_1⟩ := k33_openM hMe143
                    have hv143_1 := hcc143 1 _ rfl
                    rw [add_field _ _ 1 (by omega)] at hv143_1
                    replace hv143_1 := Option.some.inj (hv143_1.symm.trans hx143_1)
                    rw [hv143_1] at ge143_1
                    have HL143_1 := Aside0.mk (show Kd.R Kd.string 9 _ _ _ _ ((rd_T33 t136 0).f1) from ge143_1)
                    clear hv143_1 ge143_1
                    clear hcc143 hce143
                    have qi143 : (0 < t136.length) = True := eq_true (by omega)
                    (try rw [show ((0 : Int)).toNat = 0 from rfl] at hx143_0)
                    (try rw [show 0 * 2 = 0 from rfl] at hx143_0)
                    (try rw [Addr.add_zero'] at hx143_0)
                    (try rw [show ((0 : Int)).toNat = 0 from rfl] at hx143_1)
                    (try rw [show 0 * 2 = 0 from rfl] at hx143_1)
                    (try rw [Addr.add_zero'] at hx143_1)
                    have HR143_1 := Aside0.mk hi143_1
                    have HC143_1 := Aside0.mk hl143_1
                    clear hi143_1 hl143_1
                    replace p143 := eq_true p143
                    replace q143 := eq_true q143
                    go_wp2
                    go_meet
                    case rel => exact ⟨_, (true), (by first | rfl | (simp; done) | (simp [*]; done)), H', ⟨by have := HK1.out; first | omega | exact Nat.le_refl _⟩, ⟨by (with_reducible repeat (first | apply Kd.S_alloc | apply Kd.S_drewN | apply Kd.S_drew)); exact Kd.S_mono HO138.out (fun _ hk => hk.2)⟩, ⟨by (with_reducible repeat (first | apply Kd.S_alloc | apply Kd.S_drewN | apply Kd.S_drew)); exact Kd.S_mono HO141.out (fun _ hk => hk.2)⟩, ⟨by repeat (first | (with_reducible first | exact HB.out | apply below_alloc | apply pw_below_drewN | apply below_drew1) | exact HB.out)⟩⟩
                · rw [if_neg c40] at H
                  exact absurd H (by simp)
              · rw [if_neg c39] at H
                have c39b0 : ((t136.length : Int) == 1) = false := beq_eq_false_iff_ne.mpr c39
                have c39b1 : ((t136.length : Int) != 1) = true := bne_iff_ne.mpr c39
                (first | rw [c39b0] | (simp only [i64_w, i32_w]; rw [c39b0]) | skip)
                have H' := Aside0.mk H
                clear H
                obtain ⟨Ao47, co47, eo47⟩ := Kd.S_slice HO138.out
                subst eo47
                go_wp2
                go_meet
                case rel => exact ⟨_, (true), (by first | rfl | (simp; done) | (simp [*]; done)), H', ⟨by have := HK1.out; first | omega | exact Nat.le_refl _⟩, ⟨by (with_reducible repeat (first | apply Kd.S_alloc | apply Kd.S_drewN | apply Kd.S_drew)); exact Kd.S_mono HO138.out (fun _ hk => hk.2)⟩, ⟨by (with_reducible repeat (first | apply Kd.S_alloc | apply Kd.S_drewN | apply Kd.S_drew)); exact Kd.S_mono HO141.out (fun _ hk => hk.2)⟩, ⟨by repeat (first | (with_reducible first | exact HB.out | apply below_alloc | apply pw_below_drewN | apply below_drew1) | exact HB.out)⟩⟩
            case rest =>
              clear HC36
              try clear c1
              try clear p1
              try clear q1
              try clear hx1
              try clear qi1
              try clear c2
              try clear c2b0
              try clear c2b1
              try clear p2
              try clear c3
              try clear c4
              try clear c5
              try clear c5b0
              try clear c6
              try clear c6b0
              try clear p6
              try clear c7
              try clear c7b0
              try clear c8
              try clear c9
              try clear c10
              try clear c10b0
              try clear c11
              try clear c11b0
              try clear c11b1
              try clear c11b2
              try clear c12
              try clear c12b0
              try clear c12b1
              try clear c12b2
              try clear c13
              try clear c13b0
              try clear c13b1
              try clear c13b2
              try clear p13
              try clear q13
              try clear hx13
              try clear c14
              try clear c14b0
              try clear c14b1
              try clear c14b2
              try clear p14
              try clear q14
              try clear hx14
              try clear qi14
              try clear c16
              try clear c16b0
              try clear c16b1
              try clear c16b2
              try clear c17
              try clear c17b0
              try clear c17b1
              try clear c17b2
              try clear c24
              try clear c24b0
              try clear c24b1
              try clear c24b2
              try clear c25
              try clear c25b0
              try clear c25b1
              try clear c39
              try clear c39b0
              try clear c39b1
              try clear c40
              try clear c40b0
              try clear c40b1
              try clear c41
              try clear c41b0
              try clear c41b1
              try clear c42
              try clear c42b0
              try clear c42b1
              try clear c42b2
              try clear hx133_0
              try clear hx143_0
              try clear hx143_1
              try clear hx144_0
              try clear hx144_1
              try clear p133
              try clear p143
              try clear p144
              try clear p2
              try clear q133
              try clear q143
              try clear q144
              obtain ⟨kq, x81_35, rfl, HA, HJ35, HO_7, HO_8, HB⟩ := hcut
              cases kq with
              | zero => exact absurd HA.out (by simp [tapewrightlaw08_LexWords.j1])
              | succ kj35 =>
                have H := HA.out
                clear HA
                simp only [tapewrightlaw08_LexWords.j1] at H
                by_cases c48 : x81_35 = true
                · subst c48
                  have H1 : (some false) = some r := by rw [if_pos rfl] at H; exact H
                  clear H
                  have H := H1
                  clear H1
                  obtain rfl := Option.some.inj H
                  go_wp2
                  go_ret
                  exact ⟨by first | rfl | (simp [errW_none, errW_some] <;> rfl) | (simp [*, errW_none, errW_some] <;> rfl), by repeat (first | (with_reducible first | exact HB.out | apply below_alloc | apply pw_below_drewN | apply below_drew1) | exact HB.out)⟩
                · replace c48 := Bool.eq_false_iff.mpr c48
                  subst c48
                  have H1 : (tapewrightlaw08_LexWords.l1 kj35 t136 t139 l0 (l0.length : Int) 0) = some r := by rw [if_neg (show ¬ (false = true) by decide)] at H; exact H
                  clear H
                  have H := H1
                  clear H1
                  have H' := Aside0.mk H
                  clear H
                  go_wp2
                  go_loopg [84] kj35 (fun kq v84 w' => ∃ (x84_3 : Int), v84 = .int .i64 x84_3 ∧ Aside0 (tapewrightlaw08_LexWords.l1 kq t136 t139 l0 (l0.length : Int) x84_3 = some r) ∧ Aside0 (kq ≤ kj35) ∧ Aside0 (Kd.S k33 33 w' w.heap.size (fun k_ => some k_ ≠ (v140 : Value).ownBlock) v137 t136) ∧ Aside0 (Kd.S k33 33 w' w.heap.size (fun k_ => some k_ ≠ (v137 : Value).ownBlock) v140 t139) ∧ Aside0 (Below w.heap.size w w'))
                  case atStart => exact ⟨(0), (by first | rfl | (simp; done) | (simp [*]; done)), H', ⟨Nat.le_refl _⟩, ⟨by (with_reducible repeat (first | apply Kd.S_alloc | apply Kd.S_drewN | apply Kd.S_drew)); exact HO_7.out⟩, ⟨by (with_reducible repeat (first | apply Kd.S_alloc | apply Kd.S_drewN | apply Kd.S_drew)); exact HO_8.out⟩, ⟨by repeat (first | (with_reducible first | exact HB.out | apply below_alloc | apply pw_below_drewN | apply below_drew1) | exact HB.out)⟩⟩
                  case round =>
                    clear H'
                    try clear c1
                    try clear p1
                    try clear q1
                    try clear hx1
                    try clear qi1
                    try clear c2
                    try clear c2b0
                    try clear c2b1
                    try clear p2
                    try clear c3
                    try clear c4
                    try clear c5
                    try clear c5b0
                    try clear c6
                    try clear c6b0
                    try clear p6
                    try clear c7
                    try clear c7b0
                    try clear c8
                    try clear c9
                    try clear c10
                    try clear c10b0
                    try clear c11
                    try clear c11b0
                    try clear c11b1
                    try clear c11b2
                    try clear c12
                    try clear c12b0
                    try clear c12b1
                    try clear c12b2
                    try clear c13
                    try clear c13b0
                    try clear c13b1
                    try clear c13b2
                    try clear p13
                    try clear q13
                    try clear hx13
                    try clear c14
                    try clear c14b0
                    try clear c14b1
                    try clear c14b2
                    try clear p14
                    try clear q14
                    try clear hx14
                    try clear qi14
                    try clear c16
                    try clear c16b0
                    try clear c16b1
                    try clear c16b2
                    try clear c17
                    try clear c17b0
                    try clear c17b1
                    try clear c17b2
                    try clear c24
                    try clear c24b0
                    try clear c24b1
                    try clear c24b2
                    try clear c25
                    try clear c25b0
                    try clear c25b1
                    try clear c39
                    try clear c39b0
                    try clear c39b1
                    try clear c40
                    try clear c40b0
                    try clear c40b1
                    try clear c41
                    try clear c41b0
                    try clear c41b1
                    try clear c42
                    try clear c42b0
                    try clear c42b1
                    try clear c42b2
                    try clear c48
                    try clear hx133_0
                    try clear hx143_0
                    try clear hx143_1
                    try clear hx144_0
                    try clear hx144_1
                    try clear p1
                    try clear p13
                    try clear p133
                    try clear p14
                    try clear p143
                    try clear p144
                    try clear p2
                    try clear p6
                    try clear q1
                    try clear q13
                    try clear q133
                    try clear q14
                    try clear q143
                    try clear q144
                    obtain ⟨x84_3, rfl, HA, HK3, HO_7, HO_8, HB⟩ := hrel
                    cases gk with
                    | zero => exact absurd HA.out (by simp [tapewrightlaw08_LexWords.l1])
                    | succ k3 =>
                      have H := HA.out
                      clear HA
                      simp only [tapewrightlaw08_LexWords.l1] at H
                      by_cases c49 : x84_3 < (l0.length : Int)
                      · rw [if_pos c49] at H
                        have c49b0 : decide (x84_3 < (l0.length : Int)) = true := decide_eq_true c49
                        clear c49
                        by_cases c50 : 0 ≤ x84_3
                        · rw [if_pos c50] at H
                          have c50b0 : decide (0 ≤ x84_3) = true := decide_eq_true c50
                          clear c50
                          by_cases c51 : x84_3 < (l0.length : Int)
                          · rw [if_pos c51] at H
                            have c51b0 : decide (x84_3 < (l0.length : Int)) = true := decide_eq_true c51
                            clear c51
                            by_cases c52 : 0 < (t136.length : Int)
                            · rw [if_pos c52] at H
                              have c52b0 : decide (0 < (t136.length : Int)) = true := decide_eq_true c52
                              have c52b1 : decide (0 < t136.length) = true := decide_eq_true (by omega)
                              clear c52
                              by_cases c53 : x84_3 < (((rd_T33 t136 0).f1).length : Int)
                              · rw [if_pos c53] at H
                                have c53b0 : decide (x84_3 < (((rd_T33 t136 0).f1).length : Int)) = true := decide_eq_true c53
                                clear c53
                                by_cases c54 : (rdOf ByteArray.empty ((rd_T33 t136 0).f1) x84_3).toList = (rdOf ByteArray.empty l0 x84_3).toList
                                · rw [if_pos c54] at H
                                  have c54b0 : ((rdOf ByteArray.empty ((rd_T33 t136 0).f1) x84_3).toList == (rdOf ByteArray.empty l0 x84_3).toList) = true := beq_iff_eq.mpr c54
                                  have c54b1 : ((rdOf ByteArray.empty ((rd_T33 t136 0).f1) x84_3).toList != (rdOf ByteArray.empty l0 x84_3).toList) = false := bne_eq_false_iff_eq.mpr c54
                                  clear c54
                                  by_cases c55 : x84_3 < (t139.length : Int)
                                  · rw [if_pos c55] at H
                                    have c55b0 : decide (x84_3 < (t139.length : Int)) = true := decide_eq_true c55
                                    clear c55
                                    by_cases c56 : ((rd_T33 t139 x84_3).f0) = (wrap64 (x84_3 + 1))
                                    · rw [if_pos c56] at H
                                      have c56b0 : (((rd_T33 t139 x84_3).f0) == (wrap64 (x84_3 + 1))) = true := beq_iff_eq.mpr c56
                                      have c56b1 : (((rd_T33 t139 x84_3).f0) != (wrap64 (x84_3 + 1))) = false := bne_eq_false_iff_eq.mpr c56
                                      clear c56
                                      by_cases c57 : (((rd_T33 t139 x84_3).f1).length : Int) = 1
                                      · rw [if_pos c57] at H
                                        have c57b0 : ((((rd_T33 t139 x84_3).f1).length : Int) == 1) = true := beq_iff_eq.mpr c57
                                        have c57b1 : ((((rd_T33 t139 x84_3).f1).length : Int) != 1) = false := bne_eq_false_iff_eq.mpr c57
                                        clear c57
                                        by_cases c58 : 0 < (((rd_T33 t139 x84_3).f1).length : Int)
                                        · rw [if_pos c58] at H
                                          have c58b0 : decide (0 < (((rd_T33 t139 x84_3).f1).length : Int)) = true := decide_eq_true c58
                                          have c58b1 : decide (0 < ((rd_T33 t139 x84_3).f1).length) = true := decide_eq_true (by omega)
                                          clear c58
                                          by_cases c59 : (rdOf ByteArray.empty ((rd_T33 t139 x84_3).f1) 0).toList = (rdOf ByteArray.empty l0 x84_3).toList
                                          · rw [if_pos c59] at H
                                            have c59b0 : ((rdOf ByteArray.empty ((rd_T33 t139 x84_3).f1) 0).toList == (rdOf ByteArray.empty l0 x84_3).toList) = true := beq_iff_eq.mpr c59
                                            have c59b1 : ((rdOf ByteArray.empty ((rd_T33 t139 x84_3).f1) 0).toList != (rdOf ByteArray.empty l0 x84_3).toList) = false := bne_eq_false_iff_eq.mpr c59
                                            clear c59
                                            have H' := Aside0.mk H
                                            clear H
                                            have p145 : 0 ≤ (x84_3 : Int) := of_decide_eq_true (by first | (with_reducible assumption) | assumption)
                                            have q145 : x84_3 < (l0.length : Int) := of_decide_eq_true (by first | (with_reducible assumption) | assumption)
                                            obtain ⟨ad145, e145, hx145_0⟩ := Kd.at_string HR0.out x84_3 p145 q145
                                            cases e145
                                            replace hx145_0 := (HB.out.cell (World.block_lt_of_cell? w _ hx145_0)).trans hx145_0
                                            replace p145 := eq_true p145
                                            replace q145 := eq_true q145
                                            obtain ⟨Ao60, co60, eo60⟩ := Kd.S_slice HO_7.out
                                            subst eo60
                                            have p146 : 0 ≤ (0 : Int) := (by omega)
                                            have q146 : 0 < (t136.length : Int) := of_decide_eq_true (by first | (with_reducible assumption) | assumption)
                                            obtain ⟨ad146, A146_1, c146_1, e146, hx146_0, hx146_1, hl146_1, hi146_1⟩ := at_T33 (Kd.S_reads' HO_7.out).2.2 0 p146 q146
                                            cases e146
                                            obtain ⟨ce146, hce146, hMe146, hcc146⟩ := Kd.S_get HO_7.out z33 0 p146 (by first | exact q146 | exact of_decide_eq_true (by first | (with_reducible assumption) | assumption) | (have e_ := (Kd.S_reads' HO_7.out).1; omega))
                                            obtain ⟨ve146_1, rfl, ge146_1⟩ := k33_openM hMe146
                                            have hv146_1 := hcc146 1 _ rfl
                                            rw [add_field _ _ 1 (by omega)] at hv146_1
                                            replace hv146_1 := Option.some.inj (hv146_1.symm.trans hx146_1)
                                            rw [hv146_1] at ge146_1
                                            have HL146_1 := Aside0.mk (show Kd.R Kd.string 9 _ _ _ _ ((rd_T33 t136 0).f1) from ge146_1)
                                            clear hv146_1 ge146_1
                                            clear hcc146 hce146
                                            have qi146 : (0 < t136.length) = True := eq_true (by omega)
                                            (try rw [show ((0 : Int)).toNat = 0 from rfl] at hx146_0)
                                            (try rw [show 0 * 2 = 0 from rfl] at hx146_0)
                                            (try rw [Addr.add_zero'] at hx146_0)
                                            (try rw [show ((0 : Int)).toNat = 0 from rfl] at hx146_1)
                                            (try rw [show 0 * 2 = 0 from rfl] at hx146_1)
                                            (try rw [Addr.add_zero'] at hx146_1)
                                            have HR146_1 := Aside0.mk hi146_1
                                            have HC146_1 := Aside0.mk hl146_1
                                            clear hi146_1 hl146_1
                                            replace p146 := eq_true p146
                                            replace q146 := eq_true q146
                                            have p147 : 0 ≤ (x84_3 : Int) := of_decide_eq_true (by first | (with_reducible assumption) | assumption)
                                            have q147 : x84_3 < (((rd_T33 t136 0).f1).length : Int) := of_decide_eq_true (by first | (with_reducible assumption) | assumption)
                                            obtain ⟨ad147, e147, hx147_0⟩ := Kd.at_string (by repeat (first | (with_reducible exact HR146_1.out) | (with_reducible refine Kd.C_alloc ?_ _) | (with_reducible refine Kd.C_drewN ?_ _) | (with_reducible refine Kd.C_drew ?_) | exact HR146_1.out)) x84_3 p147 q147
                                            cases e147
                                            replace p147 := eq_true p147
                                            replace q147 := eq_true q147
                                            obtain ⟨Ao61, co61, eo61⟩ := Kd.S_slice HO_8.out
                                            subst eo61
                                            have p148 : 0 ≤ (x84_3 : Int) := of_decide_eq_true (by first | (with_reducible assumption) | assumption)
                                            have q148 : x84_3 < (t139.length : Int) := of_decide_eq_true (by first | (with_reducible assumption) | assumption)
                                            obtain ⟨ad148, A148_1, c148_1, e148, hx148_0, hx148_1, hl148_1, hi148_1⟩ := at_T33 (Kd.S_reads' HO_8.out).2.2 x84_3 p148 q148
                                            cases e148
                                            obtain ⟨ce148, hce148, hMe148, hcc148⟩ := Kd.S_get HO_8.out z33 x84_3 p148 (by first | exact q148 | exact of_decide_eq_true (by first | (with_reducible assumption) | assumption) | (have e_ := (Kd.S_reads' HO_8.out).1; omega))
                                            obtain ⟨ve148_1, rfl, ge148_1⟩ := k33_openM hMe148
                                            have hv148_1 := hcc148 1 _ rfl
                                            rw [add_field _ _ 1 (by omega)] at hv148_1
                                            replace hv148_1 := Option.some.inj (hv148_1.symm.trans hx148_1)
                                            rw [hv148_1] at ge148_1
                                            have HL148_1 := Aside0.mk (show Kd.R Kd.string 9 _ _ _ _ ((rd_T33 t139 x84_3).f1) from ge148_1)
                                            clear hv148_1 ge148_1
                                            clear hcc148 hce148
                                            have HR148_1 := Aside0.mk hi148_1
                                            have HC148_1 := Aside0.mk hl148_1
                                            clear hi148_1 hl148_1
                                            replace p148 := eq_true p148
                                            replace q148 := eq_true q148
                                            have p149 : 0 ≤ (x84_3 : Int) := of_decide_eq_true (by first | (with_reducible assumption) | assumption)
                                            have q149 : x84_3 < (t139.length : Int) := of_decide_eq_true (by first | (with_reducible assumption) | assumption)
                                            obtain ⟨ad149, A149_1, c149_1, e149, hx149_0, hx149_1, hl149_1, hi149_1⟩ := at_T33 (Kd.S_reads' HO_8.out).2.2 x84_3 p149 q149
                                            obtain rfl : ad148 = ad149 := (by injection e149)
                                            obtain ⟨ce149, hce149, hMe149, hcc149⟩ := Kd.S_get HO_8.out z33 x84_3 p149 (by first | exact q149 | exact of_decide_eq_true (by first | (with_reducible assumption) | assumption) | (have e_ := (Kd.S_reads' HO_8.out).1; omega))
                                            obtain ⟨ve149_1, rfl, ge149_1⟩ := k33_openM hMe149
                                            have hv149_1 := hcc149 1 _ rfl
                                            rw [add_field _ _ 1 (by omega)] at hv149_1
                                            replace hv149_1 := Option.some.inj (hv149_1.symm.trans hx149_1)
                                            rw [hv149_1] at ge149_1
                                            have HL149_1 := Aside0.mk (show Kd.R Kd.string 9 _ _ _ _ ((rd_T33 t139 x84_3).f1) from ge149_1)
                                            clear hv149_1 ge149_1
                                            clear hcc149 hce149
                                            have HR149_1 := Aside0.mk hi149_1
                                            have HC149_1 := Aside0.mk hl149_1
                                            clear hi149_1 hl149_1
                                            replace p149 := eq_true p149
                                            replace q149 := eq_true q149
                                            have ea_ := Option.some.inj (hx148_1.symm.trans hx149_1)
                                            injection ea_ with ea_ en_ ec_
                                            subst ea_
                                            subst ec_
                                            clear en_
                                            have p150 : 0 ≤ (x84_3 : Int) := of_decide_eq_true (by first | (with_reducible assumption) | assumption)
                                            have q150 : x84_3 < (t139.length : Int) := of_decide_eq_true (by first | (with_reducible assumption) | assumption)
                                            obtain ⟨ad150, A150_1, c150_1, e150, hx150_0, hx150_1, hl150_1, hi150_1⟩ := at_T33 (Kd.S_reads' HO_8.out).2.2 x84_3 p150 q150
                                            obtain rfl : ad148 = ad150 := (by injection e150)
                                            obtain ⟨ce150, hce150, hMe150, hcc150⟩ := Kd.S_get HO_8.out z33 x84_3 p150 (by first | exact q150 | exact of_decide_eq_true (by first | (with_reducible assumption) | assumption) | (have e_ := (Kd.S_reads' HO_8.out).1; omega))
                                            obtain ⟨ve150_1, rfl, ge150_1⟩ := k33_openM hMe150
                                            have hv150_1 := hcc150 1 _ rfl
                                            rw [add_field _ _ 1 (by omega)] at hv150_1
                                            replace hv150_1 := Option.some.inj (hv150_1.symm.trans hx150_1)
                                            rw [hv150_1] at ge150_1
                                            have HL150_1 := Aside0.mk (show Kd.R Kd.string 9 _ _ _ _ ((rd_T33 t139 x84_3).f1) from ge150_1)
                                            clear hv150_1 ge150_1
                                            clear hcc150 hce150
                                            have HR150_1 := Aside0.mk hi150_1
                                            have HC150_1 := Aside0.mk hl150_1
                                            clear hi150_1 hl150_1
                                            replace p150 := eq_true p150
                                            replace q150 := eq_true q150
                                            have ea_ := Option.some.inj (hx148_1.symm.trans hx150_1)
                                            injection ea_ with ea_ en_ ec_
                                            subst ea_
                                            subst ec_
                                            clear en_
                                            have p151 : 0 ≤ (0 : Int) := (by omega)
                                            have q151 : 0 < (((rd_T33 t139 x84_3).f1).length : Int) := of_decide_eq_true (by first | (with_reducible assumption) | assumption)
                                            obtain ⟨ad151, e151, hx151_0⟩ := Kd.at_string (by repeat (first | (with_reducible exact HR150_1.out) | (with_reducible refine Kd.C_alloc ?_ _) | (with_reducible refine Kd.C_drewN ?_ _) | (with_reducible refine Kd.C_drew ?_) | exact HR150_1.out)) 0 p151 q151
                                            cases e151
                                            have qi151 : (0 < ((rd_T33 t139 x84_3).f1).length) = True := eq_true (by omega)
                                            (try rw [show ((0 : Int)).toNat = 0 from rfl] at hx151_0)
                                            (try rw [Addr.add_zero'] at hx151_0)
                                            replace p151 := eq_true p151
                                            replace q151 := eq_true q151
                                            go_wp2
                                            go_roundg k3
                                            case measure => have := HK1.out; have := HJ35.out; have := HK3.out; omega
                                            case rel => exact ⟨(wrap64 (x84_3 + 1)), (by first | rfl | (simp; done) | (simp [*]; done)), H', ⟨by have := HK1.out; have := HJ35.out; have := HK3.out; omega⟩, ⟨by (with_reducible repeat (first | apply Kd.S_alloc | apply Kd.S_drewN | apply Kd.S_drew)); exact HO_7.out⟩, ⟨by (with_reducible repeat (first | apply Kd.S_alloc | apply Kd.S_drewN | apply Kd.S_drew)); exact HO_8.out⟩, ⟨by repeat (first | (with_reducible first | exact HB.out | apply below_alloc | apply pw_below_drewN | apply below_drew1) | exact HB.out)⟩⟩
                                          · rw [if_neg c59] at H
                                            have c59b0 : ((rdOf ByteArray.empty ((rd_T33 t139 x84_3).f1) 0).toList == (rdOf ByteArray.empty l0 x84_3).toList) = false := beq_eq_false_iff_ne.mpr c59
                                            have c59b1 : ((rdOf ByteArray.empty ((rd_T33 t139 x84_3).f1) 0).toList != (rdOf ByteArray.empty l0 x84_3).toList) = true := bne_iff_ne.mpr c59
                                            obtain rfl := Option.some.inj H
                                            have p145 : 0 ≤ (x84_3 : Int) := of_decide_eq_true (by first | (with_reducible assumption) | assumption)
                                            have q145 : x84_3 < (l0.length : Int) := of_decide_eq_true (by first | (with_reducible assumption) | assumption)
                                            obtain ⟨ad145, e145, hx145_0⟩ := Kd.at_string HR0.out x84_3 p145 q145
                                            cases e145
                                            replace hx145_0 := (HB.out.cell (World.block_lt_of_cell? w _ hx145_0)).trans hx145_0
                                            replace p145 := eq_true p145
                                            replace q145 := eq_true q145
                                            obtain ⟨Ao62, co62, eo62⟩ := Kd.S_slice HO_7.out
                                            subst eo62
                                            have p146 : 0 ≤ (0 : Int) := (by omega)
                                            have q146 : 0 < (t136.length : Int) := of_decide_eq_true (by first | (with_reducible assumption) | assumption)
                                            obtain ⟨ad146, A146_1, c146_1, e146, hx146_0, hx146_1, hl146_1, hi146_1⟩ := at_T33 (Kd.S_reads' HO_7.out).2.2 0 p146 q146
                                            cases e146
                                            obtain ⟨ce146, hce146, hMe146, hcc146⟩ := Kd.S_get HO_7.out z33 0 p146 (by first | exact q146 | exact of_decide_eq_true (by first | (with_reducible assumption) | assumption) | (have e_ := (Kd.S_reads' HO_7.out).1; omega))
                                            obtain ⟨ve146_1, rfl, ge146_1⟩ := k33_openM hMe146
                                            have hv146_1 := hcc146 1 _ rfl
                                            rw [add_field _ _ 1 (by omega)] at hv146_1
                                            replace hv146_1 := Option.some.inj (hv146_1.symm.trans hx146_1)
                                            rw [hv146_1] at ge146_1
                                            have HL146_1 := Aside0.mk (show Kd.R Kd.string 9 _ _ _ _ ((rd_T33 t136 0).f1) from ge146_1)
                                            clear hv146_1 ge146_1
                                            clear hcc146 hce146
                                            have qi146 : (0 < t136.length) = True := eq_true (by omega)
                                            (try rw [show ((0 : Int)).toNat = 0 from rfl] at hx146_0)
                                            (try rw [show 0 * 2 = 0 from rfl] at hx146_0)
                                            (try rw [Addr.add_zero'] at hx146_0)
                                            (try rw [show ((0 : Int)).toNat = 0 from rfl] at hx146_1)
                                            (try rw [show 0 * 2 = 0 from rfl] at hx146_1)
                                            (try rw [Addr.add_zero'] at hx146_1)
                                            have HR146_1 := Aside0.mk hi146_1
                                            have HC146_1 := Aside0.mk hl146_1
                                            clear hi146_1 hl146_1
                                            replace p146 := eq_true p146
                                            replace q146 := eq_true q146
                                            have p147 : 0 ≤ (x84_3 : Int) := of_decide_eq_true (by first | (with_reducible assumption) | assumption)
                                            have q147 : x84_3 < (((rd_T33 t136 0).f1).length : Int) := of_decide_eq_true (by first | (with_reducible assumption) | assumption)
                                            obtain ⟨ad147, e147, hx147_0⟩ := Kd.at_string (by repeat (first | (with_reducible exact HR146_1.out) | (with_reducible refine Kd.C_alloc ?_ _) | (with_reducible refine Kd.C_drewN ?_ _) | (with_reducible refine Kd.C_drew ?_) | exact HR146_1.out)) x84_3 p147 q147
                                            cases e147
                                            replace p147 := eq_true p147
                                            replace q147 := eq_true q147
                                            obtain ⟨Ao63, co63, eo63⟩ := Kd.S_slice HO_8.out
                                            subst eo63
                                            have p148 : 0 ≤ (x84_3 : Int) := of_decide_eq_true (by first | (with_reducible assumption) | assumption)
                                            have q148 : x84_3 < (t139.length : Int) := of_decide_eq_true (by first | (with_reducible assumption) | assumption)
                                            obtain ⟨ad148, A148_1, c148_1, e148, hx148_0, hx148_1, hl148_1, hi148_1⟩ := at_T33 (Kd.S_reads' HO_8.out).2.2 x84_3 p148 q148
                                            cases e148
                                            obtain ⟨ce148, hce148, hMe148, hcc148⟩ := Kd.S_get HO_8.out z33 x84_3 p148 (by first | exact q148 | exact of_decide_eq_true (by first | (with_reducible assumption) | assumption) | (have e_ := (Kd.S_reads' HO_8.out).1; omega))
                                            obtain ⟨ve148_1, rfl, ge148_1⟩ := k33_openM hMe148
                                            have hv148_1 := hcc148 1 _ rfl
                                            rw [add_field _ _ 1 (by omega)] at hv148_1
                                            replace hv148_1 := Option.some.inj (hv148_1.symm.trans hx148_1)
                                            rw [hv148_1] at ge148_1
                                            have HL148_1 := Aside0.mk (show Kd.R Kd.string 9 _ _ _ _ ((rd_T33 t139 x84_3).f1) from ge148_1)
                                            clear hv148_1 ge148_1
                                            clear hcc148 hce148
                                            have HR148_1 := Aside0.mk hi148_1
                                            have HC148_1 := Aside0.mk hl148_1
                                            clear hi148_1 hl148_1
                                            replace p148 := eq_true p148
                                            replace q148 := eq_true q148
                                            have p149 : 0 ≤ (x84_3 : Int) := of_decide_eq_true (by first | (with_reducible assumption) | assumption)
                                            have q149 : x84_3 < (t139.length : Int) := of_decide_eq_true (by first | (with_reducible assumption) | assumption)
                                            obtain ⟨ad149, A149_1, c149_1, e149, hx149_0, hx149_1, hl149_1, hi149_1⟩ := at_T33 (Kd.S_reads' HO_8.out).2.2 x84_3 p149 q149
                                            obtain rfl : ad148 = ad149 := (by injection e149)
                                            obtain ⟨ce149, hce149, hMe149, hcc149⟩ := Kd.S_get HO_8.out z33 x84_3 p149 (by first | exact q149 | exact of_decide_eq_true (by first | (with_reducible assumption) | assumption) | (have e_ := (Kd.S_reads' HO_8.out).1; omega))
                                            obtain ⟨ve149_1, rfl, ge149_1⟩ := k33_openM hMe149
                                            have hv149_1 := hcc149 1 _ rfl
                                            rw [add_field _ _ 1 (by omega)] at hv149_1
                                            replace hv149_1 := Option.some.inj (hv149_1.symm.trans hx149_1)
                                            rw [hv149_1] at ge149_1
                                            have HL149_1 := Aside0.mk (show Kd.R Kd.string 9 _ _ _ _ ((rd_T33 t139 x84_3).f1) from ge149_1)
                                            clear hv149_1 ge149_1
                                            clear hcc149 hce149
                                            have HR149_1 := Aside0.mk hi149_1
                                            have HC149_1 := Aside0.mk hl149_1
                                            clear hi149_1 hl149_1
                                            replace p149 := eq_true p149
                                            replace q149 := eq_true q149
                                            have ea_ := Option.some.inj (hx148_1.symm.trans hx149_1)
                                            injection ea_ with ea_ en_ ec_
                                            subst ea_
                                            subst ec_
                                            clear en_
                                            have p150 : 0 ≤ (x84_3 : Int) := of_decide_eq_true (by first | (with_reducible assumption) | assumption)
                                            have q150 : x84_3 < (t139.length : Int) := of_decide_eq_true (by first | (with_reducible assumption) | assumption)
                                            obtain ⟨ad150, A150_1, c150_1, e150, hx150_0, hx150_1, hl150_1, hi150_1⟩ := at_T33 (Kd.S_reads' HO_8.out).2.2 x84_3 p150 q150
                                            obtain rfl : ad148 = ad150 := (by injection e150)
                                            obtain ⟨ce150, hce150, hMe150, hcc150⟩ := Kd.S_get HO_8.out z33 x84_3 p150 (by first | exact q150 | exact of_decide_eq_true (by first | (with_reducible assumption) | assumption) | (have e_ := (Kd.S_reads' HO_8.out).1; omega))
                                            obtain ⟨ve150_1, rfl, ge150_1⟩ := k33_openM hMe150
                                            have hv150_1 := hcc150 1 _ rfl
                                            rw [add_field _ _ 1 (by omega)] at hv150_1
                                            replace hv150_1 := Option.some.inj (hv150_1.symm.trans hx150_1)
                                            rw [hv150_1] at ge150_1
                                            have HL150_1 := Aside0.mk (show Kd.R Kd.string 9 _ _ _ _ ((rd_T33 t139 x84_3).f1) from ge150_1)
                                            clear hv150_1 ge150_1
                                            clear hcc150 hce150
                                            have HR150_1 := Aside0.mk hi150_1
                                            have HC150_1 := Aside0.mk hl150_1
                                            clear hi150_1 hl150_1
                                            replace p150 := eq_true p150
                                            replace q150 := eq_true q150
                                            have ea_ := Option.some.inj (hx148_1.symm.trans hx150_1)
                                            injection ea_ with ea_ en_ ec_
                                            subst ea_
                                            subst ec_
                                            clear en_
                                            have p151 : 0 ≤ (0 : Int) := (by omega)
                                            have q151 : 0 < (((rd_T33 t139 x84_3).f1).length : Int) := of_decide_eq_true (by first | (with_reducible assumption) | assumption)
                                            obtain ⟨ad151, e151, hx151_0⟩ := Kd.at_string (by repeat (first | (with_reducible exact HR150_1.out) | (with_reducible refine Kd.C_alloc ?_ _) | (with_reducible refine Kd.C_drewN ?_ _) | (with_reducible refine Kd.C_drew ?_) | exact HR150_1.out)) 0 p151 q151
                                            cases e151
                                            have qi151 : (0 < ((rd_T33 t139 x84_3).f1).length) = True := eq_true (by omega)
                                            (try rw [show ((0 : Int)).toNat = 0 from rfl] at hx151_0)
                                            (try rw [Addr.add_zero'] at hx151_0)
                                            replace p151 := eq_true p151
                                            replace q151 := eq_true q151
                                            go_wp2
                                            go_ret
                                            exact ⟨by first | rfl | (simp [errW_none, errW_some] <;> rfl) | (simp [*, errW_none, errW_some] <;> rfl), by repeat (first | (with_reducible first | exact HB.out | apply below_alloc | apply pw_below_drewN | apply below_drew1) | exact HB.out)⟩
                                        · rw [if_neg c58] at H
                                          exact absurd H (by simp)
                                      · rw [if_neg c57] at H
                                        have c57b0 : ((((rd_T33 t139 x84_3).f1).length : Int) == 1) = false := beq_eq_false_iff_ne.mpr c57
                                        have c57b1 : ((((rd_T33 t139 x84_3).f1).length : Int) != 1) = true := bne_iff_ne.mpr c57
                                        obtain rfl := Option.some.inj H
                                        have p145 : 0 ≤ (x84_3 : Int) := of_decide_eq_true (by first | (with_reducible assumption) | assumption)
                                        have q145 : x84_3 < (l0.length : Int) := of_decide_eq_true (by first | (with_reducible assumption) | assumption)
                                        obtain ⟨ad145, e145, hx145_0⟩ := Kd.at_string HR0.out x84_3 p145 q145
                                        cases e145
                                        replace hx145_0 := (HB.out.cell (World.block_lt_of_cell? w _ hx145_0)).trans hx145_0
                                        replace p145 := eq_true p145
                                        replace q145 := eq_true q145
                                        obtain ⟨Ao64, co64, eo64⟩ := Kd.S_slice HO_7.out
                                        subst eo64
                                        have p146 : 0 ≤ (0 : Int) := (by omega)
                                        have q146 : 0 < (t136.length : Int) := of_decide_eq_true (by first | (with_reducible assumption) | assumption)
                                        obtain ⟨ad146, A146_1, c146_1, e146, hx146_0, hx146_1, hl146_1, hi146_1⟩ := at_T33 (Kd.S_reads' HO_7.out).2.2 0 p146 q146
                                        cases e146
                                        obtain ⟨ce146, hce146, hMe146, hcc146⟩ := Kd.S_get HO_7.out z33 0 p146 (by first | exact q146 | exact of_decide_eq_true (by first | (with_reducible assumption) | assumption) | (have e_ := (Kd.S_reads' HO_7.out).1; omega))
                                        obtain ⟨ve146_1, rfl, ge146_1⟩ := k33_openM hMe146
                                        have hv146_1 := hcc146 1 _ rfl
                                        rw [add_field _ _ 1 (by omega)] at hv146_1
                                        replace hv146_1 := Option.some.inj (hv146_1.symm.trans hx146_1)
                                        rw [hv146_1] at ge146_1
                                        have HL146_1 := Aside0.mk (show Kd.R Kd.string 9 _ _ _ _ ((rd_T33 t136 0).f1) from ge146_1)
                                        clear hv146_1 ge146_1
                                        clear hcc146 hce146
                                        have qi146 : (0 < t136.length) = True := eq_true (by omega)
                                        (try rw [show ((0 : Int)).toNat = 0 from rfl] at hx146_0)
                                        (try rw [show 0 * 2 = 0 from rfl] at hx146_0)
                                        (try rw [Addr.add_zero'] at hx146_0)
                                        (try rw [show ((0 : Int)).toNat = 0 from rfl] at hx146_1)
                                        (try rw [show 0 * 2 = 0 from rfl] at hx146_1)
                                        (try rw [Addr.add_zero'] at hx146_1)
                                        have HR146_1 := Aside0.mk hi146_1
                                        have HC146_1 := Aside0.mk hl146_1
                                        clear hi146_1 hl146_1
                                        replace p146 := eq_true p146
                                        replace q146 := eq_true q146
                                        have p147 : 0 ≤ (x84_3 : Int) := of_decide_eq_true (by first | (with_reducible assumption) | assumption)
                                        have q147 : x84_3 < (((rd_T33 t136 0).f1).length : Int) := of_decide_eq_true (by first | (with_reducible assumption) | assumption)
                                        obtain ⟨ad147, e147, hx147_0⟩ := Kd.at_string (by repeat (first | (with_reducible exact HR146_1.out) | (with_reducible refine Kd.C_alloc ?_ _) | (with_reducible refine Kd.C_drewN ?_ _) | (with_reducible refine Kd.C_drew ?_) | exact HR146_1.out)) x84_3 p147 q147
                                        cases e147
                                        replace p147 := eq_true p147
                                        replace q147 := eq_true q147
                                        obtain ⟨Ao65, co65, eo65⟩ := Kd.S_slice HO_8.out
                                        subst eo65
                                        have p148 : 0 ≤ (x84_3 : Int) := of_decide_eq_true (by first | (with_reducible assumption) | assumption)
                                        have q148 : x84_3 < (t139.length : Int) := of_decide_eq_true (by first | (with_reducible assumption) | assumption)
                                        obtain ⟨ad148, A148_1, c148_1, e148, hx148_0, hx148_1, hl148_1, hi148_1⟩ := at_T33 (Kd.S_reads' HO_8.out).2.2 x84_3 p148 q148
                                        cases e148
                                        obtain ⟨ce148, hce148, hMe148, hcc148⟩ := Kd.S_get HO_8.out z33 x84_3 p148 (by first | exact q148 | exact of_decide_eq_true (by first | (with_reducible assumption) | assumption) | (have e_ := (Kd.S_reads' HO_8.out).1; omega))
                                        obtain ⟨ve148_1, rfl, ge148_1⟩ := k33_openM hMe148
                                        have hv148_1 := hcc148 1 _ rfl
                                        rw [add_field _ _ 1 (by omega)] at hv148_1
                                        replace hv148_1 := Option.some.inj (hv148_1.symm.trans hx148_1)
                                        rw [hv148_1] at ge148_1
                                        have HL148_1 := Aside0.mk (show Kd.R Kd.string 9 _ _ _ _ ((rd_T33 t139 x84_3).f1) from ge148_1)
                                        clear hv148_1 ge148_1
                                        clear hcc148 hce148
                                        have HR148_1 := Aside0.mk hi148_1
                                        have HC148_1 := Aside0.mk hl148_1
                                        clear hi148_1 hl148_1
                                        replace p148 := eq_true p148
                                        replace q148 := eq_true q148
                                        have p149 : 0 ≤ (x84_3 : Int) := of_decide_eq_true (by first | (with_reducible assumption) | assumption)
                                        have q149 : x84_3 < (t139.length : Int) := of_decide_eq_true (by first | (with_reducible assumption) | assumption)
                                        obtain ⟨ad149, A149_1, c149_1, e149, hx149_0, hx149_1, hl149_1, hi149_1⟩ := at_T33 (Kd.S_reads' HO_8.out).2.2 x84_3 p149 q149
                                        obtain rfl : ad148 = ad149 := (by injection e149)
                                        obtain ⟨ce149, hce149, hMe149, hcc149⟩ := Kd.S_get HO_8.out z33 x84_3 p149 (by first | exact q149 | exact of_decide_eq_true (by first | (with_reducible assumption) | assumption) | (have e_ := (Kd.S_reads' HO_8.out).1; omega))
                                        obtain ⟨ve149_1, rfl, ge149_1⟩ := k33_openM hMe149
                                        have hv149_1 := hcc149 1 _ rfl
                                        rw [add_field _ _ 1 (by omega)] at hv149_1
                                        replace hv149_1 := Option.some.inj (hv149_1.symm.trans hx149_1)
                                        rw [hv149_1] at ge149_1
                                        have HL149_1 := Aside0.mk (show Kd.R Kd.string 9 _ _ _ _ ((rd_T33 t139 x84_3).f1) from ge149_1)
                                        clear hv149_1 ge149_1
                                        clear hcc149 hce149
                                        have HR149_1 := Aside0.mk hi149_1
                                        have HC149_1 := Aside0.mk hl149_1
                                        clear hi149_1 hl149_1
                                        replace p149 := eq_true p149
                                        replace q149 := eq_true q149
                                        have ea_ := Option.some.inj (hx148_1.symm.trans hx149_1)
                                        injection ea_ with ea_ en_ ec_
                                        subst ea_
                                        subst ec_
                                        clear en_
                                        go_wp2
                                        go_ret
                                        exact ⟨by first | rfl | (simp [errW_none, errW_some] <;> rfl) | (simp [*, errW_none, errW_some] <;> rfl), by repeat (first | (with_reducible first | exact HB.out | apply below_alloc | apply pw_below_drewN | apply below_drew1) | exact HB.out)⟩
                                    · rw [if_neg c56] at H
                                      have c56b0 : (((rd_T33 t139 x84_3).f0) == (wrap64 (x84_3 + 1))) = false := beq_eq_false_iff_ne.mpr c56
                                      have c56b1 : (((rd_T33 t139 x84_3).f0) != (wrap64 (x84_3 + 1))) = true := bne_iff_ne.mpr c56
                                      obtain rfl := Option.some.inj H
                                      have p145 : 0 ≤ (x84_3 : Int) := of_decide_eq_true (by first | (with_reducible assumption) | assumption)
                                      have q145 : x84_3 < (l0.length : Int) := of_decide_eq_true (by first | (with_reducible assumption) | assumption)
                                      obtain ⟨ad145, e145, hx145_0⟩ := Kd.at_string HR0.out x84_3 p145 q145
                                      cases e145
                                      replace hx145_0 := (HB.out.cell (World.block_lt_of_cell? w _ hx145_0)).trans hx145_0
                                      replace p145 := eq_true p145
                                      replace q145 := eq_true q145
                                      obtain ⟨Ao66, co66, eo66⟩ := Kd.S_slice HO_7.out
                                      subst eo66
                                      have p146 : 0 ≤ (0 : Int) := (by omega)
                                      have q146 : 0 < (t136.length : Int) := of_decide_eq_true (by first | (with_reducible assumption) | assumption)
                                      obtain ⟨ad146, A146_1, c146_1, e146, hx146_0, hx146_1, hl146_1, hi146_1⟩ := at_T33 (Kd.S_reads' HO_7.out).2.2 0 p146 q146
                                      cases e146
                                      obtain ⟨ce146, hce146, hMe146, hcc146⟩ := Kd.S_get HO_7.out z33 0 p146 (by first | exact q146 | exact of_decide_eq_true (by first | (with_reducible assumption) | assumption) | (have e_ := (Kd.S_reads' HO_7.out).1; omega))
                                      obtain ⟨ve146_1, rfl, ge146_1⟩ := k33_openM hMe146
                                      have hv146_1 := hcc146 1 _ rfl
                                      rw [add_field _ _ 1 (by omega)] at hv146_1
                                      replace hv146_1 := Option.some.inj (hv146_1.symm.trans hx146_1)
                                      rw [hv146_1] at ge146_1
                                      have HL146_1 := Aside0.mk (show Kd.R Kd.string 9 _ _ _ _ ((rd_T33 t136 0).f1) from ge146_1)
                                      clear hv146_1 ge146_1
                                      clear hcc146 hce146
                                      have qi146 : (0 < t136.length) = True := eq_true (by omega)
                                      (try rw [show ((0 : Int)).toNat = 0 from rfl] at hx146_0)
                                      (try rw [show 0 * 2 = 0 from rfl] at hx146_0)
                                      (try rw [Addr.add_zero'] at hx146_0)
                                      (try rw [show ((0 : Int)).toNat = 0 from rfl] at hx146_1)
                                      (try rw [show 0 * 2 = 0 from rfl] at hx146_1)
                                      (try rw [Addr.add_zero'] at hx146_1)
                                      have HR146_1 := Aside0.mk hi146_1
                                      have HC146_1 := Aside0.mk hl146_1
                                      clear hi146_1 hl146_1
                                      replace p146 := eq_true p146
                                      replace q146 := eq_true q146
                                      have p147 : 0 ≤ (x84_3 : Int) := of_decide_eq_true (by first | (with_reducible assumption) | assumption)
                                      have q147 : x84_3 < (((rd_T33 t136 0).f1).length : Int) := of_decide_eq_true (by first | (with_reducible assumption) | assumption)
                                      obtain ⟨ad147, e147, hx147_0⟩ := Kd.at_string (by repeat (first | (with_reducible exact HR146_1.out) | (with_reducible refine Kd.C_alloc ?_ _) | (with_reducible refine Kd.C_drewN ?_ _) | (with_reducible refine Kd.C_drew ?_) | exact HR146_1.out)) x84_3 p147 q147
                                      cases e147
                                      replace p147 := eq_true p147
                                      replace q147 := eq_true q147
                                      obtain ⟨Ao67, co67, eo67⟩ := Kd.S_slice HO_8.out
                                      subst eo67
                                      have p148 : 0 ≤ (x84_3 : Int) := of_decide_eq_true (by first | (with_reducible assumption) | assumption)
                                      have q148 : x84_3 < (t139.length : Int) := of_decide_eq_true (by first | (with_reducible assumption) | assumption)
                                      obtain ⟨ad148, A148_1, c148_1, e148, hx148_0, hx148_1, hl148_1, hi148_1⟩ := at_T33 (Kd.S_reads' HO_8.out).2.2 x84_3 p148 q148
                                      cases e148
                                      obtain ⟨ce148, hce148, hMe148, hcc148⟩ := Kd.S_get HO_8.out z33 x84_3 p148 (by first | exact q148 | exact of_decide_eq_true (by first | (with_reducible assumption) | assumption) | (have e_ := (Kd.S_reads' HO_8.out).1; omega))
                                      obtain ⟨ve148_1, rfl, ge148_1⟩ := k33_openM hMe148
                                      have hv148_1 := hcc148 1 _ rfl
                                      rw [add_field _ _ 1 (by omega)] at hv148_1
                                      replace hv148_1 := Option.some.inj (hv148_1.symm.trans hx148_1)
                                      rw [hv148_1] at ge148_1
                                      have HL148_1 := Aside0.mk (show Kd.R Kd.string 9 _ _ _ _ ((rd_T33 t139 x84_3).f1) from ge148_1)
                                      clear hv148_1 ge148_1
                                      clear hcc148 hce148
                                      have HR148_1 := Aside0.mk hi148_1
                                      have HC148_1 := Aside0.mk hl148_1
                                      clear hi148_1 hl148_1
                                      replace p148 := eq_true p148
                                      replace q148 := eq_true q148
                                      go_wp2
                                      go_ret
                                      exact ⟨by first | rfl | (simp [errW_none, errW_some] <;> rfl) | (simp [*, errW_none, errW_some] <;> rfl), by repeat (first | (with_reducible first | exact HB.out | apply below_alloc | apply pw_below_drewN | apply below_drew1) | exact HB.out)⟩
                                  · rw [if_neg c55] at H
                                    exact absurd H (by simp)
                                · rw [if_neg c54] at H
                                  have c54b0 : ((rdOf ByteArray.empty ((rd_T33 t136 0).f1) x84_3).toList == (rdOf ByteArray.empty l0 x84_3).toList) = false := beq_eq_false_iff_ne.mpr c54
                                  have c54b1 : ((rdOf ByteArray.empty ((rd_T33 t136 0).f1) x84_3).toList != (rdOf ByteArray.empty l0 x84_3).toList) = true := bne_iff_ne.mpr c54
                                  obtain rfl := Option.some.inj H
                                  have p145 : 0 ≤ (x84_3 : Int) := of_decide_eq_true (by first | (with_reducible assumption) | assumption)
                                  have q145 : x84_3 < (l0.length : Int) := of_decide_eq_true (by first | (with_reducible assumption) | assumption)
                                  obtain ⟨ad145, e145, hx145_0⟩ := Kd.at_string HR0.out x84_3 p145 q145
                                  cases e145
                                  replace hx145_0 := (HB.out.cell (World.block_lt_of_cell? w _ hx145_0)).trans hx145_0
                                  replace p145 := eq_true p145
                                  replace q145 := eq_true q145
                                  obtain ⟨Ao68, co68, eo68⟩ := Kd.S_slice HO_7.out
                                  subst eo68
                                  have p146 : 0 ≤ (0 : Int) := (by omega)
                                  have q146 : 0 < (t136.length : Int) := of_decide_eq_true (by first | (with_reducible assumption) | assumption)
                                  obtain ⟨ad146, A146_1, c146_1, e146, hx146_0, hx146_1, hl146_1, hi146_1⟩ := at_T33 (Kd.S_reads' HO_7.out).2.2 0 p146 q146
                                  cases e146
                                  obtain ⟨ce146, hce146, hMe146, hcc146⟩ := Kd.S_get HO_7.out z33 0 p146 (by first | exact q146 | exact of_decide_eq_true (by first | (with_reducible assumption) | assumption) | (have e_ := (Kd.S_reads' HO_7.out).1; omega))
                                  obtain ⟨ve146_1, rfl, ge146_1⟩ := k33_openM hMe146
                                  have hv146_1 := hcc146 1 _ rfl
                                  rw [add_field _ _ 1 (by omega)] at hv146_1
                                  replace hv146_1 := Option.some.inj (hv146_1.symm.trans hx146_1)
                                  rw [hv146_1] at ge146_1
                                  have HL146_1 := Aside0.mk (show Kd.R Kd.string 9 _ _ _ _ ((rd_T33 t136 0).f1) from ge146_1)
                                  clear hv146_1 ge146_1
                                  clear hcc146 hce146
                                  have qi146 : (0 < t136.length) = True := eq_true (by omega)
                                  (try rw [show ((0 : Int)).toNat = 0 from rfl] at hx146_0)
                                  (try rw [show 0 * 2 = 0 from rfl] at hx146_0)
                                  (try rw [Addr.add_zero'] at hx146_0)
                                  (try rw [show ((0 : Int)).toNat = 0 from rfl] at hx146_1)
                                  (try rw [show 0 * 2 = 0 from rfl] at hx146_1)
                                  (try rw [Addr.add_zero'] at hx146_1)
                                  have HR146_1 := Aside0.mk hi146_1
                                  have HC146_1 := Aside0.mk hl146_1
                                  clear hi146_1 hl146_1
                                  replace p146 := eq_true p146
                                  replace q146 := eq_true q146
                                  have p147 : 0 ≤ (x84_3 : Int) := of_decide_eq_true (by first | (with_reducible assumption) | assumption)
                                  have q147 : x84_3 < (((rd_T33 t136 0).f1).length : Int) := of_decide_eq_true (by first | (with_reducible assumption) | assumption)
                                  obtain ⟨ad147, e147, hx147_0⟩ := Kd.at_string (by repeat (first | (with_reducible exact HR146_1.out) | (with_reducible refine Kd.C_alloc ?_ _) | (with_reducible refine Kd.C_drewN ?_ _) | (with_reducible refine Kd.C_drew ?_) | exact HR146_1.out)) x84_3 p147 q147
                                  cases e147
                                  replace p147 := eq_true p147
                                  replace q147 := eq_true q147
                                  go_wp2
                                  go_ret
                                  exact ⟨by first | rfl | (simp [errW_none, errW_some] <;> rfl) | (simp [*, errW_none, errW_some] <;> rfl), by repeat (first | (with_reducible first | exact HB.out | apply below_alloc | apply pw_below_drewN | apply below_drew1) | exact HB.out)⟩
                              · rw [if_neg c53] at H
                                exact absurd H (by simp)
                            · rw [if_neg c52] at H
                              exact absurd H (by simp)
                          · rw [if_neg c51] at H
                            exact absurd H (by simp)
                        · rw [if_neg c50] at H
                          exact absurd H (by simp)
                      · rw [if_neg c49] at H
                        have c49b0 : decide (x84_3 < (l0.length : Int)) = false := decide_eq_false c49
                        clear c49
                        replace H := Option.bind_eq_some_iff.mp H
                        obtain ⟨t152, A690, H⟩ := H
                        replace H : (some t152) = some r := H
                        have A69 := Aside0.mk A690
                        clear A690
                        obtain rfl := Option.some.inj H
                        go_wp2_with (first | ((with_reducible refine gate_callee (f := 8) rfl ?_); refine goesL_ (some 129) rfl rfl Tryd.func8 (by kernel_rfl) rfl #[] rfl (by (try simp only [List.map_toArray, List.map_cons, List.map_nil]); first | done | rfl | (simp only [List.length_drop, List.length_take]; rfl)) ?_; (with_reducible refine (tapewrightlaw08_awake.calls k3  t152 _ A69.out).mono ?_); rintro e w70 ⟨rfl, hb⟩; refine ⟨_, rfl, ?_⟩; have n0_ := Aside0.mk (Kd.S_below (by (with_reducible repeat (first | apply Kd.S_alloc | apply Kd.S_drewN | apply Kd.S_drew)); exact HO_7.out) hb); have n1_ := Aside0.mk (Kd.S_below (by (with_reducible repeat (first | apply Kd.S_alloc | apply Kd.S_drewN | apply Kd.S_drew)); exact HO_8.out) hb); have n2_ := Aside0.mk (below_step (by repeat (first | (with_reducible first | exact HB.out | apply below_alloc | apply pw_below_drewN | apply below_drew1) | exact HB.out)) hb); clear HO_7; clear HO_8; clear HB; have HO_7 := n0_; have HO_8 := n1_; have HB := n2_; clear n0_ n1_ n2_; (try clear hb); (try clear hb2); (try clear hk); (try clear hi)))
                        go_ret
                        exact ⟨by first | rfl | (simp [errW_none, errW_some] <;> rfl) | (simp [*, errW_none, errW_some] <;> rfl), by repeat (first | (with_reducible first | exact HB.out | apply below_alloc | apply pw_below_drewN | apply below_drew1) | exact HB.out)⟩

end Go.Proofs.YtihaochmebejbaaDoor.PLexWords
