-- Written by a program of this session (wip/gen): functions and their contracts.
import Derived.Test.YtihaochmebejbaaDoorPLexBlanksx0
import Derived.Test.YtihaochmebejbaaDoorPLexBlanksx1
import Derived.Test.YtihaochmebejbaaDoorPLexBlanksx2
namespace Go.Proofs.YtihaochmebejbaaDoor.PLexBlanks
open Go.RowKit Go.Proofs.YtihaochmebejbaaDoorW.PrintWords Go.Proofs.YtihaochmebejbaaDoorW.PrintLast Go.Proofs.YtihaochmebejbaaDoorW.PrintMore
attribute [local go_sem] max2_int min2_int max_two min_two max_three min_three max_four min_four   -- for this text's walks alone
set_option linter.unusedVariables false
set_option linter.unusedSimpArgs false

/-! ### tapewrightlaw08_LexBlanks: function 4 -/
mutual
def tapewrightlaw08_LexBlanks.j0 : Nat → ByteArray → ByteArray → Bool → Option (Bool)
  | 0, _, _, _ => none
  | k + 1, x0, x1, x15 => if x15 = true then ((tapewrightlaw08_awake.f k).bind fun t146 => (some t146)) else (tapewrightlaw08_LexBlanks.l0 k x0 x1 (x1.size : Int) 0)
def tapewrightlaw08_LexBlanks.l0 : Nat → ByteArray → ByteArray → Int → Int → Option (Bool)
  | 0, _, _, _, _ => none
  | k + 1, x0, x1, x18, x19 => if x19 < x18 then (if 0 ≤ x19 then (if x19 < (x1.size : Int) then (if (bt x1 x19) = 10 then ((tapewrightlaw08_awake.f k).bind fun t147 => (some t147)) else (tapewrightlaw08_LexBlanks.l0 k x0 x1 x18 (wrap64 (x19 + 1)))) else (none)) else (none)) else (tapewrightlaw08_LexBlanks.l1 k x0 x1 (⟨#[]⟩ : ByteArray) (x0.size : Int) 0)
def tapewrightlaw08_LexBlanks.l1 : Nat → ByteArray → ByteArray → ByteArray → Int → Int → Option (Bool)
  | 0, _, _, _, _, _ => none
  | k + 1, x0, x1, x6, x29, x30 => if x30 < x29 then (if 0 ≤ x30 then (if x30 ≤ (wrap64 (x30 + 1)) then (if (wrap64 (x30 + 1)) ≤ (x0.size : Int) then (if x6.size + (x0.extract (x30 : Int).toNat ((wrap64 (x30 + 1)) : Int).toNat).size ≤ 9223372036854775807 then (if x30 < (x0.size : Int) then (if (bt x0 x30) = 32 then (if (x6 ++ (x0.extract (x30 : Int).toNat ((wrap64 (x30 + 1)) : Int).toNat)).size + 2 ≤ 9223372036854775807 then (tapewrightlaw08_LexBlanks.l1 k x0 x1 ((x6 ++ (x0.extract (x30 : Int).toNat ((wrap64 (x30 + 1)) : Int).toNat)) ++ (⟨#[32, 32]⟩ : ByteArray)) x29 (wrap64 (x30 + 1))) else (none)) else (tapewrightlaw08_LexBlanks.l1 k x0 x1 (x6 ++ (x0.extract (x30 : Int).toNat ((wrap64 (x30 + 1)) : Int).toNat)) x29 (wrap64 (x30 + 1)))) else (none)) else (none)) else (none)) else (none)) else (none)) else ((lex_Lines.f k x0).bind fun t148 => ((tapewrightlaw08_ref.f k t148).bind fun t151 => (if 1 + x6.size ≤ 9223372036854775807 then (if ((⟨#[32]⟩ : ByteArray) ++ x6).size + 2 ≤ 9223372036854775807 then (if (((⟨#[32]⟩ : ByteArray) ++ x6) ++ (⟨#[32, 35]⟩ : ByteArray)).size + x1.size ≤ 9223372036854775807 then ((lex_Lines.f k ((((⟨#[32]⟩ : ByteArray) ++ x6) ++ (⟨#[32, 35]⟩ : ByteArray)) ++ x1)).bind fun t154 => ((tapewrightlaw08_ref.f k t154).bind fun t157 => ((tapewrightref08_Equal.f k t151 t157).bind fun t160 => (if t160 = true then ((tapewrightlaw08_awake.f k).bind fun t161 => (some t161)) else (some false))))) else (none)) else (none)) else (none))))
end
def tapewrightlaw08_LexBlanks.f (k : Nat) (a0 : ByteArray) (a1 : ByteArray) : Option (Bool) := if (a0.size : Int) > 1024 then (tapewrightlaw08_LexBlanks.j0 k a0 a1 true) else (tapewrightlaw08_LexBlanks.j0 k a0 a1 (decide (100 < (a1.size : Int))))
theorem tapewrightlaw08_LexBlanks.mono_l : ∀ k, (∀ y0 y1 y2, LeO (tapewrightlaw08_LexBlanks.j0 k y0 y1 y2) (tapewrightlaw08_LexBlanks.j0 (k + 1) y0 y1 y2)) ∧ (∀ y0 y1 y2 y3, LeO (tapewrightlaw08_LexBlanks.l0 k y0 y1 y2 y3) (tapewrightlaw08_LexBlanks.l0 (k + 1) y0 y1 y2 y3)) ∧ (∀ y0 y1 y2 y3 y4, LeO (tapewrightlaw08_LexBlanks.l1 k y0 y1 y2 y3 y4) (tapewrightlaw08_LexBlanks.l1 (k + 1) y0 y1 y2 y3 y4))
  | 0 => ⟨fun _ _ _ r h => by simp [tapewrightlaw08_LexBlanks.j0] at h, fun _ _ _ _ r h => by simp [tapewrightlaw08_LexBlanks.l0] at h, fun _ _ _ _ _ r h => by simp [tapewrightlaw08_LexBlanks.l1] at h⟩
  | k + 1 => by
    obtain ⟨ih0, ih1, ih2⟩ := tapewrightlaw08_LexBlanks.mono_l k
    refine ⟨?_, ?_, ?_⟩
    · intro y0 y1 y2
      unfold tapewrightlaw08_LexBlanks.j0
      repeat' first
      | (with_reducible exact ih0 _ _ _)
      | (with_reducible exact ih1 _ _ _ _)
      | (with_reducible exact ih2 _ _ _ _ _)
      | (with_reducible exact lex_Lines.mono _ _)
      | (with_reducible exact tapewrightlaw08_awake.mono _)
      | (with_reducible exact tapewrightlaw08_ref.mono _ _)
      | (with_reducible exact tapewrightref08_Equal.mono _ _ _)
      | (with_reducible exact LeO.refl _)
      | (with_reducible exact LeO.none _)
      | (with_reducible refine LeO.ite ?_ ?_)
      | (with_reducible refine LeO.bind ?_ (fun _ => ?_))
      | exact ih0 _ _ _
      | exact ih1 _ _ _ _
      | exact ih2 _ _ _ _ _
      | exact lex_Lines.mono _ _
      | exact tapewrightlaw08_awake.mono _
      | exact tapewrightlaw08_ref.mono _ _
      | exact tapewrightref08_Equal.mono _ _ _
      | exact LeO.none _
      | refine LeO.ite ?_ ?_
      | refine LeO.bind ?_ (fun _ => ?_)
    · intro y0 y1 y2 y3
      unfold tapewrightlaw08_LexBlanks.l0
      repeat' first
      | (with_reducible exact ih0 _ _ _)
      | (with_reducible exact ih1 _ _ _ _)
      | (with_reducible exact ih2 _ _ _ _ _)
      | (with_reducible exact lex_Lines.mono _ _)
      | (with_reducible exact tapewrightlaw08_awake.mono _)
      | (with_reducible exact tapewrightlaw08_ref.mono _ _)
      | (with_reducible exact tapewrightref08_Equal.mono _ _ _)
      | (with_reducible exact LeO.refl _)
      | (with_reducible exact LeO.none _)
      | (with_reducible refine LeO.ite ?_ ?_)
      | (with_reducible refine LeO.bind ?_ (fun _ => ?_))
      | exact ih0 _ _ _
      | exact ih1 _ _ _ _
      | exact ih2 _ _ _ _ _
      | exact lex_Lines.mono _ _
      | exact tapewrightlaw08_awake.mono _
      | exact tapewrightlaw08_ref.mono _ _
      | exact tapewrightref08_Equal.mono _ _ _
      | exact LeO.none _
      | refine LeO.ite ?_ ?_
      | refine LeO.bind ?_ (fun _ => ?_)
    · intro y0 y1 y2 y3 y4
      unfold tapewrightlaw08_LexBlanks.l1
      repeat' first
      | (with_reducible exact ih0 _ _ _)
      | (with_reducible exact ih1 _ _ _ _)
      | (with_reducible exact ih2 _ _ _ _ _)
      | (with_reducible exact lex_Lines.mono _ _)
      | (with_reducible exact tapewrightlaw08_awake.mono _)
      | (with_reducible exact tapewrightlaw08_ref.mono _ _)
      | (with_reducible exact tapewrightref08_Equal.mono _ _ _)
      | (with_reducible exact LeO.refl _)
      | (with_reducible exact LeO.none _)
      | (with_reducible refine LeO.ite ?_ ?_)
      | (with_reducible refine LeO.bind ?_ (fun _ => ?_))
      | exact ih0 _ _ _
      | exact ih1 _ _ _ _
      | exact ih2 _ _ _ _ _
      | exact lex_Lines.mono _ _
      | exact tapewrightlaw08_awake.mono _
      | exact tapewrightlaw08_ref.mono _ _
      | exact tapewrightref08_Equal.mono _ _ _
      | exact LeO.none _
      | refine LeO.ite ?_ ?_
      | refine LeO.bind ?_ (fun _ => ?_)
theorem tapewrightlaw08_LexBlanks.mono : ∀ a0 a1 k, LeO (tapewrightlaw08_LexBlanks.f k a0 a1) (tapewrightlaw08_LexBlanks.f (k + 1) a0 a1) := by
  intro a0 a1 k
  obtain ⟨ih0, ih1, ih2⟩ := tapewrightlaw08_LexBlanks.mono_l k
  unfold tapewrightlaw08_LexBlanks.f
  repeat' first
      | (with_reducible exact ih0 _ _ _)
      | (with_reducible exact ih1 _ _ _ _)
      | (with_reducible exact ih2 _ _ _ _ _)
      | (with_reducible exact lex_Lines.mono _ _)
      | (with_reducible exact tapewrightlaw08_awake.mono _)
      | (with_reducible exact tapewrightlaw08_ref.mono _ _)
      | (with_reducible exact tapewrightref08_Equal.mono _ _ _)
      | (with_reducible exact LeO.refl _)
      | (with_reducible exact LeO.none _)
      | (with_reducible refine LeO.ite ?_ ?_)
      | (with_reducible refine LeO.bind ?_ (fun _ => ?_))
      | exact ih0 _ _ _
      | exact ih1 _ _ _ _
      | exact ih2 _ _ _ _ _
      | exact lex_Lines.mono _ _
      | exact tapewrightlaw08_awake.mono _
      | exact tapewrightlaw08_ref.mono _ _
      | exact tapewrightref08_Equal.mono _ _ _
      | exact LeO.none _
      | refine LeO.ite ?_ ?_
      | refine LeO.bind ?_ (fun _ => ?_)
set_option maxHeartbeats 8000000 in
set_option maxRecDepth 100000 in
theorem tapewrightlaw08_LexBlanks.calls (k : Nat) (a0 : ByteArray) (a1 : ByteArray) (r : Bool) (w : World) (h : tapewrightlaw08_LexBlanks.f k a0 a1 = some r) :
    Calls Tryd.prog 4 #[.string a0, .string a1] w fun e w' => e = .returned (.bool r) ∧ Below w.heap.size w w' := by
  have HB := Aside0.mk (Below.refl w.heap.size w)
  have H : (if (a0.size : Int) > 1024 then (tapewrightlaw08_LexBlanks.j0 k a0 a1 true) else (tapewrightlaw08_LexBlanks.j0 k a0 a1 (decide (100 < (a1.size : Int))))) = some r := h
  clear h
  have HC3 := Aside0.mk H
  clear H
  go_enter Tryd.func4, Tryd.ntmps4
  go_upto_region 1 with (fail)
  go_cut [15] (fun v15 wc => ∃ (kq : Nat) (x15_2 : Bool), v15 = .bool x15_2 ∧ Aside0 (tapewrightlaw08_LexBlanks.j0 kq a0 a1 x15_2 = some r) ∧ Aside0 (kq ≤ k) ∧ Aside0 (Below w.heap.size w wc))
  case first =>
    have H := HC3.out
    clear HC3
    by_cases c4 : (a0.size : Int) > 1024
    · rw [if_pos c4] at H
      have c4b0 : decide (1024 < (a0.size : Int)) = true := decide_eq_true c4
      have c4b1 : decide (1024 < a0.size) = true := decide_eq_true (by omega)
      clear c4
      (first | rw [c4b0] | (simp only [i64_w, i32_w]; rw [c4b0]) | skip)
      have H' := Aside0.mk H
      clear H
      go_wp2
      go_meet
      case rel => exact ⟨_, (true), (by first | rfl | (simp; done) | (simp [*]; done)), H', ⟨by first | omega | exact Nat.le_refl _⟩, ⟨by repeat (first | (with_reducible first | exact HB.out | apply below_alloc | apply pw_below_drewN | apply below_drew1) | exact HB.out)⟩⟩
    · rw [if_neg c4] at H
      have c4b0 : decide (1024 < (a0.size : Int)) = false := decide_eq_false c4
      have c4b1 : decide (1024 < a0.size) = false := decide_eq_false (by omega)
      clear c4
      (first | rw [c4b0] | (simp only [i64_w, i32_w]; rw [c4b0]) | skip)
      have H' := Aside0.mk H
      clear H
      go_wp2
      go_meet
      case rel => exact ⟨_, (decide (100 < (a1.size : Int))), (by first | rfl | (simp; done) | (simp [*]; done)), H', ⟨by first | omega | exact Nat.le_refl _⟩, ⟨by repeat (first | (with_reducible first | exact HB.out | apply below_alloc | apply pw_below_drewN | apply below_drew1) | exact HB.out)⟩⟩
  case rest =>
    clear HC3
    try clear p2
    try clear c4
    try clear c4b0
    try clear c4b1
    obtain ⟨kq, x15_2, rfl, HA, HJ2, HB⟩ := hcut
    cases kq with
    | zero => exact absurd HA.out (by simp [tapewrightlaw08_LexBlanks.j0])
    | succ kj2 =>
      have H := HA.out
      clear HA
      simp only [tapewrightlaw08_LexBlanks.j0] at H
      by_cases c5 : x15_2 = true
      · subst c5
        have H1 : ((tapewrightlaw08_awake.f kj2).bind fun t146 => (some t146)) = some r := by rw [if_pos rfl] at H; exact H
        clear H
        have H := H1
        clear H1
        replace H := Option.bind_eq_some_iff.mp H
        obtain ⟨t146, A60, H⟩ := H
        replace H : (some t146) = some r := H
        have A6 := Aside0.mk A60
        clear A60
        obtain rfl := Option.some.inj H
        go_wp2_with (first | ((with_reducible refine gate_callee (f := 8) rfl ?_); refine goesL_ (some 16) rfl rfl Tryd.func8 (by kernel_rfl) rfl #[] rfl (by (try simp only [List.map_toArray, List.map_cons, List.map_nil]); first | done | rfl | (simp only [List.length_drop, List.length_take]; rfl)) ?_; (with_reducible refine (tapewrightlaw08_awake.calls kj2  t146 _ A6.out).mono ?_); rintro e w7 ⟨rfl, hb⟩; refine ⟨_, rfl, ?_⟩; have n0_ := Aside0.mk (below_step (by repeat (first | (with_reducible first | exact HB.out | apply below_alloc | apply pw_below_drewN | apply below_drew1) | exact HB.out)) hb); clear HB; have HB := n0_; clear n0_; (try clear hb); (try clear hb2); (try clear hk); (try clear hi)))
        go_ret
        exact ⟨by first | rfl | (simp [errW_none, errW_some] <;> rfl) | (simp [*, errW_none, errW_some] <;> rfl), by repeat (first | (with_reducible first | exact HB.out | apply below_alloc | apply pw_below_drewN | apply below_drew1) | exact HB.out)⟩
      · replace c5 := Bool.eq_false_iff.mpr c5
        subst c5
        have H1 : (tapewrightlaw08_LexBlanks.l0 kj2 a0 a1 (a1.size : Int) 0) = some r := by rw [if_neg (show ¬ (false = true) by decide)] at H; exact H
        clear H
        have H := H1
        clear H1
        have H' := Aside0.mk H
        clear H
        go_wp2
        go_loopg [19] kj2 (fun kq v19 w' => ∃ (x19_2 : Int), v19 = .int .i64 x19_2 ∧ Aside0 (tapewrightlaw08_LexBlanks.l0 kq a0 a1 (a1.size : Int) x19_2 = some r) ∧ Aside0 (kq ≤ kj2) ∧ Aside0 (Below w.heap.size w w'))
        case atStart => exact ⟨(0), (by first | rfl | (simp; done) | (simp [*]; done)), H', ⟨Nat.le_refl _⟩, ⟨by repeat (first | (with_reducible first | exact HB.out | apply below_alloc | apply pw_below_drewN | apply below_drew1) | exact HB.out)⟩⟩
        case round =>
          clear H'
          try clear p2
          try clear c4
          try clear c4b0
          try clear c4b1
          try clear c5
          try clear p2
          obtain ⟨x19_2, rfl, HA, HK2, HB⟩ := hrel
          cases gk with
          | zero => exact absurd HA.out (by simp [tapewrightlaw08_LexBlanks.l0])
          | succ k2 =>
            have H := HA.out
            clear HA
            simp only [tapewrightlaw08_LexBlanks.l0] at H
            by_cases c8 : x19_2 < (a1.size : Int)
            · rw [if_pos c8] at H
              have c8b0 : decide (x19_2 < (a1.size : Int)) = true := decide_eq_true c8
              clear c8
              by_cases c9 : 0 ≤ x19_2
              · rw [if_pos c9] at H
                have c9b0 : decide (0 ≤ x19_2) = true := decide_eq_true c9
                clear c9
                by_cases c10 : x19_2 < (a1.size : Int)
                · rw [if_pos c10] at H
                  have c10b0 : decide (x19_2 < (a1.size : Int)) = true := decide_eq_true c10
                  clear c10
                  by_cases c12 : (bt a1 x19_2) = 10
                  · rw [if_pos c12] at H
                    have c12b0 : ((bt a1 x19_2) == 10) = true := beq_iff_eq.mpr c12
                    have c12b1 : ((bt a1 x19_2) != 10) = false := bne_eq_false_iff_eq.mpr c12
                    clear c12
                    replace H := Option.bind_eq_some_iff.mp H
                    obtain ⟨t147, A130, H⟩ := H
                    replace H : (some t147) = some r := H
                    have A13 := Aside0.mk A130
                    clear A130
                    obtain rfl := Option.some.inj H
                    have p11 : 0 ≤ (x19_2 : Int) := of_decide_eq_true (by first | (with_reducible assumption) | assumption)
                    have q11 : x19_2 < (a1.size : Int) := of_decide_eq_true (by first | (with_reducible assumption) | assumption)
                    have hx11 := bt_at a1 x19_2
                    replace p11 := eq_true p11
                    replace q11 := eq_true q11
                    go_wp2_with (first | ((with_reducible refine gate_callee (f := 8) rfl ?_); refine goesL_ (some 26) rfl rfl Tryd.func8 (by kernel_rfl) rfl #[] rfl (by (try simp only [List.map_toArray, List.map_cons, List.map_nil]); first | done | rfl | (simp only [List.length_drop, List.length_take]; rfl)) ?_; (with_reducible refine (tapewrightlaw08_awake.calls k2  t147 _ A13.out).mono ?_); rintro e w14 ⟨rfl, hb⟩; refine ⟨_, rfl, ?_⟩; have n0_ := Aside0.mk (below_step (by repeat (first | (with_reducible first | exact HB.out | apply below_alloc | apply pw_below_drewN | apply below_drew1) | exact HB.out)) hb); clear HB; have HB := n0_; clear n0_; (try clear hb); (try clear hb2); (try clear hk); (try clear hi)))
                    go_ret
                    exact ⟨by first | rfl | (simp [errW_none, errW_some] <;> rfl) | (simp [*, errW_none, errW_some] <;> rfl), by repeat (first | (with_reducible first | exact HB.out | apply below_alloc | apply pw_below_drewN | apply below_drew1) | exact HB.out)⟩
                  · rw [if_neg c12] at H
                    have c12b0 : ((bt a1 x19_2) == 10) = false := beq_eq_false_iff_ne.mpr c12
                    have c12b1 : ((bt a1 x19_2) != 10) = true := bne_iff_ne.mpr c12
                    have H' := Aside0.mk H
                    clear H
                    have p11 : 0 ≤ (x19_2 : Int) := of_decide_eq_true (by first | (with_reducible assumption) | assumption)
                    have q11 : x19_2 < (a1.size : Int) := of_decide_eq_true (by first | (with_reducible assumption) | assumption)
                    have hx11 := bt_at a1 x19_2
                    replace p11 := eq_true p11
                    replace q11 := eq_true q11
                    go_wp2
                    go_roundg k2
                    case measure => have := HJ2.out; have := HK2.out; omega
                    case rel => exact ⟨(wrap64 (x19_2 + 1)), (by first | rfl | (simp; done) | (simp [*]; done)), H', ⟨by have := HJ2.out; have := HK2.out; omega⟩, ⟨by repeat (first | (with_reducible first | exact HB.out | apply below_alloc | apply pw_below_drewN | apply below_drew1) | exact HB.out)⟩⟩
                · rw [if_neg c10] at H
                  exact absurd H (by simp)
              · rw [if_neg c9] at H
                exact absurd H (by simp)
            · rw [if_neg c8] at H
              have c8b0 : decide (x19_2 < (a1.size : Int)) = false := decide_eq_false c8
              clear c8
              have H' := Aside0.mk H
              clear H
              go_wp2
              go_loopg [6, 30] k2 (fun kq v6 v30 w' => ∃ (x6_3 : ByteArray) (x30_3 : Int), v6 = .string x6_3 ∧ v30 = .int .i64 x30_3 ∧ Aside0 (tapewrightlaw08_LexBlanks.l1 kq a0 a1 x6_3 (a0.size : Int) x30_3 = some r) ∧ Aside0 (kq ≤ k2) ∧ Aside0 (Below w.heap.size w w'))
              case atStart => exact ⟨((⟨#[]⟩ : ByteArray)), (0), (by first | rfl | (simp; done) | (simp [*]; done)), (by first | rfl | (simp; done) | (simp [*]; done)), H', ⟨Nat.le_refl _⟩, ⟨by repeat (first | (with_reducible first | exact HB.out | apply below_alloc | apply pw_below_drewN | apply below_drew1) | exact HB.out)⟩⟩
              case round =>
                clear H'
                try clear c1
                try clear p1
                try clear q1
                try clear hx1
                try clear p2
                try clear c4
                try clear c4b0
                try clear c4b1
                try clear c5
                try clear p6
                try clear c8
                try clear c8b0
                try clear c9
                try clear c9b0
                try clear c10
                try clear c10b0
                try clear p11
                try clear q11
                try clear hx11
                try clear c12
                try clear c12b0
                try clear c12b1
                try clear p11
                try clear p2
                try clear q11
                obtain ⟨x6_3, x30_3, rfl, rfl, HA, HK3, HB⟩ := hrel
                cases gk with
                | zero => exact absurd HA.out (by simp [tapewrightlaw08_LexBlanks.l1])
                | succ k3 =>
                  have H := HA.out
                  clear HA
                  simp only [tapewrightlaw08_LexBlanks.l1] at H
                  by_cases c15 : x30_3 < (a0.size : Int)
                  · rw [if_pos c15] at H
                    have c15b0 : decide (x30_3 < (a0.size : Int)) = true := decide_eq_true c15
                    clear c15
                    by_cases c16 : 0 ≤ x30_3
                    · rw [if_pos c16] at H
                      have c16b0 := eq_true c16
                      have c16b1 : decide (0 ≤ x30_3) = true := decide_eq_true c16
                      clear c16
                      by_cases c17 : x30_3 ≤ (wrap64 (x30_3 + 1))
                      · rw [if_pos c17] at H
                        have c17b0 := eq_true c17
                        have c17b1 : decide (x30_3 ≤ (wrap64 (x30_3 + 1))) = true := decide_eq_true c17
                        by_cases c18 : (wrap64 (x30_3 + 1)) ≤ (a0.size : Int)
                        · rw [if_pos c18] at H
                          have c18b0 := eq_true c18
                          have c18b1 : decide ((wrap64 (x30_3 + 1)) ≤ (a0.size : Int)) = true := decide_eq_true c18
                          by_cases c19 : x6_3.size + (a0.extract (x30_3 : Int).toNat ((wrap64 (x30_3 + 1)) : Int).toNat).size ≤ 9223372036854775807
                          · rw [if_pos c19] at H
                            have c19b0 := eq_true c19
                            have c19b1 : decide (x6_3.size + (a0.extract (x30_3 : Int).toNat ((wrap64 (x30_3 + 1)) : Int).toNat).size ≤ 9223372036854775807) = true := decide_eq_true c19
                            try have c19b2 : (9223372036854775807 < x6_3.size + (a0.extract (x30_3 : Int).toNat ((wrap64 (x30_3 + 1)) : Int).toNat).size) = False := eq_false (Nat.not_lt.2 c19)
                            (try (have c19n := c19; simp only [ByteArray.size_append, ByteArray.size_extract] at c19n))
                            (try (obtain ⟨n_, hn_⟩ : ∃ n_ : Nat, n_ = x6_3.size + (a0.extract (x30_3 : Int).toNat ((wrap64 (x30_3 + 1)) : Int).toNat).size := ⟨_, rfl⟩; have c19m : ¬ (9223372036854775807 < n_) := (by rw [hn_]; exact Nat.not_lt.2 c19); simp [*] at hn_; subst hn_))
                            by_cases c20 : x30_3 < (a0.size : Int)
                            · rw [if_pos c20] at H
                              have c20b0 : decide (x30_3 < (a0.size : Int)) = true := decide_eq_true c20
                              clear c20
                              by_cases c22 : (bt a0 x30_3) = 32
                              · rw [if_pos c22] at H
                                have c22b0 : ((bt a0 x30_3) == 32) = true := beq_iff_eq.mpr c22
                                have c22b1 : ((bt a0 x30_3) != 32) = false := bne_eq_false_iff_eq.mpr c22
                                clear c22
                                by_cases c23 : (x6_3 ++ (a0.extract (x30_3 : Int).toNat ((wrap64 (x30_3 + 1)) : Int).toNat)).size + 2 ≤ 9223372036854775807
                                · rw [if_pos c23] at H
                                  have c23b0 := eq_true c23
                                  have c23b1 : decide ((x6_3 ++ (a0.extract (x30_3 : Int).toNat ((wrap64 (x30_3 + 1)) : Int).toNat)).size + 2 ≤ 9223372036854775807) = true := decide_eq_true c23
                                  try have c23b2 : (9223372036854775807 < (x6_3 ++ (a0.extract (x30_3 : Int).toNat ((wrap64 (x30_3 + 1)) : Int).toNat)).size + 2) = False := eq_false (Nat.not_lt.2 c23)
                                  (try (have c23n := c23; simp only [ByteArray.size_append, ByteArray.size_extract] at c23n))
                                  (try (obtain ⟨n_, hn_⟩ : ∃ n_ : Nat, n_ = (x6_3 ++ (a0.extract (x30_3 : Int).toNat ((wrap64 (x30_3 + 1)) : Int).toNat)).size + 2 := ⟨_, rfl⟩; have c23m : ¬ (9223372036854775807 < n_) := (by rw [hn_]; exact Nat.not_lt.2 c23); simp [*] at hn_; subst hn_))
                                  have H' := Aside0.mk H
                                  clear H
                                  have p21 : 0 ≤ (x30_3 : Int) := of_decide_eq_true (by first | (with_reducible assumption) | assumption)
                                  have q21 : x30_3 < (a0.size : Int) := of_decide_eq_true (by first | (with_reducible assumption) | assumption)
                                  have hx21 := bt_at a0 x30_3
                                  replace p21 := eq_true p21
                                  replace q21 := eq_true q21
                                  go_wp2
                                  go_roundg k3
                                  case measure => have := HJ2.out; have := HK2.out; have := HK3.out; omega
                                  case rel => exact ⟨((x6_3 ++ (a0.extract (x30_3 : Int).toNat ((wrap64 (x30_3 + 1)) : Int).toNat)) ++ (⟨#[32, 32]⟩ : ByteArray)), (wrap64 (x30_3 + 1)), (by first | rfl | (simp; done) | (simp [*]; done)), (by first | rfl | (simp; done) | (simp [*]; done)), H', ⟨by have := HJ2.out; have := HK2.out; have := HK3.out; omega⟩, ⟨by repeat (first | (with_reducible first | exact HB.out | apply below_alloc | apply pw_below_drewN | apply below_drew1) | exact HB.out)⟩⟩
                                · rw [if_neg c23] at H
                                  exact absurd H (by simp)
                              · rw [if_neg c22] at H
                                have c22b0 : ((bt a0 x30_3) == 32) = false := beq_eq_false_iff_ne.mpr c22
                                have c22b1 : ((bt a0 x30_3) != 32) = true := bne_iff_ne.mpr c22
                                have H' := Aside0.mk H
                                clear H
                                have p21 : 0 ≤ (x30_3 : Int) := of_decide_eq_true (by first | (with_reducible assumption) | assumption)
                                have q21 : x30_3 < (a0.size : Int) := of_decide_eq_true (by first | (with_reducible assumption) | assumption)
                                have hx21 := bt_at a0 x30_3
                                replace p21 := eq_true p21
                                replace q21 := eq_true q21
                                go_wp2
                                go_roundg k3
                                case measure => have := HJ2.out; have := HK2.out; have := HK3.out; omega
                                case rel => exact ⟨(x6_3 ++ (a0.extract (x30_3 : Int).toNat ((wrap64 (x30_3 + 1)) : Int).toNat)), (wrap64 (x30_3 + 1)), (by first | rfl | (simp; done) | (simp [*]; done)), (by first | rfl | (simp; done) | (simp [*]; done)), H', ⟨by have := HJ2.out; have := HK2.out; have := HK3.out; omega⟩, ⟨by repeat (first | (with_reducible first | exact HB.out | apply below_alloc | apply pw_below_drewN | apply below_drew1) | exact HB.out)⟩⟩
                            · rw [if_neg c20] at H
                              exact absurd H (by simp)
                          · rw [if_neg c19] at H
                            exact absurd H (by simp)
                        · rw [if_neg c18] at H
                          exact absurd H (by simp)
                      · rw [if_neg c17] at H
                        exact absurd H (by simp)
                    · rw [if_neg c16] at H
                      exact absurd H (by simp)
                  · rw [if_neg c15] at H
                    have c15b0 : decide (x30_3 < (a0.size : Int)) = false := decide_eq_false c15
                    clear c15
                    replace H := Option.bind_eq_some_iff.mp H
                    obtain ⟨t148, A240, H⟩ := H
                    replace H : ((tapewrightlaw08_ref.f k3 t148).bind fun t151 => (if 1 + x6_3.size ≤ 9223372036854775807 then (if ((⟨#[32]⟩ : ByteArray) ++ x6_3).size + 2 ≤ 9223372036854775807 then (if (((⟨#[32]⟩ : ByteArray) ++ x6_3) ++ (⟨#[32, 35]⟩ : ByteArray)).size + a1.size ≤ 9223372036854775807 then ((lex_Lines.f k3 ((((⟨#[32]⟩ : ByteArray) ++ x6_3) ++ (⟨#[32, 35]⟩ : ByteArray)) ++ a1)).bind fun t154 => ((tapewrightlaw08_ref.f k3 t154).bind fun t157 => ((tapewrightref08_Equal.f k3 t151 t157).bind fun t160 => (if t160 = true then ((tapewrightlaw08_awake.f k3).bind fun t161 => (some t161)) else (some false))))) else (none)) else (none)) else (none))) = some r := H
                    have A24 := Aside0.mk A240
                    clear A240
                    replace H := Option.bind_eq_some_iff.mp H
                    obtain ⟨t151, A250, H⟩ := H
                    replace H : (if 1 + x6_3.size ≤ 9223372036854775807 then (if ((⟨#[32]⟩ : ByteArray) ++ x6_3).size + 2 ≤ 9223372036854775807 then (if (((⟨#[32]⟩ : ByteArray) ++ x6_3) ++ (⟨#[32, 35]⟩ : ByteArray)).size + a1.size ≤ 9223372036854775807 then ((lex_Lines.f k3 ((((⟨#[32]⟩ : ByteArray) ++ x6_3) ++ (⟨#[32, 35]⟩ : ByteArray)) ++ a1)).bind fun t154 => ((tapewrightlaw08_ref.f k3 t154).bind fun t157 => ((tapewrightref08_Equal.f k3 t151 t157).bind fun t160 => (if t160 = true then ((tapewrightlaw08_awake.f k3).bind fun t161 => (some t161)) else (some false))))) else (none)) else (none)) else (none)) = some r := H
                    have A25 := Aside0.mk A250
                    clear A250
                    by_cases c26 : 1 + x6_3.size ≤ 9223372036854775807
                    · rw [if_pos c26] at H
                      have c26b0 := eq_true c26
                      have c26b1 : decide (1 + x6_3.size ≤ 9223372036854775807) = true := decide_eq_true c26
                      try have c26b2 : (9223372036854775807 < 1 + x6_3.size) = False := eq_false (Nat.not_lt.2 c26)
                      by_cases c27 : ((⟨#[32]⟩ : ByteArray) ++ x6_3).size + 2 ≤ 9223372036854775807
                      · rw [if_pos c27] at H
                        have c27b0 := eq_true c27
                        have c27b1 : decide (((⟨#[32]⟩ : ByteArray) ++ x6_3).size + 2 ≤ 9223372036854775807) = true := decide_eq_true c27
                        try have c27b2 : (9223372036854775807 < ((⟨#[32]⟩ : ByteArray) ++ x6_3).size + 2) = False := eq_false (Nat.not_lt.2 c27)
                        (try (have c27n := c27; simp only [ByteArray.size_append, ByteArray.size_extract] at c27n))
                        (try (obtain ⟨n_, hn_⟩ : ∃ n_ : Nat, n_ = ((⟨#[32]⟩ : ByteArray) ++ x6_3).size + 2 := ⟨_, rfl⟩; have c27m : ¬ (9223372036854775807 < n_) := (by rw [hn_]; exact Nat.not_lt.2 c27); simp [*] at hn_; subst hn_))
                        by_cases c28 : (((⟨#[32]⟩ : ByteArray) ++ x6_3) ++ (⟨#[32, 35]⟩ : ByteArray)).size + a1.size ≤ 9223372036854775807
                        · rw [if_pos c28] at H
                          have c28b0 := eq_true c28
                          have c28b1 : decide ((((⟨#[32]⟩ : ByteArray) ++ x6_3) ++ (⟨#[32, 35]⟩ : ByteArray)).size + a1.size ≤ 9223372036854775807) = true := decide_eq_true c28
                          try have c28b2 : (9223372036854775807 < (((⟨#[32]⟩ : ByteArray) ++ x6_3) ++ (⟨#[32, 35]⟩ : ByteArray)).size + a1.size) = False := eq_false (Nat.not_lt.2 c28)
                          (try (have c28n := c28; simp only [ByteArray.size_append, ByteArray.size_extract] at c28n))
                          (try (obtain ⟨n_, hn_⟩ : ∃ n_ : Nat, n_ = (((⟨#[32]⟩ : ByteArray) ++ x6_3) ++ (⟨#[32, 35]⟩ : ByteArray)).size + a1.size := ⟨_, rfl⟩; have c28m : ¬ (9223372036854775807 < n_) := (by rw [hn_]; exact Nat.not_lt.2 c28); simp [*] at hn_; subst hn_))
                          replace H := Option.bind_eq_some_iff.mp H
                          obtain ⟨t154, A290, H⟩ := H
                          replace H : ((tapewrightlaw08_ref.f k3 t154).bind fun t157 => ((tapewrightref08_Equal.f k3 t151 t157).bind fun t160 => (if t160 = true then ((tapewrightlaw08_awake.f k3).bind fun t161 => (some t161)) else (some false)))) = some r := H
                          have A29 := Aside0.mk A290
                          clear A290
                          replace H := Option.bind_eq_some_iff.mp H
                          obtain ⟨t157, A300, H⟩ := H
                          replace H : ((tapewrightref08_Equal.f k3 t151 t157).bind fun t160 => (if t160 = true then ((tapewrightlaw08_awake.f k3).bind fun t161 => (some t161)) else (some false))) = some r := H
                          have A30 := Aside0.mk A300
                          clear A300
                          replace H := Option.bind_eq_some_iff.mp H
                          obtain ⟨t160, A310, H⟩ := H
                          replace H : (if t160 = true then ((tapewrightlaw08_awake.f k3).bind fun t161 => (some t161)) else (some false)) = some r := H
                          have A31 := Aside0.mk A310
                          clear A310
                          by_cases c32 : t160 = true
                          · subst c32
                            have H1 : ((tapewrightlaw08_awake.f k3).bind fun t161 => (some t161)) = some r := by rw [if_pos rfl] at H; exact H
                            clear H
                            have H := H1
                            clear H1
                            replace H := Option.bind_eq_some_iff.mp H
                            obtain ⟨t161, A330, H⟩ := H
                            replace H : (some t161) = some r := H
                            have A33 := Aside0.mk A330
                            clear A330
                            obtain rfl := Option.some.inj H
                            go_wp2_with (first | ((with_reducible refine gate_callee (f := 11) rfl ?_); refine goesL_ (some 48) rfl rfl Tryd.func11 (by kernel_rfl) rfl #[.string a0] rfl (by (try simp only [List.map_toArray, List.map_cons, List.map_nil]); first | done | rfl | (simp only [List.length_drop, List.length_take]; rfl)) ?_; (with_reducible refine (lex_Lines.calls k3 a0 t148 _ A24.out).mono ?_); rintro e w34 ⟨v149, rfl, ho0, hb⟩; refine ⟨_, rfl, ?_⟩; have n0_ := Aside0.mk (Kd.N_lower (Kd.N_mono (ok' := fun k_ => True) (Kd.S_N (Kd.S_bound ho0)) (fun k_ hk_ => trivial)) (below_size (by repeat (first | (with_reducible first | exact HB.out | apply below_alloc | apply pw_below_drewN | apply below_drew1) | exact HB.out)))); have n1_ := Aside0.mk (below_step (by repeat (first | (with_reducible first | exact HB.out | apply below_alloc | apply pw_below_drewN | apply below_drew1) | exact HB.out)) hb); clear HB; have HO150 := n0_; have HB := n1_; clear n0_ n1_; (try clear hb); (try clear hb2); (try clear hk); (try clear hi); (try clear ho0); obtain ⟨Ao35, co35, eo35⟩ := Kd.N_slice HO150.out; subst eo35) | ((with_reducible refine gate_callee (f := 10) rfl ?_); refine goesL_ (some 49) rfl rfl Tryd.func10 (by kernel_rfl) rfl #[.slice Ao35 t148.length co35] rfl (by (try simp only [List.map_toArray, List.map_cons, List.map_nil]); first | done | rfl | (simp only [List.length_drop, List.length_take]; rfl)) ?_; (with_reducible refine (tapewrightlaw08_ref.calls k3 (fun k_ => True) _ _ t148 t151 _ ?side1 A25.out).mono ?_); (case side1 => exact Kd.N_V (HO150.out)); rintro e w36 ⟨v152, rfl, ho0, hb⟩; refine ⟨_, rfl, ?_⟩; have n0_ := Aside0.mk (Kd.N_elder' (by (with_reducible repeat (first | apply Kd.N_alloc | apply Kd.N_drewN | apply Kd.N_drew)); exact HO150.out) (Kd.N_base ho0) hb); have n1_ := Aside0.mk (Kd.N_lower (Kd.N_mono (ok' := fun k_ => True) ho0 (fun k_ hk_ => trivial)) (below_size (by repeat (first | (with_reducible first | exact HB.out | apply below_alloc | apply pw_below_drewN | apply below_drew1) | exact HB.out)))); have n2_ := Aside0.mk (below_step (by repeat (first | (with_reducible first | exact HB.out | apply below_alloc | apply pw_below_drewN | apply below_drew1) | exact HB.out)) hb); clear HO150; clear HB; have HO150 := n0_; have HO153 := n1_; have HB := n2_; clear n0_ n1_ n2_; (try clear hb); (try clear hb2); (try clear hk); (try clear hi); (try clear ho0)) | ((with_reducible refine gate_callee (f := 11) rfl ?_); refine goesL_ (some 55) rfl rfl Tryd.func11 (by kernel_rfl) rfl #[.string ((((⟨#[32]⟩ : ByteArray) ++ x6_3) ++ (⟨#[32, 35]⟩ : ByteArray)) ++ a1)] rfl (by (try simp only [List.map_toArray, List.map_cons, List.map_nil]); first | done | rfl | (simp only [List.length_drop, List.length_take]; rfl)) ?_; (with_reducible refine (lex_Lines.calls k3 ((((⟨#[32]⟩ : ByteArray) ++ x6_3) ++ (⟨#[32, 35]⟩ : ByteArray)) ++ a1) t154 _ A29.out).mono ?_); rintro e w37 ⟨v155, rfl, ho0, hb⟩; refine ⟨_, rfl, ?_⟩; have n0_ := Aside0.mk (Kd.N_elder' (by (with_reducible repeat (first | apply Kd.N_alloc | apply Kd.N_drewN | apply Kd.N_drew)); exact HO150.out) (Kd.S_base ho0) hb); have n1_ := Aside0.mk (Kd.N_elder' (by (with_reducible repeat (first | apply Kd.N_alloc | apply Kd.N_drewN | apply Kd.N_drew)); exact HO153.out) (Kd.S_base ho0) hb); have n2_ := Aside0.mk (Kd.N_lower (Kd.N_mono (ok' := fun k_ => some k_ ≠ (.slice Ao35 t148.length co35 : Value).ownBlock ∧ some k_ ≠ (v152 : Value).ownBlock) (Kd.S_N (Kd.S_bound ho0)) (fun k_ hk_ => ⟨(Kd.fresh' (Kd.N_lt (by (with_reducible repeat (first | apply Kd.N_alloc | apply Kd.N_drewN | apply Kd.N_drew)); exact HO150.out)) k_ hk_.2.1), (Kd.fresh' (Kd.N_lt (by (with_reducible repeat (first | apply Kd.N_alloc | apply Kd.N_drewN | apply Kd.N_drew)); exact HO153.out)) k_ hk_.2.1)⟩)) (below_size (by repeat (first | (with_reducible first | exact HB.out | apply below_alloc | apply pw_below_drewN | apply below_drew1) | exact HB.out)))); have n3_ := Aside0.mk (below_step (by repeat (first | (with_reducible first | exact HB.out | apply below_alloc | apply pw_below_drewN | apply below_drew1) | exact HB.out)) hb); clear HO150; clear HO153; clear HB; have HO150 := n0_; have HO153 := n1_; have HO156 := n2_; have HB := n3_; clear n0_ n1_ n2_ n3_; (try clear hb); (try clear hb2); (try clear hk); (try clear hi); (try clear ho0); obtain ⟨Ao38, co38, eo38⟩ := Kd.N_slice HO156.out; subst eo38) | ((with_reducible refine gate_callee (f := 10) rfl ?_); refine goesL_ (some 56) rfl rfl Tryd.func10 (by kernel_rfl) rfl #[.slice Ao38 t154.length co38] rfl (by (try simp only [List.map_toArray, List.map_cons, List.map_nil]); first | done | rfl | (simp only [List.length_drop, List.length_take]; rfl)) ?_; (with_reducible refine (tapewrightlaw08_ref.calls k3 (fun k_ => (some k_ ≠ (.slice Ao35 t148.length co35 : Value).ownBlock ∧ some k_ ≠ (v152 : Value).ownBlock)) _ _ t154 t157 _ ?side1 A30.out).mono ?_); (case side1 => exact Kd.N_V (HO156.out)); rintro e w39 ⟨v158, rfl, ho0, hb⟩; refine ⟨_, rfl, ?_⟩; have n0_ := Aside0.mk (Kd.N_elder' (by (with_reducible repeat (first | apply Kd.N_alloc | apply Kd.N_drewN | apply Kd.N_drew)); exact HO150.out) (Kd.N_base ho0) hb); have n1_ := Aside0.mk (Kd.N_elder' (by (with_reducible repeat (first | apply Kd.N_alloc | apply Kd.N_drewN | apply Kd.N_drew)); exact HO153.out) (Kd.N_base ho0) hb); have n2_ := Aside0.mk (Kd.N_elder' (by (with_reducible repeat (first | apply Kd.N_alloc | apply Kd.N_drewN | apply Kd.N_drew)); exact HO156.out) (Kd.N_base ho0) hb); have n3_ := Aside0.mk (Kd.N_lower (Kd.N_mono (ok' := fun k_ => some k_ ≠ (.slice Ao35 t148.length co35 : Value).ownBlock ∧ some k_ ≠ (v152 : Value).ownBlock) ho0 (fun k_ hk_ => ⟨Or.elim hk_ (fun hs_ => hs_.1) (fun hn_ => (Kd.fresh' (Kd.N_lt (by (with_reducible repeat (first | apply Kd.N_alloc | apply Kd.N_drewN | apply Kd.N_drew)); exact HO150.out)) k_ hn_)), Or.elim hk_ (fun hs_ => hs_.2) (fun hn_ => (Kd.fresh' (Kd.N_lt (by (with_reducible repeat (first | apply Kd.N_alloc | apply Kd.N_drewN | apply Kd.N_drew)); exact HO153.out)) k_ hn_))⟩)) (below_size (by repeat (first | (with_reducible first | exact HB.out | apply below_alloc | apply pw_below_drewN | apply below_drew1) | exact HB.out)))); have n4_ := Aside0.mk (below_step (by repeat (first | (with_reducible first | exact HB.out | apply below_alloc | apply pw_below_drewN | apply below_drew1) | exact HB.out)) hb); clear HO150; clear HO153; clear HO156; clear HB; have HO150 := n0_; have HO153 := n1_; have HO156 := n2_; have HO159 := n3_; have HB := n4_; clear n0_ n1_ n2_ n3_ n4_; (try clear hb); (try clear hb2); (try clear hk); (try clear hi); (try clear ho0); obtain ⟨Ao40, co40, eo40⟩ := Kd.N_slice HO153.out; subst eo40; obtain ⟨Ao41, co41, eo41⟩ := Kd.N_slice HO159.out; subst eo41) | ((with_reducible refine gate_callee (f := 9) rfl ?_); refine goesL_ (some 57) rfl rfl Tryd.func9 (by kernel_rfl) rfl #[.slice Ao40 t151.length co40, .slice Ao41 t157.length co41] rfl (by (try simp only [List.map_toArray, List.map_cons, List.map_nil]); first | done | rfl | (simp only [List.length_drop, List.length_take]; rfl)) ?_; (with_reducible refine (tapewrightref08_Equal.calls k3 _ _ t151 _ _ t157 true _ ?side1 ?side2 ?side3 ?side4 A31.out).mono ?_); (case side1 => repeat (first | exact (Kd.N_reads' HO153.out).2.2 | (with_reducible refine Kd.C_alloc ?_ _) | (with_reducible refine Kd.C_drewN ?_ _) | (with_reducible refine Kd.C_drew ?_))); (case side2 => exact (Kd.N_reads' HO153.out).2.1); (case side3 => repeat (first | exact (Kd.N_reads' HO159.out).2.2 | (with_reducible refine Kd.C_alloc ?_ _) | (with_reducible refine Kd.C_drewN ?_ _) | (with_reducible refine Kd.C_drew ?_))); (case side4 => exact (Kd.N_reads' HO159.out).2.1); rintro e w' ⟨rfl, ⟨nd, rfl⟩⟩; refine ⟨_, rfl, ?_⟩) | (go_at_call 8; (with_reducible refine (tapewrightlaw08_awake.calls k3  t161 _ A33.out).mono ?_); rintro e w42 ⟨rfl, hb⟩; have n0_ := Aside0.mk (Kd.N_below (by (with_reducible repeat (first | apply Kd.N_alloc | apply Kd.N_drewN | apply Kd.N_drew)); exact HO150.out) hb); have n1_ := Aside0.mk (Kd.N_below (by (with_reducible repeat (first | apply Kd.N_alloc | apply Kd.N_drewN | apply Kd.N_drew)); exact HO153.out) hb); have n2_ := Aside0.mk (Kd.N_below (by (with_reducible repeat (first | apply Kd.N_alloc | apply Kd.N_drewN | apply Kd.N_drew)); exact HO156.out) hb); have n3_ := Aside0.mk (Kd.N_below (by (with_reducible repeat (first | apply Kd.N_alloc | apply Kd.N_drewN | apply Kd.N_drew)); exact HO159.out) hb); have n4_ := Aside0.mk (below_step (by repeat (first | (with_reducible first | exact HB.out | apply below_alloc | apply pw_below_drewN | apply below_drew1) | exact HB.out)) hb); clear HO150; clear HO153; clear HO156; clear HO159; clear HB; have HO150 := n0_; have HO153 := n1_; have HO156 := n2_; have HO159 := n3_; have HB := n4_; clear n0_ n1_ n2_ n3_ n4_; (try clear hb); (try clear hb2); (try clear hk); (try clear hi)))
                            go_ret
                            exact ⟨by first | rfl | (simp [errW_none, errW_some] <;> rfl) | (simp [*, errW_none, errW_some] <;> rfl), by repeat (first | (with_reducible first | exact HB.out | apply below_alloc | apply pw_below_drewN | apply below_drew1) | exact HB.out)⟩
                          · replace c32 := Bool.eq_false_iff.mpr c32
                            subst c32
                            have H1 : (some false) = some r := by rw [if_neg (show ¬ (false = true) by decide)] at H; exact H
                            clear H
                            have H := H1
                            clear H1
                            obtain rfl := Option.some.inj H
                            go_wp2_with (first | ((with_reducible refine gate_callee (f := 11) rfl ?_); refine goesL_ (some 48) rfl rfl Tryd.func11 (by kernel_rfl) rfl #[.string a0] rfl (by (try simp only [List.map_toArray, List.map_cons, List.map_nil]); first | done | rfl | (simp only [List.length_drop, List.length_take]; rfl)) ?_; (with_reducible refine (lex_Lines.calls k3 a0 t148 _ A24.out).mono ?_); rintro e w43 ⟨v149, rfl, ho0, hb⟩; refine ⟨_, rfl, ?_⟩; have n0_ := Aside0.mk (Kd.N_lower (Kd.N_mono (ok' := fun k_ => True) (Kd.S_N (Kd.S_bound ho0)) (fun k_ hk_ => trivial)) (below_size (by repeat (first | (with_reducible first | exact HB.out | apply below_alloc | apply pw_below_drewN | apply below_drew1) | exact HB.out)))); have n1_ := Aside0.mk (below_step (by repeat (first | (with_reducible first | exact HB.out | apply below_alloc | apply pw_below_drewN | apply below_drew1) | exact HB.out)) hb); clear HB; have HO150 := n0_; have HB := n1_; clear n0_ n1_; (try clear hb); (try clear hb2); (try clear hk); (try clear hi); (try clear ho0); obtain ⟨Ao44, co44, eo44⟩ := Kd.N_slice HO150.out; subst eo44) | ((with_reducible refine gate_callee (f := 10) rfl ?_); refine goesL_ (some 49) rfl rfl Tryd.func10 (by kernel_rfl) rfl #[.slice Ao44 t148.length co44] rfl (by (try simp only [List.map_toArray, List.map_cons, List.map_nil]); first | done | rfl | (simp only [List.length_drop, List.length_take]; rfl)) ?_; (with_reducible refine (tapewrightlaw08_ref.calls k3 (fun k_ => True) _ _ t148 t151 _ ?side1 A25.out).mono ?_); (case side1 => exact Kd.N_V (HO150.out)); rintro e w45 ⟨v152, rfl, ho0, hb⟩; refine ⟨_, rfl, ?_⟩; have n0_ := Aside0.mk (Kd.N_elder' (by (with_reducible repeat (first | apply Kd.N_alloc | apply Kd.N_drewN | apply Kd.N_drew)); exact HO150.out) (Kd.N_base ho0) hb); have n1_ := Aside0.mk (Kd.N_lower (Kd.N_mono (ok' := fun k_ => True) ho0 (fun k_ hk_ => trivial)) (below_size (by repeat (first | (with_reducible first | exact HB.out | apply below_alloc | apply pw_below_drewN | apply below_drew1) | exact HB.out)))); have n2_ := Aside0.mk (below_step (by repeat (first | (with_reducible first | exact HB.out | apply below_alloc | apply pw_below_drewN | apply below_drew1) | exact HB.out)) hb); clear HO150; clear HB; have HO150 := n0_; have HO153 := n1_; have HB := n2_; clear n0_ n1_ n2_; (try clear hb); (try clear hb2); (try clear hk); (try clear hi); (try clear ho0)) | ((with_reducible refine gate_callee (f := 11) rfl ?_); refine goesL_ (some 55) rfl rfl Tryd.func11 (by kernel_rfl) rfl #[.string ((((⟨#[32]⟩ : ByteArray) ++ x6_3) ++ (⟨#[32, 35]⟩ : ByteArray)) ++ a1)] rfl (by (try simp only [List.map_toArray, List.map_cons, List.map_nil]); first | done | rfl | (simp only [List.length_drop, List.length_take]; rfl)) ?_; (with_reducible refine (lex_Lines.calls k3 ((((⟨#[32]⟩ : ByteArray) ++ x6_3) ++ (⟨#[32, 35]⟩ : ByteArray)) ++ a1) t154 _ A29.out).mono ?_); rintro e w46 ⟨v155, rfl, ho0, hb⟩; refine ⟨_, rfl, ?_⟩; have n0_ := Aside0.mk (Kd.N_elder' (by (with_reducible repeat (first | apply Kd.N_alloc | apply Kd.N_drewN | apply Kd.N_drew)); exact HO150.out) (Kd.S_base ho0) hb); have n1_ := Aside0.mk (Kd.N_elder' (by (with_reducible repeat (first | apply Kd.N_alloc | apply Kd.N_drewN | apply Kd.N_drew)); exact HO153.out) (Kd.S_base ho0) hb); have n2_ := Aside0.mk (Kd.N_lower (Kd.N_mono (ok' := fun k_ => some k_ ≠ (.slice Ao44 t148.length co44 : Value).ownBlock ∧ some k_ ≠ (v152 : Value).ownBlock) (Kd.S_N (Kd.S_bound ho0)) (fun k_ hk_ => ⟨(Kd.fresh' (Kd.N_lt (by (with_reducible repeat (first | apply Kd.N_alloc | apply Kd.N_drewN | apply Kd.N_drew)); exact HO150.out)) k_ hk_.2.1), (Kd.fresh' (Kd.N_lt (by (with_reducible repeat (first | apply Kd.N_alloc | apply Kd.N_drewN | apply Kd.N_drew)); exact HO153.out)) k_ hk_.2.1)⟩)) (below_size (by repeat (first | (with_reducible first | exact HB.out | apply below_alloc | apply pw_below_drewN | apply below_drew1) | exact HB.out)))); have n3_ := Aside0.mk (below_step (by repeat (first | (with_reducible first | exact HB.out | apply below_alloc | apply pw_below_drewN | apply below_drew1) | exact HB.out)) hb); clear HO150; clear HO153; clear HB; have HO150 := n0_; have HO153 := n1_; have HO156 := n2_; have HB := n3_; clear n0_ n1_ n2_ n3_; (try clear hb); (try clear hb2); (try clear hk); (try clear hi); (try clear ho0); obtain ⟨Ao47, co47, eo47⟩ := Kd.N_slice HO156.out; subst eo47) | ((with_reducible refine gate_callee (f := 10) rfl ?_); refine goesL_ (some 56) rfl rfl Tryd.func10 (by kernel_rfl) rfl #[.slice Ao47 t154.length co47] rfl (by (try simp only [List.map_toArray, List.map_cons, List.map_nil]); first | done | rfl | (simp only [List.length_drop, List.length_take]; rfl)) ?_; (with_reducible refine (tapewrightlaw08_ref.calls k3 (fun k_ => (some k_ ≠ (.slice Ao44 t148.length co44 : Value).ownBlock ∧ some k_ ≠ (v152 : Value).ownBlock)) _ _ t154 t157 _ ?side1 A30.out).mono ?_); (case side1 => exact Kd.N_V (HO156.out)); rintro e w48 ⟨v158, rfl, ho0, hb⟩; refine ⟨_, rfl, ?_⟩; have n0_ := Aside0.mk (Kd.N_elder' (by (with_reducible repeat (first | apply Kd.N_alloc | apply Kd.N_drewN | apply Kd.N_drew)); exact HO150.out) (Kd.N_base ho0) hb); have n1_ := Aside0.mk (Kd.N_elder' (by (with_reducible repeat (first | apply Kd.N_alloc | apply Kd.N_drewN | apply Kd.N_drew)); exact HO153.out) (Kd.N_base ho0) hb); have n2_ := Aside0.mk (Kd.N_elder' (by (with_reducible repeat (first | apply Kd.N_alloc | apply Kd.N_drewN | apply Kd.N_drew)); exact HO156.out) (Kd.N_base ho0) hb); have n3_ := Aside0.mk (Kd.N_lower (Kd.N_mono (ok' := fun k_ => some k_ ≠ (.slice Ao44 t148.length co44 : Value).ownBlock ∧ some k_ ≠ (v152 : Value).ownBlock) ho0 (fun k_ hk_ => ⟨Or.elim hk_ (fun hs_ => hs_.1) (fun hn_ => (Kd.fresh' (Kd.N_lt (by (with_reducible repeat (first | apply Kd.N_alloc | apply Kd.N_drewN | apply Kd.N_drew)); exact HO150.out)) k_ hn_)), Or.elim hk_ (fun hs_ => hs_.2) (fun hn_ => (Kd.fresh' (Kd.N_lt (by (with_reducible repeat (first | apply Kd.N_alloc | apply Kd.N_drewN | apply Kd.N_drew)); exact HO153.out)) k_ hn_))⟩)) (below_size (by repeat (first | (with_reducible first | exact HB.out | apply below_alloc | apply pw_below_drewN | apply below_drew1) | exact HB.out)))); have n4_ := Aside0.mk (below_step (by repeat (first | (with_reducible first | exact HB.out | apply below_alloc | apply pw_below_drewN | apply below_drew1) | exact HB.out)) hb); clear HO150; clear HO153; clear HO156; clear HB; have HO150 := n0_; have HO153 := n1_; have HO156 := n2_; have HO159 := n3_; have HB := n4_; clear n0_ n1_ n2_ n3_ n4_; (try clear hb); (try clear hb2); (try clear hk); (try clear hi); (try clear ho0); obtain ⟨Ao49, co49, eo49⟩ := Kd.N_slice HO153.out; subst eo49; obtain ⟨Ao50, co50, eo50⟩ := Kd.N_slice HO159.out; subst eo50) | ((with_reducible refine gate_callee (f := 9) rfl ?_); refine goesL_ (some 57) rfl rfl Tryd.func9 (by kernel_rfl) rfl #[.slice Ao49 t151.length co49, .slice Ao50 t157.length co50] rfl (by (try simp only [List.map_toArray, List.map_cons, List.map_nil]); first | done | rfl | (simp only [List.length_drop, List.length_take]; rfl)) ?_; (with_reducible refine (tapewrightref08_Equal.calls k3 _ _ t151 _ _ t157 false _ ?side1 ?side2 ?side3 ?side4 A31.out).mono ?_); (case side1 => repeat (first | exact (Kd.N_reads' HO153.out).2.2 | (with_reducible refine Kd.C_alloc ?_ _) | (with_reducible refine Kd.C_drewN ?_ _) | (with_reducible refine Kd.C_drew ?_))); (case side2 => exact (Kd.N_reads' HO153.out).2.1); (case side3 => repeat (first | exact (Kd.N_reads' HO159.out).2.2 | (with_reducible refine Kd.C_alloc ?_ _) | (with_reducible refine Kd.C_drewN ?_ _) | (with_reducible refine Kd.C_drew ?_))); (case side4 => exact (Kd.N_reads' HO159.out).2.1); rintro e w' ⟨rfl, ⟨nd, rfl⟩⟩; refine ⟨_, rfl, ?_⟩))
                            go_ret
                            exact ⟨by first | rfl | (simp [errW_none, errW_some] <;> rfl) | (simp [*, errW_none, errW_some] <;> rfl), by repeat (first | (with_reducible first | exact HB.out | apply below_alloc | apply pw_below_drewN | apply below_drew1) | exact HB.out)⟩
                        · rw [if_neg c28] at H
                          exact absurd H (by simp)
                      · rw [if_neg c27] at H
                        exact absurd H (by simp)
                    · rw [if_neg c26] at H
                      exact absurd H (by simp)

/-- THE ONE PURE STATEMENT of tapewrightlaw08_LexBlanks: yours. -/
def tapewrightlaw08_LexBlanks.Pure : Prop := ∀ (a0 : ByteArray) (a1 : ByteArray), a0.size ≤ 140737488351232 → a1.size ≤ 140737488351232 → ∃ k, tapewrightlaw08_LexBlanks.f k a0 a1 = some true
theorem tapewrightlaw08_LexBlanks.walk (P : tapewrightlaw08_LexBlanks.Pure) (a0 : ByteArray) (a1 : ByteArray) (w : World) (w0 : a0.size ≤ 140737488351232) (w1 : a1.size ≤ 140737488351232) :
    Calls Tryd.prog 4 #[.string a0, .string a1] w fun e w' => e = .returned (.bool true) ∧ Below w.heap.size w w' := by
  obtain ⟨k, h⟩ := P a0 a1 w0 w1
  refine (tapewrightlaw08_LexBlanks.calls k a0 a1 true w h).mono ?_
  rintro e w' ⟨rfl, hd⟩
  exact ⟨rfl, hd⟩

end Go.Proofs.YtihaochmebejbaaDoor.PLexBlanks
