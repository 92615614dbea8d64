-- PRINTED BY print.sh 35421559b90ae4d0a3588c463048766b98c2df88dd9212a6774a882060cdf62d: not written by this session
import Derived.Test.YtihaochmebejbaaPShapePlacesx0
import Derived.Test.YtihaochmebejbaaPShapePlacesx1
import Derived.Test.YtihaochmebejbaaPShapePlacesx2
namespace Go.Proofs.Ytihaochmebejbaa.PShapePlaces
open Go.RowKit Go.Proofs.YtihaochmebejbaaW.PrintWords Go.Proofs.YtihaochmebejbaaW.PrintLast Go.Proofs.YtihaochmebejbaaW.PrintMore
attribute [local go_sem] max2_int min2_int max_two min_two max_three min_three max_four min_four   -- for this text's walks alone
set_option linter.unusedVariables false
set_option linter.unusedSimpArgs false

/-! ### tapewrightlaw04_ShapePlaces: function 3 -/
mutual
def tapewrightlaw04_ShapePlaces.j0 : Nat → List Int → List Int → Int → Bool → Option (Bool)
  | 0, _, _, _, _ => none
  | k + 1, x0, x1, x2, x24 => if x24 = true then ((tapewrightlaw04_awake.f k).bind fun t155 => (some t155)) else ((shape_Offset.f k x0 x1).bind fun bt156 => ((shape_Place.f k x0 x2).bind fun bt158 => ((tapewrightref04_Right.f k x0).bind fun t162 => (if t162 = true then (if 0 ≤ (x0.length : Int) then (if ((x0.length : Int) : Int).toNat ≤ 35184372088832 then (tapewrightlaw04_ShapePlaces.l0 k x0 x1 x2 bt156.1 bt156.2 bt158.1 bt158.2 (List.replicate ((x0.length : Int) : Int).toNat 0) true false 0) else (none)) else (none)) else (if bt156.1 = 0 then (if bt156.2 = true then (some false) else (if (bt158.1.length : Int) = 0 then (if bt158.2 = true then (some false) else ((tapewrightlaw04_awake.f k).bind fun t163 => (some t163))) else (some false))) else (some false))))))
def tapewrightlaw04_ShapePlaces.l0 : Nat → List Int → List Int → Int → Int → Bool → List Int → Bool → List Int → Bool → Bool → Int → Option (Bool)
  | 0, _, _, _, _, _, _, _, _, _, _, _ => none
  | k + 1, x0, x1, x2, x7, x8, x9, x10, x11, x12, x13, x14 => if x12 = true then ((tapewrightref04_Same.f k x11 x1).bind fun t173 => (if t173 = true then (if x7 = x14 then (if x8 = true then (tapewrightlaw04_ShapePlaces.j2 k x0 x1 x2 x7 x8 x9 x10 x11 true x14) else (some false)) else (some false)) else (tapewrightlaw04_ShapePlaces.j2 k x0 x1 x2 x7 x8 x9 x10 x11 x13 x14))) else (if x13 = true then (if x2 ≥ 0 then ((tapewrightref04_Size.f k x0).bind fun t167 => (if (x10 == (decide (x2 < t167))) = true then ((tapewrightlaw04_awake.f k).bind fun t168 => (some t168)) else (some false))) else (if (x10 == false) = true then ((tapewrightlaw04_awake.f k).bind fun t169 => (some t169)) else (some false))) else (if x7 = 0 then (if x8 = true then (some false) else (if x2 ≥ 0 then ((tapewrightref04_Size.f k x0).bind fun t170 => (if (x10 == (decide (x2 < t170))) = true then ((tapewrightlaw04_awake.f k).bind fun t171 => (some t171)) else (some false))) else (if (x10 == false) = true then ((tapewrightlaw04_awake.f k).bind fun t172 => (some t172)) else (some false)))) else (some false)))
def tapewrightlaw04_ShapePlaces.j2 : Nat → List Int → List Int → Int → Int → Bool → List Int → Bool → List Int → Bool → Int → Option (Bool)
  | 0, _, _, _, _, _, _, _, _, _, _ => none
  | k + 1, x0, x1, x2, x7, x8, x9, x10, x11, x13, x14 => if x14 = x2 then (if x10 = true then ((tapewrightref04_Same.f k x9 x11).bind fun t174 => (tapewrightlaw04_ShapePlaces.j3 k x0 x1 x2 x7 x8 x9 x10 x11 x13 x14 (!t174))) else (tapewrightlaw04_ShapePlaces.j3 k x0 x1 x2 x7 x8 x9 x10 x11 x13 x14 true)) else (tapewrightlaw04_ShapePlaces.j3 k x0 x1 x2 x7 x8 x9 x10 x11 x13 x14 false)
def tapewrightlaw04_ShapePlaces.j3 : Nat → List Int → List Int → Int → Int → Bool → List Int → Bool → List Int → Bool → Int → Bool → Option (Bool)
  | 0, _, _, _, _, _, _, _, _, _, _, _ => none
  | k + 1, x0, x1, x2, x7, x8, x9, x10, x11, x13, x14, x87 => if x87 = true then (some false) else ((shape_Offset.f k x0 x11).bind fun bt175 => (if bt175.1 = x14 then (if bt175.2 = true then ((tapewrightref04_Next.f k x0 x11).bind fun bt177 => (tapewrightlaw04_ShapePlaces.l0 k x0 x1 x2 x7 x8 x9 x10 bt177.1 bt177.2 x13 (wrap64 (x14 + 1)))) else (some false)) else (some false)))
end
def tapewrightlaw04_ShapePlaces.f (k : Nat) (l0 : List Int) (l1 : List Int) (a2 : Int) : Option (Bool) := if (l0.length : Int) > 100 then (tapewrightlaw04_ShapePlaces.j0 k l0 l1 a2 true) else (tapewrightlaw04_ShapePlaces.j0 k l0 l1 a2 (decide ((l1.length : Int) > 100)))
theorem tapewrightlaw04_ShapePlaces.mono_l : ∀ k, (∀ y0 y1 y2 y3, LeO (tapewrightlaw04_ShapePlaces.j0 k y0 y1 y2 y3) (tapewrightlaw04_ShapePlaces.j0 (k + 1) y0 y1 y2 y3)) ∧ (∀ y0 y1 y2 y3 y4 y5 y6 y7 y8 y9 y10, LeO (tapewrightlaw04_ShapePlaces.l0 k y0 y1 y2 y3 y4 y5 y6 y7 y8 y9 y10) (tapewrightlaw04_ShapePlaces.l0 (k + 1) y0 y1 y2 y3 y4 y5 y6 y7 y8 y9 y10)) ∧ (∀ y0 y1 y2 y3 y4 y5 y6 y7 y8 y9, LeO (tapewrightlaw04_ShapePlaces.j2 k y0 y1 y2 y3 y4 y5 y6 y7 y8 y9) (tapewrightlaw04_ShapePlaces.j2 (k + 1) y0 y1 y2 y3 y4 y5 y6 y7 y8 y9)) ∧ (∀ y0 y1 y2 y3 y4 y5 y6 y7 y8 y9 y10, LeO (tapewrightlaw04_ShapePlaces.j3 k y0 y1 y2 y3 y4 y5 y6 y7 y8 y9 y10) (tapewrightlaw04_ShapePlaces.j3 (k + 1) y0 y1 y2 y3 y4 y5 y6 y7 y8 y9 y10))
  | 0 => ⟨fun _ _ _ _ r h => by simp [tapewrightlaw04_ShapePlaces.j0] at h, fun _ _ _ _ _ _ _ _ _ _ _ r h => by simp [tapewrightlaw04_ShapePlaces.l0] at h, fun _ _ _ _ _ _ _ _ _ _ r h => by simp [tapewrightlaw04_ShapePlaces.j2] at h, fun _ _ _ _ _ _ _ _ _ _ _ r h => by simp [tapewrightlaw04_ShapePlaces.j3] at h⟩
  | k + 1 => by
    obtain ⟨ih0, ih1, ih2, ih3⟩ := tapewrightlaw04_ShapePlaces.mono_l k
    refine ⟨?_, ?_, ?_, ?_⟩
    · intro y0 y1 y2 y3
      unfold tapewrightlaw04_ShapePlaces.j0
      repeat' first
      | (with_reducible exact ih0 _ _ _ _)
      | (with_reducible exact ih1 _ _ _ _ _ _ _ _ _ _ _)
      | (with_reducible exact ih2 _ _ _ _ _ _ _ _ _ _)
      | (with_reducible exact ih3 _ _ _ _ _ _ _ _ _ _ _)
      | (with_reducible exact shape_Offset.mono _ _ _)
      | (with_reducible exact shape_Place.mono _ _ _)
      | (with_reducible exact tapewrightlaw04_awake.mono _)
      | (with_reducible exact tapewrightref04_Next.mono _ _ _)
      | (with_reducible exact tapewrightref04_Right.mono _ _)
      | (with_reducible exact tapewrightref04_Same.mono _ _ _)
      | (with_reducible exact tapewrightref04_Size.mono _ _)
      | (with_reducible exact LeO.refl _)
      | (with_reducible exact LeO.none _)
      | (with_reducible refine LeO.ite ?_ ?_)
      | (with_reducible refine LeO.bind ?_ (fun _ => ?_))
      | exact ih0 _ _ _ _
      | exact ih1 _ _ _ _ _ _ _ _ _ _ _
      | exact ih2 _ _ _ _ _ _ _ _ _ _
      | exact ih3 _ _ _ _ _ _ _ _ _ _ _
      | exact shape_Offset.mono _ _ _
      | exact shape_Place.mono _ _ _
      | exact tapewrightlaw04_awake.mono _
      | exact tapewrightref04_Next.mono _ _ _
      | exact tapewrightref04_Right.mono _ _
      | exact tapewrightref04_Same.mono _ _ _
      | exact tapewrightref04_Size.mono _ _
      | exact LeO.none _
      | refine LeO.ite ?_ ?_
      | refine LeO.bind ?_ (fun _ => ?_)
    · intro y0 y1 y2 y3 y4 y5 y6 y7 y8 y9 y10
      unfold tapewrightlaw04_ShapePlaces.l0
      repeat' first
      | (with_reducible exact ih0 _ _ _ _)
      | (with_reducible exact ih1 _ _ _ _ _ _ _ _ _ _ _)
      | (with_reducible exact ih2 _ _ _ _ _ _ _ _ _ _)
      | (with_reducible exact ih3 _ _ _ _ _ _ _ _ _ _ _)
      | (with_reducible exact shape_Offset.mono _ _ _)
      | (with_reducible exact shape_Place.mono _ _ _)
      | (with_reducible exact tapewrightlaw04_awake.mono _)
      | (with_reducible exact tapewrightref04_Next.mono _ _ _)
      | (with_reducible exact tapewrightref04_Right.mono _ _)
      | (with_reducible exact tapewrightref04_Same.mono _ _ _)
      | (with_reducible exact tapewrightref04_Size.mono _ _)
      | (with_reducible exact LeO.refl _)
      | (with_reducible exact LeO.none _)
      | (with_reducible refine LeO.ite ?_ ?_)
      | (with_reducible refine LeO.bind ?_ (fun _ => ?_))
      | exact ih0 _ _ _ _
      | exact ih1 _ _ _ _ _ _ _ _ _ _ _
      | exact ih2 _ _ _ _ _ _ _ _ _ _
      | exact ih3 _ _ _ _ _ _ _ _ _ _ _
      | exact shape_Offset.mono _ _ _
      | exact shape_Place.mono _ _ _
      | exact tapewrightlaw04_awake.mono _
      | exact tapewrightref04_Next.mono _ _ _
      | exact tapewrightref04_Right.mono _ _
      | exact tapewrightref04_Same.mono _ _ _
      | exact tapewrightref04_Size.mono _ _
      | exact LeO.none _
      | refine LeO.ite ?_ ?_
      | refine LeO.bind ?_ (fun _ => ?_)
    · intro y0 y1 y2 y3 y4 y5 y6 y7 y8 y9
      unfold tapewrightlaw04_ShapePlaces.j2
      repeat' first
      | (with_reducible exact ih0 _ _ _ _)
      | (with_reducible exact ih1 _ _ _ _ _ _ _ _ _ _ _)
      | (with_reducible exact ih2 _ _ _ _ _ _ _ _ _ _)
      | (with_reducible exact ih3 _ _ _ _ _ _ _ _ _ _ _)
      | (with_reducible exact shape_Offset.mono _ _ _)
      | (with_reducible exact shape_Place.mono _ _ _)
      | (with_reducible exact tapewrightlaw04_awake.mono _)
      | (with_reducible exact tapewrightref04_Next.mono _ _ _)
      | (with_reducible exact tapewrightref04_Right.mono _ _)
      | (with_reducible exact tapewrightref04_Same.mono _ _ _)
      | (with_reducible exact tapewrightref04_Size.mono _ _)
      | (with_reducible exact LeO.refl _)
      | (with_reducible exact LeO.none _)
      | (with_reducible refine LeO.ite ?_ ?_)
      | (with_reducible refine LeO.bind ?_ (fun _ => ?_))
      | exact ih0 _ _ _ _
      | exact ih1 _ _ _ _ _ _ _ _ _ _ _
      | exact ih2 _ _ _ _ _ _ _ _ _ _
      | exact ih3 _ _ _ _ _ _ _ _ _ _ _
      | exact shape_Offset.mono _ _ _
      | exact shape_Place.mono _ _ _
      | exact tapewrightlaw04_awake.mono _
      | exact tapewrightref04_Next.mono _ _ _
      | exact tapewrightref04_Right.mono _ _
      | exact tapewrightref04_Same.mono _ _ _
      | exact tapewrightref04_Size.mono _ _
      | exact LeO.none _
      | refine LeO.ite ?_ ?_
      | refine LeO.bind ?_ (fun _ => ?_)
    · intro y0 y1 y2 y3 y4 y5 y6 y7 y8 y9 y10
      unfold tapewrightlaw04_ShapePlaces.j3
      repeat' first
      | (with_reducible exact ih0 _ _ _ _)
      | (with_reducible exact ih1 _ _ _ _ _ _ _ _ _ _ _)
      | (with_reducible exact ih2 _ _ _ _ _ _ _ _ _ _)
      | (with_reducible exact ih3 _ _ _ _ _ _ _ _ _ _ _)
      | (with_reducible exact shape_Offset.mono _ _ _)
      | (with_reducible exact shape_Place.mono _ _ _)
      | (with_reducible exact tapewrightlaw04_awake.mono _)
      | (with_reducible exact tapewrightref04_Next.mono _ _ _)
      | (with_reducible exact tapewrightref04_Right.mono _ _)
      | (with_reducible exact tapewrightref04_Same.mono _ _ _)
      | (with_reducible exact tapewrightref04_Size.mono _ _)
      | (with_reducible exact LeO.refl _)
      | (with_reducible exact LeO.none _)
      | (with_reducible refine LeO.ite ?_ ?_)
      | (with_reducible refine LeO.bind ?_ (fun _ => ?_))
      | exact ih0 _ _ _ _
      | exact ih1 _ _ _ _ _ _ _ _ _ _ _
      | exact ih2 _ _ _ _ _ _ _ _ _ _
      | exact ih3 _ _ _ _ _ _ _ _ _ _ _
      | exact shape_Offset.mono _ _ _
      | exact shape_Place.mono _ _ _
      | exact tapewrightlaw04_awake.mono _
      | exact tapewrightref04_Next.mono _ _ _
      | exact tapewrightref04_Right.mono _ _
      | exact tapewrightref04_Same.mono _ _ _
      | exact tapewrightref04_Size.mono _ _
      | exact LeO.none _
      | refine LeO.ite ?_ ?_
      | refine LeO.bind ?_ (fun _ => ?_)
theorem tapewrightlaw04_ShapePlaces.mono : ∀ a0 a1 a2 k, LeO (tapewrightlaw04_ShapePlaces.f k a0 a1 a2) (tapewrightlaw04_ShapePlaces.f (k + 1) a0 a1 a2) := by
  intro a0 a1 a2 k
  obtain ⟨ih0, ih1, ih2, ih3⟩ := tapewrightlaw04_ShapePlaces.mono_l k
  unfold tapewrightlaw04_ShapePlaces.f
  repeat' first
      | (with_reducible exact ih0 _ _ _ _)
      | (with_reducible exact ih1 _ _ _ _ _ _ _ _ _ _ _)
      | (with_reducible exact ih2 _ _ _ _ _ _ _ _ _ _)
      | (with_reducible exact ih3 _ _ _ _ _ _ _ _ _ _ _)
      | (with_reducible exact shape_Offset.mono _ _ _)
      | (with_reducible exact shape_Place.mono _ _ _)
      | (with_reducible exact tapewrightlaw04_awake.mono _)
      | (with_reducible exact tapewrightref04_Next.mono _ _ _)
      | (with_reducible exact tapewrightref04_Right.mono _ _)
      | (with_reducible exact tapewrightref04_Same.mono _ _ _)
      | (with_reducible exact tapewrightref04_Size.mono _ _)
      | (with_reducible exact LeO.refl _)
      | (with_reducible exact LeO.none _)
      | (with_reducible refine LeO.ite ?_ ?_)
      | (with_reducible refine LeO.bind ?_ (fun _ => ?_))
      | exact ih0 _ _ _ _
      | exact ih1 _ _ _ _ _ _ _ _ _ _ _
      | exact ih2 _ _ _ _ _ _ _ _ _ _
      | exact ih3 _ _ _ _ _ _ _ _ _ _ _
      | exact shape_Offset.mono _ _ _
      | exact shape_Place.mono _ _ _
      | exact tapewrightlaw04_awake.mono _
      | exact tapewrightref04_Next.mono _ _ _
      | exact tapewrightref04_Right.mono _ _
      | exact tapewrightref04_Same.mono _ _ _
      | exact tapewrightref04_Size.mono _ _
      | exact LeO.none _
      | refine LeO.ite ?_ ?_
      | refine LeO.bind ?_ (fun _ => ?_)
set_option maxHeartbeats 8000000 in
set_option maxRecDepth 100000 in
theorem tapewrightlaw04_ShapePlaces.calls (k : Nat) (A0 : Option Addr) (c0 : Nat) (l0 : List Int) (A1 : Option Addr) (c1 : Nat) (l1 : List Int) (a2 : Int) (r : Bool) (w : World) (hr0 : Kd.C (Kd.int .i64) w A0 l0.length l0) (hc0 : l0.length ≤ c0) (hr1 : Kd.C (Kd.int .i64) w A1 l1.length l1) (hc1 : l1.length ≤ c1) (h : tapewrightlaw04_ShapePlaces.f k l0 l1 a2 = some r) :
    Calls Try.prog 3 #[.slice A0 l0.length c0, .slice A1 l1.length c1, .int .i64 a2] w fun e w' => e = .returned (.bool r) ∧ Below w.heap.size w w' := by
  have HR0 := Aside0.mk hr0
  have HC0 := Aside0.mk hc0
  clear hr0 hc0
  have HR1 := Aside0.mk hr1
  have HC1 := Aside0.mk hc1
  clear hr1 hc1
  have HB := Aside0.mk (Below.refl w.heap.size w)
  have H : (if (l0.length : Int) > 100 then (tapewrightlaw04_ShapePlaces.j0 k l0 l1 a2 true) else (tapewrightlaw04_ShapePlaces.j0 k l0 l1 a2 (decide ((l1.length : Int) > 100)))) = some r := h
  clear h
  have HC4 := Aside0.mk H
  clear H
  go_enter Try.func3, Try.ntmps3
  go_upto_region 1 with (fail)
  go_cut [24] (fun v24 wc => ∃ (kq : Nat) (x24_3 : Bool), v24 = .bool x24_3 ∧ Aside0 (tapewrightlaw04_ShapePlaces.j0 kq l0 l1 a2 x24_3 = some r) ∧ Aside0 (kq ≤ k) ∧ Aside0 (Below w.heap.size w wc))
  case first =>
    have H := HC4.out
    clear HC4
    by_cases c5 : (l0.length : Int) > 100
    · rw [if_pos c5] at H
      have c5b0 : decide (100 < (l0.length : Int)) = true := decide_eq_true c5
      have c5b1 : decide (100 < l0.length) = true := decide_eq_true (by omega)
      clear c5
      (first | rw [c5b0] | (simp only [i64_w, i32_w]; rw [c5b0]) | skip)
      have H' := Aside0.mk H
      clear H
      go_wp2
      go_meet
      case rel => exact ⟨_, (true), (by first | rfl | (simp; done) | (simp [*]; done)), H', ⟨by first | omega | exact Nat.le_refl _⟩, ⟨by repeat (first | (with_reducible first | exact HB.out | apply below_alloc | apply pw_below_drewN | apply below_drew1) | exact HB.out)⟩⟩
    · rw [if_neg c5] at H
      have c5b0 : decide (100 < (l0.length : Int)) = false := decide_eq_false c5
      have c5b1 : decide (100 < l0.length) = false := decide_eq_false (by omega)
      clear c5
      (first | rw [c5b0] | (simp only [i64_w, i32_w]; rw [c5b0]) | skip)
      have H' := Aside0.mk H
      clear H
      go_wp2
      go_meet
      case rel => exact ⟨_, (decide ((l1.length : Int) > 100)), (by first | rfl | (simp; done) | (simp [*]; done)), H', ⟨by first | omega | exact Nat.le_refl _⟩, ⟨by repeat (first | (with_reducible first | exact HB.out | apply below_alloc | apply pw_below_drewN | apply below_drew1) | exact HB.out)⟩⟩
  case rest =>
    clear HC4
    try clear c1
    try clear p2
    try clear c3
    try clear c5
    try clear c5b0
    try clear c5b1
    obtain ⟨kq, x24_3, rfl, HA, HJ3, HB⟩ := hcut
    cases kq with
    | zero => exact absurd HA.out (by simp [tapewrightlaw04_ShapePlaces.j0])
    | succ kj3 =>
      have H := HA.out
      clear HA
      simp only [tapewrightlaw04_ShapePlaces.j0] at H
      by_cases c6 : x24_3 = true
      · subst c6
        have H1 : ((tapewrightlaw04_awake.f kj3).bind fun t155 => (some t155)) = some r := by rw [if_pos rfl] at H; exact H
        clear H
        have H := H1
        clear H1
        replace H := Option.bind_eq_some_iff.mp H
        obtain ⟨t155, A70, H⟩ := H
        replace H : (some t155) = some r := H
        have A7 := Aside0.mk A70
        clear A70
        obtain rfl := Option.some.inj H
        go_wp2_with (first | ((with_reducible refine gate_callee (f := 10) rfl ?_); refine goesL_ (some 25) rfl rfl Try.func10 (by kernel_rfl) rfl #[] rfl (by (try simp only [List.map_toArray, List.map_cons, List.map_nil]); first | done | rfl | (simp only [List.length_drop, List.length_take]; rfl)) ?_; (with_reducible refine (tapewrightlaw04_awake.calls kj3  t155 _ A7.out).mono ?_); rintro e w8 ⟨rfl, hb⟩; refine ⟨_, rfl, ?_⟩; have n0_ := Aside0.mk (below_step (by repeat (first | (with_reducible first | exact HB.out | apply below_alloc | apply pw_below_drewN | apply below_drew1) | exact HB.out)) hb); clear HB; have HB := n0_; clear n0_; (try clear hb); (try clear hb2); (try clear hk); (try clear hi)))
        go_ret
        exact ⟨by first | rfl | (simp [errW_none, errW_some] <;> rfl) | (simp [*, errW_none, errW_some] <;> rfl), by repeat (first | (with_reducible first | exact HB.out | apply below_alloc | apply pw_below_drewN | apply below_drew1) | exact HB.out)⟩
      · replace c6 := Bool.eq_false_iff.mpr c6
        subst c6
        have H1 : ((shape_Offset.f kj3 l0 l1).bind fun bt156 => ((shape_Place.f kj3 l0 a2).bind fun bt158 => ((tapewrightref04_Right.f kj3 l0).bind fun t162 => (if t162 = true then (if 0 ≤ (l0.length : Int) then (if ((l0.length : Int) : Int).toNat ≤ 35184372088832 then (tapewrightlaw04_ShapePlaces.l0 kj3 l0 l1 a2 bt156.1 bt156.2 bt158.1 bt158.2 (List.replicate ((l0.length : Int) : Int).toNat 0) true false 0) else (none)) else (none)) else (if bt156.1 = 0 then (if bt156.2 = true then (some false) else (if (bt158.1.length : Int) = 0 then (if bt158.2 = true then (some false) else ((tapewrightlaw04_awake.f kj3).bind fun t163 => (some t163))) else (some false))) else (some false)))))) = some r := by rw [if_neg (show ¬ (false = true) by decide)] at H; exact H
        clear H
        have H := H1
        clear H1
        replace H := Option.bind_eq_some_iff.mp H
        obtain ⟨⟨t156, t157⟩, A90, H⟩ := H
        replace H : ((shape_Place.f kj3 l0 a2).bind fun bt158 => ((tapewrightref04_Right.f kj3 l0).bind fun t162 => (if t162 = true then (if 0 ≤ (l0.length : Int) then (if ((l0.length : Int) : Int).toNat ≤ 35184372088832 then (tapewrightlaw04_ShapePlaces.l0 kj3 l0 l1 a2 t156 t157 bt158.1 bt158.2 (List.replicate ((l0.length : Int) : Int).toNat 0) true false 0) else (none)) else (none)) else (if t156 = 0 then (if t157 = true then (some false) else (if (bt158.1.length : Int) = 0 then (if bt158.2 = true then (some false) else ((tapewrightlaw04_awake.f kj3).bind fun t163 => (some t163))) else (some false))) else (some false))))) = some r := H
        have A9 := Aside0.mk A90
        clear A90
        replace H := Option.bind_eq_some_iff.mp H
        obtain ⟨⟨t158, t159⟩, A100, H⟩ := H
        replace H : ((tapewrightref04_Right.f kj3 l0).bind fun t162 => (if t162 = true then (if 0 ≤ (l0.length : Int) then (if ((l0.length : Int) : Int).toNat ≤ 35184372088832 then (tapewrightlaw04_ShapePlaces.l0 kj3 l0 l1 a2 t156 t157 t158 t159 (List.replicate ((l0.length : Int) : Int).toNat 0) true false 0) else (none)) else (none)) else (if t156 = 0 then (if t157 = true then (some false) else (if (t158.length : Int) = 0 then (if t159 = true then (some false) else ((tapewrightlaw04_awake.f kj3).bind fun t163 => (some t163))) else (some false))) else (some false)))) = some r := H
        have A10 := Aside0.mk A100
        clear A100
        replace H := Option.bind_eq_some_iff.mp H
        obtain ⟨t162, A110, H⟩ := H
        replace H : (if t162 = true then (if 0 ≤ (l0.length : Int) then (if ((l0.length : Int) : Int).toNat ≤ 35184372088832 then (tapewrightlaw04_ShapePlaces.l0 kj3 l0 l1 a2 t156 t157 t158 t159 (List.replicate ((l0.length : Int) : Int).toNat 0) true false 0) else (none)) else (none)) else (if t156 = 0 then (if t157 = true then (some false) else (if (t158.length : Int) = 0 then (if t159 = true then (some false) else ((tapewrightlaw04_awake.f kj3).bind fun t163 => (some t163))) else (some false))) else (some false))) = some r := H
        have A11 := Aside0.mk A110
        clear A110
        by_cases c12 : t162 = true
        · subst c12
          have H1 : (if 0 ≤ (l0.length : Int) then (if ((l0.length : Int) : Int).toNat ≤ 35184372088832 then (tapewrightlaw04_ShapePlaces.l0 kj3 l0 l1 a2 t156 t157 t158 t159 (List.replicate ((l0.length : Int) : Int).toNat 0) true false 0) else (none)) else (none)) = some r := by rw [if_pos rfl] at H; exact H
          clear H
          have H := H1
          clear H1
          by_cases c13 : 0 ≤ (l0.length : Int)
          · rw [if_pos c13] at H
            have c13b0 := eq_true c13
            have c13b1 : decide (0 ≤ (l0.length : Int)) = true := decide_eq_true c13
            clear c13
            by_cases c14 : ((l0.length : Int) : Int).toNat ≤ 35184372088832
            · rw [if_pos c14] at H
              have c14b0 := eq_true c14
              have c14b1 : decide (((l0.length : Int) : Int).toNat ≤ 35184372088832) = true := decide_eq_true c14
              clear c14
              obtain ⟨y164, hy164⟩ : ∃ y_ : List Int, y_ = (List.replicate ((l0.length : Int) : Int).toNat 0) := ⟨_, rfl⟩
              replace H : (tapewrightlaw04_ShapePlaces.l0 kj3 l0 l1 a2 t156 t157 t158 t159 y164 true false 0) = some r := by first | (rw [hy164]; with_reducible exact H) | (have H2_ := (Option.bind_some _ _).symm.trans H; rw [hy164]; with_reducible exact H2_) | (have H2_ := (Option.bind_some _ _).symm.trans H; with_reducible exact H2_) | with_reducible exact H | (rw [hy164]; exact H) | exact H
              have Ny164 := Aside0.mk hy164
              clear hy164
              have H' := Aside0.mk H
              clear H
              go_wp2_with (first | ((with_reducible refine gate_callee (f := 11) rfl ?_); refine goesL_ (some 29) rfl rfl Try.func11 (by kernel_rfl) rfl #[.slice A0 l0.length c0, .slice A1 l1.length c1] rfl (by (try simp only [List.map_toArray, List.map_cons, List.map_nil]); first | done | rfl | (simp only [List.length_drop, List.length_take]; rfl)) ?_; (with_reducible refine (shape_Offset.calls kj3 _ _ l0 _ _ l1 t156 t157 _ ?side1 ?side2 ?side3 ?side4 A9.out).mono ?_); (case side1 => repeat (first | exact (Kd.C_below HR0.out HB.out) | (with_reducible refine Kd.C_alloc ?_ _) | (with_reducible refine Kd.C_drewN ?_ _) | (with_reducible refine Kd.C_drew ?_))); (case side2 => exact HC0.out); (case side3 => repeat (first | exact (Kd.C_below HR1.out HB.out) | (with_reducible refine Kd.C_alloc ?_ _) | (with_reducible refine Kd.C_drewN ?_ _) | (with_reducible refine Kd.C_drew ?_))); (case side4 => exact HC1.out); rintro e w' ⟨rfl, ⟨nd, rfl⟩⟩; refine ⟨_, rfl, ?_⟩) | ((with_reducible refine gate_callee (f := 12) rfl ?_); refine goesL_ (some 35) rfl rfl Try.func12 (by kernel_rfl) rfl #[.slice A0 l0.length c0, .int .i64 a2] rfl (by (try simp only [List.map_toArray, List.map_cons, List.map_nil]); first | done | rfl | (simp only [List.length_drop, List.length_take]; rfl)) ?_; (with_reducible refine (shape_Place.calls kj3 _ _ l0 a2 t158 t159 _ ?side1 ?side2 A10.out).mono ?_); (case side1 => repeat (first | exact (Kd.C_below HR0.out (by repeat (first | (with_reducible first | exact HB.out | apply below_alloc | apply pw_below_drewN | apply below_drew1) | exact HB.out))) | (with_reducible refine Kd.C_alloc ?_ _) | (with_reducible refine Kd.C_drewN ?_ _) | (with_reducible refine Kd.C_drew ?_))); (case side2 => exact HC0.out); rintro e w15 ⟨v160, rfl, ho0, hb⟩; refine ⟨_, rfl, ?_⟩; have n0_ := Aside0.mk (Kd.R_lower ho0 (below_size (by repeat (first | (with_reducible first | exact HB.out | apply below_alloc | apply pw_below_drewN | apply below_drew1) | exact HB.out)))); have n1_ := Aside0.mk (below_step (by repeat (first | (with_reducible first | exact HB.out | apply below_alloc | apply pw_below_drewN | apply below_drew1) | exact HB.out)) hb); clear HB; have HO161 := n0_; have HB := n1_; clear n0_ n1_; (try clear hb); (try clear hb2); (try clear hk); (try clear hi); (try clear ho0)) | ((with_reducible refine gate_callee (f := 13) rfl ?_); refine goesL_ (some 39) rfl rfl Try.func13 (by kernel_rfl) rfl #[.slice A0 l0.length c0] rfl (by (try simp only [List.map_toArray, List.map_cons, List.map_nil]); first | done | rfl | (simp only [List.length_drop, List.length_take]; rfl)) ?_; (with_reducible refine (tapewrightref04_Right.calls kj3 _ _ l0 true _ ?side1 ?side2 A11.out).mono ?_); (case side1 => repeat (first | exact (Kd.C_below HR0.out HB.out) | (with_reducible refine Kd.C_alloc ?_ _) | (with_reducible refine Kd.C_drewN ?_ _) | (with_reducible refine Kd.C_drew ?_))); (case side2 => exact HC0.out); rintro e w' ⟨rfl, ⟨nd, rfl⟩⟩; refine ⟨_, rfl, ?_⟩) | ((with_reducible refine gate_dst (N := 61) rfl ?_); (try (refine gate_guard (by rfl) ?_; dsimp only)); refine Kd.R_make (Kd.int .i64) _ 3 rfl (N := 61) rfl 22 _ _ rfl (l0.length : Int) rfl rfl Try.underlying22 (.int .i64 0) 8 info3 rfl (by decide) (by omega) 0 (ok := fun _ => True) (okp := fun _ => True) rfl (fun _ hk => hk) trivial (of_decide_eq_true (by first | (with_reducible assumption) | assumption)) (Nat.le_trans (Nat.mul_le_mul_right _ (of_decide_eq_true (by first | (with_reducible assumption) | assumption) : (l0.length : Int).toNat ≤ 35184372088832)) (by omega)) (Below.refl _ _) (Nat.le_refl _) ?_; intro v165 w16 ho17 hb hg_ hnew_; clear hg_ hnew_; (first | rw [← Ny164.out] at ho17 | (simp only [Int.reduceToNat] at ho17; rw [← Ny164.out] at ho17)); have n0_ := Aside0.mk (Kd.R_elder' (by (with_reducible repeat (first | apply Kd.R_alloc | apply Kd.R_drewN | apply Kd.R_drew)); exact HO161.out) (Kd.R_base ho17) hb); have n1_ := Aside0.mk (Kd.R_lower (Kd.R_new' ho17 (Kd.R_lt (by (with_reducible repeat (first | apply Kd.R_alloc | apply Kd.R_drewN | apply Kd.R_drew)); exact HO161.out))) (below_size (by repeat (first | (with_reducible first | exact HB.out | apply below_alloc | apply pw_below_drewN | apply below_drew1) | exact HB.out)))); have n2_ := Aside0.mk (below_step (by repeat (first | (with_reducible first | exact HB.out | apply below_alloc | apply pw_below_drewN | apply below_drew1) | exact HB.out)) hb); clear HO161; clear HB; have HO161 := n0_; have HO166 := n1_; have HB := n2_; clear n0_ n1_ n2_; clear hb ho17))
              go_loopg [11, 12, 13, 14] kj3 (fun kq v11 v12 v13 v14 w' => ∃ (x11_2 : List Int) (x12_2 : Bool) (x13_2 : Bool) (x14_2 : Int), v12 = .bool x12_2 ∧ v13 = .bool x13_2 ∧ v14 = .int .i64 x14_2 ∧ Aside0 (tapewrightlaw04_ShapePlaces.l0 kq l0 l1 a2 t156 t157 t158 t159 x11_2 x12_2 x13_2 x14_2 = some r) ∧ Aside0 (kq ≤ kj3) ∧ Aside0 (Kd.R (Kd.int .i64) 3 w' w.heap.size (fun k_ => some k_ ≠ (v11 : Value).ownBlock) v160 t158) ∧ Aside0 (Kd.R (Kd.int .i64) 3 w' w.heap.size (fun k_ => some k_ ≠ (v160 : Value).ownBlock) v11 x11_2) ∧ Aside0 (Below w.heap.size w w'))
              case atStart => exact ⟨(y164), (true), (false), (0), (by first | rfl | (simp; done) | (simp [*]; done)), (by first | rfl | (simp; done) | (simp [*]; done)), (by first | rfl | (simp; done) | (simp [*]; done)), H', ⟨Nat.le_refl _⟩, ⟨by (with_reducible repeat (first | apply Kd.R_alloc | apply Kd.R_drewN | apply Kd.R_drew)); exact Kd.R_mono HO161.out (fun _ hk => hk.2)⟩, ⟨by (with_reducible repeat (first | apply Kd.R_alloc | apply Kd.R_drewN | apply Kd.R_drew)); exact Kd.R_mono HO166.out (fun _ hk => hk.2)⟩, ⟨by repeat (first | (with_reducible first | exact HB.out | apply below_alloc | apply pw_below_drewN | apply below_drew1) | exact HB.out)⟩⟩
              case round =>
                clear H'
                try clear c1
                try clear p2
                try clear c3
                try clear c5
                try clear c5b0
                try clear c5b1
                try clear c6
                try clear c10
                try clear c11
                try clear c12
                try clear c13
                try clear c13b0
                try clear c13b1
                try clear c14
                try clear c14b0
                try clear c14b1
                try clear p2
                obtain ⟨x11_2, x12_2, x13_2, x14_2, rfl, rfl, rfl, HA, HK2, HO_9, HO_11, HB⟩ := hrel
                cases gk with
                | zero => exact absurd HA.out (by simp [tapewrightlaw04_ShapePlaces.l0])
                | succ k2 =>
                  have H := HA.out
                  clear HA
                  simp only [tapewrightlaw04_ShapePlaces.l0] at H
                  by_cases c18 : x12_2 = true
                  · subst c18
                    have H1 : ((tapewrightref04_Same.f k2 x11_2 l1).bind fun t173 => (if t173 = true then (if t156 = x14_2 then (if t157 = true then (tapewrightlaw04_ShapePlaces.j2 k2 l0 l1 a2 t156 t157 t158 t159 x11_2 true x14_2) else (some false)) else (some false)) else (tapewrightlaw04_ShapePlaces.j2 k2 l0 l1 a2 t156 t157 t158 t159 x11_2 x13_2 x14_2))) = some r := by rw [if_pos rfl] at H; exact H
                    clear H
                    have H := H1
                    clear H1
                    replace H := Option.bind_eq_some_iff.mp H
                    obtain ⟨t173, A190, H⟩ := H
                    replace H : (if t173 = true then (if t156 = x14_2 then (if t157 = true then (tapewrightlaw04_ShapePlaces.j2 k2 l0 l1 a2 t156 t157 t158 t159 x11_2 true x14_2) else (some false)) else (some false)) else (tapewrightlaw04_ShapePlaces.j2 k2 l0 l1 a2 t156 t157 t158 t159 x11_2 x13_2 x14_2)) = some r := H
                    have A19 := Aside0.mk A190
                    clear A190
                    have HC20 := Aside0.mk H
                    clear H
                    obtain ⟨Ao21, co21, eo21⟩ := Kd.R_slice HO_11.out
                    subst eo21
                    go_upto_if 67 with (first | ((with_reducible refine gate_callee (f := 14) rfl ?_); refine goesL_ (some 67) rfl rfl Try.func14 (by kernel_rfl) rfl #[.slice Ao21 x11_2.length co21, .slice A1 l1.length c1] rfl (by (try simp only [List.map_toArray, List.map_cons, List.map_nil]); first | done | rfl | (simp only [List.length_drop, List.length_take]; rfl)) ?_; (with_reducible refine (tapewrightref04_Same.calls k2 _ _ x11_2 _ _ l1 t173 _ ?side1 ?side2 ?side3 ?side4 A19.out).mono ?_); (case side1 => repeat (first | exact (Kd.R_reads' HO_11.out).2.2 | (with_reducible refine Kd.C_alloc ?_ _) | (with_reducible refine Kd.C_drewN ?_ _) | (with_reducible refine Kd.C_drew ?_))); (case side2 => exact (Kd.R_reads' HO_11.out).2.1); (case side3 => repeat (first | exact (Kd.C_below HR1.out HB.out) | (with_reducible refine Kd.C_alloc ?_ _) | (with_reducible refine Kd.C_drewN ?_ _) | (with_reducible refine Kd.C_drew ?_))); (case side4 => exact HC1.out); rintro e w' ⟨rfl, ⟨nd, rfl⟩⟩; refine ⟨_, rfl, ?_⟩))
                    (try simp only [Act.put, List.setIfInBounds_toArray, List.set_cons_zero, List.set_cons_succ])
                    go_cut [13] (fun v13 wc => ∃ (kq : Nat) (x13_19 : Bool), v13 = .bool x13_19 ∧ Aside0 (tapewrightlaw04_ShapePlaces.j2 kq l0 l1 a2 t156 t157 t158 t159 x11_2 x13_19 x14_2 = some r) ∧ Aside0 (kq ≤ k2) ∧ Aside0 (Kd.R (Kd.int .i64) 3 wc w.heap.size (fun k_ => some k_ ≠ ((.slice Ao21 x11_2.length co21) : Value).ownBlock) v160 t158) ∧ Aside0 (Kd.R (Kd.int .i64) 3 wc w.heap.size (fun k_ => some k_ ≠ (v160 : Value).ownBlock) (.slice Ao21 x11_2.length co21) x11_2) ∧ Aside0 (Below w.heap.size w wc))
                    case first =>
                      have H := HC20.out
                      clear HC20
                      by_cases c22 : t173 = true
                      · subst c22
                        have H1 : (if t156 = x14_2 then (if t157 = true then (tapewrightlaw04_ShapePlaces.j2 k2 l0 l1 a2 t156 t157 t158 t159 x11_2 true x14_2) else (some false)) else (some false)) = some r := by rw [if_pos rfl] at H; exact H
                        clear H
                        have H := H1
                        clear H1
                        by_cases c23 : t156 = x14_2
                        · rw [if_pos c23] at H
                          have c23b0 : (t156 == x14_2) = true := beq_iff_eq.mpr c23
                          have c23b1 : (t156 != x14_2) = false := bne_eq_false_iff_eq.mpr c23
                          clear c23
                          (first | rw [c23b0] | (simp only [i64_w, i32_w]; rw [c23b0]) | skip)
                          by_cases c24 : t157 = true
                          · subst c24
                            have H1 : (tapewrightlaw04_ShapePlaces.j2 k2 l0 l1 a2 t156 true t158 t159 x11_2 true x14_2) = some r := by rw [if_pos rfl] at H; exact H
                            clear H
                            have H := H1
                            clear H1
                            have H' := Aside0.mk H
                            clear H
                            go_wp2
                            go_meet
                            case rel => exact ⟨_, (true), (by first | rfl | (simp; done) | (simp [*]; done)), H', ⟨by have := HJ3.out; have := HK2.out; first | omega | exact Nat.le_refl _⟩, ⟨by (with_reducible repeat (first | apply Kd.R_alloc | apply Kd.R_drewN | apply Kd.R_drew)); exact HO_9.out⟩, ⟨by (with_reducible repeat (first | apply Kd.R_alloc | apply Kd.R_drewN | apply Kd.R_drew)); exact HO_11.out⟩, ⟨by repeat (first | (with_reducible first | exact HB.out | apply below_alloc | apply pw_below_drewN | apply below_drew1) | exact HB.out)⟩⟩
                          · replace c24 := Bool.eq_false_iff.mpr c24
                            subst c24
                            have H1 : (some false) = some r := by rw [if_neg (show ¬ (false = true) by decide)] at H; exact H
                            clear H
                            have H := H1
                            clear H1
                            obtain rfl := Option.some.inj H
                            go_wp2
                            go_ret
                            exact ⟨by first | rfl | (simp [errW_none, errW_some] <;> rfl) | (simp [*, errW_none, errW_some] <;> rfl), by repeat (first | (with_reducible first | exact HB.out | apply below_alloc | apply pw_below_drewN | apply below_drew1) | exact HB.out)⟩
                        · rw [if_neg c23] at H
                          have c23b0 : (t156 == x14_2) = false := beq_eq_false_iff_ne.mpr c23
                          have c23b1 : (t156 != x14_2) = true := bne_iff_ne.mpr c23
                          (first | rw [c23b0] | (simp only [i64_w, i32_w]; rw [c23b0]) | skip)
                          obtain rfl := Option.some.inj H
                          go_wp2
                          go_ret
                          exact ⟨by first | rfl | (simp [errW_none, errW_some] <;> rfl) | (simp [*, errW_none, errW_some] <;> rfl), by repeat (first | (with_reducible first | exact HB.out | apply below_alloc | apply pw_below_drewN | apply below_drew1) | exact HB.out)⟩
                      · replace c22 := Bool.eq_false_iff.mpr c22
                        subst c22
                        have H1 : (tapewrightlaw04_ShapePlaces.j2 k2 l0 l1 a2 t156 t157 t158 t159 x11_2 x13_2 x14_2) = some r := by rw [if_neg (show ¬ (false = true) by decide)] at H; exact H
                        clear H
                        have H := H1
                        clear H1
                        have H' := Aside0.mk H
                        clear H
                        go_wp2
                        go_meet
                        case rel => exact ⟨_, (x13_2), (by first | rfl | (simp; done) | (simp [*]; done)), H', ⟨by have := HJ3.out; have := HK2.out; first | omega | exact Nat.le_refl _⟩, ⟨by (with_reducible repeat (first | apply Kd.R_alloc | apply Kd.R_drewN | apply Kd.R_drew)); exact HO_9.out⟩, ⟨by (with_reducible repeat (first | apply Kd.R_alloc | apply Kd.R_drewN | apply Kd.R_drew)); exact HO_11.out⟩, ⟨by repeat (first | (with_reducible first | exact HB.out | apply below_alloc | apply pw_below_drewN | apply below_drew1) | exact HB.out)⟩⟩
                    case rest =>
                      clear HC20
                      try clear c1
                      try clear c2
                      try clear p2
                      try clear c3
                      try clear c5
                      try clear c5b0
                      try clear c5b1
                      try clear c6
                      try clear c10
                      try clear c11
                      try clear c12
                      try clear c13
                      try clear c13b0
                      try clear c13b1
                      try clear c14
                      try clear c14b0
                      try clear c14b1
                      try clear c18
                      try clear c22
                      try clear c23
                      try clear c23b0
                      try clear c23b1
                      try clear c24
                      try clear p2
                      obtain ⟨kq, x13_19, rfl, HA, HJ19, HO_9, HO_11, HB⟩ := hcut
                      cases kq with
                      | zero => exact absurd HA.out (by simp [tapewrightlaw04_ShapePlaces.j2])
                      | succ kj19 =>
                        have H := HA.out
                        clear HA
                        simp only [tapewrightlaw04_ShapePlaces.j2] at H
                        have HC25 := Aside0.mk H
                        clear H
                        go_upto_region 15 with (fail)
                        go_cut [87] (fun v87 wc => ∃ (kq : Nat) (x87_24 : Bool), v87 = .bool x87_24 ∧ Aside0 (tapewrightlaw04_ShapePlaces.j3 kq l0 l1 a2 t156 t157 t158 t159 x11_2 x13_19 x14_2 x87_24 = some r) ∧ Aside0 (kq ≤ kj19) ∧ Aside0 (Kd.R (Kd.int .i64) 3 wc w.heap.size (fun k_ => some k_ ≠ ((.slice Ao21 x11_2.length co21) : Value).ownBlock) v160 t158) ∧ Aside0 (Kd.R (Kd.int .i64) 3 wc w.heap.size (fun k_ => some k_ ≠ (v160 : Value).ownBlock) (.slice Ao21 x11_2.length co21) x11_2) ∧ Aside0 (Below w.heap.size w wc))
                        case first =>
                          have H := HC25.out
                          clear HC25
                          by_cases c26 : x14_2 = a2
                          · rw [if_pos c26] at H
                            have c26b0 : (x14_2 == a2) = true := beq_iff_eq.mpr c26
                            have c26b1 : (x14_2 != a2) = false := bne_eq_false_iff_eq.mpr c26
                            clear c26
                            (first | rw [c26b0] | (simp only [i64_w, i32_w]; rw [c26b0]) | skip)
                            by_cases c27 : t159 = true
                            · subst c27
                              have H1 : ((tapewrightref04_Same.f kj19 t158 x11_2).bind fun t174 => (tapewrightlaw04_ShapePlaces.j3 kj19 l0 l1 a2 t156 t157 t158 true x11_2 x13_19 x14_2 (!t174))) = some r := by rw [if_pos rfl] at H; exact H
                              clear H
                              have H := H1
                              clear H1
                              replace H := Option.bind_eq_some_iff.mp H
                              obtain ⟨t174, A280, H⟩ := H
                              replace H : (tapewrightlaw04_ShapePlaces.j3 kj19 l0 l1 a2 t156 t157 t158 true x11_2 x13_19 x14_2 (!t174)) = some r := H
                              have A28 := Aside0.mk A280
                              clear A280
                              have H' := Aside0.mk H
                              clear H
                              obtain ⟨Ao29, co29, eo29⟩ := Kd.R_slice HO_9.out
                              subst eo29
                              go_wp2_with (first | (go_at_call 14; (with_reducible refine (tapewrightref04_Same.calls kj19 _ _ t158 _ _ x11_2 t174 _ ?side1 ?side2 ?side3 ?side4 A28.out).mono ?_); (case side1 => repeat (first | exact (Kd.R_reads' HO_9.out).2.2 | (with_reducible refine Kd.C_alloc ?_ _) | (with_reducible refine Kd.C_drewN ?_ _) | (with_reducible refine Kd.C_drew ?_))); (case side2 => exact (Kd.R_reads' HO_9.out).2.1); (case side3 => repeat (first | exact (Kd.R_reads' HO_11.out).2.2 | (with_reducible refine Kd.C_alloc ?_ _) | (with_reducible refine Kd.C_drewN ?_ _) | (with_reducible refine Kd.C_drew ?_))); (case side4 => exact (Kd.R_reads' HO_11.out).2.1); rintro e w' ⟨rfl, ⟨nd, rfl⟩⟩))
                              go_meet
                              case rel => exact ⟨_, (!t174), (by first | rfl | (simp; done) | (simp [*]; done)), H', ⟨by have := HJ3.out; have := HK2.out; have := HJ19.out; first | omega | exact Nat.le_refl _⟩, ⟨by (with_reducible repeat (first | apply Kd.R_alloc | apply Kd.R_drewN | apply Kd.R_drew)); exact HO_9.out⟩, ⟨by (with_reducible repeat (first | apply Kd.R_alloc | apply Kd.R_drewN | apply Kd.R_drew)); exact HO_11.out⟩, ⟨by repeat (first | (with_reducible first | exact HB.out | apply below_alloc | apply pw_below_drewN | apply below_drew1) | exact HB.out)⟩⟩
                            · replace c27 := Bool.eq_false_iff.mpr c27
                              subst c27
                              have H1 : (tapewrightlaw04_ShapePlaces.j3 kj19 l0 l1 a2 t156 t157 t158 false x11_2 x13_19 x14_2 true) = some r := by rw [if_neg (show ¬ (false = true) by decide)] at H; exact H
                              clear H
                              have H := H1
                              clear H1
                              have H' := Aside0.mk H
                              clear H
                              go_wp2
                              go_meet
                              case rel => exact ⟨_, (true), (by first | rfl | (simp; done) | (simp [*]; done)), H', ⟨by have := HJ3.out; have := HK2.out; have := HJ19.out; first | omega | exact Nat.le_refl _⟩, ⟨by (with_reducible repeat (first | apply Kd.R_alloc | apply Kd.R_drewN | apply Kd.R_drew)); exact HO_9.out⟩, ⟨by (with_reducible repeat (first | apply Kd.R_alloc | apply Kd.R_drewN | apply Kd.R_drew)); exact HO_11.out⟩, ⟨by repeat (first | (with_reducible first | exact HB.out | apply below_alloc | apply pw_below_drewN | apply below_drew1) | exact HB.out)⟩⟩
                          · rw [if_neg c26] at H
                            have c26b0 : (x14_2 == a2) = false := beq_eq_false_iff_ne.mpr c26
                            have c26b1 : (x14_2 != a2) = true := bne_iff_ne.mpr c26
                            (first | rw [c26b0] | (simp only [i64_w, i32_w]; rw [c26b0]) | skip)
                            have H' := Aside0.mk H
                            clear H
                            go_wp2
                            go_meet
                            case rel => exact ⟨_, (false), (by first | rfl | (simp; done) | (simp [*]; done)), H', ⟨by have := HJ3.out; have := HK2.out; have := HJ19.out; first | omega | exact Nat.le_refl _⟩, ⟨by (with_reducible repeat (first | apply Kd.R_alloc | apply Kd.R_drewN | apply Kd.R_drew)); exact HO_9.out⟩, ⟨by (with_reducible repeat (first | apply Kd.R_alloc | apply Kd.R_drewN | apply Kd.R_drew)); exact HO_11.out⟩, ⟨by repeat (first | (with_reducible first | exact HB.out | apply below_alloc | apply pw_below_drewN | apply below_drew1) | exact HB.out)⟩⟩
                        case rest =>
                          clear HC25
                          try clear c1
                          try clear c2
                          try clear p2
                          try clear c3
                          try clear c5
                          try clear c5b0
                          try clear c5b1
                          try clear c6
                          try clear c10
                          try clear c11
                          try clear c12
                          try clear c13
                          try clear c13b0
                          try clear c13b1
                          try clear c14
                          try clear c14b0
                          try clear c14b1
                          try clear c18
                          try clear c22
                          try clear c23
                          try clear c23b0
                          try clear c23b1
                          try clear c24
                          try clear c26
                          try clear c26b0
                          try clear c26b1
                          try clear c27
                          try clear p2
                          obtain ⟨kq, x87_24, rfl, HA, HJ24, HO_9, HO_11, HB⟩ := hcut
                          cases kq with
                          | zero => exact absurd HA.out (by simp [tapewrightlaw04_ShapePlaces.j3])
                          | succ kj24 =>
                            have H := HA.out
                            clear HA
                            simp only [tapewrightlaw04_ShapePlaces.j3] at H
                            by_cases c30 : x87_24 = true
                            · subst c30
                              have H1 : (some false) = some r := by rw [if_pos rfl] at H; exact H
                              clear H
                              have H := H1
                              clear H1
                              obtain rfl := Option.some.inj H
                              go_wp2
                              go_ret
                              exact ⟨by first | rfl | (simp [errW_none, errW_some] <;> rfl) | (simp [*, errW_none, errW_some] <;> rfl), by repeat (first | (with_reducible first | exact HB.out | apply below_alloc | apply pw_below_drewN | apply below_drew1) | exact HB.out)⟩
                            · replace c30 := Bool.eq_false_iff.mpr c30
                              subst c30
                              have H1 : ((shape_Offset.f kj24 l0 x11_2).bind fun bt175 => (if bt175.1 = x14_2 then (if bt175.2 = true then ((tapewrightref04_Next.f kj24 l0 x11_2).bind fun bt177 => (tapewrightlaw04_ShapePlaces.l0 kj24 l0 l1 a2 t156 t157 t158 t159 bt177.1 bt177.2 x13_19 (wrap64 (x14_2 + 1)))) else (some false)) else (some false))) = some r := by rw [if_neg (show ¬ (false = true) by decide)] at H; exact H
                              clear H
                              have H := H1
                              clear H1
                              replace H := Option.bind_eq_some_iff.mp H
                              obtain ⟨⟨t175, t176⟩, A310, H⟩ := H
                              replace H : (if t175 = x14_2 then (if t176 = true then ((tapewrightref04_Next.f kj24 l0 x11_2).bind fun bt177 => (tapewrightlaw04_ShapePlaces.l0 kj24 l0 l1 a2 t156 t157 t158 t159 bt177.1 bt177.2 x13_19 (wrap64 (x14_2 + 1)))) else (some false)) else (some false)) = some r := H
                              have A31 := Aside0.mk A310
                              clear A310
                              by_cases c32 : t175 = x14_2
                              · rw [if_pos c32] at H
                                have c32b0 : (t175 == x14_2) = true := beq_iff_eq.mpr c32
                                have c32b1 : (t175 != x14_2) = false := bne_eq_false_iff_eq.mpr c32
                                clear c32
                                by_cases c33 : t176 = true
                                · subst c33
                                  have H1 : ((tapewrightref04_Next.f kj24 l0 x11_2).bind fun bt177 => (tapewrightlaw04_ShapePlaces.l0 kj24 l0 l1 a2 t156 t157 t158 t159 bt177.1 bt177.2 x13_19 (wrap64 (x14_2 + 1)))) = some r := by rw [if_pos rfl] at H; exact H
                                  clear H
                                  have H := H1
                                  clear H1
                                  replace H := Option.bind_eq_some_iff.mp H
                                  obtain ⟨⟨t177, t178⟩, A340, H⟩ := H
                                  replace H : (tapewrightlaw04_ShapePlaces.l0 kj24 l0 l1 a2 t156 t157 t158 t159 t177 t178 x13_19 (wrap64 (x14_2 + 1))) = some r := H
                                  have A34 := Aside0.mk A340
                                  clear A340
                                  have H' := Aside0.mk H
                                  clear H
                                  go_wp2_with (first | ((with_reducible refine gate_callee (f := 11) rfl ?_); refine goesL_ (some 91) rfl rfl Try.func11 (by kernel_rfl) rfl #[.slice A0 l0.length c0, .slice Ao21 x11_2.length co21] rfl (by (try simp only [List.map_toArray, List.map_cons, List.map_nil]); first | done | rfl | (simp only [List.length_drop, List.length_take]; rfl)) ?_; (with_reducible refine (shape_Offset.calls kj24 _ _ l0 _ _ x11_2 t175 true _ ?side1 ?side2 ?side3 ?side4 A31.out).mono ?_); (case side1 => repeat (first | exact (Kd.C_below HR0.out HB.out) | (with_reducible refine Kd.C_alloc ?_ _) | (with_reducible refine Kd.C_drewN ?_ _) | (with_reducible refine Kd.C_drew ?_))); (case side2 => exact HC0.out); (case side3 => repeat (first | exact (Kd.R_reads' HO_11.out).2.2 | (with_reducible refine Kd.C_alloc ?_ _) | (with_reducible refine Kd.C_drewN ?_ _) | (with_reducible refine Kd.C_drew ?_))); (case side4 => exact (Kd.R_reads' HO_11.out).2.1); rintro e w' ⟨rfl, ⟨nd, rfl⟩⟩; refine ⟨_, rfl, ?_⟩) | ((with_reducible refine gate_callee (f := 15) rfl ?_); refine goesL_ (some 104) rfl rfl Try.func15 (by kernel_rfl) rfl #[.slice A0 l0.length c0, .slice Ao21 x11_2.length co21] rfl (by (try simp only [List.map_toArray, List.map_cons, List.map_nil]); first | done | rfl | (simp only [List.length_drop, List.length_take]; rfl)) ?_; (with_reducible refine (tapewrightref04_Next.calls kj24 _ _ l0 _ _ x11_2 t177 t178 _ ?side1 ?side2 ?side3 ?side4 A34.out).mono ?_); (case side1 => repeat (first | exact (Kd.C_below HR0.out (by repeat (first | (with_reducible first | exact HB.out | apply below_alloc | apply pw_below_drewN | apply below_drew1) | exact HB.out))) | (with_reducible refine Kd.C_alloc ?_ _) | (with_reducible refine Kd.C_drewN ?_ _) | (with_reducible refine Kd.C_drew ?_))); (case side2 => exact HC0.out); (case side3 => repeat (first | exact (Kd.R_reads' HO_11.out).2.2 | (with_reducible refine Kd.C_alloc ?_ _) | (with_reducible refine Kd.C_drewN ?_ _) | (with_reducible refine Kd.C_drew ?_))); (case side4 => exact (Kd.R_reads' HO_11.out).2.1); rintro e w35 ⟨v179, rfl, ho0, hb⟩; refine ⟨_, rfl, ?_⟩; have n0_ := Aside0.mk (Kd.R_elder' (by (with_reducible repeat (first | apply Kd.R_alloc | apply Kd.R_drewN | apply Kd.R_drew)); exact HO_9.out) (Kd.R_base ho0) hb); have n1_ := Aside0.mk (Kd.R_elder' (by (with_reducible repeat (first | apply Kd.R_alloc | apply Kd.R_drewN | apply Kd.R_drew)); exact HO_11.out) (Kd.R_base ho0) hb); have n2_ := Aside0.mk (Kd.R_lower (Kd.R_new' (Kd.R_new' ho0 (Kd.R_lt (by (with_reducible repeat (first | apply Kd.R_alloc | apply Kd.R_drewN | apply Kd.R_drew)); exact HO_9.out))) (Kd.R_lt (by (with_reducible repeat (first | apply Kd.R_alloc | apply Kd.R_drewN | apply Kd.R_drew)); exact HO_11.out))) (below_size (by repeat (first | (with_reducible first | exact HB.out | apply below_alloc | apply pw_below_drewN | apply below_drew1) | exact HB.out)))); have n3_ := Aside0.mk (below_step (by repeat (first | (with_reducible first | exact HB.out | apply below_alloc | apply pw_below_drewN | apply below_drew1) | exact HB.out)) hb); clear HO_9; clear HO_11; clear HB; have HO_9 := n0_; have HO_11 := n1_; have HO180 := n2_; have HB := n3_; clear n0_ n1_ n2_ n3_; (try clear hb); (try clear hb2); (try clear hk); (try clear hi); (try clear ho0)))
                                  go_roundg kj24
                                  case measure => have := HJ3.out; have := HK2.out; have := HJ19.out; have := HJ24.out; omega
                                  case rel => exact ⟨(t177), (t178), (x13_19), (wrap64 (x14_2 + 1)), (by first | rfl | (simp; done) | (simp [*]; done)), (by first | rfl | (simp; done) | (simp [*]; done)), (by first | rfl | (simp; done) | (simp [*]; done)), H', ⟨by have := HJ3.out; have := HK2.out; have := HJ19.out; have := HJ24.out; omega⟩, ⟨by (with_reducible repeat (first | apply Kd.R_alloc | apply Kd.R_drewN | apply Kd.R_drew)); exact Kd.R_mono HO_9.out (fun _ hk => hk.2)⟩, ⟨by (with_reducible repeat (first | apply Kd.R_alloc | apply Kd.R_drewN | apply Kd.R_drew)); exact Kd.R_mono HO180.out (fun _ hk => hk.1.2)⟩, ⟨by repeat (first | (with_reducible first | exact HB.out | apply below_alloc | apply pw_below_drewN | apply below_drew1) | exact HB.out)⟩⟩
                                · replace c33 := Bool.eq_false_iff.mpr c33
                                  subst c33
                                  have H1 : (some false) = some r := by rw [if_neg (show ¬ (false = true) by decide)] at H; exact H
                                  clear H
                                  have H := H1
                                  clear H1
                                  obtain rfl := Option.some.inj H
                                  go_wp2_with (first | ((with_reducible refine gate_callee (f := 11) rfl ?_); refine goesL_ (some 91) rfl rfl Try.func11 (by kernel_rfl) rfl #[.slice A0 l0.length c0, .slice Ao21 x11_2.length co21] rfl (by (try simp only [List.map_toArray, List.map_cons, List.map_nil]); first | done | rfl | (simp only [List.length_drop, List.length_take]; rfl)) ?_; (with_reducible refine (shape_Offset.calls kj24 _ _ l0 _ _ x11_2 t175 false _ ?side1 ?side2 ?side3 ?side4 A31.out).mono ?_); (case side1 => repeat (first | exact (Kd.C_below HR0.out HB.out) | (with_reducible refine Kd.C_alloc ?_ _) | (with_reducible refine Kd.C_drewN ?_ _) | (with_reducible refine Kd.C_drew ?_))); (case side2 => exact HC0.out); (case side3 => repeat (first | exact (Kd.R_reads' HO_11.out).2.2 | (with_reducible refine Kd.C_alloc ?_ _) | (with_reducible refine Kd.C_drewN ?_ _) | (with_reducible refine Kd.C_drew ?_))); (case side4 => exact (Kd.R_reads' HO_11.out).2.1); rintro e w' ⟨rfl, ⟨nd, rfl⟩⟩; refine ⟨_, rfl, ?_⟩))
                                  go_ret
                                  exact ⟨by first | rfl | (simp [errW_none, errW_some] <;> rfl) | (simp [*, errW_none, errW_some] <;> rfl), by repeat (first | (with_reducible first | exact HB.out | apply below_alloc | apply pw_below_drewN | apply below_drew1) | exact HB.out)⟩
                              · rw [if_neg c32] at H
                                have c32b0 : (t175 == x14_2) = false := beq_eq_false_iff_ne.mpr c32
                                have c32b1 : (t175 != x14_2) = true := bne_iff_ne.mpr c32
                                obtain rfl := Option.some.inj H
                                go_wp2_with (first | ((with_reducible refine gate_callee (f := 11) rfl ?_); refine goesL_ (some 91) rfl rfl Try.func11 (by kernel_rfl) rfl #[.slice A0 l0.length c0, .slice Ao21 x11_2.length co21] rfl (by (try simp only [List.map_toArray, List.map_cons, List.map_nil]); first | done | rfl | (simp only [List.length_drop, List.length_take]; rfl)) ?_; (with_reducible refine (shape_Offset.calls kj24 _ _ l0 _ _ x11_2 t175 t176 _ ?side1 ?side2 ?side3 ?side4 A31.out).mono ?_); (case side1 => repeat (first | exact (Kd.C_below HR0.out HB.out) | (with_reducible refine Kd.C_alloc ?_ _) | (with_reducible refine Kd.C_drewN ?_ _) | (with_reducible refine Kd.C_drew ?_))); (case side2 => exact HC0.out); (case side3 => repeat (first | exact (Kd.R_reads' HO_11.out).2.2 | (with_reducible refine Kd.C_alloc ?_ _) | (with_reducible refine Kd.C_drewN ?_ _) | (with_reducible refine Kd.C_drew ?_))); (case side4 => exact (Kd.R_reads' HO_11.out).2.1); rintro e w' ⟨rfl, ⟨nd, rfl⟩⟩; refine ⟨_, rfl, ?_⟩))
                                go_ret
                                exact ⟨by first | rfl | (simp [errW_none, errW_some] <;> rfl) | (simp [*, errW_none, errW_some] <;> rfl), by repeat (first | (with_reducible first | exact HB.out | apply below_alloc | apply pw_below_drewN | apply below_drew1) | exact HB.out)⟩
                  · replace c18 := Bool.eq_false_iff.mpr c18
                    subst c18
                    have H1 : (if x13_2 = true then (if a2 ≥ 0 then ((tapewrightref04_Size.f k2 l0).bind fun t167 => (if (t159 == (decide (a2 < t167))) = true then ((tapewrightlaw04_awake.f k2).bind fun t168 => (some t168)) else (some false))) else (if (t159 == false) = true then ((tapewrightlaw04_awake.f k2).bind fun t169 => (some t169)) else (some false))) else (if t156 = 0 then (if t157 = true then (some false) else (if a2 ≥ 0 then ((tapewrightref04_Size.f k2 l0).bind fun t170 => (if (t159 == (decide (a2 < t170))) = true then ((tapewrightlaw04_awake.f k2).bind fun t171 => (some t171)) else (some false))) else (if (t159 == false) = true then ((tapewrightlaw04_awake.f k2).bind fun t172 => (some t172)) else (some false)))) else (some false))) = some r := by rw [if_neg (show ¬ (false = true) by decide)] at H; exact H
                    clear H
                    have H := H1
                    clear H1
                    by_cases c36 : x13_2 = true
                    · subst c36
                      have H1 : (if a2 ≥ 0 then ((tapewrightref04_Size.f k2 l0).bind fun t167 => (if (t159 == (decide (a2 < t167))) = true then ((tapewrightlaw04_awake.f k2).bind fun t168 => (some t168)) else (some false))) else (if (t159 == false) = true then ((tapewrightlaw04_awake.f k2).bind fun t169 => (some t169)) else (some false))) = some r := by rw [if_pos rfl] at H; exact H
                      clear H
                      have H := H1
                      clear H1
                      by_cases c37 : a2 ≥ 0
                      · rw [if_pos c37] at H
                        have c37b0 : decide (0 ≤ a2) = true := decide_eq_true c37
                        clear c37
                        replace H := Option.bind_eq_some_iff.mp H
                        obtain ⟨t167, A380, H⟩ := H
                        replace H : (if (t159 == (decide (a2 < t167))) = true then ((tapewrightlaw04_awake.f k2).bind fun t168 => (some t168)) else (some false)) = some r := H
                        have A38 := Aside0.mk A380
                        clear A380
                        by_cases c39 : (t159 == (decide (a2 < t167))) = true
                        · rw [if_pos c39] at H
                          have c39b0 : (t159 == (decide (a2 < t167))) = true := c39
                          (try (have c39b1 : decide (t159 = (decide (a2 < t167))) = true := by simpa using c39))
                          (try (have c39b2 : (t159 == (decide (a2 < t167))) = true := by simpa using c39))
                          clear c39
                          replace H := Option.bind_eq_some_iff.mp H
                          obtain ⟨t168, A400, H⟩ := H
                          replace H : (some t168) = some r := H
                          have A40 := Aside0.mk A400
                          clear A400
                          obtain rfl := Option.some.inj H
                          go_wp2_with (first | (go_at_call 16; (with_reducible refine (tapewrightref04_Size.calls k2 _ _ l0 t167 _ ?side1 ?side2 A38.out).mono ?_); (case side1 => repeat (first | exact (Kd.C_below HR0.out HB.out) | (with_reducible refine Kd.C_alloc ?_ _) | (with_reducible refine Kd.C_drewN ?_ _) | (with_reducible refine Kd.C_drew ?_))); (case side2 => exact HC0.out); rintro e w' ⟨rfl, ⟨nd, rfl⟩⟩) | (go_at_call 10; (with_reducible refine (tapewrightlaw04_awake.calls k2  t168 _ A40.out).mono ?_); rintro e w41 ⟨rfl, hb⟩; have n0_ := Aside0.mk (Kd.R_below (by (with_reducible repeat (first | apply Kd.R_alloc | apply Kd.R_drewN | apply Kd.R_drew)); exact HO_9.out) hb); have n1_ := Aside0.mk (Kd.R_below (by (with_reducible repeat (first | apply Kd.R_alloc | apply Kd.R_drewN | apply Kd.R_drew)); exact HO_11.out) hb); have n2_ := Aside0.mk (below_step (by repeat (first | (with_reducible first | exact HB.out | apply below_alloc | apply pw_below_drewN | apply below_drew1) | exact HB.out)) hb); clear HO_9; clear HO_11; clear HB; have HO_9 := n0_; have HO_11 := n1_; have HB := n2_; clear n0_ n1_ n2_; (try clear hb); (try clear hb2); (try clear hk); (try clear hi)))
                          go_ret
                          exact ⟨by first | rfl | (simp [errW_none, errW_some] <;> rfl) | (simp [*, errW_none, errW_some] <;> rfl), by repeat (first | (with_reducible first | exact HB.out | apply below_alloc | apply pw_below_drewN | apply below_drew1) | exact HB.out)⟩
                        · rw [if_neg c39] at H
                          have c39b0 : (t159 == (decide (a2 < t167))) = false := by simpa using c39
                          (try (have c39b1 : decide (t159 = (decide (a2 < t167))) = false := by simpa using c39))
                          (try (have c39b2 : (t159 == (decide (a2 < t167))) = false := by simpa using c39))
                          (try (have c39b3 : ¬ (t159 = (decide (a2 < t167))) := by simpa using c39))
                          clear c39
                          obtain rfl := Option.some.inj H
                          go_wp2_with (first | (go_at_call 16; (with_reducible refine (tapewrightref04_Size.calls k2 _ _ l0 t167 _ ?side1 ?side2 A38.out).mono ?_); (case side1 => repeat (first | exact (Kd.C_below HR0.out HB.out) | (with_reducible refine Kd.C_alloc ?_ _) | (with_reducible refine Kd.C_drewN ?_ _) | (with_reducible refine Kd.C_drew ?_))); (case side2 => exact HC0.out); rintro e w' ⟨rfl, ⟨nd, rfl⟩⟩))
                          go_ret
                          exact ⟨by first | rfl | (simp [errW_none, errW_some] <;> rfl) | (simp [*, errW_none, errW_some] <;> rfl), by repeat (first | (with_reducible first | exact HB.out | apply below_alloc | apply pw_below_drewN | apply below_drew1) | exact HB.out)⟩
                      · rw [if_neg c37] at H
                        have c37b0 : decide (0 ≤ a2) = false := decide_eq_false c37
                        clear c37
                        by_cases c42 : (t159 == false) = true
                        · rw [if_pos c42] at H
                          have c42b0 : (t159 == false) = true := c42
                          (try (have c42b1 : decide (t159 = false) = true := by simpa using c42))
                          (try (have c42b2 : (t159 == false) = true := by simpa using c42))
                          clear c42
                          replace H := Option.bind_eq_some_iff.mp H
                          obtain ⟨t169, A430, H⟩ := H
                          replace H : (some t169) = some r := H
                          have A43 := Aside0.mk A430
                          clear A430
                          obtain rfl := Option.some.inj H
                          go_wp2_with (first | (go_at_call 10; (with_reducible refine (tapewrightlaw04_awake.calls k2  t169 _ A43.out).mono ?_); rintro e w44 ⟨rfl, hb⟩; have n0_ := Aside0.mk (Kd.R_below (by (with_reducible repeat (first | apply Kd.R_alloc | apply Kd.R_drewN | apply Kd.R_drew)); exact HO_9.out) hb); have n1_ := Aside0.mk (Kd.R_below (by (with_reducible repeat (first | apply Kd.R_alloc | apply Kd.R_drewN | apply Kd.R_drew)); exact HO_11.out) hb); have n2_ := Aside0.mk (below_step (by repeat (first | (with_reducible first | exact HB.out | apply below_alloc | apply pw_below_drewN | apply below_drew1) | exact HB.out)) hb); clear HO_9; clear HO_11; clear HB; have HO_9 := n0_; have HO_11 := n1_; have HB := n2_; clear n0_ n1_ n2_; (try clear hb); (try clear hb2); (try clear hk); (try clear hi)))
                          go_ret
                          exact ⟨by first | rfl | (simp [errW_none, errW_some] <;> rfl) | (simp [*, errW_none, errW_some] <;> rfl), by repeat (first | (with_reducible first | exact HB.out | apply below_alloc | apply pw_below_drewN | apply below_drew1) | exact HB.out)⟩
                        · rw [if_neg c42] at H
                          have c42b0 : (t159 == false) = false := by simpa using c42
                          (try (have c42b1 : decide (t159 = false) = false := by simpa using c42))
                          (try (have c42b2 : (t159 == false) = false := by simpa using c42))
                          (try (have c42b3 : ¬ (t159 = false) := by simpa using c42))
                          clear c42
                          obtain rfl := Option.some.inj H
                          go_wp2
                          go_ret
                          exact ⟨by first | rfl | (simp [errW_none, errW_some] <;> rfl) | (simp [*, errW_none, errW_some] <;> rfl), by repeat (first | (with_reducible first | exact HB.out | apply below_alloc | apply pw_below_drewN | apply below_drew1) | exact HB.out)⟩
                    · replace c36 := Bool.eq_false_iff.mpr c36
                      subst c36
                      have H1 : (if t156 = 0 then (if t157 = true then (some false) else (if a2 ≥ 0 then ((tapewrightref04_Size.f k2 l0).bind fun t170 => (if (t159 == (decide (a2 < t170))) = true then ((tapewrightlaw04_awake.f k2).bind fun t171 => (some t171)) else (some false))) else (if (t159 == false) = true then ((tapewrightlaw04_awake.f k2).bind fun t172 => (some t172)) else (some false)))) else (some false)) = some r := by rw [if_neg (show ¬ (false = true) by decide)] at H; exact H
                      clear H
                      have H := H1
                      clear H1
                      by_cases c45 : t156 = 0
                      · rw [if_pos c45] at H
                        have c45b0 : (t156 == 0) = true := beq_iff_eq.mpr c45
                        have c45b1 : (t156 != 0) = false := bne_eq_false_iff_eq.mpr c45
                        clear c45
                        by_cases c46 : t157 = true
                        · subst c46
                          have H1 : (some false) = some r := by rw [if_pos rfl] at H; exact H
                          clear H
                          have H := H1
                          clear H1
                          obtain rfl := Option.some.inj H
                          go_wp2
                          go_ret
                          exact ⟨by first | rfl | (simp [errW_none, errW_some] <;> rfl) | (simp [*, errW_none, errW_some] <;> rfl), by repeat (first | (with_reducible first | exact HB.out | apply below_alloc | apply pw_below_drewN | apply below_drew1) | exact HB.out)⟩
                        · replace c46 := Bool.eq_false_iff.mpr c46
                          subst c46
                          have H1 : (if a2 ≥ 0 then ((tapewrightref04_Size.f k2 l0).bind fun t170 => (if (t159 == (decide (a2 < t170))) = true then ((tapewrightlaw04_awake.f k2).bind fun t171 => (some t171)) else (some false))) else (if (t159 == false) = true then ((tapewrightlaw04_awake.f k2).bind fun t172 => (some t172)) else (some false))) = some r := by rw [if_neg (show ¬ (false = true) by decide)] at H; exact H
                          clear H
                          have H := H1
                          clear H1
                          by_cases c47 : a2 ≥ 0
                          · rw [if_pos c47] at H
                            have c47b0 : decide (0 ≤ a2) = true := decide_eq_true c47
                            clear c47
                            replace H := Option.bind_eq_some_iff.mp H
                            obtain ⟨t170, A480, H⟩ := H
                            replace H : (if (t159 == (decide (a2 < t170))) = true then ((tapewrightlaw04_awake.f k2).bind fun t171 => (some t171)) else (some false)) = some r := H
                            have A48 := Aside0.mk A480
                            clear A480
                            by_cases c49 : (t159 == (decide (a2 < t170))) = true
                            · rw [if_pos c49] at H
                              have c49b0 : (t159 == (decide (a2 < t170))) = true := c49
                              (try (have c49b1 : decide (t159 = (decide (a2 < t170))) = true := by simpa using c49))
                              (try (have c49b2 : (t159 == (decide (a2 < t170))) = true := by simpa using c49))
                              clear c49
                              replace H := Option.bind_eq_some_iff.mp H
                              obtain ⟨t171, A500, H⟩ := H
                              replace H : (some t171) = some r := H
                              have A50 := Aside0.mk A500
                              clear A500
                              obtain rfl := Option.some.inj H
                              go_wp2_with (first | (go_at_call 16; (with_reducible refine (tapewrightref04_Size.calls k2 _ _ l0 t170 _ ?side1 ?side2 A48.out).mono ?_); (case side1 => repeat (first | exact (Kd.C_below HR0.out HB.out) | (with_reducible refine Kd.C_alloc ?_ _) | (with_reducible refine Kd.C_drewN ?_ _) | (with_reducible refine Kd.C_drew ?_))); (case side2 => exact HC0.out); rintro e w' ⟨rfl, ⟨nd, rfl⟩⟩) | (go_at_call 10; (with_reducible refine (tapewrightlaw04_awake.calls k2  t171 _ A50.out).mono ?_); rintro e w51 ⟨rfl, hb⟩; have n0_ := Aside0.mk (Kd.R_below (by (with_reducible repeat (first | apply Kd.R_alloc | apply Kd.R_drewN | apply Kd.R_drew)); exact HO_9.out) hb); have n1_ := Aside0.mk (Kd.R_below (by (with_reducible repeat (first | apply Kd.R_alloc | apply Kd.R_drewN | apply Kd.R_drew)); exact HO_11.out) hb); have n2_ := Aside0.mk (below_step (by repeat (first | (with_reducible first | exact HB.out | apply below_alloc | apply pw_below_drewN | apply below_drew1) | exact HB.out)) hb); clear HO_9; clear HO_11; clear HB; have HO_9 := n0_; have HO_11 := n1_; have HB := n2_; clear n0_ n1_ n2_; (try clear hb); (try clear hb2); (try clear hk); (try clear hi)))
                              go_ret
                              exact ⟨by first | rfl | (simp [errW_none, errW_some] <;> rfl) | (simp [*, errW_none, errW_some] <;> rfl), by repeat (first | (with_reducible first | exact HB.out | apply below_alloc | apply pw_below_drewN | apply below_drew1) | exact HB.out)⟩
                            · rw [if_neg c49] at H
                              have c49b0 : (t159 == (decide (a2 < t170))) = false := by simpa using c49
                              (try (have c49b1 : decide (t159 = (decide (a2 < t170))) = false := by simpa using c49))
                              (try (have c49b2 : (t159 == (decide (a2 < t170))) = false := by simpa using c49))
                              (try (have c49b3 : ¬ (t159 = (decide (a2 < t170))) := by simpa using c49))
                              clear c49
                              obtain rfl := Option.some.inj H
                              go_wp2_with (first | (go_at_call 16; (with_reducible refine (tapewrightref04_Size.calls k2 _ _ l0 t170 _ ?side1 ?side2 A48.out).mono ?_); (case side1 => repeat (first | exact (Kd.C_below HR0.out HB.out) | (with_reducible refine Kd.C_alloc ?_ _) | (with_reducible refine Kd.C_drewN ?_ _) | (with_reducible refine Kd.C_drew ?_))); (case side2 => exact HC0.out); rintro e w' ⟨rfl, ⟨nd, rfl⟩⟩))
                              go_ret
                              exact ⟨by first | rfl | (simp [errW_none, errW_some] <;> rfl) | (simp [*, errW_none, errW_some] <;> rfl), by repeat (first | (with_reducible first | exact HB.out | apply below_alloc | apply pw_below_drewN | apply below_drew1) | exact HB.out)⟩
                          · rw [if_neg c47] at H
                            have c47b0 : decide (0 ≤ a2) = false := decide_eq_false c47
                            clear c47
                            by_cases c52 : (t159 == false) = true
                            · rw [if_pos c52] at H
                              have c52b0 : (t159 == false) = true := c52
                              (try (have c52b1 : decide (t159 = false) = true := by simpa using c52))
                              (try (have c52b2 : (t159 == false) = true := by simpa using c52))
                              clear c52
                              replace H := Option.bind_eq_some_iff.mp H
                              obtain ⟨t172, A530, H⟩ := H
                              replace H : (some t172) = some r := H
                              have A53 := Aside0.mk A530
                              clear A530
                              obtain rfl := Option.some.inj H
                              go_wp2_with (first | (go_at_call 10; (with_reducible refine (tapewrightlaw04_awake.calls k2  t172 _ A53.out).mono ?_); rintro e w54 ⟨rfl, hb⟩; have n0_ := Aside0.mk (Kd.R_below (by (with_reducible repeat (first | apply Kd.R_alloc | apply Kd.R_drewN | apply Kd.R_drew)); exact HO_9.out) hb); have n1_ := Aside0.mk (Kd.R_below (by (with_reducible repeat (first | apply Kd.R_alloc | apply Kd.R_drewN | apply Kd.R_drew)); exact HO_11.out) hb); have n2_ := Aside0.mk (below_step (by repeat (first | (with_reducible first | exact HB.out | apply below_alloc | apply pw_below_drewN | apply below_drew1) | exact HB.out)) hb); clear HO_9; clear HO_11; clear HB; have HO_9 := n0_; have HO_11 := n1_; have HB := n2_; clear n0_ n1_ n2_; (try clear hb); (try clear hb2); (try clear hk); (try clear hi)))
                              go_ret
                              exact ⟨by first | rfl | (simp [errW_none, errW_some] <;> rfl) | (simp [*, errW_none, errW_some] <;> rfl), by repeat (first | (with_reducible first | exact HB.out | apply below_alloc | apply pw_below_drewN | apply below_drew1) | exact HB.out)⟩
                            · rw [if_neg c52] at H
                              have c52b0 : (t159 == false) = false := by simpa using c52
                              (try (have c52b1 : decide (t159 = false) = false := by simpa using c52))
                              (try (have c52b2 : (t159 == false) = false := by simpa using c52))
                              (try (have c52b3 : ¬ (t159 = false) := by simpa using c52))
                              clear c52
                              obtain rfl := Option.some.inj H
                              go_wp2
                              go_ret
                              exact ⟨by first | rfl | (simp [errW_none, errW_some] <;> rfl) | (simp [*, errW_none, errW_some] <;> rfl), by repeat (first | (with_reducible first | exact HB.out | apply below_alloc | apply pw_below_drewN | apply below_drew1) | exact HB.out)⟩
                      · rw [if_neg c45] at H
                        have c45b0 : (t156 == 0) = false := beq_eq_false_iff_ne.mpr c45
                        have c45b1 : (t156 != 0) = true := bne_iff_ne.mpr c45
                        obtain rfl := Option.some.inj H
                        go_wp2
                        go_ret
                        exact ⟨by first | rfl | (simp [errW_none, errW_some] <;> rfl) | (simp [*, errW_none, errW_some] <;> rfl), by repeat (first | (with_reducible first | exact HB.out | apply below_alloc | apply pw_below_drewN | apply below_drew1) | exact HB.out)⟩
            · rw [if_neg c14] at H
              exact absurd H (by simp)
          · rw [if_neg c13] at H
            exact absurd H (by simp)
        · replace c12 := Bool.eq_false_iff.mpr c12
          subst c12
          have H1 : (if t156 = 0 then (if t157 = true then (some false) else (if (t158.length : Int) = 0 then (if t159 = true then (some false) else ((tapewrightlaw04_awake.f kj3).bind fun t163 => (some t163))) else (some false))) else (some false)) = some r := by rw [if_neg (show ¬ (false = true) by decide)] at H; exact H
          clear H
          have H := H1
          clear H1
          by_cases c55 : t156 = 0
          · rw [if_pos c55] at H
            have c55b0 : (t156 == 0) = true := beq_iff_eq.mpr c55
            have c55b1 : (t156 != 0) = false := bne_eq_false_iff_eq.mpr c55
            clear c55
            by_cases c56 : t157 = true
            · subst c56
              have H1 : (some false) = some r := by rw [if_pos rfl] at H; exact H
              clear H
              have H := H1
              clear H1
              obtain rfl := Option.some.inj H
              go_wp2_with (first | ((with_reducible refine gate_callee (f := 11) rfl ?_); refine goesL_ (some 29) rfl rfl Try.func11 (by kernel_rfl) rfl #[.slice A0 l0.length c0, .slice A1 l1.length c1] rfl (by (try simp only [List.map_toArray, List.map_cons, List.map_nil]); first | done | rfl | (simp only [List.length_drop, List.length_take]; rfl)) ?_; (with_reducible refine (shape_Offset.calls kj3 _ _ l0 _ _ l1 t156 true _ ?side1 ?side2 ?side3 ?side4 A9.out).mono ?_); (case side1 => repeat (first | exact (Kd.C_below HR0.out HB.out) | (with_reducible refine Kd.C_alloc ?_ _) | (with_reducible refine Kd.C_drewN ?_ _) | (with_reducible refine Kd.C_drew ?_))); (case side2 => exact HC0.out); (case side3 => repeat (first | exact (Kd.C_below HR1.out HB.out) | (with_reducible refine Kd.C_alloc ?_ _) | (with_reducible refine Kd.C_drewN ?_ _) | (with_reducible refine Kd.C_drew ?_))); (case side4 => exact HC1.out); rintro e w' ⟨rfl, ⟨nd, rfl⟩⟩; refine ⟨_, rfl, ?_⟩) | ((with_reducible refine gate_callee (f := 12) rfl ?_); refine goesL_ (some 35) rfl rfl Try.func12 (by kernel_rfl) rfl #[.slice A0 l0.length c0, .int .i64 a2] rfl (by (try simp only [List.map_toArray, List.map_cons, List.map_nil]); first | done | rfl | (simp only [List.length_drop, List.length_take]; rfl)) ?_; (with_reducible refine (shape_Place.calls kj3 _ _ l0 a2 t158 t159 _ ?side1 ?side2 A10.out).mono ?_); (case side1 => repeat (first | exact (Kd.C_below HR0.out (by repeat (first | (with_reducible first | exact HB.out | apply below_alloc | apply pw_below_drewN | apply below_drew1) | exact HB.out))) | (with_reducible refine Kd.C_alloc ?_ _) | (with_reducible refine Kd.C_drewN ?_ _) | (with_reducible refine Kd.C_drew ?_))); (case side2 => exact HC0.out); rintro e w57 ⟨v160, rfl, ho0, hb⟩; refine ⟨_, rfl, ?_⟩; have n0_ := Aside0.mk (Kd.R_lower ho0 (below_size (by repeat (first | (with_reducible first | exact HB.out | apply below_alloc | apply pw_below_drewN | apply below_drew1) | exact HB.out)))); have n1_ := Aside0.mk (below_step (by repeat (first | (with_reducible first | exact HB.out | apply below_alloc | apply pw_below_drewN | apply below_drew1) | exact HB.out)) hb); clear HB; have HO161 := n0_; have HB := n1_; clear n0_ n1_; (try clear hb); (try clear hb2); (try clear hk); (try clear hi); (try clear ho0)) | ((with_reducible refine gate_callee (f := 13) rfl ?_); refine goesL_ (some 39) rfl rfl Try.func13 (by kernel_rfl) rfl #[.slice A0 l0.length c0] rfl (by (try simp only [List.map_toArray, List.map_cons, List.map_nil]); first | done | rfl | (simp only [List.length_drop, List.length_take]; rfl)) ?_; (with_reducible refine (tapewrightref04_Right.calls kj3 _ _ l0 false _ ?side1 ?side2 A11.out).mono ?_); (case side1 => repeat (first | exact (Kd.C_below HR0.out HB.out) | (with_reducible refine Kd.C_alloc ?_ _) | (with_reducible refine Kd.C_drewN ?_ _) | (with_reducible refine Kd.C_drew ?_))); (case side2 => exact HC0.out); rintro e w' ⟨rfl, ⟨nd, rfl⟩⟩; refine ⟨_, rfl, ?_⟩))
              go_ret
              exact ⟨by first | rfl | (simp [errW_none, errW_some] <;> rfl) | (simp [*, errW_none, errW_some] <;> rfl), by repeat (first | (with_reducible first | exact HB.out | apply below_alloc | apply pw_below_drewN | apply below_drew1) | exact HB.out)⟩
            · replace c56 := Bool.eq_false_iff.mpr c56
              subst c56
              have H1 : (if (t158.length : Int) = 0 then (if t159 = true then (some false) else ((tapewrightlaw04_awake.f kj3).bind fun t163 => (some t163))) else (some false)) = some r := by rw [if_neg (show ¬ (false = true) by decide)] at H; exact H
              clear H
              have H := H1
              clear H1
              by_cases c58 : (t158.length : Int) = 0
              · rw [if_pos c58] at H
                have c58b0 : ((t158.length : Int) == 0) = true := beq_iff_eq.mpr c58
                have c58b1 : ((t158.length : Int) != 0) = false := bne_eq_false_iff_eq.mpr c58
                clear c58
                by_cases c59 : t159 = true
                · subst c59
                  have H1 : (some false) = some r := by rw [if_pos rfl] at H; exact H
                  clear H
                  have H := H1
                  clear H1
                  obtain rfl := Option.some.inj H
                  go_wp2_with (first | ((with_reducible refine gate_callee (f := 11) rfl ?_); refine goesL_ (some 29) rfl rfl Try.func11 (by kernel_rfl) rfl #[.slice A0 l0.length c0, .slice A1 l1.length c1] rfl (by (try simp only [List.map_toArray, List.map_cons, List.map_nil]); first | done | rfl | (simp only [List.length_drop, List.length_take]; rfl)) ?_; (with_reducible refine (shape_Offset.calls kj3 _ _ l0 _ _ l1 t156 false _ ?side1 ?side2 ?side3 ?side4 A9.out).mono ?_); (case side1 => repeat (first | exact (Kd.C_below HR0.out HB.out) | (with_reducible refine Kd.C_alloc ?_ _) | (with_reducible refine Kd.C_drewN ?_ _) | (with_reducible refine Kd.C_drew ?_))); (case side2 => exact HC0.out); (case side3 => repeat (first | exact (Kd.C_below HR1.out HB.out) | (with_reducible refine Kd.C_alloc ?_ _) | (with_reducible refine Kd.C_drewN ?_ _) | (with_reducible refine Kd.C_drew ?_))); (case side4 => exact HC1.out); rintro e w' ⟨rfl, ⟨nd, rfl⟩⟩; refine ⟨_, rfl, ?_⟩) | ((with_reducible refine gate_callee (f := 12) rfl ?_); refine goesL_ (some 35) rfl rfl Try.func12 (by kernel_rfl) rfl #[.slice A0 l0.length c0, .int .i64 a2] rfl (by (try simp only [List.map_toArray, List.map_cons, List.map_nil]); first | done | rfl | (simp only [List.length_drop, List.length_take]; rfl)) ?_; (with_reducible refine (shape_Place.calls kj3 _ _ l0 a2 t158 true _ ?side1 ?side2 A10.out).mono ?_); (case side1 => repeat (first | exact (Kd.C_below HR0.out (by repeat (first | (with_reducible first | exact HB.out | apply below_alloc | apply pw_below_drewN | apply below_drew1) | exact HB.out))) | (with_reducible refine Kd.C_alloc ?_ _) | (with_reducible refine Kd.C_drewN ?_ _) | (with_reducible refine Kd.C_drew ?_))); (case side2 => exact HC0.out); rintro e w60 ⟨v160, rfl, ho0, hb⟩; refine ⟨_, rfl, ?_⟩; have n0_ := Aside0.mk (Kd.R_lower ho0 (below_size (by repeat (first | (with_reducible first | exact HB.out | apply below_alloc | apply pw_below_drewN | apply below_drew1) | exact HB.out)))); have n1_ := Aside0.mk (below_step (by repeat (first | (with_reducible first | exact HB.out | apply below_alloc | apply pw_below_drewN | apply below_drew1) | exact HB.out)) hb); clear HB; have HO161 := n0_; have HB := n1_; clear n0_ n1_; (try clear hb); (try clear hb2); (try clear hk); (try clear hi); (try clear ho0)) | ((with_reducible refine gate_callee (f := 13) rfl ?_); refine goesL_ (some 39) rfl rfl Try.func13 (by kernel_rfl) rfl #[.slice A0 l0.length c0] rfl (by (try simp only [List.map_toArray, List.map_cons, List.map_nil]); first | done | rfl | (simp only [List.length_drop, List.length_take]; rfl)) ?_; (with_reducible refine (tapewrightref04_Right.calls kj3 _ _ l0 false _ ?side1 ?side2 A11.out).mono ?_); (case side1 => repeat (first | exact (Kd.C_below HR0.out HB.out) | (with_reducible refine Kd.C_alloc ?_ _) | (with_reducible refine Kd.C_drewN ?_ _) | (with_reducible refine Kd.C_drew ?_))); (case side2 => exact HC0.out); rintro e w' ⟨rfl, ⟨nd, rfl⟩⟩; refine ⟨_, rfl, ?_⟩; obtain ⟨Ao61, co61, eo61⟩ := Kd.R_slice HO161.out; subst eo61))
                  go_ret
                  exact ⟨by first | rfl | (simp [errW_none, errW_some] <;> rfl) | (simp [*, errW_none, errW_some] <;> rfl), by repeat (first | (with_reducible first | exact HB.out | apply below_alloc | apply pw_below_drewN | apply below_drew1) | exact HB.out)⟩
                · replace c59 := Bool.eq_false_iff.mpr c59
                  subst c59
                  have H1 : ((tapewrightlaw04_awake.f kj3).bind fun t163 => (some t163)) = some r := by rw [if_neg (show ¬ (false = true) by decide)] at H; exact H
                  clear H
                  have H := H1
                  clear H1
                  replace H := Option.bind_eq_some_iff.mp H
                  obtain ⟨t163, A620, H⟩ := H
                  replace H : (some t163) = some r := H
                  have A62 := Aside0.mk A620
                  clear A620
                  obtain rfl := Option.some.inj H
                  go_wp2_with (first | ((with_reducible refine gate_callee (f := 11) rfl ?_); refine goesL_ (some 29) rfl rfl Try.func11 (by kernel_rfl) rfl #[.slice A0 l0.length c0, .slice A1 l1.length c1] rfl (by (try simp only [List.map_toArray, List.map_cons, List.map_nil]); first | done | rfl | (simp only [List.length_drop, List.length_take]; rfl)) ?_; (with_reducible refine (shape_Offset.calls kj3 _ _ l0 _ _ l1 t156 false _ ?side1 ?side2 ?side3 ?side4 A9.out).mono ?_); (case side1 => repeat (first | exact (Kd.C_below HR0.out HB.out) | (with_reducible refine Kd.C_alloc ?_ _) | (with_reducible refine Kd.C_drewN ?_ _) | (with_reducible refine Kd.C_drew ?_))); (case side2 => exact HC0.out); (case side3 => repeat (first | exact (Kd.C_below HR1.out HB.out) | (with_reducible refine Kd.C_alloc ?_ _) | (with_reducible refine Kd.C_drewN ?_ _) | (with_reducible refine Kd.C_drew ?_))); (case side4 => exact HC1.out); rintro e w' ⟨rfl, ⟨nd, rfl⟩⟩; refine ⟨_, rfl, ?_⟩) | ((with_reducible refine gate_callee (f := 12) rfl ?_); refine goesL_ (some 35) rfl rfl Try.func12 (by kernel_rfl) rfl #[.slice A0 l0.length c0, .int .i64 a2] rfl (by (try simp only [List.map_toArray, List.map_cons, List.map_nil]); first | done | rfl | (simp only [List.length_drop, List.length_take]; rfl)) ?_; (with_reducible refine (shape_Place.calls kj3 _ _ l0 a2 t158 false _ ?side1 ?side2 A10.out).mono ?_); (case side1 => repeat (first | exact (Kd.C_below HR0.out (by repeat (first | (with_reducible first | exact HB.out | apply below_alloc | apply pw_below_drewN | apply below_drew1) | exact HB.out))) | (with_reducible refine Kd.C_alloc ?_ _) | (with_reducible refine Kd.C_drewN ?_ _) | (with_reducible refine Kd.C_drew ?_))); (case side2 => exact HC0.out); rintro e w63 ⟨v160, rfl, ho0, hb⟩; refine ⟨_, rfl, ?_⟩; have n0_ := Aside0.mk (Kd.R_lower ho0 (below_size (by repeat (first | (with_reducible first | exact HB.out | apply below_alloc | apply pw_below_drewN | apply below_drew1) | exact HB.out)))); have n1_ := Aside0.mk (below_step (by repeat (first | (with_reducible first | exact HB.out | apply below_alloc | apply pw_below_drewN | apply below_drew1) | exact HB.out)) hb); clear HB; have HO161 := n0_; have HB := n1_; clear n0_ n1_; (try clear hb); (try clear hb2); (try clear hk); (try clear hi); (try clear ho0)) | ((with_reducible refine gate_callee (f := 13) rfl ?_); refine goesL_ (some 39) rfl rfl Try.func13 (by kernel_rfl) rfl #[.slice A0 l0.length c0] rfl (by (try simp only [List.map_toArray, List.map_cons, List.map_nil]); first | done | rfl | (simp only [List.length_drop, List.length_take]; rfl)) ?_; (with_reducible refine (tapewrightref04_Right.calls kj3 _ _ l0 false _ ?side1 ?side2 A11.out).mono ?_); (case side1 => repeat (first | exact (Kd.C_below HR0.out HB.out) | (with_reducible refine Kd.C_alloc ?_ _) | (with_reducible refine Kd.C_drewN ?_ _) | (with_reducible refine Kd.C_drew ?_))); (case side2 => exact HC0.out); rintro e w' ⟨rfl, ⟨nd, rfl⟩⟩; refine ⟨_, rfl, ?_⟩; obtain ⟨Ao64, co64, eo64⟩ := Kd.R_slice HO161.out; subst eo64) | (go_at_call 10; (with_reducible refine (tapewrightlaw04_awake.calls kj3  t163 _ A62.out).mono ?_); rintro e w65 ⟨rfl, hb⟩; have n0_ := Aside0.mk (Kd.R_below (by (with_reducible repeat (first | apply Kd.R_alloc | apply Kd.R_drewN | apply Kd.R_drew)); exact HO161.out) hb); have n1_ := Aside0.mk (below_step (by repeat (first | (with_reducible first | exact HB.out | apply below_alloc | apply pw_below_drewN | apply below_drew1) | exact HB.out)) hb); clear HO161; clear HB; have HO161 := n0_; have HB := n1_; clear n0_ n1_; (try clear hb); (try clear hb2); (try clear hk); (try clear hi)))
                  go_ret
                  exact ⟨by first | rfl | (simp [errW_none, errW_some] <;> rfl) | (simp [*, errW_none, errW_some] <;> rfl), by repeat (first | (with_reducible first | exact HB.out | apply below_alloc | apply pw_below_drewN | apply below_drew1) | exact HB.out)⟩
              · rw [if_neg c58] at H
                have c58b0 : ((t158.length : Int) == 0) = false := beq_eq_false_iff_ne.mpr c58
                have c58b1 : ((t158.length : Int) != 0) = true := bne_iff_ne.mpr c58
                have c58b2 : ¬ (t158 = []) := fun h_ => c58 (by rw [h_]; rfl)
                obtain rfl := Option.some.inj H
                go_wp2_with (first | ((with_reducible refine gate_callee (f := 11) rfl ?_); refine goesL_ (some 29) rfl rfl Try.func11 (by kernel_rfl) rfl #[.slice A0 l0.length c0, .slice A1 l1.length c1] rfl (by (try simp only [List.map_toArray, List.map_cons, List.map_nil]); first | done | rfl | (simp only [List.length_drop, List.length_take]; rfl)) ?_; (with_reducible refine (shape_Offset.calls kj3 _ _ l0 _ _ l1 t156 false _ ?side1 ?side2 ?side3 ?side4 A9.out).mono ?_); (case side1 => repeat (first | exact (Kd.C_below HR0.out HB.out) | (with_reducible refine Kd.C_alloc ?_ _) | (with_reducible refine Kd.C_drewN ?_ _) | (with_reducible refine Kd.C_drew ?_))); (case side2 => exact HC0.out); (case side3 => repeat (first | exact (Kd.C_below HR1.out HB.out) | (with_reducible refine Kd.C_alloc ?_ _) | (with_reducible refine Kd.C_drewN ?_ _) | (with_reducible refine Kd.C_drew ?_))); (case side4 => exact HC1.out); rintro e w' ⟨rfl, ⟨nd, rfl⟩⟩; refine ⟨_, rfl, ?_⟩) | ((with_reducible refine gate_callee (f := 12) rfl ?_); refine goesL_ (some 35) rfl rfl Try.func12 (by kernel_rfl) rfl #[.slice A0 l0.length c0, .int .i64 a2] rfl (by (try simp only [List.map_toArray, List.map_cons, List.map_nil]); first | done | rfl | (simp only [List.length_drop, List.length_take]; rfl)) ?_; (with_reducible refine (shape_Place.calls kj3 _ _ l0 a2 t158 t159 _ ?side1 ?side2 A10.out).mono ?_); (case side1 => repeat (first | exact (Kd.C_below HR0.out (by repeat (first | (with_reducible first | exact HB.out | apply below_alloc | apply pw_below_drewN | apply below_drew1) | exact HB.out))) | (with_reducible refine Kd.C_alloc ?_ _) | (with_reducible refine Kd.C_drewN ?_ _) | (with_reducible refine Kd.C_drew ?_))); (case side2 => exact HC0.out); rintro e w66 ⟨v160, rfl, ho0, hb⟩; refine ⟨_, rfl, ?_⟩; have n0_ := Aside0.mk (Kd.R_lower ho0 (below_size (by repeat (first | (with_reducible first | exact HB.out | apply below_alloc | apply pw_below_drewN | apply below_drew1) | exact HB.out)))); have n1_ := Aside0.mk (below_step (by repeat (first | (with_reducible first | exact HB.out | apply below_alloc | apply pw_below_drewN | apply below_drew1) | exact HB.out)) hb); clear HB; have HO161 := n0_; have HB := n1_; clear n0_ n1_; (try clear hb); (try clear hb2); (try clear hk); (try clear hi); (try clear ho0)) | ((with_reducible refine gate_callee (f := 13) rfl ?_); refine goesL_ (some 39) rfl rfl Try.func13 (by kernel_rfl) rfl #[.slice A0 l0.length c0] rfl (by (try simp only [List.map_toArray, List.map_cons, List.map_nil]); first | done | rfl | (simp only [List.length_drop, List.length_take]; rfl)) ?_; (with_reducible refine (tapewrightref04_Right.calls kj3 _ _ l0 false _ ?side1 ?side2 A11.out).mono ?_); (case side1 => repeat (first | exact (Kd.C_below HR0.out HB.out) | (with_reducible refine Kd.C_alloc ?_ _) | (with_reducible refine Kd.C_drewN ?_ _) | (with_reducible refine Kd.C_drew ?_))); (case side2 => exact HC0.out); rintro e w' ⟨rfl, ⟨nd, rfl⟩⟩; refine ⟨_, rfl, ?_⟩; obtain ⟨Ao67, co67, eo67⟩ := Kd.R_slice HO161.out; subst eo67))
                go_ret
                exact ⟨by first | rfl | (simp [errW_none, errW_some] <;> rfl) | (simp [*, errW_none, errW_some] <;> rfl), by repeat (first | (with_reducible first | exact HB.out | apply below_alloc | apply pw_below_drewN | apply below_drew1) | exact HB.out)⟩
          · rw [if_neg c55] at H
            have c55b0 : (t156 == 0) = false := beq_eq_false_iff_ne.mpr c55
            have c55b1 : (t156 != 0) = true := bne_iff_ne.mpr c55
            obtain rfl := Option.some.inj H
            go_wp2_with (first | ((with_reducible refine gate_callee (f := 11) rfl ?_); refine goesL_ (some 29) rfl rfl Try.func11 (by kernel_rfl) rfl #[.slice A0 l0.length c0, .slice A1 l1.length c1] rfl (by (try simp only [List.map_toArray, List.map_cons, List.map_nil]); first | done | rfl | (simp only [List.length_drop, List.length_take]; rfl)) ?_; (with_reducible refine (shape_Offset.calls kj3 _ _ l0 _ _ l1 t156 t157 _ ?side1 ?side2 ?side3 ?side4 A9.out).mono ?_); (case side1 => repeat (first | exact (Kd.C_below HR0.out HB.out) | (with_reducible refine Kd.C_alloc ?_ _) | (with_reducible refine Kd.C_drewN ?_ _) | (with_reducible refine Kd.C_drew ?_))); (case side2 => exact HC0.out); (case side3 => repeat (first | exact (Kd.C_below HR1.out HB.out) | (with_reducible refine Kd.C_alloc ?_ _) | (with_reducible refine Kd.C_drewN ?_ _) | (with_reducible refine Kd.C_drew ?_))); (case side4 => exact HC1.out); rintro e w' ⟨rfl, ⟨nd, rfl⟩⟩; refine ⟨_, rfl, ?_⟩) | ((with_reducible refine gate_callee (f := 12) rfl ?_); refine goesL_ (some 35) rfl rfl Try.func12 (by kernel_rfl) rfl #[.slice A0 l0.length c0, .int .i64 a2] rfl (by (try simp only [List.map_toArray, List.map_cons, List.map_nil]); first | done | rfl | (simp only [List.length_drop, List.length_take]; rfl)) ?_; (with_reducible refine (shape_Place.calls kj3 _ _ l0 a2 t158 t159 _ ?side1 ?side2 A10.out).mono ?_); (case side1 => repeat (first | exact (Kd.C_below HR0.out (by repeat (first | (with_reducible first | exact HB.out | apply below_alloc | apply pw_below_drewN | apply below_drew1) | exact HB.out))) | (with_reducible refine Kd.C_alloc ?_ _) | (with_reducible refine Kd.C_drewN ?_ _) | (with_reducible refine Kd.C_drew ?_))); (case side2 => exact HC0.out); rintro e w68 ⟨v160, rfl, ho0, hb⟩; refine ⟨_, rfl, ?_⟩; have n0_ := Aside0.mk (Kd.R_lower ho0 (below_size (by repeat (first | (with_reducible first | exact HB.out | apply below_alloc | apply pw_below_drewN | apply below_drew1) | exact HB.out)))); have n1_ := Aside0.mk (below_step (by repeat (first | (with_reducible first | exact HB.out | apply below_alloc | apply pw_below_drewN | apply below_drew1) | exact HB.out)) hb); clear HB; have HO161 := n0_; have HB := n1_; clear n0_ n1_; (try clear hb); (try clear hb2); (try clear hk); (try clear hi); (try clear ho0)) | ((with_reducible refine gate_callee (f := 13) rfl ?_); refine goesL_ (some 39) rfl rfl Try.func13 (by kernel_rfl) rfl #[.slice A0 l0.length c0] rfl (by (try simp only [List.map_toArray, List.map_cons, List.map_nil]); first | done | rfl | (simp only [List.length_drop, List.length_take]; rfl)) ?_; (with_reducible refine (tapewrightref04_Right.calls kj3 _ _ l0 false _ ?side1 ?side2 A11.out).mono ?_); (case side1 => repeat (first | exact (Kd.C_below HR0.out HB.out) | (with_reducible refine Kd.C_alloc ?_ _) | (with_reducible refine Kd.C_drewN ?_ _) | (with_reducible refine Kd.C_drew ?_))); (case side2 => exact HC0.out); rintro e w' ⟨rfl, ⟨nd, rfl⟩⟩; refine ⟨_, rfl, ?_⟩))
            go_ret
            exact ⟨by first | rfl | (simp [errW_none, errW_some] <;> rfl) | (simp [*, errW_none, errW_some] <;> rfl), by repeat (first | (with_reducible first | exact HB.out | apply below_alloc | apply pw_below_drewN | apply below_drew1) | exact HB.out)⟩

/-- THE ONE PURE STATEMENT of tapewrightlaw04_ShapePlaces: yours. -/
def tapewrightlaw04_ShapePlaces.Pure : Prop := ∀ (l0 : List Int) (l1 : List Int) (a2 : Int), l0.length ≤ maxLen → l0.length * 8 ≤ 140737488351232 → (∀ x ∈ l0, (Lit.int .i64 x).wf = true) → l1.length ≤ maxLen → l1.length * 8 ≤ 140737488351232 → (∀ x ∈ l1, (Lit.int .i64 x).wf = true) → (Lit.int .i64 a2).wf = true → ∃ k, tapewrightlaw04_ShapePlaces.f k l0 l1 a2 = some true
theorem tapewrightlaw04_ShapePlaces.walk (P : tapewrightlaw04_ShapePlaces.Pure) (a0 : Option Addr) (len0 cap0 : Nat) (z0 : List Int) (a1 : Option Addr) (len1 cap1 : Nat) (z1 : List Int) (a2 : Int) (w : World) (w0 : (a0 = none ∧ len0 = 0 ∧ cap0 = 0 ∧ z0 = []) ∨ ∃ x, a0 = some x ∧ len0 ≤ cap0 ∧ cap0 ≤ maxLen ∧ z0.length = cap0 ∧ (∀ i, i < z0.length → w.cell? (x.add i) = some (.int .i64 (z0.getD i 0))) ∧ ∀ n ∈ z0, (Lit.int .i64 n).wf = true) (y0 : len0 * 8 ≤ 140737488351232) (w1 : (a1 = none ∧ len1 = 0 ∧ cap1 = 0 ∧ z1 = []) ∨ ∃ x, a1 = some x ∧ len1 ≤ cap1 ∧ cap1 ≤ maxLen ∧ z1.length = cap1 ∧ (∀ i, i < z1.length → w.cell? (x.add i) = some (.int .i64 (z1.getD i 0))) ∧ ∀ n ∈ z1, (Lit.int .i64 n).wf = true) (y1 : len1 * 8 ≤ 140737488351232) (w2 : (Lit.int .i64 a2).wf = true) :
    Calls Try.prog 3 #[.slice a0 len0 cap0, .slice a1 len1 cap1, .int .i64 a2] w fun e w' => e = .returned (.bool true) ∧ Below w.heap.size w w' := by
  obtain ⟨l0, rfl, hr0, hm0, hw0, hc0⟩ := ReadsInt.ofRowC w0
  obtain ⟨l1, rfl, hr1, hm1, hw1, hc1⟩ := ReadsInt.ofRowC w1
  obtain ⟨k, h⟩ := P l0 l1 a2 hm0 y0 hw0 hm1 y1 hw1 w2
  refine (tapewrightlaw04_ShapePlaces.calls k _ _ l0 _ _ l1 a2 true w (Kd.C_of_reads (d := (0 : Int)) (h1 := fun _ => rfl) hr0) hc0 (Kd.C_of_reads (d := (0 : Int)) (h1 := fun _ => rfl) hr1) hc1 h).mono ?_
  rintro e w' ⟨rfl, hd⟩
  exact ⟨rfl, hd⟩

end Go.Proofs.Ytihaochmebejbaa.PShapePlaces
