/- For every list of numbers: the other way round it is a shape just if it is one, and of the same size (tapewrightlaw04.ShapeTurn answers true). Conditions: none beyond the statement's own. -/
import Derived.Test.YtihaochmebejbaaPOTurnx2
import Derived.OpenShut
import Derived.Test.YtihaochmebejbaaWSized
import Derived.Test.YtihaochmebejbaaMathShape
namespace Go.Proofs.Ytihaochmebejbaa
/-- The printed row names this lemma so. -/
abbrev PrintWords.sized_ints := @Go.Proofs.YtihaochmebejbaaW.PrintWords.sized_ints
end Go.Proofs.Ytihaochmebejbaa
namespace Go.Proofs.Ytihaochmebejbaa.Pure
open Go.RowKit Go.Proofs.Ytihaochmebejbaa.POTurn Go.Proofs.YtihaochmebejbaaW.PrintWords Go.Proofs.YtihaochmebejbaaW.PrintLast
set_option linter.unusedVariables false
set_option linter.unusedSimpArgs false

theorem Ev_pos {α : Type} {c : Prop} [Decidable c] {f g : Nat → Option α} {r : α} (hc : c) (h : Ev f r) : Ev (fun k => if c then f k else g k) r := by
  simpa only [if_pos hc] using h
theorem Ev_neg {α : Type} {c : Prop} [Decidable c] {f g : Nat → Option α} {r : α} (hc : ¬ c) (h : Ev g r) : Ev (fun k => if c then f k else g k) r := by
  simpa only [if_neg hc] using h
theorem Ev_ret {α : Type} {f : Nat → Option α} {r : α} (h : Ev f r) : Ev (fun k => (f k).bind fun t => some t) r := Ev.bind h (Ev.now r)
theorem w64 {n : Int} (h0 : -9223372036854775808 ≤ n) (h1 : n < 9223372036854775808) : wrap64 n = n := by unfold wrap64; omega
theorem succ_cast (j : Nat) : ((j : Int) + 1) = ((j + 1 : Nat) : Int) := by omega
theorem drop_rd (xs : List Int) (j : Nat) (h : j < xs.length) : xs.drop j = rd xs (j : Int) :: xs.drop (j + 1) := by
  rw [List.drop_eq_getElem_cons h]; simp [rd, List.getD_eq_getElem?_getD, h]
theorem take_rd (xs : List Int) (j : Nat) (h : j < xs.length) : xs.take (j + 1) = xs.take j ++ [rd xs (j : Int)] := by
  rw [List.take_succ_eq_append_getElem h]; simp [rd, List.getD_eq_getElem?_getD, h]
theorem int_range {n : Int} (h : (Lit.int .i64 n).wf = true) : -9223372036854775808 ≤ n ∧ n < 9223372036854775808 := by
  have := bounds_i64 h
  omega

open TwMath
theorem okd_rd (l : List Int) (hk : okd l = true) (j : Nat) (h : j < l.length) : (1 ≤ rd l (j : Int) ∧ rd l (j : Int) ≤ 64) ∧ okd (l.drop j) = true ∧ okd (l.drop (j + 1)) = true := by
  have e : okd (l.take j ++ l.drop j) = true := by rw [List.take_append_drop]; exact hk
  rw [okd_append, Bool.and_eq_true] at e
  have e2 := e.2
  rw [drop_rd l j h, okd_cons] at e2
  exact ⟨e2.1, e.2, e2.2⟩
theorem bnd64 {j : Nat} {n : Int} (hj : j ≤ 3) (h : n ≤ 64 ^ j) : n ≤ 262144 := by
  have : j = 0 ∨ j = 1 ∨ j = 2 ∨ j = 3 := by omega
  rcases this with rfl | rfl | rfl | rfl <;> simp at h <;> omega
theorem mul64 {j : Nat} {n d : Int} (h1 : 1 ≤ n) (hn : n ≤ 64 ^ j) (hd : 1 ≤ d ∧ d ≤ 64) : 1 ≤ n * d ∧ n * d ≤ 64 ^ (j + 1) := by
  refine ⟨?_, ?_⟩
  · have : 1 * 1 ≤ n * d := Int.mul_le_mul h1 hd.1 (by decide) (by omega)
    omega
  · rw [Int.pow_succ]
    exact Int.mul_le_mul hn hd.2 (by omega) (by omega)
theorem right_loop (l : List Int) (hl : l.length ≤ 4) : ∀ (d j : Nat) (n : Int), j + d = l.length → 1 ≤ n → n ≤ 64 ^ j →
    Ev (fun k => shape_Right.l0 k l n l (l.length : Int) (j : Int)) (okd (l.drop j) && decide (n * prodI (l.drop j) ≤ 64)) := by
  intro d
  induction d with
  | zero =>
    intro j n hj h1 hn
    have : l.drop j = [] := List.drop_eq_nil_of_le (by omega)
    rw [this]
    simp only [okd, prodI, Int.mul_one, Bool.true_and]
    refine Ev.step (fun k => by rw [shape_Right.l0, if_neg (by omega)]) (Ev.now _)
  | succ d ih =>
    intro j n hj h1 hn
    have hlt : j < l.length := by omega
    rw [drop_rd l j hlt]
    by_cases c1 : rd l (j : Int) < 1
    · have e : okd (rd l (j : Int) :: l.drop (j + 1)) = false := by simp [okd]; omega
      rw [e, Bool.false_and]
      exact Ev.step (fun k => by rw [shape_Right.l0, if_pos (by omega), if_pos (by omega), if_pos (by omega), if_pos c1]) (Ev.now _)
    by_cases c2 : rd l (j : Int) > 64
    · have e : okd (rd l (j : Int) :: l.drop (j + 1)) = false := by simp [okd]; omega
      rw [e, Bool.false_and]
      exact Ev.step (fun k => by rw [shape_Right.l0, if_pos (by omega), if_pos (by omega), if_pos (by omega), if_neg c1, if_pos c2]) (Ev.now _)
    have hb := bnd64 (by omega) hn
    obtain ⟨m1, m2⟩ := mul64 h1 hn (d := rd l (j : Int)) ⟨by omega, by omega⟩
    have m3 : n * rd l (j : Int) ≤ 262144 * 64 := Int.mul_le_mul hb (by omega) (by omega) (by omega)
    have hr := ih (j + 1) (n * rd l (j : Int)) (by omega) m1 m2
    have e1 : okd (rd l (j : Int) :: l.drop (j + 1)) = okd (l.drop (j + 1)) := by simp [okd]; omega
    have e2 : n * prodI (rd l (j : Int) :: l.drop (j + 1)) = n * rd l (j : Int) * prodI (l.drop (j + 1)) := by simp [prodI, Int.mul_assoc]
    rw [e1, e2]
    refine Ev.step (fun k => ?_) hr
    rw [shape_Right.l0, if_pos (by omega), if_pos (by omega), if_pos (by omega), if_neg c1, if_neg c2, if_neg (by omega), w64 (by omega) (by omega), w64 (by omega) (by omega), succ_cast]
theorem right_ev (l : List Int) : Ev (fun k => shape_Right.f k l) (rightS l) := by
  unfold shape_Right.f
  by_cases hl : l.length ≤ 4
  · have := right_loop l hl l.length 0 1 (by omega) (by omega) (by decide)
    simp only [List.drop_zero, Int.one_mul, Int.natCast_zero] at this
    simpa [rightS, hl] using this
  · have e : rightS l = false := by simp [rightS, hl]
    rw [e]
    refine Ev.step (f := fun _ => some false) (fun k => ?_) (Ev.now _)
    rw [shape_Right.l0, if_pos (by omega), if_pos (by omega), if_pos (by omega)]
    by_cases c1 : rd l 0 < 1
    · rw [if_pos c1]
    rw [if_neg c1]
    by_cases c2 : rd l 0 > 64
    · rw [if_pos c2]
    rw [if_neg c2, if_pos (by omega)]
/-- The size, as it is told. -/
def sizeS (l : List Int) : Int := if rightS l = true then prodI l else 0
theorem rightS_iff (l : List Int) : rightS l = true ↔ l.length ≤ 4 ∧ okd l = true ∧ prodI l ≤ 64 := by
  unfold rightS; simp [and_assoc]
theorem size_loop (l : List Int) (hl : l.length ≤ 4) (hk : okd l = true) : ∀ (d j : Nat) (n : Int), j + d = l.length → 1 ≤ n → n ≤ 64 ^ j →
    Ev (fun k => shape_Size.l0 k n l (l.length : Int) (j : Int)) (n * prodI (l.drop j)) := by
  intro d
  induction d with
  | zero =>
    intro j n hj h1 hn
    have : l.drop j = [] := List.drop_eq_nil_of_le (by omega)
    rw [this]
    simp only [prodI, Int.mul_one]
    refine Ev.step (fun k => by rw [shape_Size.l0, if_neg (by omega)]) (Ev.now _)
  | succ d ih =>
    intro j n hj h1 hn
    have hlt : j < l.length := by omega
    obtain ⟨hd, _, _⟩ := okd_rd l hk j hlt
    rw [drop_rd l j hlt]
    have hb := bnd64 (by omega) hn
    obtain ⟨m1, m2⟩ := mul64 h1 hn hd
    have m3 : n * rd l (j : Int) ≤ 262144 * 64 := Int.mul_le_mul hb (by omega) (by omega) (by omega)
    have hr := ih (j + 1) (n * rd l (j : Int)) (by omega) m1 m2
    have e2 : n * prodI (rd l (j : Int) :: l.drop (j + 1)) = n * rd l (j : Int) * prodI (l.drop (j + 1)) := by simp [prodI, Int.mul_assoc]
    rw [e2]
    refine Ev.step (fun k => ?_) hr
    rw [shape_Size.l0, if_pos (by omega), if_pos (by omega), if_pos (by omega), w64 (by omega) (by omega), w64 (by omega) (by omega), succ_cast]
theorem size_ev (l : List Int) : Ev (fun k => shape_Size.f k l) (sizeS l) := by
  unfold shape_Size.f
  refine Ev.bind (right_ev l) ?_
  unfold sizeS
  by_cases h : rightS l = true
  · simp only [h, if_true]
    obtain ⟨h1, h2, _⟩ := (rightS_iff l).1 h
    have := size_loop l h1 h2 l.length 0 1 (by omega) (by omega) (by decide)
    simpa using this
  · simp only [h]
    exact Ev.now _
theorem size_pos (l : List Int) (h : rightS l = true) : 1 ≤ prodI l ∧ prodI l ≤ 64 := by
  obtain ⟨_, h2, h3⟩ := (rightS_iff l).1 h
  exact ⟨prodI_pos l h2, h3⟩
/-- A place's count, as it is told. -/
def offR : Option Int → Int × Bool
  | some n => (n, true)
  | none => (0, false)
def offS (s p : List Int) : Int × Bool := if rightS s = true ∧ p.length = s.length ∧ validB s p = true then (offP s p, true) else (0, false)
theorem offA_offS (s p : List Int) (h : rightS s = true) (hl : p.length = s.length) : offR (offA s p 0) = offS s p := by
  unfold offS
  by_cases hv : validP s p
  · rw [offA_valid s p 0 hv, if_pos ⟨h, hl, (validB_iff s p).2 hv⟩]
    simp [offR]
  · rw [offA_invalid s p 0 (by omega) hv, if_neg (fun hh => hv ((validB_iff s p).1 hh.2.2))]
    rfl
theorem off_loop (s p : List Int) (hl : s.length ≤ 4) (hk : okd s = true) (hp : p.length = s.length) : ∀ (d j : Nat) (n : Int), j + d = s.length → 0 ≤ n → n + 1 ≤ 64 ^ j →
    Ev (fun k => shape_Offset.l0 k p n s (s.length : Int) (j : Int)) (offR (offA (s.drop j) (p.drop j) n)) := by
  intro d
  induction d with
  | zero =>
    intro j n hj h1 hn
    have : s.drop j = [] := List.drop_eq_nil_of_le (by omega)
    rw [this]
    simp only [offA, offR]
    refine Ev.step (fun k => by rw [shape_Offset.l0, if_neg (by omega)]) (Ev.now _)
  | succ d ih =>
    intro j n hj h1 hn
    have hlt : j < s.length := by omega
    obtain ⟨hd, _, _⟩ := okd_rd s hk j hlt
    rw [drop_rd s j hlt, drop_rd p j (by omega)]
    simp only [offA]
    by_cases c1 : rd p (j : Int) < 0
    · rw [if_pos c1]
      exact Ev.step (fun k => by rw [shape_Offset.l0, if_pos (by omega), if_pos (by omega), if_pos (by omega), if_pos (by omega), if_pos c1]; rfl) (Ev.now _)
    rw [if_neg c1]
    by_cases c2 : rd p (j : Int) ≥ rd s (j : Int)
    · rw [if_pos c2]
      exact Ev.step (fun k => by rw [shape_Offset.l0, if_pos (by omega), if_pos (by omega), if_pos (by omega), if_pos (by omega), if_neg c1, if_pos c2]; rfl) (Ev.now _)
    rw [if_neg c2]
    have hb := bnd64 (by omega) hn
    obtain ⟨m1, m2⟩ := mul64 (by omega : 1 ≤ n + 1) hn hd
    have m3 : (n + 1) * rd s (j : Int) ≤ 262144 * 64 := Int.mul_le_mul hb (by omega) (by omega) (by omega)
    rw [Int.add_mul, Int.one_mul] at m1 m2 m3
    have m4 : 0 ≤ n * rd s (j : Int) := Int.mul_nonneg h1 (by omega)
    have hr := ih (j + 1) (n * rd s (j : Int) + rd p (j : Int)) (by omega) (by omega) (by omega)
    refine Ev.step (fun k => ?_) hr
    rw [shape_Offset.l0, if_pos (by omega), if_pos (by omega), if_pos (by omega), if_pos (by omega), if_neg c1, if_neg c2, w64 (n := n * _) (by omega) (by omega), w64 (by omega) (by omega), w64 (by omega) (by omega), succ_cast]
theorem off_ev (s p : List Int) : Ev (fun k => shape_Offset.f k s p) (offS s p) := by
  unfold shape_Offset.f
  refine Ev.bind (right_ev s) ?_
  by_cases h : rightS s = true
  · simp only [h, if_true]
    by_cases hl : p.length = s.length
    · have e : ((p.length : Int) != (s.length : Int)) = false := by simp [hl]
      rw [← offA_offS s p h hl]
      obtain ⟨h1, h2, _⟩ := (rightS_iff s).1 h
      have := off_loop s p h1 h2 hl s.length 0 0 (by omega) (by omega) (by decide)
      refine Ev.step (fun k => ?_) this
      rw [e]
      simp [shape_Offset.j0]
    · have e : ((p.length : Int) != (s.length : Int)) = true := by simp; omega
      have e2 : offS s p = (0, false) := by unfold offS; rw [if_neg (fun hh => hl hh.2.1)]
      rw [e2]
      refine Ev.step (f := fun _ => some (0, false)) (fun k => ?_) (Ev.now _)
      rw [e]
      simp [shape_Offset.j0]
  · have e2 : offS s p = (0, false) := by unfold offS; rw [if_neg (fun hh => h hh.1)]
    rw [e2]
    simp only [h]
    exact Ev.step (f := fun _ => some (0, false)) (fun k => by simp [shape_Offset.j0]) (Ev.now _)
theorem tdiv_nn {a b : Int} (h0 : 0 ≤ a) : Int.tdiv a b = a / b := Int.tdiv_eq_ediv_of_nonneg h0
theorem tmod_nn {a b : Int} (h0 : 0 ≤ a) : Int.tmod a b = a % b := Int.tmod_eq_emod_of_nonneg h0
theorem ediv_le {a b : Int} (h0 : 0 ≤ a) (h1 : 1 ≤ b) : 0 ≤ a / b ∧ a / b ≤ a := ⟨Int.ediv_nonneg h0 (by omega), Int.ediv_le_self b h0⟩
theorem set_drop (out : List Int) (j : Nat) (x : Int) (h : j < out.length) : (out.set j x).drop j = x :: out.drop (j + 1) := by
  rw [List.drop_eq_getElem_cons (by simpa using h)]; simp [List.drop_set_of_lt]
theorem place_loop (s : List Int) (hk : okd s = true) (hl : s.length ≤ 4) : ∀ (j : Nat) (n : Int) (out : List Int), j ≤ s.length → out.length = s.length → 0 ≤ n → n < 9223372036854775808 →
    Ev (fun k => shape_Place.l0 k s n out ((j : Int) - 1)) ((placeA (s.take j) n).1 ++ out.drop j, true) := by
  intro j
  induction j with
  | zero =>
    intro n out hj ho h0 h1
    simp only [List.take_zero, placeA, List.nil_append, List.drop_zero]
    exact Ev.step (fun k => by rw [shape_Place.l0, if_neg (by omega)]) (Ev.now _)
  | succ j ih =>
    intro n out hj ho h0 h1
    have hlt : j < s.length := by omega
    obtain ⟨hd, _, _⟩ := okd_rd s hk j hlt
    obtain ⟨q1, q2⟩ := ediv_le h0 hd.1
    have hr := ih (n / rd s (j : Int)) (out.set j (n % rd s (j : Int))) (by omega) (by simpa using ho) q1 (by omega)
    rw [set_drop out j _ (by omega)] at hr
    rw [take_rd s j hlt, placeA_snoc]
    simp only [List.append_assoc, List.cons_append, List.nil_append]
    refine Ev.step (fun k => ?_) hr
    have ej : ((j + 1 : Nat) : Int) - 1 = (j : Int) := by omega
    rw [ej, shape_Place.l0, if_pos (by omega), if_pos (by omega), if_pos (by omega), if_neg (by omega), if_pos (by omega), tdiv_nn h0, tmod_nn h0, w64 (by omega) (by omega), w64 (by omega) (by omega)]
    simp
/-- A count's place, as it is told. -/
def placeR (s : List Int) (n : Int) : List Int × Bool := if 0 ≤ n ∧ n < sizeS s then (placeOf s n, true) else ([], false)
theorem place_ev (s : List Int) (n : Int) (hn : n < 9223372036854775808) : Ev (fun k => shape_Place.f k s n) (placeR s n) := by
  unfold shape_Place.f placeR
  by_cases h0 : n < 0
  · rw [if_neg (by omega)]
    simp only [h0, if_true]
    exact Ev.step (f := fun _ => some ([], false)) (fun k => by simp [shape_Place.j0]) (Ev.now _)
  · simp only [h0, if_false]
    refine Ev.bind (size_ev s) ?_
    by_cases h1 : n < sizeS s
    · rw [if_pos ⟨by omega, h1⟩]
      have e : decide (n ≥ sizeS s) = false := by simp; omega
      have hr : rightS s = true := by
        cases hr : rightS s with
        | true => rfl
        | false => unfold sizeS at h1; simp [hr] at h1; omega
      obtain ⟨r1, r2, _⟩ := (rightS_iff s).1 hr
      have := place_loop s r2 r1 s.length n (List.replicate s.length 0) (by omega) (by simp) (by omega) hn
      simp only [List.take_length, List.drop_replicate, Nat.sub_self, List.replicate_zero, List.append_nil] at this
      refine Ev.step (fun k => ?_) this
      rw [e, shape_Place.j0, if_neg (by simp), if_pos (by omega), if_pos (by omega), w64 (by omega) (by omega)]
      simp
    · rw [if_neg (fun hh => h1 hh.2)]
      have e : decide (n ≥ sizeS s) = true := by simp; omega
      refine Ev.step (f := fun _ => some ([], false)) (fun k => ?_) (Ev.now _)
      rw [e]
      simp [shape_Place.j0]

theorem awake_ev : Ev (fun k => tapewrightlaw04_awake.f k) true := Ev.of tapewrightlaw04_awake.mono (k := 12) (by decide +kernel)
theorem awake_ret : Ev (fun k => (tapewrightlaw04_awake.f k).bind fun t => some t) true := Ev_ret awake_ev

theorem turn_loop (s : List Int) (hs : s.length ≤ 100) : ∀ (j : Nat) (t : List Int), j ≤ s.length → t = (s.drop j).reverse →
    Ev (fun k => tapewrightlaw04_ShapeTurn.l0 k s t ((j : Int) - 1)) true := by
  intro j
  induction j with
  | zero =>
    intro t _ ht
    refine Ev.step (fun k => by rw [tapewrightlaw04_ShapeTurn.l0, if_neg (by omega)]) ?_
    simp only [List.drop_zero] at ht
    subst ht
    refine Ev.bind (right_ev _) ?_
    refine Ev.bind (right_ev _) ?_
    refine Ev_pos (by rw [rightS_reverse]; simp) ?_
    refine Ev.bind (size_ev _) ?_
    refine Ev.bind (size_ev _) ?_
    have e : sizeS s.reverse = sizeS s := by unfold sizeS; rw [rightS_reverse, prodI_reverse]
    refine Ev_pos e.symm ?_
    refine Ev.bind (size_ev _) ?_
    refine Ev.bind (right_ev _) ?_
    refine Ev_pos ?_ awake_ret
    by_cases h : rightS s = true
    · have := size_pos s h
      simp only [sizeS, h, if_true, beq_true]
      simp; omega
    · simp [sizeS, h]
  | succ j ih =>
    intro t hj ht
    have hr := ih (t ++ [rd s (j : Int)]) (by omega) (by
      rw [drop_rd s j (by omega), List.reverse_cons, ht])
    have ej : ((j + 1 : Nat) : Int) - 1 = (j : Int) := by omega
    have hl : t.length ≤ 100 := by rw [ht]; simp; omega
    refine Ev.step (fun k => ?_) hr
    rw [ej, tapewrightlaw04_ShapeTurn.l0, if_pos (by omega), if_pos (by omega), if_pos (by omega), if_pos (by omega), w64 (by omega) (by omega)]
theorem ShapeTurn : tapewrightlaw04_ShapeTurn.Pure := by
  intro s hs1 hs2 hs3
  refine Ev.rounds ?_
  unfold tapewrightlaw04_ShapeTurn.f
  by_cases c1 : (s.length : Int) > 100
  · exact Ev_pos c1 awake_ret
  refine Ev_neg c1 ?_
  rw [w64 (by omega) (by omega)]
  exact turn_loop s (by omega) s.length [] (by omega) (by simp)

end Go.Proofs.Ytihaochmebejbaa.Pure
