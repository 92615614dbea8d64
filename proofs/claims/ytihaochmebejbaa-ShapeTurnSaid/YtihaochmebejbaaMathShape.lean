/- Plain facts of lists of whole numbers: products, places and counts of a shape. No program in sight. -/
namespace Go.Proofs.Ytihaochmebejbaa.TwMath

def rdI (xs : List Int) (i : Int) : Int := xs.getD i.toNat 0

def prodI : List Int → Int
  | [] => 1
  | d :: l => d * prodI l

def okd : List Int → Bool
  | [] => true
  | d :: l => decide (1 ≤ d) && decide (d ≤ 64) && okd l

/-- Is it a shape? -/
def rightS (l : List Int) : Bool := decide (l.length ≤ 4) && okd l && decide (prodI l ≤ 64)

theorem okd_cons (d : Int) (l : List Int) : okd (d :: l) = true ↔ (1 ≤ d ∧ d ≤ 64) ∧ okd l = true := by
  simp [okd]

theorem okd_append (a b : List Int) : okd (a ++ b) = (okd a && okd b) := by
  induction a with
  | nil => simp [okd]
  | cons d a ih => simp [okd, ih, Bool.and_assoc]

theorem prodI_append (a b : List Int) : prodI (a ++ b) = prodI a * prodI b := by
  induction a with
  | nil => simp [prodI]
  | cons d a ih => simp [prodI, ih, Int.mul_assoc]

theorem prodI_reverse (a : List Int) : prodI a.reverse = prodI a := by
  induction a with
  | nil => rfl
  | cons d a ih => simp [prodI_append, prodI, ih, Int.mul_comm]

theorem okd_reverse (a : List Int) : okd a.reverse = okd a := by
  induction a with
  | nil => rfl
  | cons d a ih => simp [okd_append, okd, ih, Bool.and_comm]

theorem rightS_reverse (a : List Int) : rightS a.reverse = rightS a := by
  unfold rightS
  rw [prodI_reverse, okd_reverse, List.length_reverse]

theorem prodI_pos (l : List Int) (h : okd l = true) : 1 ≤ prodI l := by
  induction l with
  | nil => decide
  | cons d l ih =>
    obtain ⟨⟨h1, h2⟩, h3⟩ := (okd_cons d l).1 h
    have := ih h3
    simp only [prodI]
    have hm : 1 * 1 ≤ d * prodI l := Int.mul_le_mul h1 this (by decide) (by omega)
    omega

theorem okd_le (l : List Int) (h : okd l = true) : prodI l ≤ 64 ^ l.length := by
  induction l with
  | nil => decide
  | cons d l ih =>
    obtain ⟨⟨h1, h2⟩, h3⟩ := (okd_cons d l).1 h
    have h4 := ih h3
    have h5 := prodI_pos l h3
    simp only [prodI, List.length_cons, Int.pow_succ]
    rw [Int.mul_comm (64 ^ l.length) 64]
    exact Int.mul_le_mul h2 h4 (by omega) (by decide)

/-- The valid places of a shape. -/
def validP : List Int → List Int → Prop
  | [], [] => True
  | d :: s, a :: p => (0 ≤ a ∧ a < d) ∧ validP s p
  | [], _ :: _ => False
  | _ :: _, [] => False

def validB : List Int → List Int → Bool
  | [], [] => true
  | d :: s, a :: p => decide (0 ≤ a) && decide (a < d) && validB s p
  | [], _ :: _ => false
  | _ :: _, [] => false

theorem validB_iff : ∀ s p, validB s p = true ↔ validP s p
  | [], [] => by simp [validB, validP]
  | d :: s, a :: p => by simp [validB, validP, validB_iff s p]
  | [], _ :: _ => by simp [validB, validP]
  | _ :: _, [] => by simp [validB, validP]

theorem validP_length : ∀ s p, validP s p → s.length = p.length
  | [], [], _ => rfl
  | d :: s, a :: p, h => by simp [validP_length s p h.2]
  | [], _ :: _, h => h.elim
  | _ :: _, [], h => h.elim

/-- The count of a place. -/
def offP : List Int → List Int → Int
  | _ :: s, a :: p => a * prodI s + offP s p
  | _, _ => 0

theorem offP_bounds : ∀ s p, validP s p → okd s = true → 0 ≤ offP s p ∧ offP s p < prodI s
  | [], [], _, _ => by simp [offP, prodI]
  | [], _ :: _, h, _ => h.elim
  | _ :: _, [], h, _ => h.elim
  | d :: s, a :: p, h, hk => by
    obtain ⟨⟨_, _⟩, h3⟩ := (okd_cons d s).1 hk
    obtain ⟨i1, i2⟩ := offP_bounds s p h.2 h3
    have hp := prodI_pos s h3
    obtain ⟨⟨h0, h1⟩, _⟩ := h
    simp only [offP, prodI]
    have e1 : 0 ≤ a * prodI s := Int.mul_nonneg h0 (by omega)
    have e2 : (a + 1) * prodI s ≤ d * prodI s := Int.mul_le_mul_of_nonneg_right (by omega) (by omega)
    have e3 : (a + 1) * prodI s = a * prodI s + prodI s := by rw [Int.add_mul, Int.one_mul]
    omega

/-- The same, from the left, as it is reckoned; none: it is no place. -/
def offA : List Int → List Int → Int → Option Int
  | d :: s, a :: p, n => if a < 0 then none else if a ≥ d then none else offA s p (n * d + a)
  | _, _, n => some n

theorem offA_valid : ∀ s p n, validP s p → offA s p n = some (n * prodI s + offP s p)
  | [], [], n, _ => by simp [offA, offP, prodI]
  | [], _ :: _, _, h => h.elim
  | _ :: _, [], _, h => h.elim
  | d :: s, a :: p, n, h => by
    obtain ⟨⟨h0, h1⟩, h2⟩ := h
    simp only [offA, offP, prodI]
    rw [if_neg (by omega), if_neg (by omega), offA_valid s p _ h2]
    congr 1
    rw [Int.add_mul, Int.mul_assoc, Int.add_assoc]

theorem offA_invalid : ∀ s p n, s.length = p.length → ¬ validP s p → offA s p n = none
  | [], [], _, _, h => absurd trivial h
  | [], _ :: _, _, hl, _ => by simp at hl
  | _ :: _, [], _, hl, _ => by simp at hl
  | d :: s, a :: p, n, hl, h => by
    simp only [offA]
    by_cases h0 : a < 0
    · rw [if_pos h0]
    · rw [if_neg h0]
      by_cases h1 : a ≥ d
      · rw [if_pos h1]
      · rw [if_neg h1]
        exact offA_invalid s p _ (by simpa using hl) (fun hv => h ⟨⟨by omega, by omega⟩, hv⟩)

/-- The place of a count, from the right; and what is left over. -/
def placeA : List Int → Int → List Int × Int
  | [], n => ([], n)
  | d :: s, n => ((placeA s n).2 % d :: (placeA s n).1, (placeA s n).2 / d)

theorem placeA_length (s : List Int) (n : Int) : (placeA s n).1.length = s.length := by
  induction s with
  | nil => rfl
  | cons d s ih => simp [placeA, ih]

theorem placeA_snoc (s : List Int) (d n : Int) : placeA (s ++ [d]) n = ((placeA s (n / d)).1 ++ [n % d], (placeA s (n / d)).2) := by
  induction s with
  | nil => simp [placeA]
  | cons e s ih => simp [placeA, ih]

theorem placeA_spec (s : List Int) (n : Int) (hk : okd s = true) (h0 : 0 ≤ n) :
    validP s (placeA s n).1 ∧ n = (placeA s n).2 * prodI s + offP s (placeA s n).1 ∧ 0 ≤ (placeA s n).2 := by
  induction s with
  | nil => simp [placeA, validP, prodI, offP, h0]
  | cons d s ih =>
    obtain ⟨⟨h1, h2⟩, h3⟩ := (okd_cons d s).1 hk
    obtain ⟨i1, i2, i3⟩ := ih h3
    have hm := Int.emod_nonneg (placeA s n).2 (show d ≠ 0 by omega)
    have hl := Int.emod_lt_of_pos (placeA s n).2 (show 0 < d by omega)
    have hd := Int.mul_ediv_add_emod (placeA s n).2 d
    refine ⟨⟨⟨hm, hl⟩, i1⟩, ?_, Int.ediv_nonneg i3 (by omega)⟩
    simp only [placeA, prodI, offP]
    have e : (placeA s n).2 * prodI s = (placeA s n).2 / d * (d * prodI s) + (placeA s n).2 % d * prodI s := by
      rw [← Int.mul_assoc, ← Int.add_mul, Int.mul_comm ((placeA s n).2 / d) d, hd]
    omega

theorem placeA_left (s : List Int) (n : Int) (hk : okd s = true) (h0 : 0 ≤ n) (hn : n < prodI s) : (placeA s n).2 = 0 := by
  obtain ⟨h1, h2, h3⟩ := placeA_spec s n hk h0
  obtain ⟨b1, b2⟩ := offP_bounds s _ h1 hk
  have hp := prodI_pos s hk
  by_cases hz : (placeA s n).2 = 0
  · exact hz
  · have : 1 * prodI s ≤ (placeA s n).2 * prodI s := Int.mul_le_mul_of_nonneg_right (by omega) (by omega)
    omega

/-- The place of a count. -/
def placeOf (s : List Int) (n : Int) : List Int := (placeA s n).1

theorem placeOf_valid (s : List Int) (n : Int) (hk : okd s = true) (h0 : 0 ≤ n) : validP s (placeOf s n) := (placeA_spec s n hk h0).1
theorem off_placeOf (s : List Int) (n : Int) (hk : okd s = true) (h0 : 0 ≤ n) (hn : n < prodI s) : offP s (placeOf s n) = n := by
  obtain ⟨h1, h2, h3⟩ := placeA_spec s n hk h0
  have h4 := placeA_left s n hk h0 hn
  rw [h4] at h2
  unfold placeOf
  omega

/-- Two places of one count are one. -/
theorem offP_inj : ∀ s p q, okd s = true → validP s p → validP s q → offP s p = offP s q → p = q
  | [], [], [], _, _, _, _ => rfl
  | [], _ :: _, _, _, h, _, _ => h.elim
  | [], [], _ :: _, _, _, h, _ => h.elim
  | _ :: _, [], _, _, h, _, _ => h.elim
  | _ :: _, _ :: _, [], _, _, h, _ => h.elim
  | d :: s, a :: p, b :: q, hk, h, h', e => by
    obtain ⟨_, h3⟩ := (okd_cons d s).1 hk
    obtain ⟨i1, i2⟩ := offP_bounds s p h.2 h3
    obtain ⟨j1, j2⟩ := offP_bounds s q h'.2 h3
    have hp := prodI_pos s h3
    simp only [offP] at e
    have hab : a = b := by
      rcases Int.lt_trichotomy a b with hlt | heq | hgt
      · have : (a + 1) * prodI s ≤ b * prodI s := Int.mul_le_mul_of_nonneg_right (by omega) (by omega)
        rw [Int.add_mul, Int.one_mul] at this
        omega
      · exact heq
      · have : (b + 1) * prodI s ≤ a * prodI s := Int.mul_le_mul_of_nonneg_right (by omega) (by omega)
        rw [Int.add_mul, Int.one_mul] at this
        omega
    subst hab
    rw [offP_inj s p q h3 h.2 h'.2 (by omega)]

theorem placeOf_off (s p : List Int) (hk : okd s = true) (h : validP s p) : placeOf s (offP s p) = p := by
  obtain ⟨b1, b2⟩ := offP_bounds s p h hk
  exact offP_inj s _ p hk (placeOf_valid s _ hk b1) h (off_placeOf s _ hk b1 b2)

/-- The place behind one; false: it was the last one. -/
def nextS : List Int → List Int → List Int × Bool
  | d :: s, a :: p => if (nextS s p).2 then (a :: (nextS s p).1, true) else if a + 1 < d then ((a + 1) :: (nextS s p).1, true) else (0 :: (nextS s p).1, false)
  | _, _ => ([], false)

theorem nextS_snoc : ∀ s p d a, s.length = p.length → nextS (s ++ [d]) (p ++ [a]) = if a + 1 < d then (p ++ [a + 1], true) else ((nextS s p).1 ++ [0], (nextS s p).2)
  | [], [], d, a, _ => by
    simp only [List.nil_append, nextS]
    by_cases h : a + 1 < d <;> simp [h]
  | [], _ :: _, _, _, h => by simp at h
  | _ :: _, [], _, _, h => by simp at h
  | e :: s, b :: p, d, a, h => by
    have ih := nextS_snoc s p d a (by simpa using h)
    simp only [List.cons_append, nextS, ih]
    by_cases h1 : a + 1 < d
    · simp [h1]
    · simp only [h1, if_false]
      by_cases h2 : (nextS s p).2 = true
      · simp [h2]
      · simp only [h2]
        by_cases h3 : b + 1 < e <;> simp [h3]

theorem nextS_spec : ∀ s p, okd s = true → validP s p →
    validP s (nextS s p).1 ∧ ((nextS s p).2 = true → offP s (nextS s p).1 = offP s p + 1) ∧ ((nextS s p).2 = false → offP s p + 1 = prodI s ∧ offP s (nextS s p).1 = 0)
  | [], [], _, _ => by simp [nextS, validP, offP, prodI]
  | [], _ :: _, _, h => h.elim
  | _ :: _, [], _, h => h.elim
  | d :: s, a :: p, hk, h => by
    obtain ⟨⟨h1, _⟩, h3⟩ := (okd_cons d s).1 hk
    obtain ⟨i1, i2, i3⟩ := nextS_spec s p h3 h.2
    obtain ⟨⟨ha, hb⟩, _⟩ := h
    simp only [nextS]
    cases hn : (nextS s p).2 with
    | true =>
      have := i2 hn
      simp only [if_true]
      refine ⟨⟨⟨ha, hb⟩, i1⟩, fun _ => by simp only [offP]; omega, fun h => by simp at h⟩
    | false =>
      obtain ⟨j1, j2⟩ := i3 hn
      simp only [Bool.false_eq_true, if_false]
      by_cases hc : a + 1 < d
      · rw [if_pos hc]
        refine ⟨⟨⟨by omega, hc⟩, i1⟩, fun _ => ?_, fun h => by simp at h⟩
        simp only [offP]
        rw [Int.add_mul, Int.one_mul]
        omega
      · rw [if_neg hc]
        refine ⟨⟨⟨by omega, by omega⟩, i1⟩, fun h => by simp at h, fun _ => ?_⟩
        simp only [offP, prodI]
        have : a = d - 1 := by omega
        subst this
        rw [Int.sub_mul, Int.one_mul]
        omega

theorem nextS_length : ∀ s p, s.length = p.length → (nextS s p).1.length = s.length
  | [], [], _ => rfl
  | [], _ :: _, h => by simp at h
  | _ :: _, [], h => by simp at h
  | d :: s, a :: p, h => by
    have ih := nextS_length s p (by simpa using h)
    simp only [nextS]
    split
    · simp [ih]
    · split <;> simp [ih]

theorem zeros_valid : ∀ s, okd s = true → validP s (List.replicate s.length 0) ∧ offP s (List.replicate s.length 0) = 0
  | [], _ => by simp [validP, offP]
  | d :: s, h => by
    obtain ⟨⟨h1, _⟩, h3⟩ := (okd_cons d s).1 h
    obtain ⟨i1, i2⟩ := zeros_valid s h3
    simp only [List.length_cons, List.replicate_succ, validP, offP, i2]
    refine ⟨⟨⟨by omega, by omega⟩, i1⟩, by omega⟩

/-- The last place. -/
theorem lasts_valid : ∀ s, okd s = true → validP s (s.map (· - 1)) ∧ offP s (s.map (· - 1)) = prodI s - 1
  | [], _ => by simp [validP, offP, prodI]
  | d :: s, h => by
    obtain ⟨⟨h1, _⟩, h3⟩ := (okd_cons d s).1 h
    obtain ⟨i1, i2⟩ := lasts_valid s h3
    simp only [List.map_cons, validP, offP, prodI, i2]
    refine ⟨⟨⟨by omega, by omega⟩, i1⟩, ?_⟩
    rw [Int.sub_mul, Int.one_mul]
    omega

theorem placeOf_zero (s : List Int) (h : okd s = true) : placeOf s 0 = List.replicate s.length 0 := by
  obtain ⟨h1, h2⟩ := zeros_valid s h
  have := placeOf_off s _ h h1
  rwa [h2] at this
theorem placeOf_last (s : List Int) (h : okd s = true) : placeOf s (prodI s - 1) = s.map (· - 1) := by
  obtain ⟨h1, h2⟩ := lasts_valid s h
  have := placeOf_off s _ h h1
  rwa [h2] at this

theorem validP_get : ∀ s p, validP s p → ∀ j, j < s.length → 0 ≤ p.getD j 0 ∧ p.getD j 0 < s.getD j 0
  | [], [], _, j, hj => by simp at hj
  | [], _ :: _, h, _, _ => h.elim
  | _ :: _, [], h, _, _ => h.elim
  | d :: s, a :: p, h, 0, _ => by simpa using h.1
  | d :: s, a :: p, h, j + 1, hj => by
    have := validP_get s p h.2 j (by simpa using hj)
    simpa using this

theorem validP_set0 : ∀ s p, validP s p → ∀ (j : Nat) (x : Int), j < s.length → 0 ≤ x ∧ x < s.getD j 0 → validP s (p.set j x)
  | [], [], _, j, _, hj, _ => by simp at hj
  | [], _ :: _, h, _, _, _, _ => h.elim
  | _ :: _, [], h, _, _, _, _ => h.elim
  | d :: s, a :: p, h, 0, x, _, hx => ⟨by simpa using hx, h.2⟩
  | d :: s, a :: p, h, j + 1, x, hj, hx => ⟨h.1, validP_set0 s p h.2 j x (by simpa using hj) (by simpa using hx)⟩

end Go.Proofs.Ytihaochmebejbaa.TwMath
