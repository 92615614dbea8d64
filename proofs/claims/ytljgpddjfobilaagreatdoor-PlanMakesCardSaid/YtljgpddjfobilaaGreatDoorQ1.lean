import Derived.Test.YtljgpddjfobilaaGreatDoorQ0
set_option linter.unusedVariables false
set_option linter.unusedSimpArgs false
namespace Go.PL
open Go Go.VI
theorem seqB_symm (a b : ByteArray) : seqB a b = seqB b a := by
  rw [Bool.eq_iff_iff, seqB_iff, seqB_iff]; exact eq_comm
theorem rinL_drop (op : ByteArray) (ws : List ByteArray) (j : Nat) (h : j < ws.length) : inL op (ws.drop j) = (seqB (ws.getD j (dflt 4)) op || inL op (ws.drop (j + 1))) := by
  rw [List.drop_eq_getElem_cons h]
  have e : ws.getD j (dflt 4) = ws[j] := by simp [List.getD_eq_getElem?_getD, h]
  rw [e, seqB_symm, inL, inL, List.any_cons]
theorem rparts_l2 (op : ByteArray) (ws : List ByteArray) (hwl : ws.length ≤ 1000) : ∀ (d j : Nat), j + d = ws.length →
    EvG (fun _ L => L ((j : Int), (op, (ws, (ws.length : Int))))) Tf.tapewrightref10_Parts.s2 (if inL op (ws.drop j) = true then (.inl 0 : Int ⊕ ByteArray) else .inr op) := by
  intro d
  induction d with
  | zero =>
    intro j hj
    rw [List.drop_eq_nil_of_le (by omega), if_neg (by simp [inL])]
    refine EvG.step (fun F L => ?_) (EvG.now _)
    dsimp only [Tf.tapewrightref10_Parts.s2]
    simp only [bif_if, decide_eq_true_eq]
    rw [if_neg (by omega)]
  | succ d ih =>
    intro j hj
    have hi := ih (j + 1) (by omega)
    rw [rinL_drop op ws j (by omega)]
    have e0 : ws.getD (j : Int).toNat (dflt 4) = ws.getD j (dflt 4) := by rw [Int.toNat_natCast]
    by_cases c : seqB (ws.getD j (dflt 4)) op = true
    · rw [c, if_pos (by simp)]
      refine EvG.step (fun F L => ?_) (EvG.now _)
      dsimp only [Tf.tapewrightref10_Parts.s2]
      simp only [bif_if, decide_eq_true_eq, inR_iff, e0]
      rw [if_pos (by omega), if_pos (by omega), if_pos c]
    · rw [Bool.not_eq_true] at c
      rw [c, Bool.false_or]
      refine EvG.step (fun F L => ?_) hi
      dsimp only [Tf.tapewrightref10_Parts.s2]
      simp only [bif_if, decide_eq_true_eq, inR_iff, e0]
      rw [if_pos (by omega), if_pos (by omega), c, if_neg (by simp), w64 (by omega) (by omega), succ_cast]
theorem rparts_l8 (op : ByteArray) (ws : List ByteArray) (hwl : ws.length ≤ 1000) : ∀ (d j : Nat), j + d = ws.length →
    EvG (fun _ L => L ((j : Int), (op, (ws, (ws.length : Int))))) Tf.tapewrightref10_Parts.s8 (if inL op (ws.drop j) = true then (.inl 1 : Int ⊕ ByteArray) else .inr op) := by
  intro d
  induction d with
  | zero =>
    intro j hj
    rw [List.drop_eq_nil_of_le (by omega), if_neg (by simp [inL])]
    refine EvG.step (fun F L => ?_) (EvG.now _)
    dsimp only [Tf.tapewrightref10_Parts.s8]
    simp only [bif_if, decide_eq_true_eq]
    rw [if_neg (by omega)]
  | succ d ih =>
    intro j hj
    have hi := ih (j + 1) (by omega)
    rw [rinL_drop op ws j (by omega)]
    have e0 : ws.getD (j : Int).toNat (dflt 4) = ws.getD j (dflt 4) := by rw [Int.toNat_natCast]
    by_cases c : seqB (ws.getD j (dflt 4)) op = true
    · rw [c, if_pos (by simp)]
      refine EvG.step (fun F L => ?_) (EvG.now _)
      dsimp only [Tf.tapewrightref10_Parts.s8]
      simp only [bif_if, decide_eq_true_eq, inR_iff, e0]
      rw [if_pos (by omega), if_pos (by omega), if_pos c]
    · rw [Bool.not_eq_true] at c
      rw [c, Bool.false_or]
      refine EvG.step (fun F L => ?_) hi
      dsimp only [Tf.tapewrightref10_Parts.s8]
      simp only [bif_if, decide_eq_true_eq, inR_iff, e0]
      rw [if_pos (by omega), if_pos (by omega), c, if_neg (by simp), w64 (by omega) (by omega), succ_cast]
theorem rparts_l14 (op : ByteArray) (ws : List ByteArray) (hwl : ws.length ≤ 1000) : ∀ (d j : Nat), j + d = ws.length →
    EvG (fun _ L => L ((j : Int), (op, (ws, (ws.length : Int))))) Tf.tapewrightref10_Parts.s14 (if inL op (ws.drop j) = true then (.inl 2 : Int ⊕ Unit) else .inr ()) := by
  intro d
  induction d with
  | zero =>
    intro j hj
    rw [List.drop_eq_nil_of_le (by omega), if_neg (by simp [inL])]
    refine EvG.step (fun F L => ?_) (EvG.now _)
    dsimp only [Tf.tapewrightref10_Parts.s14]
    simp only [bif_if, decide_eq_true_eq]
    rw [if_neg (by omega)]
  | succ d ih =>
    intro j hj
    have hi := ih (j + 1) (by omega)
    rw [rinL_drop op ws j (by omega)]
    have e0 : ws.getD (j : Int).toNat (dflt 4) = ws.getD j (dflt 4) := by rw [Int.toNat_natCast]
    by_cases c : seqB (ws.getD j (dflt 4)) op = true
    · rw [c, if_pos (by simp)]
      refine EvG.step (fun F L => ?_) (EvG.now _)
      dsimp only [Tf.tapewrightref10_Parts.s14]
      simp only [bif_if, decide_eq_true_eq, inR_iff, e0]
      rw [if_pos (by omega), if_pos (by omega), if_pos c]
    · rw [Bool.not_eq_true] at c
      rw [c, Bool.false_or]
      refine EvG.step (fun F L => ?_) hi
      dsimp only [Tf.tapewrightref10_Parts.s14]
      simp only [bif_if, decide_eq_true_eq, inR_iff, e0]
      rw [if_pos (by omega), if_pos (by omega), c, if_neg (by simp), w64 (by omega) (by omega), succ_cast]
/-- The document's count of parts. -/
theorem rparts_ev (op : ByteArray) : Ev (fun F => Tf.tapewrightref10_Parts.f F op) (if (partsV op).2 = true then (partsV op).1 else -1) := by
  simp only [Tf.tapewrightref10_Parts.f]
  have h2 := rparts_l2 op opsZ (by decide) 3 0 (by decide)
  have h8 := rparts_l8 op [⟨#[114, 101, 108, 117]⟩, ⟨#[97, 98, 115]⟩, ⟨#[115, 116, 101, 112]⟩, ⟨#[115, 105, 103, 110]⟩, ⟨#[115, 99, 97, 108, 101]⟩, ⟨#[112, 111, 119, 101, 114]⟩, ⟨#[116, 114, 97, 110, 115, 112, 111, 115, 101]⟩, ⟨#[115, 117, 109]⟩, ⟨#[114, 101, 115, 104, 97, 112, 101]⟩, ⟨#[115, 112, 114, 101, 97, 100]⟩] (by decide) 10 0 (by decide)
  have h14 := rparts_l14 op [⟨#[97, 100, 100]⟩, ⟨#[115, 117, 98]⟩, ⟨#[109, 117, 108]⟩, ⟨#[109, 97, 120]⟩, ⟨#[97, 98, 111, 118, 101]⟩, ⟨#[109, 97, 116, 109, 117, 108]⟩] (by decide) 6 0 (by decide)
  rw [List.drop_zero] at h2 h8 h14
  have eO : inL op [⟨#[114, 101, 108, 117]⟩, ⟨#[97, 98, 115]⟩, ⟨#[115, 116, 101, 112]⟩, ⟨#[115, 105, 103, 110]⟩, ⟨#[115, 99, 97, 108, 101]⟩, ⟨#[112, 111, 119, 101, 114]⟩, ⟨#[116, 114, 97, 110, 115, 112, 111, 115, 101]⟩, ⟨#[115, 117, 109]⟩, ⟨#[114, 101, 115, 104, 97, 112, 101]⟩, ⟨#[115, 112, 114, 101, 97, 100]⟩] = inL op opsO := by
    rw [Bool.eq_iff_iff]
    simp only [inL, opsO, List.any_cons, List.any_nil, Bool.or_eq_true, Bool.or_false]
  have eT : inL op [⟨#[97, 100, 100]⟩, ⟨#[115, 117, 98]⟩, ⟨#[109, 117, 108]⟩, ⟨#[109, 97, 120]⟩, ⟨#[97, 98, 111, 118, 101]⟩, ⟨#[109, 97, 116, 109, 117, 108]⟩] = inL op opsT := by
    rw [Bool.eq_iff_iff]
    simp only [inL, opsT, List.any_cons, List.any_nil, Bool.or_eq_true, Bool.or_false]
  rw [eO] at h8
  rw [eT] at h14
  unfold partsV
  refine Ev.bind (Ev.iter h2) ?_
  by_cases cz : inL op opsZ = true
  · rw [if_pos cz, if_pos cz]; exact Ev.now _
  rw [if_neg cz, if_neg cz]
  refine Ev.bind (Ev.iter h8) ?_
  by_cases co : inL op opsO = true
  · rw [if_pos co, if_pos co]; exact Ev.now _
  rw [if_neg co, if_neg co]
  refine Ev.bind (Ev.iter h14) ?_
  by_cases ct : inL op opsT = true
  · rw [if_pos ct, if_pos ct]; exact Ev.now _
  rw [if_neg ct, if_neg ct]
  exact Ev.now _
end Go.PL
namespace Go.PL
open Go Go.VI
theorem rr4_go (l : List Int) (hl : l.length ≤ 4) : ∀ (d j : Nat) (n : Int), j + d = l.length → 1 ≤ n → n ≤ 64 →
    EvG (fun _ L => L ((j : Int), (l, n))) Tf.tapewrightref04_Right.s5 (if okd (l.drop j) = true ∧ n * prodI (l.drop j) ≤ 64 then .inr () else .inl false) := by
  intro d
  induction d with
  | zero =>
    intro j n hj h1 hn
    have : l.drop j = [] := List.drop_eq_nil_of_le (by omega)
    rw [this, if_pos ⟨rfl, by simp only [prodI]; omega⟩]
    refine EvG.step (fun F L => ?_) (EvG.now _)
    dsimp only [Tf.tapewrightref04_Right.s5]
    simp only [bif_if, decide_eq_true_eq]
    rw [if_neg (by omega)]
  | succ d ih =>
    intro j n hj h1 hn
    rw [drop_rd l j (by omega)]
    simp only [okd_cons]
    generalize hx : rd l (j : Int) = x
    by_cases c1 : x < 1
    · rw [if_neg (fun q => by omega)]
      refine EvG.step (fun F L => ?_) (EvG.now _)
      dsimp only [Tf.tapewrightref04_Right.s5]
      simp only [bif_if, decide_eq_true_eq, inR_iff, rd_def, hx]
      rw [if_pos (by omega), if_pos (by omega), if_pos c1]
    by_cases c2 : x > 64
    · rw [if_neg (fun q => by omega)]
      refine EvG.step (fun F L => ?_) (EvG.now _)
      dsimp only [Tf.tapewrightref04_Right.s5]
      simp only [bif_if, decide_eq_true_eq, inR_iff, rd_def, hx]
      rw [if_pos (by omega), if_pos (by omega), if_neg c1, if_pos (by omega), if_pos c2]
    have hm : 1 * 1 ≤ n * x := Int.mul_le_mul h1 (by omega) (by omega) (by omega)
    have hm2 : n * x ≤ 64 * 64 := Int.mul_le_mul hn (by omega) (by omega) (by omega)
    have hw : IntKind.i64.wrap (n * x) = n * x := w64 (by omega) (by omega)
    have e2 : n * prodI (x :: l.drop (j + 1)) = n * x * prodI (l.drop (j + 1)) := by simp [prodI, Int.mul_assoc]
    rw [e2]
    by_cases c3 : n * x > 64
    · rw [if_neg (fun q => by
        have hp := prodI_pos _ q.1.2
        have : n * x * 1 ≤ n * x * prodI (l.drop (j + 1)) := Int.mul_le_mul_of_nonneg_left hp (by omega)
        omega)]
      refine EvG.step (fun F L => ?_) (EvG.now _)
      dsimp only [Tf.tapewrightref04_Right.s5]
      simp only [bif_if, decide_eq_true_eq, inR_iff, rd_def, hx, hw]
      rw [if_pos (by omega), if_pos (by omega), if_neg c1, if_pos (by omega), if_neg c2, if_pos (by omega), if_pos c3]
    · have hi := ih (j + 1) (n * x) (by omega) (by omega) (by omega)
      have e3 : (((1 ≤ x ∧ x ≤ 64) ∧ okd (l.drop (j + 1)) = true) ∧ n * x * prodI (l.drop (j + 1)) ≤ 64) ↔ (okd (l.drop (j + 1)) = true ∧ n * x * prodI (l.drop (j + 1)) ≤ 64) := ⟨fun q => ⟨q.1.2, q.2⟩, fun q => ⟨⟨by omega, q.1⟩, q.2⟩⟩
      simp only [e3]
      refine EvG.step (fun F L => ?_) hi
      dsimp only [Tf.tapewrightref04_Right.s5]
      simp only [bif_if, decide_eq_true_eq, inR_iff, rd_def, hx, hw]
      rw [if_pos (by omega), if_pos (by omega), if_neg c1, if_pos (by omega), if_neg c2, if_pos (by omega), if_neg c3, if_pos (by omega), w64 (by omega) (by omega), succ_cast]
theorem rright4_ev (l : List Int) : Ev (fun F => Tf.tapewrightref04_Right.f F l) (rightS l) := by
  simp only [Tf.tapewrightref04_Right.f, bif_if, decide_eq_true_eq]
  by_cases h : l.length ≤ 4
  · have hg := rr4_go l h l.length 0 1 (by omega) (by omega) (by omega)
    rw [List.drop_zero, Int.one_mul] at hg
    refine Ev_neg (by omega) (Ev.bind (Ev.iter hg) ?_)
    have hr := rightS_iff l
    by_cases c : okd l = true ∧ prodI l ≤ 64
    · rw [if_pos c, hr.2 ⟨h, c.1, c.2⟩]; exact Ev.now _
    · have : rightS l = false := by
        cases hq : rightS l with
        | false => rfl
        | true => exact absurd ⟨(hr.1 hq).2.1, (hr.1 hq).2.2⟩ c
      rw [if_neg c, this]; exact Ev.now _
  · have : rightS l = false := by
      cases hq : rightS l with
      | false => rfl
      | true => exact absurd ((rightS_iff l).1 hq).1 h
    rw [this]
    exact Ev_pos (by omega) (Ev.now _)
def nchar (i : Nat) (b : UInt8) : Bool := letter b || (decide (i ≠ 0) && digit b)
def nchars : List UInt8 → Nat → Bool
  | [], _ => true
  | b :: l, i => nchar i b && nchars l (i + 1)
theorem rname_go (s : ByteArray) (hs : s.data.toList.length ≤ 1000000) : ∀ (d i : Nat), i + d = s.data.toList.length →
    EvG (fun _ L => L ((i : Int), s)) Tf.tapewrightref08_Name.s2 (if nchars (s.data.toList.drop i) i = true then .inr s else .inl false) := by
  intro d
  induction d with
  | zero =>
    intro i hi
    have hz := ba_size s
    rw [List.drop_eq_nil_of_le (by omega), nchars, if_pos rfl]
    refine EvG.step (fun F L => ?_) (EvG.now _)
    dsimp only [Tf.tapewrightref08_Name.s2]
    simp only [bif_if, decide_eq_true_eq]
    rw [if_neg (by omega)]
  | succ d ih =>
    intro i hi
    have hz := ba_size s
    have hb := bt_data s i (by omega)
    have hn := ih (i + 1) (by omega)
    rw [List.drop_eq_getElem_cons (by omega), nchars]
    generalize s.data.toList[i]'(by omega) = x at *
    have hw : IntKind.i64.wrap ((i : Int) + 1) = ((i + 1 : Nat) : Int) := by rw [w64 (by omega) (by omega), succ_cast]
    cases hc : nchar i x with
    | true =>
      rw [Bool.true_and]
      refine EvG.step (fun F L => ?_) hn
      dsimp only [Tf.tapewrightref08_Name.s2]
      simp only [bif_if, decide_eq_true_eq, inR_iff, beq_iff_eq, Bool.not_eq_true', decide_eq_false_iff_not, hb, hw]
      rw [if_pos (by omega), if_pos (by omega)]
      simp only [nchar, letter, digit, Bool.or_eq_true, Bool.and_eq_true, decide_eq_true_eq] at hc
      by_cases c1 : (x.toNat : Int) ≥ 97
      · rw [if_pos c1]
        by_cases c2 : ¬ (x.toNat : Int) ≤ 122
        · omega
        · rw [if_neg c2]
      · rw [if_neg c1, if_neg (by omega), if_neg (by omega), if_neg (by omega)]
    | false =>
      rw [Bool.false_and, if_neg (by simp)]
      refine EvG.step (fun F L => ?_) (EvG.now _)
      dsimp only [Tf.tapewrightref08_Name.s2]
      simp only [bif_if, decide_eq_true_eq, inR_iff, beq_iff_eq, Bool.not_eq_true', decide_eq_false_iff_not, hb, hw]
      rw [if_pos (by omega), if_pos (by omega)]
      simp only [nchar, letter, digit, Bool.or_eq_false_iff, Bool.and_eq_false_iff, decide_eq_false_iff_not] at hc
      have tail : (if (i : Int) = 0 then some (Sum.inl false) else if (x.toNat : Int) < 48 then some (Sum.inl false) else if (x.toNat : Int) > 57 then some (Sum.inl false) else L (((i + 1 : Nat) : Int), s)) = (some (Sum.inl false) : Option (Bool ⊕ ByteArray)) := by
        by_cases d1 : (i : Int) = 0
        · rw [if_pos d1]
        rw [if_neg d1]
        by_cases d2 : (x.toNat : Int) < 48
        · rw [if_pos d2]
        rw [if_neg d2, if_pos (by omega)]
      by_cases c1 : (x.toNat : Int) ≥ 97
      · rw [if_pos c1, if_pos (by omega)]; exact tail
      · rw [if_neg c1]; exact tail
theorem nchars_all : ∀ (l : List UInt8) (i : Nat), i ≠ 0 → nchars l i = l.all fun b => letter b || digit b
  | [], _, _ => rfl
  | b :: l, i, h => by
    rw [nchars, List.all_cons, nchars_all l (i + 1) (by omega), nchar, decide_eq_true h, Bool.true_and]
theorem rname_ev (s : ByteArray) (hs : s.data.toList.length ≤ 1000000) : Ev (fun F => Tf.tapewrightref08_Name.f F s) (nameS s.data.toList) := by
  simp only [Tf.tapewrightref08_Name.f, bif_if, decide_eq_true_eq]
  have hg := rname_go s hs s.data.toList.length 0 (by omega)
  rw [List.drop_zero] at hg
  have hz := ba_size s
  refine Ev.bind (Ev.iter hg) ?_
  cases hl : s.data.toList with
  | nil =>
    rw [hl] at hz
    rw [nchars, if_pos rfl]
    have hz' : s.size = 0 := hz
    exact Ev_neg (by show ¬ (s.size : Int) > 0; omega) (Ev.now _)
  | cons b t =>
    rw [hl] at hz
    simp only [List.length_cons] at hz
    rw [nchars, nchars_all t 1 (by omega), nchar]
    simp only [ne_eq, not_true_eq_false, decide_false, Bool.false_and, Bool.or_false]
    have en : nameS (b :: t) = ((letter b && t.all fun b => letter b || digit b) && decide (t.length < 8)) := rfl
    cases hc : (letter b && t.all fun b => letter b || digit b) with
    | true =>
      rw [if_pos rfl]
      refine Ev_pos (by show (s.size : Int) > 0; omega) (Ev.eq ?_)
      rw [en, hc, Bool.true_and, decide_eq_decide]
      omega
    | false =>
      rw [if_neg (by simp)]
      refine Ev.eq ?_
      rw [en, hc, Bool.false_and]
end Go.PL
namespace Go.PL
open Go Go.VI
/-- A run that tells a shape, or that there is none. -/
def Sh (g : Nat → Option (List Int × Bool)) (p : List Int × Bool) : Prop := ∃ t, Ev g (t, p.2) ∧ (p.2 = true → t = p.1)
section
variable {p : List Int × Bool} {f g : Nat → Option (List Int × Bool)}
theorem Sh.no (h : p.2 = false) : Sh (fun _ => some ([], false)) p := ⟨[], h ▸ Ev.now _, fun q => by rw [h] at q; cases q⟩
theorem Sh.if {c : Prop} [Decidable c] (h1 : c → Sh f p) (h2 : ¬ c → Sh g p) : Sh (fun F => if c then f F else g F) p := by
  by_cases h : c
  · obtain ⟨t, e, q⟩ := h1 h; exact ⟨t, Ev_pos h e, q⟩
  · obtain ⟨t, e, q⟩ := h2 h; exact ⟨t, Ev_neg h e, q⟩
theorem Sh.pos {c : Prop} [Decidable c] (h : c) (h1 : Sh f p) : Sh (fun F => if c then f F else g F) p := Sh.if (fun _ => h1) (fun n => absurd h n)
theorem Sh.neg {c : Prop} [Decidable c] (h : ¬ c) (h1 : Sh g p) : Sh (fun F => if c then f F else g F) p := Sh.if (fun n => absurd n h) (fun _ => h1)
theorem Sh.bind {α : Type} {m : Nat → Option α} {a : α} {k : Nat → α → Option (List Int × Bool)} (h : Ev m a) (h1 : Sh (fun F => k F a) p) : Sh (fun F => (m F).bind (k F)) p := by
  obtain ⟨t, e, q⟩ := h1; exact ⟨t, Ev.bind h e, q⟩
theorem Sh.same (h1 : Sh g p) : Sh (fun F => (g F).bind fun y => some (y.1, y.2)) p := by
  obtain ⟨t, e, q⟩ := h1; exact ⟨t, Ev.bind e (Ev.now _), q⟩
theorem Sh.ret (t : List Int) (h : p.2 = rightS t) (h1 : rightS t = true → t = p.1) : Sh (fun F => (Tf.tapewrightref04_Right.f F t).bind fun y => some (t, y)) p :=
  ⟨t, by rw [h]; exact Ev.bind (rright4_ev t) (Ev.now _), fun q => h1 (by rw [← h]; exact q)⟩
end
theorem endV_of {x : VI.Node} {a b t : List Int} {c : Bool} (h : ofV x a b = (t, c)) : endV x a b = if c = true ∧ rightS t = true then (t, true) else ([], false) := by unfold endV; rw [h]
theorem end_no {x : VI.Node} {a b t : List Int} {c : Bool} (h : ofV x a b = (t, c)) (hc : ¬ (c = true ∧ rightS t = true)) : (endV x a b).2 = false := by rw [endV_of h, if_neg hc]
theorem Sh.fin {x : VI.Node} {a b t : List Int} (h : ofV x a b = (t, true)) : Sh (fun F => (Tf.tapewrightref04_Right.f F t).bind fun y => some (t, y)) (endV x a b) := by
  rw [endV_of h]
  refine Sh.ret t ?_ ?_
  · cases rightS t <;> rfl
  · intro q; rw [q]; rfl
theorem rdata_go (data : List ByteArray) (hd : data.length ≤ 70) (hs : ∀ s ∈ data, s.data.toList.length ≤ 30) (sh : List Int) : ∀ (d i : Nat), i + d = data.length →
    EvG (fun _ L => L ((i : Int), (data, (sh, (data.length : Int))))) Tf.tapewrightref10_Shape.s28 (if (data.drop i).all ratB = true then .inr sh else .inl ([], false)) := by
  intro d
  induction d with
  | zero =>
    intro i hi
    rw [List.drop_eq_nil_of_le (by omega), if_pos (show ([] : List ByteArray).all ratB = true from rfl)]
    refine EvG.step (fun F L => ?_) (EvG.now _)
    dsimp only [Tf.tapewrightref10_Shape.s28]
    simp only [bif_if, decide_eq_true_eq]
    rw [if_neg (by omega)]
  | succ d ih =>
    intro i hi
    have hn := ih (i + 1) (by omega)
    have hlt : i < data.length := by omega
    have eg : data.getD (i : Int).toNat (dflt 4) = data[i] := by rw [Int.toNat_natCast]; simp [List.getD_eq_getElem?_getD, hlt]
    have hm := hs _ (List.getElem_mem hlt)
    rw [List.drop_eq_getElem_cons hlt, List.all_cons]
    generalize data[i] = s at *
    obtain ⟨v, hv⟩ := rread_ev s (by omega)
    have hw : IntKind.i64.wrap ((i : Int) + 1) = ((i + 1 : Nat) : Int) := by rw [w64 (by omega) (by omega), succ_cast]
    refine EvG.loop ?_
    simp only [Tf.tapewrightref10_Shape.s28, bif_if, decide_eq_true_eq, inR_iff, eg, hw, Bool.not_eq_true']
    refine EvG.pos (by omega) (EvG.pos (by omega) (EvG.bind hv ?_))
    cases hr : ratB s with
    | true =>
      rw [Bool.true_and]
      exact EvG.neg (by simp) hn
    | false =>
      rw [Bool.false_and, if_neg (by simp)]
      exact EvG.pos rfl (EvG.now _)
theorem hr0' (l : List Int) : l.getD 0 0 = rd l 0 := by cases l <;> rfl
theorem hr1' (l : List Int) : l.getD 1 0 = rd l 1 := by cases l <;> rfl
theorem sizeS_pos {l : List Int} (h : rightS l = true) : sizeS l = prodI l ∧ 1 ≤ prodI l := by
  refine ⟨by unfold sizeS; rw [if_pos h], prodI_pos _ ((rightS_iff l).1 h).2.1⟩
theorem seqB_eq {a b : ByteArray} (h : seqB a b = true) : a = b := by
  exact seqB_iff.1 h
theorem inL_cases {op : ByteArray} {l : List ByteArray} (h : inL op l = true) : ∃ o ∈ l, op = o := by
  simp only [inL, List.any_eq_true] at h
  obtain ⟨o, h1, h2⟩ := h
  exact ⟨o, h1, seqB_eq h2⟩
section
variable {x : VI.Node} {a b : List Int} {m : Int}
@[reducible] def jArg (x : VI.Node) (a b : List Int) (m : Int) : (ByteArray × (Int × (Int × (ByteArray × ((List Int) × (ByteArray × (Int × ((List ByteArray) × ((List Int) × ((List Int) × Int)))))))))) := (x.op, (x.a, (x.b, (x.name, (x.shape, (x.k, (x.n, (x.data, (b, (a, m))))))))))
theorem rt_param (e : x.op = oParam ∨ x.op = oInput) : Sh (fun F => Tf.tapewrightref10_Shape.j16 F (jArg x a b m)) (endV x a b) := by
  have ho : ofV x a b = (x.shape, true) := by
    unfold ofV
    rcases e with e | e <;> rw [e] <;> repeat rw [if_neg (by decide +kernel)]
  simp only [Tf.tapewrightref10_Shape.j16, jArg, bif_if, decide_eq_true_eq, beq_iff_eq, bne_iff_ne, inR_iff]
  rcases e with e | e <;> rw [e]
  · exact Sh.pos (by decide +kernel) (Sh.fin ho)
  · exact Sh.neg (by decide +kernel) (Sh.pos (by decide +kernel) (Sh.fin ho))
theorem rt_const (hx : smallN x) (e : x.op = oConst) : Sh (fun F => Tf.tapewrightref10_Shape.j16 F (jArg x a b m)) (endV x a b) := by
  have ho : ofV x a b = (x.shape, decide ((x.data.length : Int) = sizeS x.shape) && x.data.all ratB) := by
    unfold ofV
    rw [e, if_pos (by decide +kernel)]
  simp only [Tf.tapewrightref10_Shape.j16, jArg, bif_if, decide_eq_true_eq, beq_iff_eq, bne_iff_ne, inR_iff, Bool.not_eq_true']
  rw [e]
  refine Sh.neg (by decide +kernel) (Sh.neg (by decide +kernel) (Sh.pos (by decide +kernel) (Sh.bind (rright4_ev _) (Sh.if (fun h => ?_) (fun h => ?_)))))
  · exact Sh.no (end_no ho (fun q => by rw [q.2] at h; cases h))
  have hr : rightS x.shape = true := by simpa using h
  obtain ⟨hs, _⟩ := sizeS_pos hr
  refine Sh.bind (rsize_ev _ hr) (Sh.if (fun h2 => ?_) (fun h2 => ?_))
  · exact Sh.no (end_no ho (fun q => by simp at q; omega))
  have hg := rdata_go x.data hx.2.2.2.1 hx.2.2.2.2 x.shape x.data.length 0 (by omega)
  rw [List.drop_zero] at hg
  refine Sh.bind (Ev.iter hg) ?_
  cases hc : x.data.all ratB with
  | true =>
    rw [if_pos rfl]
    refine Sh.fin (t := x.shape) ?_
    rw [ho, hc, hs, decide_eq_true (by omega)]; rfl
  | false =>
    rw [if_neg (by simp)]
    exact Sh.no (end_no ho (fun q => by rw [hc] at q; simp at q))
theorem rt_matmul (e : x.op = ⟨#[109, 97, 116, 109, 117, 108]⟩) : Sh (fun F => Tf.tapewrightref10_Shape.j16 F (jArg x a b m)) (endV x a b) := by
  have ho : ofV x a b = (if a.length = 2 ∧ b.length = 2 ∧ rd a 1 = rd b 0 then ([rd a 0, rd b 1], true) else ([], false)) := by
    unfold ofV
    rw [e, if_neg (by decide +kernel), if_neg (by decide +kernel), if_pos (by decide +kernel)]
  simp only [Tf.tapewrightref10_Shape.j16, jArg, bif_if, decide_eq_true_eq, beq_iff_eq, bne_iff_ne, inR_iff, Bool.not_eq_true', two_set, hr0', hr1']
  rw [e]
  refine Sh.neg (by decide +kernel) (Sh.neg (by decide +kernel) (Sh.neg (by decide +kernel) (Sh.pos (by decide +kernel) ?_)))
  by_cases c : a.length = 2 ∧ b.length = 2 ∧ rd a 1 = rd b 0
  · rw [if_pos c] at ho
    exact Sh.neg (by omega) (Sh.neg (by omega) (Sh.pos (by omega) (Sh.pos (by omega) (Sh.neg (by omega) (Sh.pos (by omega) (Sh.pos (by omega) (Sh.fin ho)))))))
  · rw [if_neg c] at ho
    have no : (endV x a b).2 = false := end_no ho (fun q => by cases q.1)
    exact Sh.if (fun _ => Sh.no no) (fun h1 => Sh.if (fun _ => Sh.no no) (fun h2 => Sh.pos (by omega) (Sh.pos (by omega) (Sh.pos (fun q => c ⟨by omega, by omega, q⟩) (Sh.no no)))))
theorem rt_transpose (e : x.op = ⟨#[116, 114, 97, 110, 115, 112, 111, 115, 101]⟩) : Sh (fun F => Tf.tapewrightref10_Shape.j16 F (jArg x a b m)) (endV x a b) := by
  have ho : ofV x a b = (if a.length = 2 then ([rd a 1, rd a 0], true) else ([], false)) := by
    unfold ofV
    rw [e, if_neg (by decide +kernel), if_neg (by decide +kernel), if_neg (by decide +kernel), if_neg (by decide +kernel), if_neg (by decide +kernel), if_neg (by decide +kernel), if_pos (by decide +kernel)]
  simp only [Tf.tapewrightref10_Shape.j16, jArg, bif_if, decide_eq_true_eq, beq_iff_eq, bne_iff_ne, inR_iff, Bool.not_eq_true', two_set, hr0', hr1']
  rw [e]
  refine Sh.neg (by decide +kernel) (Sh.neg (by decide +kernel) (Sh.neg (by decide +kernel) (Sh.neg (by decide +kernel) (Sh.pos (by decide +kernel) (Sh.if (fun h => ?_) (fun h => ?_))))))
  · rw [if_neg (by omega)] at ho
    exact Sh.no (end_no ho (fun q => by cases q.1))
  · rw [if_pos (by omega)] at ho
    exact Sh.pos (by omega) (Sh.pos (by omega) (Sh.fin ho))
theorem rt_sum (e : x.op = ⟨#[115, 117, 109]⟩) : Sh (fun F => Tf.tapewrightref10_Shape.j16 F (jArg x a b m)) (endV x a b) := by
  have ho : ofV x a b = ([], true) := by
    unfold ofV
    rw [e, if_neg (by decide +kernel), if_neg (by decide +kernel), if_neg (by decide +kernel), if_neg (by decide +kernel), if_neg (by decide +kernel), if_neg (by decide +kernel), if_neg (by decide +kernel), if_pos (by decide +kernel)]
  simp only [Tf.tapewrightref10_Shape.j16, jArg, bif_if, decide_eq_true_eq, beq_iff_eq, bne_iff_ne, inR_iff, Bool.not_eq_true']
  rw [e]
  exact Sh.neg (by decide +kernel) (Sh.neg (by decide +kernel) (Sh.neg (by decide +kernel) (Sh.neg (by decide +kernel) (Sh.neg (by decide +kernel) (Sh.pos (by decide +kernel) (Sh.fin ho))))))
theorem rt_scale (hx : smallN x) (e : x.op = oScale) : Sh (fun F => Tf.tapewrightref10_Shape.j16 F (jArg x a b m)) (endV x a b) := by
  have ho : ofV x a b = (a, ratB x.k) := by
    unfold ofV
    rw [e, if_neg (by decide +kernel), if_neg (by decide +kernel), if_neg (by decide +kernel), if_neg (by decide +kernel), if_pos (by decide +kernel)]
  simp only [Tf.tapewrightref10_Shape.j16, jArg, bif_if, decide_eq_true_eq, beq_iff_eq, bne_iff_ne, inR_iff, Bool.not_eq_true']
  rw [e]
  obtain ⟨v, hv⟩ := rread_ev x.k (by have := hx.2.2.1; omega)
  refine Sh.neg (by decide +kernel) (Sh.neg (by decide +kernel) (Sh.neg (by decide +kernel) (Sh.neg (by decide +kernel) (Sh.neg (by decide +kernel) (Sh.neg (by decide +kernel) (Sh.pos (by decide +kernel) (Sh.bind hv (Sh.if (fun h => ?_) (fun h => ?_)))))))))
  · exact Sh.no (end_no ho (fun q => by rw [q.1] at h; cases h))
  · have hk : ratB x.k = true := by simpa using h
    rw [hk] at ho
    exact Sh.fin ho
theorem rt_power (e : x.op = oPower) : Sh (fun F => Tf.tapewrightref10_Shape.j16 F (jArg x a b m)) (endV x a b) := by
  have ho : ofV x a b = (a, decide (x.n ≥ 0) && decide (x.n ≤ 6)) := by
    unfold ofV
    rw [e, if_neg (by decide +kernel), if_neg (by decide +kernel), if_neg (by decide +kernel), if_neg (by decide +kernel), if_neg (by decide +kernel), if_pos (by decide +kernel)]
  simp only [Tf.tapewrightref10_Shape.j16, jArg, bif_if, decide_eq_true_eq, beq_iff_eq, bne_iff_ne, inR_iff, Bool.not_eq_true']
  rw [e]
  refine Sh.neg (by decide +kernel) (Sh.neg (by decide +kernel) (Sh.neg (by decide +kernel) (Sh.neg (by decide +kernel) (Sh.neg (by decide +kernel) (Sh.neg (by decide +kernel) (Sh.neg (by decide +kernel) (Sh.pos (by decide +kernel) (Sh.if (fun h => ?_) (fun h => Sh.if (fun h2 => ?_) (fun h2 => ?_))))))))))
  · exact Sh.no (end_no ho (fun q => by simp at q; omega))
  · exact Sh.no (end_no ho (fun q => by simp at q; omega))
  · rw [decide_eq_true (by omega), decide_eq_true (by omega)] at ho
    exact Sh.fin ho
theorem rt_reshape (e : x.op = ⟨#[114, 101, 115, 104, 97, 112, 101]⟩) : Sh (fun F => Tf.tapewrightref10_Shape.j16 F (jArg x a b m)) (endV x a b) := by
  have ho : ofV x a b = (x.shape, decide (sizeS x.shape = sizeS a)) := by
    unfold ofV
    rw [e, if_neg (by decide +kernel), if_neg (by decide +kernel), if_neg (by decide +kernel), if_neg (by decide +kernel), if_neg (by decide +kernel), if_neg (by decide +kernel), if_neg (by decide +kernel), if_neg (by decide +kernel), if_pos (by decide +kernel)]
  simp only [Tf.tapewrightref10_Shape.j16, jArg, bif_if, decide_eq_true_eq, beq_iff_eq, bne_iff_ne, inR_iff, Bool.not_eq_true']
  rw [e]
  refine Sh.neg (by decide +kernel) (Sh.neg (by decide +kernel) (Sh.neg (by decide +kernel) (Sh.neg (by decide +kernel) (Sh.neg (by decide +kernel) (Sh.neg (by decide +kernel) (Sh.neg (by decide +kernel) (Sh.neg (by decide +kernel) (Sh.pos (by decide +kernel) (Sh.bind (rright4_ev _) (Sh.if (fun h => ?_) (fun h => Sh.bind (rright4_ev _) (Sh.if (fun h2 => ?_) (fun h2 => ?_)))))))))))))
  · exact Sh.no (end_no ho (fun q => by rw [q.2] at h; cases h))
  · have hr : rightS x.shape = true := by simpa using h
    obtain ⟨s1, s2⟩ := sizeS_pos hr
    refine Sh.no (end_no ho (fun q => ?_))
    have q1 := of_decide_eq_true q.1
    have : sizeS a = 0 := by unfold sizeS; rw [h2]; rfl
    omega
  · have hr : rightS x.shape = true := by simpa using h
    have hr2 : rightS a = true := by simpa using h2
    obtain ⟨s1, _⟩ := sizeS_pos hr
    obtain ⟨s2, _⟩ := sizeS_pos hr2
    refine Sh.bind (rsize_ev _ hr) (Sh.bind (rsize_ev _ hr2) (Sh.if (fun h3 => ?_) (fun h3 => ?_)))
    · exact Sh.no (end_no ho (fun q => by have q1 := of_decide_eq_true q.1; omega))
    · rw [decide_eq_true (by omega)] at ho
      exact Sh.fin ho
theorem rt_spread (e : x.op = ⟨#[115, 112, 114, 101, 97, 100]⟩) : Sh (fun F => Tf.tapewrightref10_Shape.j16 F (jArg x a b m)) (endV x a b) := by
  have ho : ofV x a b = (x.shape, decide (a.length = 0)) := by
    unfold ofV
    rw [e, if_neg (by decide +kernel), if_neg (by decide +kernel), if_neg (by decide +kernel), if_neg (by decide +kernel), if_neg (by decide +kernel), if_neg (by decide +kernel), if_neg (by decide +kernel), if_neg (by decide +kernel), if_neg (by decide +kernel), if_pos (by decide +kernel)]
  simp only [Tf.tapewrightref10_Shape.j16, jArg, bif_if, decide_eq_true_eq, beq_iff_eq, bne_iff_ne, inR_iff, Bool.not_eq_true']
  rw [e]
  refine Sh.neg (by decide +kernel) (Sh.neg (by decide +kernel) (Sh.neg (by decide +kernel) (Sh.neg (by decide +kernel) (Sh.neg (by decide +kernel) (Sh.neg (by decide +kernel) (Sh.neg (by decide +kernel) (Sh.neg (by decide +kernel) (Sh.neg (by decide +kernel) (Sh.pos (by decide +kernel) (Sh.if (fun h => ?_) (fun h => ?_)))))))))))
  · exact Sh.no (end_no ho (fun q => by have q1 := of_decide_eq_true q.1; omega))
  · rw [decide_eq_true (by omega)] at ho
    exact Sh.fin ho
theorem rt_two (ha : a.length ≤ 10) (e : inL x.op [⟨#[97, 100, 100]⟩, ⟨#[115, 117, 98]⟩, ⟨#[109, 117, 108]⟩, ⟨#[109, 97, 120]⟩, ⟨#[97, 98, 111, 118, 101]⟩] = true) (hm : m = 2) : Sh (fun F => Tf.tapewrightref10_Shape.j16 F (jArg x a b m)) (endV x a b) := by
  have ho : ofV x a b = (a, decide (a = b)) := by
    have c0 : ¬ seqB x.op oConst = true := by
      obtain ⟨o, h1, h2⟩ := inL_cases e
      rw [h2]
      clear e h2
      revert o
      decide +kernel
    unfold ofV
    rw [if_neg c0, if_pos e]
  simp only [Tf.tapewrightref10_Shape.j16, jArg, bif_if, decide_eq_true_eq, beq_iff_eq, bne_iff_ne, inR_iff, Bool.not_eq_true']
  have nn : ∀ w, w ∈ [oParam, oInput, oConst, ⟨#[109, 97, 116, 109, 117, 108]⟩, ⟨#[116, 114, 97, 110, 115, 112, 111, 115, 101]⟩, ⟨#[115, 117, 109]⟩, oScale, oPower, ⟨#[114, 101, 115, 104, 97, 112, 101]⟩, ⟨#[115, 112, 114, 101, 97, 100]⟩] → ¬ seqB x.op w = true := by
    obtain ⟨o, h1, h2⟩ := inL_cases e
    rw [h2]
    clear e h2
    revert o
    decide +kernel
  refine Sh.neg (nn _ (by simp)) (Sh.neg (nn _ (by simp)) (Sh.neg (nn _ (by simp)) (Sh.neg (nn _ (by simp)) (Sh.neg (nn _ (by simp)) (Sh.neg (nn _ (by simp)) (Sh.neg (nn _ (by simp)) (Sh.neg (nn _ (by simp)) (Sh.neg (nn _ (by simp)) (Sh.neg (nn _ (by simp)) (Sh.pos hm (Sh.bind (rsame_ev a b (by omega)) (Sh.if (fun h => ?_) (fun h => ?_)))))))))))))
  · exact Sh.no (end_no ho (fun q => by rw [q.1] at h; cases h))
  · have : decide (a = b) = true := by simpa using h
    rw [this] at ho
    exact Sh.fin ho
theorem rt_one (e : inL x.op [⟨#[114, 101, 108, 117]⟩, ⟨#[97, 98, 115]⟩, ⟨#[115, 116, 101, 112]⟩, ⟨#[115, 105, 103, 110]⟩] = true) (hm : m = 1) : Sh (fun F => Tf.tapewrightref10_Shape.j16 F (jArg x a b m)) (endV x a b) := by
  have nn : ∀ w, w ∈ [oParam, oInput, oConst, ⟨#[109, 97, 116, 109, 117, 108]⟩, ⟨#[116, 114, 97, 110, 115, 112, 111, 115, 101]⟩, ⟨#[115, 117, 109]⟩, oScale, oPower, ⟨#[114, 101, 115, 104, 97, 112, 101]⟩, ⟨#[115, 112, 114, 101, 97, 100]⟩] → ¬ seqB x.op w = true := by
    obtain ⟨o, h1, h2⟩ := inL_cases e
    rw [h2]
    clear e h2
    revert o
    decide +kernel
  have ho : ofV x a b = (a, true) := by
    have c1 : ¬ inL x.op [⟨#[97, 100, 100]⟩, ⟨#[115, 117, 98]⟩, ⟨#[109, 117, 108]⟩, ⟨#[109, 97, 120]⟩, ⟨#[97, 98, 111, 118, 101]⟩] = true := by
      obtain ⟨o, h1, h2⟩ := inL_cases e
      rw [h2]
      clear e h2 nn
      revert o
      decide +kernel
    unfold ofV
    rw [if_neg (nn _ (by simp)), if_neg c1, if_neg (nn _ (by simp)), if_pos e]
  simp only [Tf.tapewrightref10_Shape.j16, jArg, bif_if, decide_eq_true_eq, beq_iff_eq, bne_iff_ne, inR_iff, Bool.not_eq_true']
  exact Sh.neg (nn _ (by simp)) (Sh.neg (nn _ (by simp)) (Sh.neg (nn _ (by simp)) (Sh.neg (nn _ (by simp)) (Sh.neg (nn _ (by simp)) (Sh.neg (nn _ (by simp)) (Sh.neg (nn _ (by simp)) (Sh.neg (nn _ (by simp)) (Sh.neg (nn _ (by simp)) (Sh.neg (nn _ (by simp)) (Sh.neg (by omega) (Sh.fin ho)))))))))))
end
theorem rtail (x : VI.Node) (a b : List Int) (hx : smallN x) (ha : a.length ≤ 10) (hp : (partsV x.op).2 = true) : Sh (fun F => Tf.tapewrightref10_Shape.j16 F (jArg x a b (partsV x.op).1)) (endV x a b) := by
  have h3 : inL x.op opsZ = true ∨ (inL x.op opsO = true ∧ (partsV x.op).1 = 1) ∨ (inL x.op opsT = true ∧ (partsV x.op).1 = 2) := by
    revert hp
    unfold partsV
    repeat' split
    all_goals simp_all
  rcases h3 with h | ⟨h, hm⟩ | ⟨h, hm⟩
  · obtain ⟨o, h1, h2⟩ := inL_cases h
    simp only [opsZ, List.mem_cons, List.not_mem_nil, or_false] at h1
    rcases h1 with h1 | h1 | h1
    · exact rt_param (.inl (h2.trans h1))
    · exact rt_param (.inr (h2.trans h1))
    · exact rt_const hx (h2.trans h1)
  · by_cases c : inL x.op [⟨#[114, 101, 108, 117]⟩, ⟨#[97, 98, 115]⟩, ⟨#[115, 116, 101, 112]⟩, ⟨#[115, 105, 103, 110]⟩] = true
    · exact rt_one c hm
    obtain ⟨o, h1, h2⟩ := inL_cases h
    rw [h2] at c
    simp only [opsO, List.mem_cons, List.not_mem_nil, or_false] at h1
    rcases h1 with h1 | h1 | h1 | h1 | h1 | h1 | h1 | h1 | h1 | h1
    · exact absurd (by rw [h1]; decide +kernel) c
    · exact absurd (by rw [h1]; decide +kernel) c
    · exact absurd (by rw [h1]; decide +kernel) c
    · exact absurd (by rw [h1]; decide +kernel) c
    · exact rt_scale hx (h2.trans h1)
    · exact rt_power (h2.trans h1)
    · exact rt_transpose (h2.trans h1)
    · exact rt_sum (h2.trans h1)
    · exact rt_reshape (h2.trans h1)
    · exact rt_spread (h2.trans h1)
  · by_cases c : inL x.op [⟨#[97, 100, 100]⟩, ⟨#[115, 117, 98]⟩, ⟨#[109, 117, 108]⟩, ⟨#[109, 97, 120]⟩, ⟨#[97, 98, 111, 118, 101]⟩] = true
    · exact rt_two ha c hm
    obtain ⟨o, h1, h2⟩ := inL_cases h
    rw [h2] at c
    simp only [opsT, List.mem_cons, List.not_mem_nil, or_false] at h1
    rcases h1 with h1 | h1 | h1 | h1 | h1 | h1
    · exact absurd (by rw [h1]; decide +kernel) c
    · exact absurd (by rw [h1]; decide +kernel) c
    · exact absurd (by rw [h1]; decide +kernel) c
    · exact absurd (by rw [h1]; decide +kernel) c
    · exact absurd (by rw [h1]; decide +kernel) c
    · exact rt_matmul (h2.trans h1)
def infC (l : List VI.Node) (x : VI.Node) : Prop := (partsV x.op).2 = true ∧ bareV x (partsV x.op).1 = true ∧ ((partsV x.op).1 > 0 → 0 ≤ x.a ∧ x.a < l.length) ∧ ((partsV x.op).1 > 1 → 0 ≤ x.b ∧ x.b < l.length)
theorem inferV_no {l : List VI.Node} {x : VI.Node} (h : ¬ infC l x) : (inferV l x).2 = false := by
  have e : inferV l x = ([], false) := if_neg h
  rw [e]
theorem inferV_yes {l : List VI.Node} {x : VI.Node} (h : infC l x) : inferV l x = endV x (if (partsV x.op).1 > 0 then (nd l x.a).shape else []) (if (partsV x.op).1 > 1 then (nd l x.b).shape else []) := if_pos h
section
variable {l : List VI.Node} {x : VI.Node}
theorem rj11 (hl : ∀ y ∈ l, smallN y) (hx : smallN x) (hC : infC l x) : Sh (fun F => Tf.tapewrightref10_Shape.j11 F (x.op, (x.a, (x.b, (x.name, (x.shape, (x.k, (x.n, (x.data, ((partsV x.op).1, l)))))))))) (inferV l x) := by
  rw [inferV_yes hC]
  have e0 : ∀ i : Int, l.getD i.toNat (dflt 6) = nd l i := fun _ => rfl
  have hlen := nd_small hl
  have tl := fun a b ha => rtail x a b hx ha hC.1
  have CA := hC.2.2.1
  have CB := hC.2.2.2
  simp only [Tf.tapewrightref10_Shape.j11, Tf.tapewrightref10_Shape.j14, bif_if, decide_eq_true_eq, inR_iff, e0]
  simp only [jArg] at tl
  by_cases c1 : (partsV x.op).1 > 0
  · have e1 : (if (partsV x.op).1 > 0 then (nd l x.a).shape else []) = (nd l x.a).shape := if_pos c1
    rw [e1]
    by_cases c2 : (partsV x.op).1 > 1
    · have e2 : (if (partsV x.op).1 > 1 then (nd l x.b).shape else []) = (nd l x.b).shape := if_pos c2
      rw [e2]
      exact Sh.pos c1 (Sh.pos (CA c1) (Sh.same (Sh.pos c2 (Sh.pos (CB c2) (Sh.same (tl _ _ (hlen _)))))))
    · have e2 : (if (partsV x.op).1 > 1 then (nd l x.b).shape else []) = [] := if_neg c2
      rw [e2]
      exact Sh.pos c1 (Sh.pos (CA c1) (Sh.same (Sh.neg c2 (Sh.same (tl _ _ (hlen _))))))
  · have c2 : ¬ (partsV x.op).1 > 1 := by omega
    have e1 : (if (partsV x.op).1 > 0 then (nd l x.a).shape else []) = [] := if_neg c1
    have e2 : (if (partsV x.op).1 > 1 then (nd l x.b).shape else []) = [] := if_neg c2
    rw [e1, e2]
    exact Sh.neg c1 (Sh.same (Sh.neg c2 (Sh.same (tl _ _ (by simp)))))
/-- What the numbers of a node must be. -/
def numC (l : List VI.Node) (x : VI.Node) : Prop := (partsV x.op).2 = true ∧ ((partsV x.op).1 > 0 ∨ x.a = 0) ∧ ((partsV x.op).1 > 1 ∨ x.b = 0) ∧ ((partsV x.op).1 > 0 → 0 ≤ x.a ∧ x.a < l.length) ∧ ((partsV x.op).1 > 1 → 0 ≤ x.b ∧ x.b < l.length)
def nameC (x : VI.Node) : Prop := nameS x.name.data.toList = (seqB x.op oParam || seqB x.op oInput) ∧ ((seqB x.op oParam || seqB x.op oInput) = true ∨ seqB x.name ⟨#[]⟩ = true)
def moreC (x : VI.Node) : Prop := (seqB x.k ⟨#[]⟩ = true ∨ seqB x.op oScale = true) ∧ (x.n = 0 ∨ seqB x.op oPower = true) ∧ (x.data.length = 0 ∨ seqB x.op oConst = true)
theorem infC_iff : infC l x ↔ numC l x ∧ nameC x ∧ moreC x := by
  unfold infC numC nameC moreC bareV
  simp only [Bool.and_eq_true, Bool.or_eq_true, beq_iff_eq, decide_eq_true_eq]
  constructor
  · rintro ⟨h1, ⟨⟨⟨⟨⟨⟨a1, a2⟩, a3⟩, a4⟩, a5⟩, a6⟩, a7⟩, h3, h4⟩
    exact ⟨⟨h1, a1, a2, h3, h4⟩, ⟨a3, a4⟩, a5, a6, a7⟩
  · rintro ⟨⟨h1, a1, a2, h3, h4⟩, ⟨a3, a4⟩, a5, a6, a7⟩
    exact ⟨h1, ⟨⟨⟨⟨⟨⟨a1, a2⟩, a3⟩, a4⟩, a5⟩, a6⟩, a7⟩, h3, h4⟩
theorem rj9 (hl : ∀ y ∈ l, smallN y) (hx : smallN x) (hN : numC l x) (hM : nameC x) : Sh (fun F => Tf.tapewrightref10_Shape.j9 F (x.op, (x.a, (x.b, (x.name, (x.shape, (x.k, (x.n, (x.data, ((partsV x.op).1, l)))))))))) (inferV l x) := by
  have no : ¬ moreC x → (inferV l x).2 = false := fun h => inferV_no (fun q => h (infC_iff.1 q).2.2)
  have yes := fun h : moreC x => rj11 hl hx (infC_iff.2 ⟨hN, hM, h⟩)
  unfold moreC at no yes
  have hz : ((x.data.length : Int) > 0) = ¬ (x.data.length = 0) := by rw [eq_iff_iff]; omega
  simp only [Tf.tapewrightref10_Shape.j9, bif_if, decide_eq_true_eq, bne_iff_ne, Bool.not_eq_true', hz]
  generalize seqB x.op oScale = u1 at *
  generalize seqB x.k ⟨#[]⟩ = u2 at *
  generalize seqB x.op oPower = u3 at *
  generalize seqB x.op oConst = u4 at *
  repeat' first
    | refine Sh.if (fun _ => ?_) (fun _ => ?_)
    | (refine Sh.no (no ?_); (simp_all <;> omega))
    | (refine Sh.same (yes ?_); (simp_all <;> omega))
theorem rj4 (hl : ∀ y ∈ l, smallN y) (hx : smallN x) (hN : numC l x) : Sh (fun F => Tf.tapewrightref10_Shape.j4 F (x.op, (x.a, (x.b, (x.name, (x.shape, (x.k, (x.n, (x.data, ((partsV x.op).1, l)))))))))) (inferV l x) := by
  have no : ¬ nameC x → (inferV l x).2 = false := fun h => inferV_no (fun q => h (infC_iff.1 q).2.1)
  have yes := rj9 hl hx hN
  have hnm := rname_ev x.name (by have := hx.1; omega)
  have hnil : seqB x.name ⟨#[]⟩ = true → nameS x.name.data.toList = false := nameS_nil
  unfold nameC at no yes
  simp only [Tf.tapewrightref10_Shape.j4, bif_if, decide_eq_true_eq, bne_iff_ne, Bool.not_eq_true']
  generalize seqB x.op oParam = u1 at *
  generalize seqB x.op oInput = u2 at *
  generalize seqB x.name ⟨#[]⟩ = u3 at *
  generalize nameS x.name.data.toList = u4 at *
  repeat' first
    | refine Sh.if (fun _ => ?_) (fun _ => ?_)
    | refine Sh.bind hnm ?_
    | (refine Sh.no (no ?_); (simp_all <;> omega))
    | (refine Sh.same (yes ?_); (simp_all <;> omega))
end
/-- The document's shape of a node behind others. -/
theorem rshape_ev (l : List VI.Node) (x : VI.Node) (hl : ∀ y ∈ l, smallN y) (hx : smallN x) : Sh (fun F => Tf.tapewrightref10_Shape.f F (l, x)) (inferV l x) := by
  have no : ¬ numC l x → (inferV l x).2 = false := fun h => inferV_no (fun q => h (infC_iff.1 q).1)
  have yes := fun h : numC l x => rj4 hl hx h
  unfold numC at no yes
  have h3 := partsV_three x.op
  simp only [Tf.tapewrightref10_Shape.f, bif_if, decide_eq_true_eq, bne_iff_ne, Bool.not_eq_true', beq_iff_eq]
  refine Sh.bind (rparts_ev x.op) ?_
  by_cases hp : (partsV x.op).2 = true
  · rw [if_pos hp]
    generalize (partsV x.op).1 = m at *
    repeat' first
      | refine Sh.if (fun _ => ?_) (fun _ => ?_)
      | exact Sh.no (no (fun q => by omega))
      | exact Sh.same (yes ⟨hp, by omega, by omega, by omega, by omega⟩)
      | (exfalso; omega)
  · rw [if_neg hp]
    exact Sh.pos (by decide) (Sh.no (no (fun q => hp q.1)))
end Go.PL
namespace Go.PL
open Go Go.VI
def freeB (l : List VI.Node) (i k : Nat) : Bool := ((l.take i).drop k).all fun y => seqB (nd l (i : Int)).name ⟨#[]⟩ || !seqB y.name (nd l (i : Int)).name
theorem take_nd (l : List VI.Node) (i : Nat) (h : i < l.length) : l.take (i + 1) = l.take i ++ [nd l (i : Int)] := by
  rw [List.take_succ_eq_append_getElem h]; simp [nd, List.getD_eq_getElem?_getD, h]
theorem freeB_succ (l : List VI.Node) (i k : Nat) (hk : k < i) (hi : i ≤ l.length) : freeB l i k = ((seqB (nd l (i : Int)).name ⟨#[]⟩ || !seqB (nd l (k : Int)).name (nd l (i : Int)).name) && freeB l i (k + 1)) := by
  have hlt : k < (l.take i).length := by rw [List.length_take]; omega
  have hl2 : k < l.length := by omega
  unfold freeB
  rw [List.drop_eq_getElem_cons hlt, List.all_cons]
  have e : (l.take i)[k] = nd l (k : Int) := by simp [nd, List.getD_eq_getElem?_getD, hl2]
  rw [e]
theorem rnames_go (l : List VI.Node) (loss : Int) (i : Nat) (hi : i < l.length) (hn : l.length ≤ 1000) : ∀ (d k : Nat), k + d = i →
    EvG (fun _ L => L ((k : Int), ((i : Int), (l, loss)))) Tf.tapewrightref10_Right.s10 (if freeB l i k = true then .inr (l, (loss, (i : Int))) else .inl false) := by
  intro d
  induction d with
  | zero =>
    intro k hk
    have : freeB l i k = true := by
      unfold freeB
      rw [List.drop_eq_nil_of_le (by rw [List.length_take]; omega)]; rfl
    rw [if_pos this]
    refine EvG.step (fun F L => ?_) (EvG.now _)
    dsimp only [Tf.tapewrightref10_Right.s10]
    simp only [bif_if, decide_eq_true_eq]
    rw [if_neg (by omega)]
  | succ d ih =>
    intro k hk
    have hn' := ih (k + 1) (by omega)
    have e0 : ∀ j : Int, l.getD j.toNat (dflt 6) = nd l j := fun _ => rfl
    have hw : IntKind.i64.wrap ((k : Int) + 1) = ((k + 1 : Nat) : Int) := by rw [w64 (by omega) (by omega), succ_cast]
    rw [freeB_succ l i k (by omega) (by omega)]
    refine EvG.loop ?_
    simp only [Tf.tapewrightref10_Right.s10, bif_if, decide_eq_true_eq, inR_iff, e0, hw, Bool.not_eq_true']
    cases c1 : seqB (nd l (i : Int)).name ⟨#[]⟩ with
    | true =>
      rw [Bool.true_or, Bool.true_and]
      exact EvG.pos (by omega) (EvG.pos (by omega) (EvG.neg (by simp) hn'))
    | false =>
      rw [Bool.false_or]
      refine EvG.pos (by omega) (EvG.pos (by omega) (EvG.pos rfl (EvG.pos (by omega) (EvG.pos (by omega) ?_))))
      cases c2 : seqB (nd l (k : Int)).name (nd l (i : Int)).name with
      | true =>
        rw [Bool.not_true, Bool.false_and, if_neg (by simp)]
        exact EvG.pos rfl (EvG.now _)
      | false =>
        rw [Bool.not_false, Bool.true_and]
        exact EvG.neg (by simp) hn'
/-- A graph's nodes, from i on. -/
def rightR : List VI.Node → Nat → Nat → Bool
  | _, 0, _ => true
  | l, n + 1, i => if (inferV (l.take i) (nd l (i : Int))).2 = true ∧ (inferV (l.take i) (nd l (i : Int))).1 = (nd l (i : Int)).shape ∧ freeB l i 0 = true then rightR l n (i + 1) else false
theorem rgraph_go (l : List VI.Node) (loss : Int) (hl : ∀ y ∈ l, smallN y) (hn : l.length ≤ 1000) : ∀ (n i : Nat), i + n = l.length →
    ∃ r : Bool ⊕ Unit, sumE r (fun b => b) (fun _ => true) = rightR l n i ∧ EvG (fun _ L => L ((i : Int), (l, loss))) Tf.tapewrightref10_Right.s4 r := by
  intro n
  induction n with
  | zero =>
    intro i hi
    refine ⟨.inr (), rfl, EvG.step (fun F L => ?_) (EvG.now _)⟩
    dsimp only [Tf.tapewrightref10_Right.s4]
    simp only [bif_if, decide_eq_true_eq]
    rw [if_neg (by omega)]
  | succ n ih =>
    intro i hi
    have hmem : nd l (i : Int) ∈ l := nd_mem ⟨by omega, by omega⟩
    have e0 : ∀ j : Int, l.getD j.toNat (dflt 6) = nd l j := fun _ => rfl
    have e1 : (l.take (i : Int).toNat).drop 0 = l.take i := by simp
    have hw : IntKind.i64.wrap ((i : Int) + 1) = ((i + 1 : Nat) : Int) := by rw [w64 (by omega) (by omega), succ_cast]
    obtain ⟨t, hsh, hq⟩ := rshape_ev (l.take i) (nd l (i : Int)) (fun y hy => hl y (List.mem_of_mem_take hy)) (hl _ hmem)
    have hlen := inferV_len (l.take i) (nd l (i : Int))
    have hnm := rnames_go l loss i (by omega) hn i 0 (by omega)
    obtain ⟨r, g1, g2⟩ := ih (i + 1) (by omega)
    rw [rightR]
    have open_ : ∀ {r : Bool ⊕ Unit}, EvG (fun F L => if (inferV (l.take i) (nd l (i : Int))).2 = false then some (.inl false) else (Tf.tapewrightref04_Same.f F (t, (nd l (i : Int)).shape)).bind fun y => if y = false then some (.inl false) else
        (Tf.tapewrightref10_Right.l10 F (0, ((i : Int), (l, loss)))).bind fun y77 => sumE y77 (fun y78 => some (.inl y78)) (fun y78 => L (IntKind.i64.wrap (y78.2.2 + 1), (y78.1, y78.2.1)))) Tf.tapewrightref10_Right.s4 r →
        EvG (fun _ L => L ((i : Int), (l, loss))) Tf.tapewrightref10_Right.s4 r := by
      intro r h
      refine EvG.loop ?_
      simp only [Tf.tapewrightref10_Right.s4, bif_if, decide_eq_true_eq, Bool.and_eq_true, inR_iff, e0, e1, Bool.not_eq_true']
      refine EvG.pos (by omega) (EvG.pos (by omega) (EvG.pos (by omega) (EvG.bind hsh ?_)))
      refine EvG.congr (fun F L => ?_) h
      rw [if_pos (show (0 : Int) ≤ (i : Int) ∧ (i : Int) < (l.length : Int) by omega)]
    cases h2 : (inferV (l.take i) (nd l (i : Int))).2 with
    | false =>
      rw [if_neg (fun q => by cases q.1)]
      exact ⟨.inl false, rfl, open_ (EvG.pos h2 (EvG.now _))⟩
    | true =>
      have ht := hq h2
      have hsame := rsame_ev t (nd l (i : Int)).shape (by rw [ht]; omega)
      rw [← ht]
      by_cases h3 : t = (nd l (i : Int)).shape
      · cases h4 : freeB l i 0 with
        | false =>
          rw [h4, if_neg (by simp)] at hnm
          rw [if_neg (fun q => by cases q.2.2)]
          exact ⟨.inl false, rfl, open_ (EvG.neg (by rw [h2]; simp) (EvG.bind hsame (EvG.neg (by simp [h3]) (EvG.bind (Ev.iter hnm) (EvG.now _)))))⟩
        | true =>
          rw [h4, if_pos rfl] at hnm
          rw [if_pos ⟨rfl, h3, rfl⟩]
          refine ⟨r, g1, open_ (EvG.neg (by rw [h2]; simp) (EvG.bind hsame (EvG.neg (by simp [h3]) (EvG.bind (Ev.iter hnm) ?_))))⟩
          show EvG (fun F L => L (IntKind.i64.wrap ((i : Int) + 1), (l, loss))) _ r
          rw [hw]
          exact g2
      · rw [if_neg (fun q => h3 q.2.1)]
        exact ⟨.inl false, rfl, open_ (EvG.neg (by rw [h2]; simp) (EvG.bind hsame (EvG.pos (by simp [h3]) (EvG.now _))))⟩
theorem freeB_any (l : List VI.Node) (i : Nat) (h : ¬ seqB (nd l (i : Int)).name ⟨#[]⟩ = true) : freeB l i 0 = true ↔ ¬ (l.take i).any (fun y => seqB y.name (nd l (i : Int)).name) = true := by
  have c : seqB (nd l (i : Int)).name ⟨#[]⟩ = false := by simpa using h
  unfold freeB
  rw [List.drop_zero]
  simp only [c, Bool.false_or, List.all_eq_true, List.any_eq_true, Bool.not_eq_true']
  constructor
  · rintro h ⟨y, h1, h2⟩
    rw [h y h1] at h2; cases h2
  · intro h y hy
    cases h2 : seqB y.name (nd l (i : Int)).name with
    | false => rfl
    | true => exact absurd ⟨y, hy, h2⟩ h
theorem rightR_eq (l : List VI.Node) : ∀ (n i : Nat) (m : List (ByteArray × Int)), i + n = l.length → (∀ w, ¬ seqB w ⟨#[]⟩ = true → (getM m w).getD 0 = if (l.take i).any (fun y => seqB y.name w) = true then 1 else 0) → rightR l n i = rightV l n i m := by
  intro n
  induction n with
  | zero => intro i m _ _; rfl
  | succ n ih =>
    intro i m hi hm
    unfold rightV
    rw [rightR]
    simp only
    have e3 : freeB l i 0 = true ↔ (seqB (nd l (i : Int)).name ⟨#[]⟩ = true ∨ (getM m (nd l (i : Int)).name).getD 0 ≤ 0) := by
      by_cases c : seqB (nd l (i : Int)).name ⟨#[]⟩ = true
      · refine ⟨fun _ => .inl c, fun _ => ?_⟩
        unfold freeB
        rw [List.all_eq_true]
        intro y _
        rw [c, Bool.true_or]
      · rw [freeB_any l i c, hm _ c]
        by_cases q : (l.take i).any (fun y => seqB y.name (nd l (i : Int)).name) = true
        · rw [if_pos q]; exact ⟨fun h => absurd q h, fun h => by rcases h with h | h; exact absurd h c; omega⟩
        · rw [if_neg q]; exact ⟨fun _ => .inr (by omega), fun _ => q⟩
    by_cases c : (inferV (l.take i) (nd l (i : Int))).2 = true ∧ (inferV (l.take i) (nd l (i : Int))).1 = (nd l (i : Int)).shape ∧ freeB l i 0 = true
    · rw [if_pos c, if_pos ⟨c.1, c.2.1, e3.1 c.2.2⟩]
      refine ih (i + 1) _ (by omega) (fun w hw => ?_)
      rw [getM_putM, take_nd l i (by omega), List.any_append]
      by_cases q : seqB w (nd l (i : Int)).name = true
      · have q2 : seqB (nd l (i : Int)).name w = true := by rw [seqB_symm]; exact q
        have qe := seqB_eq q
        have hz := hm w hw
        have hfree := (freeB_any l i (by rw [← qe]; exact hw)).1 c.2.2
        rw [← qe] at hfree
        rw [if_neg hfree] at hz
        rw [if_pos q, ← qe, hz, if_pos (by simp [q2, ← qe, seqB_rfl])]
        decide
      · have q2 : seqB (nd l (i : Int)).name w = false := by rw [seqB_symm]; simpa using q
        rw [if_neg q, hm w hw]
        simp [q2]
    · rw [if_neg c, if_neg (fun h => c ⟨h.1, h.2.1, e3.2 h.2.2⟩)]
/-- The document's right graphs. -/
theorem rgraph_ev (l : List VI.Node) (loss : Int) (hl : ∀ y ∈ l, smallN y) (hn : l.length ≤ 1000) : Ev (fun F => Tf.tapewrightref10_Right.f F (l, loss)) (graphV l loss) := by
  simp only [Tf.tapewrightref10_Right.f, bif_if, decide_eq_true_eq, inR_iff]
  have e0 : l.getD loss.toNat (dflt 6) = nd l loss := rfl
  simp only [e0]
  unfold graphV
  by_cases c1 : (l.length : Int) < 1
  · exact Ev.to (if_neg (by omega)) (Ev_pos c1 (Ev.now _))
  by_cases c2 : (l.length : Int) > 200
  · exact Ev.to (if_neg (by omega)) (Ev_neg c1 (Ev_pos c2 (Ev.now _)))
  by_cases c3 : loss < 0
  · exact Ev.to (if_neg (by omega)) (Ev_neg c1 (Ev_neg c2 (Ev_pos c3 (Ev.now _))))
  by_cases c4 : loss ≥ (l.length : Int)
  · exact Ev.to (if_neg (by omega)) (Ev_neg c1 (Ev_neg c2 (Ev_neg c3 (Ev_pos c4 (Ev.now _)))))
  refine Ev_neg c1 (Ev_neg c2 (Ev_neg c3 (Ev_neg c4 (Ev_pos (by omega) ?_))))
  by_cases c5 : (nd l loss).shape = []
  · obtain ⟨r, g1, g2⟩ := rgraph_go l loss hl hn l.length 0 (by omega)
    refine Ev.to (if_pos ⟨by omega, by omega, by omega, by omega, c5⟩) (Ev_neg (by simp [c5]) ?_)
    rw [← rightR_eq l l.length 0 [] (by omega) (fun w _ => rfl), ← g1]
    refine Ev.bind (Ev.iter g2) ?_
    cases r with
    | inl b => exact Ev.now _
    | inr u => exact Ev.now _
  · refine Ev.to (if_neg (fun h => c5 h.2.2.2.2)) (Ev_pos ?_ (Ev.now _))
    cases h : (nd l loss).shape with
    | nil => exact absurd h c5
    | cons x t => simp
end Go.PL
namespace Go.PL
open Go Go.VI
theorem keepGo_rd (n : Int) : ∀ (r o : List Int) (j : Nat), j < o.length → (∀ p ∈ r, 0 ≤ p) → rd (keepGo n r o) (j : Int) = if (j : Int) ∈ r then n else rd o (j : Int)
  | [], o, j, _, _ => by simp [keepGo]
  | p :: r, o, j, hj, hp => by
    have h0 := hp p (by simp)
    rw [keepGo, keepGo_rd n r _ j (by simpa using hj) (fun q hq => hp q (by simp [hq])), rd_set_any _ _ _ _ hj]
    by_cases c : (j : Int) ∈ r
    · rw [if_pos c, if_pos (by simp [c])]
    · rw [if_neg c]
      by_cases e : p.toNat = j
      · rw [if_pos e, if_pos (by simp; omega)]
      · rw [if_neg e, if_neg (by simp [c]; omega)]
theorem lastV_kept (l : List VI.Node) (loss : Int) (keep : List Int) (hk : okB l loss keep = true) (j : Nat) (hj : j < l.length) :
    rd (lastV l loss keep) (j : Int) = if (j : Int) ∈ loss :: keep then (l.length : Int) else rd (lastGo l l.length 0 (List.replicate l.length 0)) (j : Int) := by
  unfold lastV
  exact keepGo_rd _ _ _ j (by rw [lastGo_len]; simpa using hj) fun p hp => by
    rcases List.mem_cons.1 hp with rfl | h
    · exact (ok_right hk).lo
    · exact (ok_keep hk p h).1
def allN (i : Nat) : List Int := (List.range i).map fun k : Nat => (k : Int)
theorem allN_len (i : Nat) : (allN i).length = i := by simp [allN]
theorem allN_succ (i : Nat) : allN (i + 1) = allN i ++ [(i : Int)] := by simp [allN, List.range_succ]
theorem mem_allN {i : Nat} {p : Int} : p ∈ allN i ↔ 0 ≤ p ∧ p < (i : Int) := by
  simp only [allN, List.mem_map, List.mem_range]
  constructor
  · rintro ⟨k, h, rfl⟩; omega
  · intro ⟨h1, h2⟩; exact ⟨p.toNat, by omega, by omega⟩
theorem okB_all (l : List VI.Node) (loss : Int) : okB l loss (allN l.length) = graphV l loss := by
  unfold okB
  have : (allN l.length).any (outB l.length) = false := by
    rw [List.any_eq_false]
    intro p hp
    have := mem_allN.1 hp
    simp [outB]; omega
  rw [this]; simp
theorem ok_graph {l : List VI.Node} {loss : Int} {keep : List Int} (h : okB l loss keep = true) : graphV l loss = true := by
  unfold okB at h
  simp only [Bool.and_eq_true] at h
  exact h.1
theorem idxZ_none (p : Int → Bool) : ∀ (l : List Int) (i : Int), (∀ x ∈ l, p x = false) → idxZ p l i = -1
  | [], _, _ => rfl
  | x :: l, i, h => by rw [idxZ, if_neg (by rw [h x (by simp)]; simp), idxZ_none p l (i + 1) (fun y hy => h y (by simp [hy]))]
theorem makeGo_all (last : List Int) (n : Nat) (hl : ∀ j : Nat, j < n → rd last (j : Int) = n) : ∀ (d i : Nat), i + d = n → makeGo last d i (List.replicate i (n : Int)) (allN i) = (allN n, (n : Int)) := by
  intro d
  induction d with
  | zero => intro i hi; rw [makeGo, show i = n by omega]; simp
  | succ d ih =>
    intro i hi
    rw [makeGo, if_pos, hl i (by omega), List.length_replicate, ← allN_succ, show List.replicate i (n : Int) ++ [(n : Int)] = List.replicate (i + 1) (n : Int) by rw [List.replicate_succ']]
    · exact ih (i + 1) (by omega)
    · rw [idxZ_none _ _ _ fun x hx => by rw [(List.mem_replicate.1 hx).2]; simp; omega]
      omega
end Go.PL
namespace Go.PL
open Go Go.VI
/-- Node x is made of node q. -/
def madeB (x : VI.Node) (q : Int) : Bool := (decide ((partsV x.op).1 > 0) && decide (x.a = q)) || (decide ((partsV x.op).1 > 1) && decide (x.b = q))
theorem parts_of {x : VI.Node} {i : Nat} (h : partsOk x i) : (if (partsV x.op).2 = true then (partsV x.op).1 else -1) = (partsV x.op).1 := if_pos h.1
theorem uses_ev (x : VI.Node) (q : Int) : ∃ b, Ev (fun F => Tf.tapewrightref16_uses.f F (x, q)) b := by
  simp only [Tf.tapewrightref16_uses.f, bif_if, decide_eq_true_eq, beq_iff_eq]
  have hp := rparts_ev x.op
  generalize (if (partsV x.op).2 = true then (partsV x.op).1 else -1) = m at hp
  by_cases c1 : m > 0
  · by_cases c2 : x.a = q
    · exact ⟨true, Ev.bind hp (Ev_pos c1 (Ev_pos c2 (Ev.now _)))⟩
    · by_cases c3 : m > 1
      · exact ⟨_, Ev.bind hp (Ev_pos c1 (Ev_neg c2 (Ev_pos c3 (Ev.now _))))⟩
      · exact ⟨false, Ev.bind hp (Ev_pos c1 (Ev_neg c2 (Ev_neg c3 (Ev.now _))))⟩
  · by_cases c3 : m > 1
    · exact ⟨_, Ev.bind hp (Ev_neg c1 (Ev_pos c3 (Ev.now _)))⟩
    · exact ⟨false, Ev.bind hp (Ev_neg c1 (Ev_neg c3 (Ev.now _)))⟩
theorem need_l4 (l : List VI.Node) (loss at_ : Int) (keep : List Int) (known : List Bool) (hk : keep.length ≤ 1000) : ∀ (d i : Nat), i + d = keep.length →
    ∃ r : Bool ⊕ (Int × ((List VI.Node) × (Int × (List Bool)))), (r = .inl true ∨ r = .inr (at_, (l, (loss, known)))) ∧ EvG (fun _ L => L ((i : Int), (at_, (keep, (l, (loss, known)))))) Tf.tapewrightref16_need.s4 r := by
  intro d
  induction d with
  | zero =>
    intro i hi
    refine ⟨_, .inr rfl, EvG.step (fun F L => ?_) (EvG.now _)⟩
    dsimp only [Tf.tapewrightref16_need.s4]
    simp only [bif_if, decide_eq_true_eq]
    rw [if_neg (by omega)]
  | succ d ih =>
    intro i hi
    have hw : IntKind.i64.wrap ((i : Int) + 1) = ((i + 1 : Nat) : Int) := by rw [w64 (by omega) (by omega), succ_cast]
    obtain ⟨r, h1, h2⟩ := ih (i + 1) (by omega)
    by_cases c : rd keep (i : Int) = at_
    · refine ⟨.inl true, .inl rfl, EvG.loop ?_⟩
      simp only [Tf.tapewrightref16_need.s4, bif_if, decide_eq_true_eq, inR_iff, rd_def, hw, beq_iff_eq]
      exact EvG.pos (by omega) (EvG.pos (by omega) (EvG.pos c (EvG.now _)))
    · refine ⟨r, h1, EvG.loop ?_⟩
      simp only [Tf.tapewrightref16_need.s4, bif_if, decide_eq_true_eq, inR_iff, rd_def, hw, beq_iff_eq]
      exact EvG.pos (by omega) (EvG.pos (by omega) (EvG.neg c h2))
theorem need_l9 (l : List VI.Node) (loss at_ : Int) (known : List Bool) (hk : known.length = l.length) (hn : l.length ≤ 1000) : ∀ (d i : Nat), i + d = l.length →
    ∃ r : Bool ⊕ Unit, EvG (fun _ L => L ((i : Int), (at_, (l, (loss, known))))) Tf.tapewrightref16_need.s9 r := by
  intro d
  induction d with
  | zero =>
    intro i hi
    refine ⟨.inr (), EvG.step (fun F L => ?_) (EvG.now _)⟩
    dsimp only [Tf.tapewrightref16_need.s9]
    simp only [bif_if, decide_eq_true_eq]
    rw [if_neg (by omega)]
  | succ d ih =>
    intro i hi
    have hw : IntKind.i64.wrap ((i : Int) + 1) = ((i + 1 : Nat) : Int) := by rw [w64 (by omega) (by omega), succ_cast]
    have e0 : ∀ j : Int, l.getD j.toNat (dflt 6) = nd l j := fun _ => rfl
    obtain ⟨r, h2⟩ := ih (i + 1) (by omega)
    by_cases c : known.getD (i : Int).toNat false = true
    · obtain ⟨b, hb⟩ := uses_ev (nd l (i : Int)) at_
      cases b with
      | true =>
        refine ⟨.inl true, EvG.loop ?_⟩
        simp only [Tf.tapewrightref16_need.s9, bif_if, decide_eq_true_eq, inR_iff, hw, e0]
        exact EvG.pos (by omega) (EvG.pos (by omega) (EvG.pos c (EvG.pos (by omega) (EvG.bind hb (EvG.pos rfl (EvG.now _))))))
      | false =>
        refine ⟨r, EvG.loop ?_⟩
        simp only [Tf.tapewrightref16_need.s9, bif_if, decide_eq_true_eq, inR_iff, hw, e0]
        exact EvG.pos (by omega) (EvG.pos (by omega) (EvG.pos c (EvG.pos (by omega) (EvG.bind hb (EvG.neg (by simp) h2)))))
    · refine ⟨r, EvG.loop ?_⟩
      simp only [Tf.tapewrightref16_need.s9, bif_if, decide_eq_true_eq, inR_iff, hw, e0]
      exact EvG.pos (by omega) (EvG.pos (by omega) (EvG.neg c h2))
theorem need_ev (l : List VI.Node) (loss : Int) (keep : List Int) (known : List Bool) (q : Nat) (hq : q < l.length) (hk : known.length = l.length) (hn : l.length ≤ 1000) (hkl : keep.length ≤ 1000) :
    ∃ b, Ev (fun F => Tf.tapewrightref16_need.f F ((l, loss), (keep, ((q : Int), known)))) b := by
  have e0 : ∀ j : Int, l.getD j.toNat (dflt 6) = nd l j := fun _ => rfl
  simp only [Tf.tapewrightref16_need.f, bif_if, beq_iff_eq, inR_iff, Bool.not_eq_true', e0]
  by_cases c1 : (q : Int) = loss
  · exact ⟨true, Ev_pos c1 (Ev.now _)⟩
  cases c2 : seqB (nd l (q : Int)).name ⟨#[]⟩ with
  | false => exact ⟨true, Ev_neg c1 (Ev_pos (by omega) (Ev_pos rfl (Ev.now _)))⟩
  | true =>
    obtain ⟨r, h1, h2⟩ := need_l4 l loss q keep known hkl keep.length 0 (by omega)
    have hw : IntKind.i64.wrap ((q : Int) + 1) = ((q + 1 : Nat) : Int) := by rw [w64 (by omega) (by omega), succ_cast]
    obtain ⟨r9, h9⟩ := need_l9 l loss q known hk hn (l.length - (q + 1)) (q + 1) (by omega)
    rcases h1 with h1 | h1
    · subst h1
      exact ⟨true, Ev_neg c1 (Ev_pos (by omega) (Ev_neg (by simp) (Ev.bind (Ev.iter h2) (Ev.now _))))⟩
    · subst h1
      rw [← hw] at h9
      cases r9 with
      | inl b => exact ⟨b, Ev_neg c1 (Ev_pos (by omega) (Ev_neg (by simp) (Ev.bind (Ev.iter h2) (Ev.bind (Ev.iter h9) (Ev.now _)))))⟩
      | inr u => exact ⟨false, Ev_neg c1 (Ev_pos (by omega) (Ev_neg (by simp) (Ev.bind (Ev.iter h2) (Ev.bind (Ev.iter h9) (Ev.now _)))))⟩
theorem rneeded_l2 (l : List VI.Node) (loss : Int) (keep : List Int) (hkl : keep.length ≤ 1000) : ∀ (d i : Nat), i + d = keep.length →
    EvG (fun _ L => L ((i : Int), (l, (loss, keep)))) Tf.tapewrightref16_Needed.s2 (if (keep.drop i).any (outB l.length) = true then .inl ([], false) else .inr (keep, (l, loss))) := by
  intro d
  induction d with
  | zero =>
    intro i hi
    rw [List.drop_eq_nil_of_le (by omega), if_neg (by simp)]
    refine EvG.step (fun F L => ?_) (EvG.now _)
    dsimp only [Tf.tapewrightref16_Needed.s2]
    simp only [bif_if, decide_eq_true_eq]
    rw [if_neg (by omega)]
  | succ d ih =>
    intro i hi
    have hw : IntKind.i64.wrap ((i : Int) + 1) = ((i + 1 : Nat) : Int) := by rw [w64 (by omega) (by omega), succ_cast]
    have h2 := ih (i + 1) (by omega)
    rw [drop_rd keep i (by omega), List.any_cons]
    refine EvG.loop ?_
    simp only [Tf.tapewrightref16_Needed.s2, bif_if, decide_eq_true_eq, inR_iff, rd_def, hw]
    generalize rd keep (i : Int) = p
    by_cases c1 : p < 0
    · have : outB l.length p = true := by simp [outB, c1]
      rw [this, Bool.true_or, if_pos rfl]
      exact EvG.pos (by omega) (EvG.pos (by omega) (EvG.pos c1 (EvG.now _)))
    by_cases c2 : p ≥ (l.length : Int)
    · have : outB l.length p = true := by simp [outB]; omega
      rw [this, Bool.true_or, if_pos rfl]
      exact EvG.pos (by omega) (EvG.pos (by omega) (EvG.neg c1 (EvG.pos (by omega) (EvG.pos c2 (EvG.now _)))))
    · have : outB l.length p = false := by simp [outB]; omega
      rw [this, Bool.false_or]
      exact EvG.pos (by omega) (EvG.pos (by omega) (EvG.neg c1 (EvG.pos (by omega) (EvG.neg c2 h2))))
theorem rneeded_l8 (l : List VI.Node) (loss : Int) (keep : List Int) (hn : l.length ≤ 1000) (hkl : keep.length ≤ 1000) : ∀ (i : Nat) (known : List Bool), i ≤ l.length → known.length = l.length →
    ∃ v, EvG (fun _ L => L ((i : Int) - 1, (known, (keep, (l, loss))))) Tf.tapewrightref16_Needed.s8 v := by
  intro i
  induction i with
  | zero =>
    intro known _ _
    refine ⟨known, EvG.step (fun F L => ?_) (EvG.now _)⟩
    dsimp only [Tf.tapewrightref16_Needed.s8]
    simp only [bif_if, decide_eq_true_eq]
    rw [if_neg (by omega)]
  | succ i ih =>
    intro known hi hk
    obtain ⟨b, hb⟩ := need_ev l loss keep known i (by omega) hk hn hkl
    have hw : IntKind.i64.wrap ((i : Int) - 1) = (i : Int) - 1 := w64 (by omega) (by omega)
    obtain ⟨v, hv⟩ := ih (known.set i b) (by omega) (by simp [hk])
    have e : (((i + 1 : Nat) : Int) - 1) = (i : Int) := by omega
    rw [e]
    refine ⟨v, EvG.loop ?_⟩
    simp only [Tf.tapewrightref16_Needed.s8, bif_if, decide_eq_true_eq, inR_iff, hw, Int.toNat_natCast]
    exact EvG.pos (by omega) (EvG.bind hb (EvG.pos (by omega) hv))
theorem rneeded_ev (l : List VI.Node) (loss : Int) (keep : List Int) (hn : l.length ≤ 1000) (hkl : keep.length ≤ 1000) : ∃ v, Ev (fun F => Tf.tapewrightref16_Needed.f F ((l, loss), keep)) (v, !(keep.any (outB l.length))) := by
  have h2 := rneeded_l2 l loss keep hkl keep.length 0 (by omega)
  rw [List.drop_zero] at h2
  simp only [Tf.tapewrightref16_Needed.f, bif_if, decide_eq_true_eq, Bool.and_eq_true]
  cases c : keep.any (outB l.length) with
  | true =>
    rw [c, if_pos rfl] at h2
    exact ⟨[], Ev.bind (Ev.iter h2) (Ev.now _)⟩
  | false =>
    rw [c, if_neg (by simp)] at h2
    obtain ⟨v, hv⟩ := rneeded_l8 l loss keep hn hkl l.length (List.replicate l.length false) (Nat.le_refl _) (by simp)
    have hw : IntKind.i64.wrap ((l.length : Int) - 1) = (l.length : Int) - 1 := w64 (by omega) (by omega)
    rw [← hw] at hv
    exact ⟨v, Ev.bind (Ev.iter h2) (Ev_pos (by dsimp only; omega) (Ev.bind (Ev.iter hv) (Ev.now _)))⟩
def lastAt (l : List VI.Node) (q : Int) : Nat → Nat → Int → Int
  | 0, _, o => o
  | d + 1, i, o => lastAt l q d (i + 1) (if madeB (nd l (i : Int)) q = true then (i : Int) else o)
theorem rlast_l3 (l : List VI.Node) (loss q : Int) (keep : List Int) (hn : l.length ≤ 1000) (hp : ∀ j : Nat, j < l.length → partsOk (nd l (j : Int)) j) : ∀ (d i : Nat) (o : Int), i + d = l.length →
    EvG (fun _ L => L ((i : Int), (q, (l, (loss, (keep, o)))))) Tf.tapewrightref17_last.s3 (l, (loss, (q, (keep, lastAt l q d i o)))) := by
  intro d
  induction d with
  | zero =>
    intro i o hi
    refine EvG.step (fun F L => ?_) (EvG.now _)
    dsimp only [Tf.tapewrightref17_last.s3]
    simp only [bif_if, decide_eq_true_eq]
    rw [if_neg (by omega)]
    rfl
  | succ d ih =>
    intro i o hi
    have hw : IntKind.i64.wrap ((i : Int) + 1) = ((i + 1 : Nat) : Int) := by rw [w64 (by omega) (by omega), succ_cast]
    have e0 : ∀ j : Int, l.getD j.toNat (dflt 6) = nd l j := fun _ => rfl
    have hpp := rparts_ev (nd l (i : Int)).op
    rw [parts_of (hp i (by omega))] at hpp
    have h2 := ih (i + 1) (if madeB (nd l (i : Int)) q = true then (i : Int) else o) (by omega)
    rw [lastAt]
    refine EvG.loop ?_
    simp only [Tf.tapewrightref17_last.s3, bif_if, decide_eq_true_eq, inR_iff, hw, e0, beq_iff_eq]
    refine EvG.pos (by omega) (EvG.pos (by omega) (EvG.bind hpp ?_))
    unfold madeB at h2 ⊢
    generalize nd l (i : Int) = x at *
    generalize (partsV x.op).1 = m at *
    by_cases c1 : m > 0
    · refine EvG.pos c1 (EvG.pos (by omega) ?_)
      by_cases c2 : x.a = q
      · rw [if_pos (by simp [c1, c2])] at h2 ⊢
        exact EvG.pos c2 h2
      · refine EvG.neg c2 ?_
        by_cases c3 : m > 1
        · by_cases c4 : x.b = q
          · rw [if_pos (by simp [c3, c4])] at h2 ⊢
            exact EvG.pos c3 (EvG.pos (by omega) (EvG.pos c4 h2))
          · rw [if_neg (by simp [c2, c4])] at h2 ⊢
            exact EvG.pos c3 (EvG.pos (by omega) (EvG.neg c4 h2))
        · rw [if_neg (by simp [c2]; omega)] at h2 ⊢
          exact EvG.neg c3 h2
    · have c3 : ¬ m > 1 := by omega
      rw [if_neg (by simp; omega)] at h2 ⊢
      exact EvG.neg c1 (EvG.neg c3 h2)
theorem rlast_l9 (l : List VI.Node) (loss q : Int) (keep : List Int) (hkl : keep.length ≤ 1000) : ∀ (d i : Nat) (o : Int), i + d = keep.length →
    EvG (fun _ L => L ((i : Int), (l, (loss, (q, (keep, o)))))) Tf.tapewrightref17_last.s9 (l, (loss, ((if q ∈ keep.drop i then (l.length : Int) else o), q))) := by
  intro d
  induction d with
  | zero =>
    intro i o hi
    rw [List.drop_eq_nil_of_le (by omega), if_neg (by simp)]
    refine EvG.step (fun F L => ?_) (EvG.now _)
    dsimp only [Tf.tapewrightref17_last.s9]
    simp only [bif_if, decide_eq_true_eq]
    rw [if_neg (by omega)]
  | succ d ih =>
    intro i o hi
    have hw : IntKind.i64.wrap ((i : Int) + 1) = ((i + 1 : Nat) : Int) := by rw [w64 (by omega) (by omega), succ_cast]
    rw [drop_rd keep i (by omega)]
    refine EvG.loop ?_
    simp only [Tf.tapewrightref17_last.s9, bif_if, decide_eq_true_eq, inR_iff, rd_def, hw, beq_iff_eq]
    refine EvG.pos (by omega) (EvG.pos (by omega) ?_)
    by_cases c : rd keep (i : Int) = q
    · have h2 := ih (i + 1) (l.length : Int) (by omega)
      rw [if_pos (by simp [c])]
      rw [show (if q ∈ keep.drop (i + 1) then (l.length : Int) else (l.length : Int)) = l.length by split <;> rfl] at h2
      exact EvG.pos c h2
    · have h2 := ih (i + 1) o (by omega)
      have e : (if q ∈ rd keep (i : Int) :: keep.drop (i + 1) then (l.length : Int) else o) = (if q ∈ keep.drop (i + 1) then (l.length : Int) else o) := by
        by_cases c3 : q ∈ keep.drop (i + 1)
        · rw [if_pos c3, if_pos (List.mem_cons_of_mem _ c3)]
        · rw [if_neg c3, if_neg (fun h => by rcases List.mem_cons.1 h with h | h; exact c h.symm; exact c3 h)]
      rw [e]
      exact EvG.neg c h2
theorem stepL_rd {x : VI.Node} {i : Nat} (hp : partsOk x i) (o : List Int) (q : Nat) (hq : q < o.length) (hi : i ≤ o.length) : rd (stepL x i o) (q : Int) = if madeB x (q : Int) = true then (i : Int) else rd o (q : Int) := by
  unfold stepL
  by_cases hz : inL x.op opsZ = true
  · have : (partsV x.op).1 = 0 := by unfold partsV; rw [if_pos hz]
    rw [if_pos hz, if_neg (by simp [madeB, this])]
  rw [if_neg hz]
  have n1 := nz_pos hp hz
  have A := hp.2.1 n1
  by_cases hT : inL x.op opsT = true
  · rw [if_pos hT]
    have n2 := t_two hT
    have B := hp.2.2 (by omega)
    rw [rd_set_any _ _ _ _ (by simpa using hq), rd_set_any _ _ _ _ hq]
    by_cases ca : x.a = (q : Int)
    · rw [if_pos (by omega), if_pos (by simp [madeB, n1, ca])]
    · rw [if_neg (by omega)]
      by_cases cb : x.b = (q : Int)
      · rw [if_pos (by omega), if_pos (by simp [madeB, n2, cb])]
      · rw [if_neg (by omega), if_neg (by simp [madeB, ca, cb])]
  · rw [if_neg hT]
    have n2 : ¬ (partsV x.op).1 > 1 := by
      have hs := hp.1
      have : inL x.op opsO = true := by
        unfold partsV at hs
        rw [if_neg hz] at hs
        by_cases h : inL x.op opsO = true
        · exact h
        · rw [if_neg h, if_neg hT] at hs; cases hs
      unfold partsV
      rw [if_neg hz, if_pos this]
      decide
    rw [rd_set_any _ _ _ _ hq]
    by_cases ca : x.a = (q : Int)
    · rw [if_pos (by omega), if_pos (by simp [madeB, n1, ca])]
    · rw [if_neg (by omega), if_neg (by simp [madeB, ca]; omega)]
theorem lastGo_rd (l : List VI.Node) (hp : ∀ j : Nat, j < l.length → partsOk (nd l (j : Int)) j) (q : Nat) : ∀ (d i : Nat) (o : List Int), i + d = l.length → o.length = l.length → q < i →
    rd (lastGo l d i o) (q : Int) = lastAt l q d i (rd o (q : Int)) := by
  intro d
  induction d with
  | zero => intro i o _ _ _; rfl
  | succ d ih =>
    intro i o hi ho hq
    rw [lastGo, lastAt, ih (i + 1) _ (by omega) (by rw [stepL_len]; simp [ho]) (by omega), stepL_rd (hp i (by omega)) _ q (by simp; omega) (by simp; omega), rd_set_any _ _ _ _ (by omega), if_neg (show ¬ i = q by omega)]
theorem lastGo_rd2 (l : List VI.Node) (hp : ∀ j : Nat, j < l.length → partsOk (nd l (j : Int)) j) (q : Nat) (hq : q < l.length) : ∀ (d i : Nat) (o : List Int), i + d = l.length → o.length = l.length → i ≤ q →
    rd (lastGo l d i o) (q : Int) = lastAt l q (l.length - (q + 1)) (q + 1) (q : Int) := by
  intro d
  induction d with
  | zero => intro i o hi _ hiq; omega
  | succ d ih =>
    intro i o hi ho hiq
    rw [lastGo]
    by_cases e : i = q
    · subst e
      have hpi := hp i (by omega)
      have nm : ¬ madeB (nd l (i : Int)) (i : Int) = true := by
        unfold madeB
        have h1 := hpi.2.1
        have h2 := hpi.2.2
        simp only [Bool.or_eq_true, Bool.and_eq_true, decide_eq_true_eq]
        rintro (⟨a, b⟩ | ⟨a, b⟩)
        · have := h1 a; omega
        · have := h2 a; omega
      rw [lastGo_rd l hp i d (i + 1) _ (by omega) (by rw [stepL_len]; simp [ho]) (by omega), stepL_rd hpi _ i (by simp; omega) (by simp; omega), if_neg nm, rd_set_any _ _ _ _ (by omega), if_pos rfl, show d = l.length - (i + 1) by omega]
    · exact ih (i + 1) _ (by omega) (by rw [stepL_len]; simp [ho]) (by omega)
theorem rlast_ev (l : List VI.Node) (loss : Int) (keep : List Int) (hk : okB l loss keep = true) (hn : l.length ≤ 1000) (hkl : keep.length ≤ 1000) (q : Nat) (hq : q < l.length) :
    Ev (fun F => Tf.tapewrightref17_last.f F ((l, loss), (keep, (q : Int)))) (rd (lastV l loss keep) (q : Int)) := by
  have hp := (ok_right hk).parts
  have hw : IntKind.i64.wrap ((q : Int) + 1) = ((q + 1 : Nat) : Int) := by rw [w64 (by omega) (by omega), succ_cast]
  have h3 := rlast_l3 l loss (q : Int) keep hn hp (l.length - (q + 1)) (q + 1) (q : Int) (by omega)
  have h9 := rlast_l9 l loss (q : Int) keep hkl keep.length 0 (lastAt l q (l.length - (q + 1)) (q + 1) (q : Int)) (by omega)
  rw [List.drop_zero] at h9
  rw [lastV_kept l loss keep hk q hq, lastGo_rd2 l hp q hq l.length 0 _ (by omega) (by simp) (by omega)]
  simp only [Tf.tapewrightref17_last.f, bif_if, beq_iff_eq, hw]
  refine Ev.bind (Ev.iter h3) (Ev.bind (Ev.iter h9) ?_)
  by_cases c : (q : Int) = loss
  · rw [if_pos (show (q : Int) ∈ loss :: keep by simp [c])]
    exact Ev_pos c (Ev.now _)
  · by_cases c2 : (q : Int) ∈ keep
    · rw [if_pos (show (q : Int) ∈ loss :: keep by simp [c2])]
      exact Ev_neg c (Ev.eq (by rw [if_pos c2]))
    · rw [if_neg (show ¬ (q : Int) ∈ loss :: keep by simp [c, c2])]
      exact Ev_neg c (Ev.eq (by rw [if_neg c2]))
theorem rLast_go (l : List VI.Node) (loss : Int) (keep : List Int) (hk : okB l loss keep = true) (hn : l.length ≤ 1000) (hkl : keep.length ≤ 1000) : ∀ (d i : Nat), i + d = l.length →
    EvG (fun _ L => L ((i : Int), (keep, (l, (loss, (lastV l loss keep).take i))))) Tf.tapewrightref17_Last.s3 (lastV l loss keep) := by
  have hlen := lastV_len l loss keep
  intro d
  induction d with
  | zero =>
    intro i hi
    rw [List.take_of_length_le (by omega)]
    refine EvG.step (fun F L => ?_) (EvG.now _)
    dsimp only [Tf.tapewrightref17_Last.s3]
    simp only [bif_if, decide_eq_true_eq]
    rw [if_neg (by omega)]
  | succ d ih =>
    intro i hi
    have hw : IntKind.i64.wrap ((i : Int) + 1) = ((i + 1 : Nat) : Int) := by rw [w64 (by omega) (by omega), succ_cast]
    have h2 := ih (i + 1) (by omega)
    rw [take_rd _ i (by omega)] at h2
    refine EvG.loop ?_
    simp only [Tf.tapewrightref17_Last.s3, bif_if, decide_eq_true_eq, Nat.ble_eq, set_one, hw]
    exact EvG.pos (by omega) (EvG.bind (rlast_ev l loss keep hk hn hkl i (by omega)) (EvG.pos (by rw [List.length_take]; omega) h2))
theorem rLast_ev (l : List VI.Node) (loss : Int) (keep : List Int) (hk : okB l loss keep = true) (hn : l.length ≤ 1000) (hkl : keep.length ≤ 1000) :
    Ev (fun F => Tf.tapewrightref17_Last.f F ((l, loss), keep)) (lastV l loss keep) := by
  simp only [Tf.tapewrightref17_Last.f]
  exact Ev_ret (Ev.iter (rLast_go l loss keep hk hn hkl l.length 0 (by omega)))
def Fr (last out : List Int) (s : Int) (i k : Nat) : Prop := ∀ j : Nat, k ≤ j → j < i → rd out (j : Int) = s → rd last (j : Int) ≤ i
theorem slots_l9 (last out : List Int) (s c : Int) (i : Nat) (hi : i < last.length) (ho : out.length = i) (hn : last.length ≤ 1000) : ∀ (d k : Nat) (b : Bool), k + d = i →
    ∃ b', (b' = true ↔ b = true ∧ Fr last out s i k) ∧ EvG (fun _ L => L ((k : Int), ((i : Int), (last, (s, (out, (b, c))))))) Tf.tapewrightref17_Slots.s9 (last, ((i : Int), (c, (s, (out, b'))))) := by
  intro d
  induction d with
  | zero =>
    intro k b hk
    refine ⟨b, ⟨fun h => ⟨h, fun j h1 h2 => by omega⟩, fun h => h.1⟩, EvG.step (fun F L => ?_) (EvG.now _)⟩
    dsimp only [Tf.tapewrightref17_Slots.s9]
    simp only [bif_if, decide_eq_true_eq]
    rw [if_neg (by omega)]
  | succ d ih =>
    intro k b hk
    have hw : IntKind.i64.wrap ((k : Int) + 1) = ((k + 1 : Nat) : Int) := by rw [w64 (by omega) (by omega), succ_cast]
    have fr : Fr last out s i k ↔ (rd out (k : Int) = s → rd last (k : Int) ≤ i) ∧ Fr last out s i (k + 1) := by
      constructor
      · intro h; exact ⟨h k (Nat.le_refl _) (by omega), fun j h1 h2 => h j (by omega) h2⟩
      · intro h j h1 h2
        by_cases e : j = k
        · subst e; exact h.1
        · exact h.2 j (by omega) h2
    rw [fr]
    cases b with
    | false =>
      obtain ⟨b', h1, h2⟩ := ih (k + 1) false (by omega)
      refine ⟨b', h1.trans ⟨fun h => (by cases h.1), fun h => (by cases h.1)⟩, EvG.loop ?_⟩
      simp only [Tf.tapewrightref17_Slots.s9, bif_if, decide_eq_true_eq, inR_iff, rd_def, hw, beq_iff_eq]
      exact EvG.pos (by omega) (EvG.neg (by simp) h2)
    | true =>
      by_cases ce : rd out (k : Int) = s
      · obtain ⟨b', h1, h2⟩ := ih (k + 1) (!(decide (rd last (k : Int) > (i : Int)))) (by omega)
        refine ⟨b', h1.trans ?_, EvG.loop ?_⟩
        · simp only [Bool.not_eq_true', decide_eq_false_iff_not]
          constructor
          · rintro ⟨h, h'⟩; exact ⟨by trivial, fun _ => by omega, h'⟩
          · rintro ⟨_, h, h'⟩; have := h ce; exact ⟨by omega, h'⟩
        · simp only [Tf.tapewrightref17_Slots.s9, bif_if, decide_eq_true_eq, inR_iff, rd_def, hw, beq_iff_eq]
          exact EvG.pos (by omega) (EvG.pos (by trivial) (EvG.pos (by omega) (EvG.pos ce (EvG.pos (by omega) h2))))
      · obtain ⟨b', h1, h2⟩ := ih (k + 1) true (by omega)
        refine ⟨b', h1.trans ⟨fun h => ⟨by trivial, fun q => absurd q ce, h.2⟩, fun h => ⟨by trivial, h.2.2⟩⟩, EvG.loop ?_⟩
        simp only [Tf.tapewrightref17_Slots.s9, bif_if, decide_eq_true_eq, inR_iff, rd_def, hw, beq_iff_eq]
        exact EvG.pos (by omega) (EvG.pos (by trivial) (EvG.pos (by omega) (EvG.neg ce h2)))
theorem slots_l7 (last out : List Int) (c : Int) (i t : Nat) (hi : i < last.length) (ho : out.length = i) (hn : last.length ≤ 1000) (ht : t ≤ 1000) (h1 : Fr last out (t : Int) i 0) (h2 : ∀ s : Nat, s < t → ¬ Fr last out (s : Int) i 0) : ∀ (d s : Nat), s + d = t →
    EvG (fun _ L => L ((i : Int), (last, ((s : Int), (out, c))))) Tf.tapewrightref17_Slots.s7 (last, ((i : Int), (c, ((t : Int), out)))) := by
  intro d
  induction d with
  | zero =>
    intro s hs
    have e : s = t := by omega
    subst e
    obtain ⟨b', g1, g2⟩ := slots_l9 last out (s : Int) c i hi ho hn i 0 true (by omega)
    have : b' = true := g1.2 ⟨rfl, h1⟩
    subst this
    refine EvG.loop ?_
    simp only [Tf.tapewrightref17_Slots.s7, bif_if]
    exact EvG.bind (Ev.iter g2) (EvG.pos rfl (EvG.now _))
  | succ d ih =>
    intro s hs
    obtain ⟨b', g1, g2⟩ := slots_l9 last out (s : Int) c i hi ho hn i 0 true (by omega)
    have : b' = false := by
      cases b' with
      | false => rfl
      | true => exact absurd (g1.1 rfl).2 (h2 s (by omega))
    subst this
    have hw : IntKind.i64.wrap ((s : Int) + 1) = ((s + 1 : Nat) : Int) := by rw [w64 (by omega) (by omega), succ_cast]
    have h3 := ih (s + 1) (by omega)
    rw [← hw] at h3
    refine EvG.loop ?_
    simp only [Tf.tapewrightref17_Slots.s7, bif_if]
    exact EvG.bind (Ev.iter g2) (EvG.neg (by simp) h3)
theorem idxZ_first (p : Int → Bool) : ∀ (l : List Int) (i : Int), (idxZ p l i = -1 ∧ ∀ v : Nat, v < l.length → p (rd l (v : Int)) = false) ∨ ∃ q : Nat, q < l.length ∧ idxZ p l i = i + q ∧ p (rd l (q : Int)) = true ∧ ∀ v : Nat, v < q → p (rd l (v : Int)) = false
  | [], i => .inl ⟨rfl, fun v h => by simp at h⟩
  | x :: l, i => by
    have r0 : rd (x :: l) ((0 : Nat) : Int) = x := rfl
    have rs : ∀ v : Nat, rd (x :: l) ((v + 1 : Nat) : Int) = rd l (v : Int) := fun v => by simp [rd]
    rw [idxZ]
    cases c : p x with
    | true => rw [if_pos rfl]; exact .inr ⟨0, by simp, by omega, by rw [r0]; exact c, fun v h => by omega⟩
    | false =>
      rw [if_neg (by simp)]
      rcases idxZ_first p l (i + 1) with ⟨h1, h2⟩ | ⟨q, h1, h2, h3, h4⟩
      · refine .inl ⟨h1, fun v hv => ?_⟩
        cases v with
        | zero => rw [r0]; exact c
        | succ v => rw [rs]; exact h2 v (by simpa using hv)
      · refine .inr ⟨q + 1, by simpa using h1, by omega, by rw [rs]; exact h3, fun v hv => ?_⟩
        cases v with
        | zero => rw [r0]; exact c
        | succ v => rw [rs]; exact h4 v (by omega)
theorem rd_app_l (s r : List Int) (j : Nat) (h : j < s.length) : rd (s ++ r) (j : Int) = rd s (j : Int) := by
  simp only [rd, List.getD_eq_getElem?_getD, Int.toNat_natCast]
  rw [List.getElem?_append_left h]
theorem slots_l4 (last : List Int) (n : Nat) (hlen : last.length = n) (hn : n ≤ 1000) (hl : ∀ j : Nat, j < n → (j : Int) ≤ rd last (j : Int)) : ∀ (d i : Nat) (u s : List Int), i + d = n → s.length = i → u.length ≤ i →
    (∀ j : Nat, j < i → 0 ≤ rd s (j : Int) ∧ rd s (j : Int) < u.length ∧ rd last (j : Int) ≤ rd u (rd s (j : Int))) →
    (∀ v : Nat, v < u.length → ∃ j : Nat, j < i ∧ rd s (j : Int) = v ∧ rd u (v : Int) = rd last (j : Int)) →
    EvG (fun _ L => L ((i : Int), (last, (s, (u.length : Int))))) Tf.tapewrightref17_Slots.s4 ((makeGo last d i u s).2, (makeGo last d i u s).1) := by
  intro d
  induction d with
  | zero =>
    intro i u s hi hs hu _ _
    refine EvG.step (fun F L => ?_) (EvG.now _)
    dsimp only [Tf.tapewrightref17_Slots.s4]
    simp only [bif_if, decide_eq_true_eq]
    rw [if_neg (by omega)]
    rfl
  | succ d ih =>
    intro i u s hi hs hu hA hB
    have hw : IntKind.i64.wrap ((i : Int) + 1) = ((i + 1 : Nat) : Int) := by rw [w64 (by omega) (by omega), succ_cast]
    have free : ∀ v : Nat, v < u.length → (Fr last s (v : Int) i 0 ↔ rd u (v : Int) ≤ i) := by
      intro v hv
      constructor
      · intro h
        obtain ⟨j, h1, h2, h3⟩ := hB v hv
        rw [h3]; exact h j (Nat.zero_le _) h1 h2
      · intro h j _ h2 h3
        have := (hA j h2).2.2
        rw [h3] at this
        omega
    have rl : ∀ z : Int, rd (s ++ [z]) (i : Int) = z := fun z => by rw [← hs]; exact rd_snoc s z
    have rs : ∀ (z : Int) (j : Nat), j < i → rd (s ++ [z]) (j : Int) = rd s (j : Int) := fun z j hj => rd_app_l s [z] j (by omega)
    rcases idxZ_first (fun x => decide (x ≤ (i : Int))) u 0 with ⟨h, hno⟩ | ⟨q, hq1, hq2, hq3, hq4⟩
    · rw [makeGo, if_pos (by omega)]
      have h7 := slots_l7 last s (u.length : Int) i u.length (by omega) hs (by omega) (by omega)
        (fun j _ h2 h3 => by have := (hA j h2).2.1; omega)
        (fun v hv hf => by have := (free v hv).1 hf; have := of_decide_eq_false (hno v hv); omega) u.length 0 (by omega)
      have h4 := ih (i + 1) (u ++ [rd last (i : Int)]) (s ++ [(u.length : Int)]) (by omega) (by simp [hs]) (by simp; omega) (fun j hj => ?_) (fun v hv => ?_)
      · have hwc : IntKind.i64.wrap ((u.length : Int) + 1) = ((u ++ [rd last (i : Int)]).length : Int) := by rw [w64 (by omega) (by omega)]; simp
        refine EvG.loop ?_
        simp only [Tf.tapewrightref17_Slots.s4, bif_if, decide_eq_true_eq, Nat.ble_eq, set_one, beq_iff_eq]
        refine EvG.pos (by omega) (EvG.bind (Ev.iter h7) (EvG.pos (by dsimp only; omega) (EvG.pos rfl ?_)))
        dsimp only
        rw [hw, hwc]
        exact h4
      · by_cases e : j = i
        · subst e
          rw [rl, rd_snoc]
          exact ⟨by omega, by simp; omega, Int.le_refl _⟩
        · obtain ⟨a1, a2, a3⟩ := hA j (by omega)
          rw [rs _ j (by omega)]
          refine ⟨a1, by simp; omega, ?_⟩
          obtain ⟨v, hv⟩ : ∃ v : Nat, rd s (j : Int) = v := ⟨(rd s (j : Int)).toNat, by omega⟩
          rw [hv] at a2 a3 ⊢
          rw [rd_app_l u _ v (by omega)]
          exact a3
      · by_cases e : v = u.length
        · subst e
          exact ⟨i, by omega, by rw [rl], by rw [rd_snoc]⟩
        · have hv' : v < u.length := by simp at hv; omega
          obtain ⟨j, h1, h2, h3⟩ := hB v hv'
          exact ⟨j, by omega, by rw [rs _ j h1]; exact h2, by rw [rd_app_l u _ v hv']; exact h3⟩
    · rw [makeGo, if_neg (by omega), hq2]
      have hu3 : rd u (q : Int) ≤ (i : Int) := by simpa using hq3
      rw [show ((0 : Int) + (q : Int)).toNat = q by omega, Int.zero_add]
      have h7 := slots_l7 last s (u.length : Int) i q (by omega) hs (by omega) (by omega)
        ((free q hq1).2 hu3)
        (fun v hv hf => by have := (free v (by omega)).1 hf; have := of_decide_eq_false (hq4 v hv); omega) q 0 (by omega)
      have hli := hl i (by omega)
      have h4 := ih (i + 1) (u.set q (rd last (i : Int))) (s ++ [(q : Int)]) (by omega) (by simp [hs]) (by simp; omega) (fun j hj => ?_) (fun v hv => ?_)
      · refine EvG.loop ?_
        simp only [Tf.tapewrightref17_Slots.s4, bif_if, decide_eq_true_eq, Nat.ble_eq, set_one, beq_iff_eq]
        refine EvG.pos (by omega) (EvG.bind (Ev.iter h7) (EvG.pos (by dsimp only; omega) (EvG.neg (by dsimp only; omega) ?_)))
        dsimp only
        rw [hw, List.length_set] at *
        exact h4
      · by_cases e : j = i
        · subst e
          rw [rl, rd_set_any _ _ _ _ hq1, if_pos rfl]
          exact ⟨by omega, by simp; omega, Int.le_refl _⟩
        · obtain ⟨a1, a2, a3⟩ := hA j (by omega)
          rw [rs _ j (by omega)]
          refine ⟨a1, by simp; omega, ?_⟩
          obtain ⟨v, hv⟩ : ∃ v : Nat, rd s (j : Int) = v := ⟨(rd s (j : Int)).toNat, by omega⟩
          rw [hv] at a2 a3 ⊢
          rw [rd_set_any _ _ _ _ (by omega)]
          split
          · rename_i e2; subst e2; omega
          · exact a3
      · have hv' : v < u.length := by simpa using hv
        by_cases e : v = q
        · subst e
          exact ⟨i, by omega, by rw [rl], by rw [rd_set_any _ _ _ _ hv', if_pos rfl]⟩
        · obtain ⟨j, h1, h2, h3⟩ := hB v hv'
          exact ⟨j, by omega, by rw [rs _ j h1]; exact h2, by rw [rd_set_any _ _ _ _ hv', if_neg (by omega)]; exact h3⟩
theorem slots_ev (last : List Int) (hn : last.length ≤ 1000) (hl : ∀ j : Nat, j < last.length → (j : Int) ≤ rd last (j : Int)) : Ev (fun F => Tf.tapewrightref17_Slots.f F last) (makeGo last last.length 0 [] []) := by
  simp only [Tf.tapewrightref17_Slots.f]
  have h := slots_l4 last last.length rfl hn hl last.length 0 [] [] (by omega) rfl (by simp) (fun j h => by omega) (fun v h => by simp at h)
  exact Ev.bind (Ev.iter h) (Ev.now _)
end Go.PL
