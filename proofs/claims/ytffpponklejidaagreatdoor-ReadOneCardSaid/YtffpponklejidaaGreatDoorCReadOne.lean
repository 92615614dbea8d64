/- For every input tapewrightlaw09.ReadOne answers true. Conditions: none beyond the statement's own. -/
import Derived.Test.YtffpponklejidaaGreatDoorQ1
import Derived.Test.YtffpponklejidaaGreatDoorRows
import Derived.WalkKit
import Derived.ProofKit
import Derived.OpenShut
import Derived.ShutString
import Derived.ChangeOld
import Derived.Below
import Derived.SizedLaws
import Derived.Lib.SmallJoins
import Derived.LaidMore
import Derived.LaidSub
import Derived.Lay
import Derived.SevenTiedAt
import Derived.Stop.Joined
import Derived.Stop.LaidErr
import Derived.FnData
import Derived.Test.YtffpponklejidaaGreatDoorTie
import Derived.Test.YtffpponklejidaaGreatDoorCards
set_option linter.unusedVariables false
set_option linter.unusedSimpArgs false
namespace Go.PL
open Go Go.VI
theorem ro_words (l : List ByteArray) (hl : l.length ≤ 1000) : ∀ (d i : Nat), i + d = l.length →
    ∃ r, (r = .inl true ∨ (r = .inr l ∧ ∀ w ∈ l.drop i, w.data.toList.length ≤ 40)) ∧ EvG (fun _ L => L ((i : Int), (l, (l, (l.length : Int))))) Tf.tapewrightlaw09_ReadOne.s4 r := by
  intro d
  induction d with
  | zero =>
    intro i hi
    rw [List.drop_eq_nil_of_le (by omega)]
    refine ⟨.inr l, .inr ⟨rfl, by simp⟩, EvG.step (fun F L => ?_) (EvG.now _)⟩
    dsimp only [Tf.tapewrightlaw09_ReadOne.s4]
    simp only [bif_if, decide_eq_true_eq]
    rw [if_neg (by omega)]
  | succ d ih =>
    intro i hi
    have hlt : i < l.length := by omega
    have eg := getD_at l i hlt
    have hw : IntKind.i64.wrap ((i : Int) + 1) = ((i + 1 : Nat) : Int) := by rw [w64 (by omega) (by omega), succ_cast]
    obtain ⟨r, h1, h2⟩ := ih (i + 1) (by omega)
    have hz := ba_size l[i]
    rw [List.drop_eq_getElem_cons hlt]
    generalize l[i] = s at *
    by_cases c : (s.size : Int) > 40
    · refine ⟨.inl true, .inl rfl, EvG.loop ?_⟩
      simp only [Tf.tapewrightlaw09_ReadOne.s4, bif_if, decide_eq_true_eq, inR_iff, eg, hw]
      exact EvG.pos (by omega) (EvG.pos (by omega) (EvG.pos c (EvG.bind readAwake_ev (EvG.now _))))
    · refine ⟨r, ?_, EvG.loop ?_⟩
      · rcases h1 with h1 | ⟨h1, h3⟩
        · exact .inl h1
        · exact .inr ⟨h1, fun w hw => by
            rcases List.mem_cons.1 hw with rfl | h
            · omega
            · exact h3 w h⟩
      · simp only [Tf.tapewrightlaw09_ReadOne.s4, bif_if, decide_eq_true_eq, inR_iff, eg, hw]
        exact EvG.pos (by omega) (EvG.pos (by omega) (EvG.neg c h2))
theorem ro_same (l : List ByteArray) (hl : l.length ≤ 1000) : ∀ (d i : Nat), i + d = l.length → EvG (fun _ L => L ((i : Int), (l, (l, (l.length : Int))))) Tf.tapewrightlaw09_ReadOne.s29 (.inr ()) := by
  intro d
  induction d with
  | zero =>
    intro i hi
    refine EvG.step (fun F L => ?_) (EvG.now _)
    dsimp only [Tf.tapewrightlaw09_ReadOne.s29]
    simp only [bif_if, decide_eq_true_eq]
    rw [if_neg (by omega)]
  | succ d ih =>
    intro i hi
    have hw : IntKind.i64.wrap ((i : Int) + 1) = ((i + 1 : Nat) : Int) := by rw [w64 (by omega) (by omega), succ_cast]
    refine EvG.loop ?_
    simp only [Tf.tapewrightlaw09_ReadOne.s29, bif_if, decide_eq_true_eq, inR_iff, hw, seqB_rfl, Bool.not_true, Bool.false_eq_true]
    exact EvG.pos (by omega) (EvG.pos (by omega) (EvG.pos (by omega) (EvG.neg (by simp) (ih (i + 1) (by omega)))))
theorem made_inv {w0 op a : ByteArray} {rest : List ByteArray} {s : VI.Stmt} (h : madeV w0 op a rest = some s) : s.name = w0 ∧ s.op = op ∧
    ((inL op twoL = true ∨ inL op oneL = true) → s.args = a :: rest) ∧ (seqB op oScale = true → s.args = [a] ∧ rest = [s.k]) ∧ (seqB op oPower = true → s.args = [a] ∧ ∃ x, rest = [x] ∧ numS x = some s.n ∧ s.n ≤ 6) := by
  by_cases hb : (nmB w0 && nmB a) = true
  · by_cases k2 : inL op twoL = true
    · rw [made_two k2 hb] at h
      split at h
      · cases h
        refine ⟨rfl, rfl, fun _ => rfl, fun h => ?_, fun h => ?_⟩
        · exact absurd k2 (inL_not h (by decide +kernel))
        · exact absurd k2 (inL_not h (by decide +kernel))
      · cases h
    by_cases k1 : inL op oneL = true
    · rw [made_one k1 hb] at h
      split at h
      · rename_i hr
        cases h
        have hr := List.length_eq_zero_iff.1 hr
        refine ⟨rfl, rfl, fun _ => by rw [hr], fun h => ?_, fun h => ?_⟩
        · exact absurd k1 (inL_not h (by decide +kernel))
        · exact absurd k1 (inL_not h (by decide +kernel))
      · cases h
    by_cases k3 : seqB op oScale = true
    · rw [made_sc k3 hb] at h
      split at h
      · rename_i hr
        obtain ⟨x, rfl⟩ := List.length_eq_one_iff.1 hr.1
        cases h
        refine ⟨rfl, rfl, fun h => h.elim (fun q => absurd q k2) (fun q => absurd q k1), fun _ => ⟨rfl, rfl⟩, fun h => ?_⟩
        exact absurd k3 (seqB_not h (by decide +kernel))
      · cases h
    by_cases k4 : seqB op oPower = true
    · rw [made_pw k4 hb] at h
      split at h
      · rename_i hr
        obtain ⟨x, rfl⟩ := List.length_eq_one_iff.1 hr
        obtain ⟨n, hn, h⟩ := Option.bind_eq_some_iff.1 h
        split at h
        · rename_i h6
          cases h
          exact ⟨rfl, rfl, fun h => h.elim (fun q => absurd q k2) (fun q => absurd q k1), fun h => absurd h k3, fun _ => ⟨rfl, x, rfl, hn, h6⟩⟩
        · cases h
      · cases h
    by_cases k5 : inL op resL = true
    · rw [made_rs k5 hb] at h
      obtain ⟨d, hd, h⟩ := Option.bind_eq_some_iff.1 h
      split at h
      · cases h
        exact ⟨rfl, rfl, fun h => h.elim (fun q => absurd q k2) (fun q => absurd q k1), fun h => absurd h k3, fun h => absurd h k4⟩
      · cases h
    · unfold madeV at h
      rw [if_pos hb, if_neg k2, if_neg k1, if_neg k3, if_neg k4, if_neg k5] at h
      cases h
  · rw [made_no hb] at h; cases h
theorem parse_inv {w : List ByteArray} {s : VI.Stmt} (h : parseV w = some s) : (∃ w0 op a rest, w = w0 :: eqB :: op :: a :: rest ∧ madeV w0 op a rest = some s) ∨ s.args = [] ∨ (∃ a, w = [oLoss', a] ∧ s.op = oLoss' ∧ s.args = [a]) := by
  match w, h with
  | [], h => cases h
  | [_], h => cases h
  | w0 :: w1 :: r, h =>
    rw [parseV_cons] at h
    split at h
    · rename_i he
      split at h
      · rename_i op a rest
        exact .inl ⟨w0, op, a, rest, by rw [seqB_iff.1 he], h⟩
      · cases h
    · split at h
      · split at h
        · obtain ⟨d, hd, h⟩ := Option.bind_eq_some_iff.1 h
          split at h
          · cases h; exact .inr (.inl rfl)
          · cases h
        · split at h
          · unfold constV at h
            obtain ⟨k, _, h⟩ := Option.bind_eq_some_iff.1 h
            obtain ⟨d, hd, h⟩ := Option.bind_eq_some_iff.1 h
            split at h
            · cases h; exact .inr (.inl rfl)
            · cases h
          · split at h
            · rename_i hq
              cases h
              refine .inr (.inr ⟨w1, ?_, rfl, rfl⟩)
              rw [seqB_iff.1 hq.1, List.length_eq_zero_iff.1 hq.2]
            · cases h
      · cases h
theorem set_fiveB (a b c d e : ByteArray) : (((((List.replicate 5 ByteArray.empty).set 0 a).set 1 b).set 2 c).set 3 d).set 4 e = [a, b, c, d, e] := rfl
theorem set_threeB (a b c : ByteArray) : (((List.replicate 3 ByteArray.empty).set 0 a).set 1 b).set 2 c = [a, b, c] := rfl
/-- ReadOne answers true. -/
theorem ReadOne_ev (l : List ByteArray) : Ev (fun F => Tf.tapewrightlaw09_ReadOne.f F l) true := by
  have aw := Ev_ret readAwake_ev
  simp only [Tf.tapewrightlaw09_ReadOne.f, bif_if, decide_eq_true_eq, beq_iff_eq, Bool.not_eq_true', bne_iff_ne, inR_iff, Nat.ble_eq, set_fiveB, set_threeB, set_oneB]
  refine EvIf (fun _ => aw) (fun h90 => ?_)
  obtain ⟨r, h1, h2⟩ := ro_words l (by omega) l.length 0 (by omega)
  rcases h1 with rfl | ⟨rfl, h3⟩
  · exact Ev.bind (Ev.iter h2) (Ev.now _)
  rw [List.drop_zero] at h3
  have hs : shortW l := fun w hw => by have := h3 w hw; omega
  refine Ev.bind (Ev.iter h2) ?_
  have hp : Ev (fun F => Tf.read_Parse.f F ⟨1, l⟩) (match parseV l with | some s => (s, 0) | none => (stmtZ, 2)) := read_parse_ev ⟨1, l⟩ (by show l.length ≤ 2000; omega) hs
  have same : ∀ w : List ByteArray, w = l → Ev (fun F => (Tf.tapewrightlaw09_ReadOne.l29 F (0, (l, (w, (w.length : Int))))).bind fun y => sumE y (fun y => some y) (fun y => (Tf.tapewrightlaw09_awake.f F ()).bind fun y => some y)) true := by
    rintro w rfl
    exact Ev.bind (Ev.iter (ro_same w (by omega) w.length 0 (by omega))) aw
  cases hv : parseV l with
  | none =>
    rw [hv] at hp
    exact Ev.bind hp (Ev_pos (by decide) (Ev_pos (by decide +kernel) aw))
  | some s =>
    rw [hv] at hp
    refine Ev.bind hp (Ev_neg (by simp) (EvIf (fun _ => aw) (fun hna => ?_)))
    have hna : s.args.length ≠ 0 := by simpa using hna
    have ok := parse_okSt (by omega) hv
    dsimp only
    rcases parse_inv hv with ⟨w0, op, a, rest, hw, hm⟩ | h0 | ⟨a, hw, h4, h5⟩
    · obtain ⟨e1, e2, e3, e4, e5⟩ := made_inv hm
      refine EvIf (fun c => ?_) (fun c1 => EvIf (fun c => ?_) (fun c2 => EvIf (fun c => ?_) (fun c3 => EvIf (fun c => ?_) (fun c4 => EvIf (fun c => ?_) (fun c5 => aw)))))
      · rw [e2] at c
        obtain ⟨g1, g2⟩ := e4 c
        refine Ev_pos (by omega) ?_
        rw [e1, e2, g1]
        have : ([w0, eqB, op, ([a] : List ByteArray).getD 0 (dflt 4), s.k] : List ByteArray) = l := by rw [hw, g2]; rfl
        have h5 := same _ this
        refine Ev_neg (by rw [hw, g2]; simp) h5
      · rw [e2] at c
        obtain ⟨g1, x, g2, g3, g4⟩ := e5 c
        refine Ev_pos (by omega) ?_
        rw [e1, e2, g1]
        have hx : strOf (List.set (List.replicate 1 0) 0 (IntKind.u8.wrap (IntKind.i64.wrap ((48 : Int) + Int.tmod s.n 10)))) = x := by
          obtain ⟨k, hk, e, hd⟩ := num_digs g3
          have hk6 : k ≤ 6 := by omega
          have hx : x = ⟨(dig2 k).toArray⟩ := (ba_mk x).symm.trans (by rw [hd])
          rw [hx, e]
          have : ∀ k : Fin 7, strOf (List.set (List.replicate 1 0) 0 (IntKind.u8.wrap (IntKind.i64.wrap ((48 : Int) + Int.tmod (k.val : Int) 10)))) = ⟨(dig2 k.val).toArray⟩ := by decide +kernel
          exact this ⟨k, by omega⟩
        have : ([w0, eqB, op, ([a] : List ByteArray).getD 0 (dflt 4), strOf (List.set (List.replicate 1 0) 0 (IntKind.u8.wrap (IntKind.i64.wrap ((48 : Int) + Int.tmod s.n 10))))] : List ByteArray) = l := by rw [hw, g2, hx]; rfl
        have h5 := same _ this
        refine Ev_neg (by rw [hw, g2]; simp) h5
      · rw [e2] at c
        have g1 := e3 (.inl (inL_of c (by decide +kernel)))
        refine Ev_pos (by have := ok.1; omega) ?_
        rw [e1, e2, g1]
        have : ([w0, eqB, op] ++ (a :: rest) : List ByteArray) = l := by rw [hw]; rfl
        refine Ev_neg (by rw [this]; simp) (same _ this)
      · rw [e2] at c
        have g1 := e3 (.inr (inL_of c (by decide +kernel)))
        refine Ev_pos (by have := ok.1; omega) ?_
        rw [e1, e2, g1]
        have : ([w0, eqB, op] ++ (a :: rest) : List ByteArray) = l := by rw [hw]; rfl
        refine Ev_neg (by rw [this]; simp) (same _ this)
      · exfalso
        rw [e2] at c
        rw [seqB_iff.1 c] at hm
        have this : madeV w0 oLoss' a rest = some s := hm
        unfold madeV at this
        split at this
        · rw [if_neg (by decide +kernel), if_neg (by decide +kernel), if_neg (by decide +kernel), if_neg (by decide +kernel), if_neg (by decide +kernel)] at this
          cases this
        · cases this
    · exact absurd (by rw [h0]; rfl) hna
    · rw [h4, h5]
      have : (oLoss' :: [a] : List ByteArray) = l := hw.symm
      have h6 := same _ this
      refine Ev_neg (by decide +kernel) (Ev_neg (by decide +kernel) (Ev_neg (by decide +kernel) (Ev_neg (by decide +kernel) (Ev_pos (by decide +kernel) (Ev_pos (by simp) ?_)))))
      refine Ev_neg (by rw [hw]; simp) h6
end Go.PL
namespace Go.Proofs.YtffpponklejidaaGreatDoor.readOne
open Go.ChangeShapes Go.WideShapes Go.ChangeAt Go.RowKit Go.VI
theorem laidOut : laidOutB Tryz.prog = true := by kernel_rfl
theorem own : ownKnob Tryz.prog.godebug = none := by kernel_rfl
set_option maxRecDepth 100000 in
theorem g0 {W : World} (hL : laidMetH Tryz.prog Rows.readOneRow.laid W) : ∃ t u, W.cell? ⟨0, 0, none⟩ = some (.iface t u) := by
  have h1 := hL.filter (fun x => x.1 == "tapewright/rat.errForm")
  have h2 : laidMet Tryz.prog [("tapewright/rat.errForm", Rows.laid_tapewright_rat_errForm)] W := by
    have e : (Rows.readOneRow.laid.filter (fun x => x.1 == "tapewright/rat.errForm")) = [("tapewright/rat.errForm", Rows.laid_tapewright_rat_errForm)] := by rfl
    rw [e, MakeChecks.laidMetH_plain _ _ _ (by kernel_rfl)] at h1
    exact h1
  obtain ⟨ps, ⟨g, t, cs, fuel, p, q, hg, ht, hv, hd, _, e0⟩, _, hrows⟩ := h2
  have hg' : Tryz.prog.globalNamed "tapewright/rat.errForm" = some 0 := by kernel_rfl
  obtain rfl := Option.some.inj (hg'.symm.trans hg)
  have ht' : (Tryz.prog.globals[0]?).map (·.type) = some 82 := by kernel_rfl
  obtain rfl := Option.some.inj (ht'.symm.trans ht)
  have hu := Tryz.underlying82
  unfold Rows.laid_tapewright_rat_errForm at hd
  rcases fuel with _ | fuel
  · simp [DataW.trod] at hd
  · unfold DataW.trod at hd
    rw [hu] at hd
    have hc := World.var?_cell hg' hv 0
    obtain ⟨l⟩ := cs
    match l, hd, hc with
    | [.iface T v], hd, hc => exact ⟨T, v, by simpa using hc⟩
    | [.nilIface], hd, _ => simp at hd
set_option maxRecDepth 100000 in
theorem g3 {W : World} (hL : laidMetH Tryz.prog Rows.readOneRow.laid W) : ∃ t u, W.cell? ⟨3, 0, none⟩ = some (.iface t u) := by
  have h1 := hL.filter (fun x => x.1 == "tapewright/rat.errZero")
  have h2 : laidMet Tryz.prog [("tapewright/rat.errZero", Rows.laid_tapewright_rat_errZero)] W := by
    have e : (Rows.readOneRow.laid.filter (fun x => x.1 == "tapewright/rat.errZero")) = [("tapewright/rat.errZero", Rows.laid_tapewright_rat_errZero)] := by rfl
    rw [e, MakeChecks.laidMetH_plain _ _ _ (by kernel_rfl)] at h1
    exact h1
  obtain ⟨ps, ⟨g, t, cs, fuel, p, q, hg, ht, hv, hd, _, e0⟩, _, hrows⟩ := h2
  have hg' : Tryz.prog.globalNamed "tapewright/rat.errZero" = some 3 := by kernel_rfl
  obtain rfl := Option.some.inj (hg'.symm.trans hg)
  have ht' : (Tryz.prog.globals[3]?).map (·.type) = some 82 := by kernel_rfl
  obtain rfl := Option.some.inj (ht'.symm.trans ht)
  have hu := Tryz.underlying82
  unfold Rows.laid_tapewright_rat_errZero at hd
  rcases fuel with _ | fuel
  · simp [DataW.trod] at hd
  · unfold DataW.trod at hd
    rw [hu] at hd
    have hc := World.var?_cell hg' hv 0
    obtain ⟨l⟩ := cs
    match l, hd, hc with
    | [.iface T v], hd, hc => exact ⟨T, v, by simpa using hc⟩
    | [.nilIface], hd, _ => simp at hd
set_option maxRecDepth 100000 in
theorem g4 {W : World} (hL : laidMetH Tryz.prog Rows.readOneRow.laid W) : ∃ t u, W.cell? ⟨4, 0, none⟩ = some (.iface t u) := by
  have h1 := hL.filter (fun x => x.1 == "strconv.ErrSyntax")
  have h2 : laidMet Tryz.prog [("strconv.ErrSyntax", Rows.laid_strconv_ErrSyntax)] W := by
    have e : (Rows.readOneRow.laid.filter (fun x => x.1 == "strconv.ErrSyntax")) = [("strconv.ErrSyntax", Rows.laid_strconv_ErrSyntax)] := by rfl
    rw [e, MakeChecks.laidMetH_plain _ _ _ (by kernel_rfl)] at h1
    exact h1
  obtain ⟨ps, ⟨g, t, cs, fuel, p, q, hg, ht, hv, hd, _, e0⟩, _, hrows⟩ := h2
  have hg' : Tryz.prog.globalNamed "strconv.ErrSyntax" = some 4 := by kernel_rfl
  obtain rfl := Option.some.inj (hg'.symm.trans hg)
  have ht' : (Tryz.prog.globals[4]?).map (·.type) = some 82 := by kernel_rfl
  obtain rfl := Option.some.inj (ht'.symm.trans ht)
  have hu := Tryz.underlying82
  unfold Rows.laid_strconv_ErrSyntax at hd
  rcases fuel with _ | fuel
  · simp [DataW.trod] at hd
  · unfold DataW.trod at hd
    rw [hu] at hd
    have hc := World.var?_cell hg' hv 0
    obtain ⟨l⟩ := cs
    match l, hd, hc with
    | [.iface T v], hd, hc => exact ⟨T, v, by simpa using hc⟩
    | [.nilIface], hd, _ => simp at hd
set_option maxRecDepth 100000 in
theorem g5 {W : World} (hL : laidMetH Tryz.prog Rows.readOneRow.laid W) : ∃ t u, W.cell? ⟨5, 0, none⟩ = some (.iface t u) := by
  have h1 := hL.filter (fun x => x.1 == "strconv.ErrRange")
  have h2 : laidMet Tryz.prog [("strconv.ErrRange", Rows.laid_strconv_ErrRange)] W := by
    have e : (Rows.readOneRow.laid.filter (fun x => x.1 == "strconv.ErrRange")) = [("strconv.ErrRange", Rows.laid_strconv_ErrRange)] := by rfl
    rw [e, MakeChecks.laidMetH_plain _ _ _ (by kernel_rfl)] at h1
    exact h1
  obtain ⟨ps, ⟨g, t, cs, fuel, p, q, hg, ht, hv, hd, _, e0⟩, _, hrows⟩ := h2
  have hg' : Tryz.prog.globalNamed "strconv.ErrRange" = some 5 := by kernel_rfl
  obtain rfl := Option.some.inj (hg'.symm.trans hg)
  have ht' : (Tryz.prog.globals[5]?).map (·.type) = some 82 := by kernel_rfl
  obtain rfl := Option.some.inj (ht'.symm.trans ht)
  have hu := Tryz.underlying82
  unfold Rows.laid_strconv_ErrRange at hd
  rcases fuel with _ | fuel
  · simp [DataW.trod] at hd
  · unfold DataW.trod at hd
    rw [hu] at hd
    have hc := World.var?_cell hg' hv 0
    obtain ⟨l⟩ := cs
    match l, hd, hc with
    | [.iface T v], hd, hc => exact ⟨T, v, by simpa using hc⟩
    | [.nilIface], hd, _ => simp at hd
theorem gok {W : World} (hL : laidMetH Tryz.prog Rows.readOneRow.laid W) : ∀ g ∈ Go.VI.tyT.G, ∃ t u, W.cell? ⟨g, 0, none⟩ = some (.iface t u) := by
  intro g hg
  change g ∈ [0, 3, 4, 5] at hg
  simp only [List.mem_cons, List.not_mem_nil, or_false] at hg
  rcases hg with rfl | rfl | rfl | rfl
  · exact g0 hL
  · exact g3 hL
  · exact g4 hL
  · exact g5 hL
set_option maxRecDepth 100000 in
theorem lifted (os : Os) (started : os.Started) (H : Type) (enc : TypeId × Value → H) :
    ReturnsInHanded {} Tryz.checked os 5 .any (fun w args => (Rows.readOneSpec.pre enc Tryz.prog Tryz.f5 Rows.readOneRow.domain false w args ∧ laidMetH Tryz.prog Rows.readOneRow.laid w) ∧ sizedMet enc Tryz.prog Tryz.f5 (OpenSpec.ofChange Rows.readOneSpec) false w args) (Rows.readOneSpec.post enc Tryz.prog Tryz.f5 false true false false) := by
  refine returnsInHanded_of_change_and (C := Tryz.checked) (X := fun w _ => laidMetH Tryz.prog Rows.readOneRow.laid w) (fun _ _ _ hh h => h.of_heap hh) own started (by kernel_rfl) Tryz.func5
    (ChangeSpec.witness_shaped (enc := enc) (C := Tryz.checked) (os := os) (X := fun w _ => laidMetH Tryz.prog Rows.readOneRow.laid w) false (World.laidAll Tryz.prog os Rows.readOneRow.laid) #[.slice none 0 0] 8 (World.laidAll_os _ _ _)
      (World.shaped_of_ZipB (by kernel_rfl) (by kernel_rfl)) (by kernel_rfl) (by kernel_rfl) (by kernel_rfl)
      (by rw [MakeChecks.laidMetH_plain _ _ _ (by kernel_rfl)]; exact laidMet_laidAll _ (by kernel_rfl) (by kernel_rfl))) ?_
  intro W base args ds gs before hval0 hW hcnd hsz0 hL _
  have hval : ∀ (j : Nat) t v, Tryz.f5.params[j]? = some t → args[j]? = some v → Value.okWide Tryz.prog W .any base t v := hval0
  have hW' := hW
  obtain ⟨p, q, hA0, hV, rfl, hfz, hnd⟩ := hW
  have hA : DataW.TrodAll enc Tryz.prog W 0 (fun _ => true) true Tryz.f5.params.toList args.toList ds p := hA0
  rw [Tryz.params5] at hA hval
  obtain ⟨v0, vs0, d0, ds0, p0, q0, hargs, rfl, rfl, h0, r0⟩ := trodAll_cons hA
  obtain ⟨rfl, rfl, rfl⟩ := trodAll_nil r0
  obtain rfl : args = #[v0] := by cases args; simp_all
  obtain ⟨rfl, rfl⟩ := trodVars_none hV
  have lt0 : ∀ x ∈ p0, x.block < W.heap.size := by obtain ⟨m, hm⟩ := h0; exact DataW.trod_lt m _ _ _ hm
  obtain ⟨y0, f0, e0⟩ := argStrs.run (hval 0 22 v0 rfl rfl) h0
  clear hA0 hval0 hsz0
  obtain ⟨k, hk⟩ := (Go.PL.ReadOne_ev y0).rounds
  refine (run_law (Tf.tapewrightlaw09_ReadOne.ok k) rfl (a := y0) rfl rfl hk (w := W) (vals := [v0]) rfl (fun i v x hv hx => ?_) (gok hL)).mono fun e W' ⟨he, bel⟩ => ?_
  · match i, hv, hx with
    | 0, hv, hx => cases hv; cases hx; exact e0
    | _ + 1, hv, hx => cases hx
  subst he
  exact ⟨_, rfl, _, _, _, [], _, [], hW', trodAll_mk1 (shut_bool Tryz.underlying4 _), (trodAll_cons_mk (Below.trod laidOut (by kernel_rfl) (of_decide_eq_true (by kernel_rfl)) h0 bel lt0) trodAll_mk0), rfl, bel.frame _, fun h => by cases h⟩
theorem over : Rows.readOneRow.holds Tryz.pinned (OpenSpec.ofChange Rows.readOneSpec) :=
  OpenClaim.holds_of_wide 5 Tryz.f5 rfl rfl rfl rfl rfl rfl rfl ⟨rfl, rfl, rfl, rfl, rfl⟩ rfl rfl rfl rfl rfl (by kernel_rfl) Tryz.func5 (by kernel_rfl)
    (of_decide_eq_true (by kernel_rfl)) (by unfold Func.isWrapper; first | (rw [if_pos (by decide +kernel)]; kernel_rfl) | (rw [if_neg (by decide +kernel)]; exact ⟨rfl, rfl⟩))
    (fun os started H enc _ => lifted os started H enc)
theorem card : Rows.ReadOneCardSaid :=
  Claim7.holds_tied_plain_at .later [] [.data, .data, .data, .data, .sentinel, .sentinel, .sentinel, .sentinel, .pinned] true (true, "fb1af7536014a3cfc210cf11ea8a697b3eff81a37a579b7a3656a0efa6388bcc") true over (fun _ h => by cases h) (by kernel_rfl) (fun _ h => by cases h) readOne_row_tie rfl ⟨rfl, rfl⟩ (by kernel_rfl) rfl
    (fun f fn hf hfn => by
      obtain rfl : f = 5 := Option.some.inj ((show Tryz.prog.funcNamed "tapewright/tapewrightlaw09.ReadOne" = some 5 by kernel_rfl).symm.trans hf) |>.symm
      obtain rfl : fn = Tryz.f5 := (Option.some.inj (Tryz.func5.symm.trans hfn)).symm
      exact ⟨by kernel_rfl, fun j t ht => by
        rw [Tryz.params5] at ht
        have hm : t ∈ [22] := by have := Array.mem_of_getElem? ht; simpa using this
        have hall : ([22].all fun u => !Tryz.prog.wantsStandIn u) = true := by kernel_rfl
        exact (show Tryz.prog.wantsStandIn t = false by simpa using List.all_eq_true.1 hall t hm)⟩)
    (by kernel_rfl)
end Go.Proofs.YtffpponklejidaaGreatDoor.readOne
namespace Go.Proofs.YtffpponklejidaaGreatDoor
/-- The card, under a short name, for the claim. -/
theorem readOne_card_holds : Rows.ReadOneCardSaid := readOne.card
#print axioms readOne_card_holds
end Go.Proofs.YtffpponklejidaaGreatDoor
