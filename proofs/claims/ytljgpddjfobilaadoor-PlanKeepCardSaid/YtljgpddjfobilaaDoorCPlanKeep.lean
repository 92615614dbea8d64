/- For every input tapewrightlaw17.PlanKeep answers true. Conditions: none beyond the statement's own. -/
import Derived.Test.YtljgpddjfobilaaDoorQ0
import Derived.Test.YtljgpddjfobilaaDoorRows
import Derived.WalkKit
import Derived.ProofKit
import Derived.OpenShut
import Derived.ShutString
import Derived.ChangeOld
import Derived.Below
import Derived.SizedLaws
import Derived.Lib.SmallJoins
import Derived.LaidMore
import Derived.LaidSub
import Derived.Lay
import Derived.SevenTiedAt
import Derived.Stop.Joined
import Derived.Stop.LaidErr
import Derived.FnData
import Derived.Test.YtljgpddjfobilaaDoorTie
import Derived.Test.YtljgpddjfobilaaDoorCards
set_option linter.unusedVariables false
set_option linter.unusedSimpArgs false
namespace Go.PL
open Go Go.VI
theorem keep_l5 (l : List VI.Node) (loss : Int) (keep : List Int) (hn : l.length ≤ 1000) : ∀ (d i : Nat), i + d = l.length →
    EvG (fun _ L => L ((i : Int), (allN i, (l, (loss, (keep, (l.length : Int))))))) Tf.tapewrightlaw17_PlanKeep.s5 (l, (loss, (allN l.length, keep))) := by
  intro d
  induction d with
  | zero =>
    intro i hi
    refine EvG.step (fun F L => ?_) (EvG.now _)
    dsimp only [Tf.tapewrightlaw17_PlanKeep.s5]
    simp only [bif_if, decide_eq_true_eq]
    rw [if_neg (by omega), show i = l.length by omega]
  | succ d ih =>
    intro i hi
    refine EvG.step (fun F L => ?_) (ih (i + 1) (by omega))
    dsimp only [Tf.tapewrightlaw17_PlanKeep.s5]
    simp only [bif_if, decide_eq_true_eq, set_one, Nat.ble_eq]
    rw [if_pos (by omega), if_pos (by rw [allN_len]; omega), w64 (by omega) (by omega), succ_cast, allN_succ]
theorem keep_l16 (l : List VI.Node) (loss : Int) (w all : List Int) (e : Int) (hn : l.length ≤ 1000) (hw : w.length ≤ l.length) (h : ∀ j : Nat, j < w.length → (j : Int) ≤ rd w (j : Int) ∧ rd w (j : Int) ≤ l.length) : ∀ (d i : Nat), i + d = w.length →
    EvG (fun _ L => L ((i : Int), (l, (loss, (w, (all, (w, (e, (w.length : Int))))))))) Tf.tapewrightlaw17_PlanKeep.s16 (.inr (all, (l, (loss, (w, e))))) := by
  intro d
  induction d with
  | zero =>
    intro i hi
    refine EvG.step (fun F L => ?_) (EvG.now _)
    dsimp only [Tf.tapewrightlaw17_PlanKeep.s16]
    simp only [bif_if, decide_eq_true_eq]
    rw [if_neg (by omega)]
  | succ d ih =>
    intro i hi
    have hi2 := h i (by omega)
    refine EvG.step (fun F L => ?_) (ih (i + 1) (by omega))
    dsimp only [Tf.tapewrightlaw17_PlanKeep.s16]
    simp only [bif_if, decide_eq_true_eq, inR_iff, rd_def]
    rw [if_pos (by omega), if_pos (by omega), if_neg (by omega), if_neg (by omega), w64 (by omega) (by omega), succ_cast]
/-- PlanKeep answers true. -/
theorem PlanKeep_ev (l : List VI.Node) (loss : Int) (keep : List Int) : Ev (fun F => Tf.tapewrightlaw17_PlanKeep.f F ((l, loss), keep)) true := by
  obtain ⟨b, hb, hbp⟩ := smallG_ev l loss
  have aw := Ev_ret planAwake_ev
  simp only [Tf.tapewrightlaw17_PlanKeep.f, bif_if, decide_eq_true_eq, bne_iff_ne, beq_iff_eq, Bool.not_eq_true', inR_iff, rd_def]
  by_cases c : b = true
  · subst c
    obtain ⟨hn, hl⟩ := hbp rfl
    refine Ev.bind hb (Ev_neg (by simp) (EvIf (fun hk => aw) (fun hk => ?_)))
    have hA := keep_l5 l loss keep (by omega) l.length 0 (by omega)
    have hM := make_ev l loss (allN l.length) hl (by omega) (by rw [allN_len]; omega)
    have hL := last_ev l loss keep hl (by omega) (by omega)
    refine Ev.bind (Ev.iter hA) (Ev.bind hM ?_)
    rw [okB_all] at *
    cases hg : graphV l loss with
    | false =>
      have hk0 : okB l loss keep = false := by simp [okB, hg]
      rw [hk0] at hL
      refine Ev.bind hL ?_
      simp only [Bool.false_eq_true, if_false]
      exact Ev_pos (by simp) (Ev_pos trivial (Ev_pos trivial aw))
    | true =>
      have hka : okB l loss (allN l.length) = true := by rw [okB_all, hg]
      have hlast : ∀ j : Nat, j < l.length → rd (lastV l loss (allN l.length)) (j : Int) = l.length := fun j hj => by
        rw [lastV_kept l loss _ hka j hj, if_pos (List.mem_cons.2 (.inr (mem_allN.2 ⟨by omega, by omega⟩)))]
      have hmk := makeGo_all (lastV l loss (allN l.length)) l.length hlast l.length 0 (by omega)
      have e0 : makeGo (lastV l loss (allN l.length)) l.length 0 [] [] = (allN l.length, (l.length : Int)) := hmk
      simp only [if_true, e0]
      refine Ev.bind hL (Ev_neg (by simp) (Ev.bind (rsame_ev _ _ (by rw [allN_len]; omega)) (Ev_neg (by simp) (Ev_neg (by simp [allN_len]) ?_))))
      have hro := graph_rightOk hg
      have h3 := hro.lo; have h4 := hro.hi
      cases hk2 : okB l loss keep with
      | true =>
        rw [if_pos rfl]
        have hge := lastV_ge l loss keep (ok_right hk2).parts
        have hll := lastV_len l loss keep
        have hls := lastV_kept l loss keep hk2 loss.toNat (by omega)
        rw [show ((loss.toNat : Nat) : Int) = loss by omega, if_pos (by simp)] at hls
        generalize lastV l loss keep = w at *
        dsimp only
        refine Ev.bind (Ev.iter (keep_l16 l loss w (allN l.length) 0 (by omega) (by omega) (fun j hj => hge j (by omega)) w.length 0 (by omega))) ?_
        dsimp only [sumE]
        rw [allN_len, hls, hll]
        exact Ev_neg (by simp) (Ev_pos rfl (Ev_pos (by omega) (Ev_pos (by omega) (Ev_pos (by omega) (Ev_pos rfl aw)))))
      | false =>
        rw [if_neg (by simp)]
        dsimp only
        refine Ev.bind (Ev.iter (keep_l16 l loss [] (allN l.length) 1 (by omega) (by simp) (fun j hj => by simp at hj) 0 0 rfl)) ?_
        dsimp only [sumE]
        exact Ev_pos (by simp) aw
  · exact Ev.bind hb (Ev_pos (by simpa using c) aw)
end Go.PL
namespace Go.Proofs.YtljgpddjfobilaaDoor.planKeep
open Go.ChangeShapes Go.WideShapes Go.ChangeAt Go.RowKit Go.VI
theorem laidOut : laidOutB Tryd.prog = true := by kernel_rfl
theorem own : ownKnob Tryd.prog.godebug = none := by kernel_rfl
set_option maxRecDepth 100000 in
theorem g0 {W : World} (hL : laidMetH Tryd.prog Rows.planKeepRow.laid W) : ∃ t u, W.cell? ⟨0, 0, none⟩ = some (.iface t u) := by
  have h1 := hL.filter (fun x => x.1 == "tapewright/rat.errForm")
  have h2 : laidMet Tryd.prog [("tapewright/rat.errForm", Rows.laid_tapewright_rat_errForm)] W := by
    have e : (Rows.planKeepRow.laid.filter (fun x => x.1 == "tapewright/rat.errForm")) = [("tapewright/rat.errForm", Rows.laid_tapewright_rat_errForm)] := by rfl
    rw [e, MakeChecks.laidMetH_plain _ _ _ (by kernel_rfl)] at h1
    exact h1
  obtain ⟨ps, ⟨g, t, cs, fuel, p, q, hg, ht, hv, hd, _, e0⟩, _, hrows⟩ := h2
  have hg' : Tryd.prog.globalNamed "tapewright/rat.errForm" = some 0 := by kernel_rfl
  obtain rfl := Option.some.inj (hg'.symm.trans hg)
  have ht' : (Tryd.prog.globals[0]?).map (·.type) = some 76 := by kernel_rfl
  obtain rfl := Option.some.inj (ht'.symm.trans ht)
  have hu := Tryd.underlying76
  unfold Rows.laid_tapewright_rat_errForm at hd
  rcases fuel with _ | fuel
  · simp [DataW.trod] at hd
  · unfold DataW.trod at hd
    rw [hu] at hd
    have hc := World.var?_cell hg' hv 0
    obtain ⟨l⟩ := cs
    match l, hd, hc with
    | [.iface T v], hd, hc => exact ⟨T, v, by simpa using hc⟩
    | [.nilIface], hd, _ => simp at hd
set_option maxRecDepth 100000 in
theorem g1 {W : World} (hL : laidMetH Tryd.prog Rows.planKeepRow.laid W) : ∃ t u, W.cell? ⟨1, 0, none⟩ = some (.iface t u) := by
  have h1 := hL.filter (fun x => x.1 == "tapewright/rat.errZero")
  have h2 : laidMet Tryd.prog [("tapewright/rat.errZero", Rows.laid_tapewright_rat_errZero)] W := by
    have e : (Rows.planKeepRow.laid.filter (fun x => x.1 == "tapewright/rat.errZero")) = [("tapewright/rat.errZero", Rows.laid_tapewright_rat_errZero)] := by rfl
    rw [e, MakeChecks.laidMetH_plain _ _ _ (by kernel_rfl)] at h1
    exact h1
  obtain ⟨ps, ⟨g, t, cs, fuel, p, q, hg, ht, hv, hd, _, e0⟩, _, hrows⟩ := h2
  have hg' : Tryd.prog.globalNamed "tapewright/rat.errZero" = some 1 := by kernel_rfl
  obtain rfl := Option.some.inj (hg'.symm.trans hg)
  have ht' : (Tryd.prog.globals[1]?).map (·.type) = some 76 := by kernel_rfl
  obtain rfl := Option.some.inj (ht'.symm.trans ht)
  have hu := Tryd.underlying76
  unfold Rows.laid_tapewright_rat_errZero at hd
  rcases fuel with _ | fuel
  · simp [DataW.trod] at hd
  · unfold DataW.trod at hd
    rw [hu] at hd
    have hc := World.var?_cell hg' hv 0
    obtain ⟨l⟩ := cs
    match l, hd, hc with
    | [.iface T v], hd, hc => exact ⟨T, v, by simpa using hc⟩
    | [.nilIface], hd, _ => simp at hd
theorem gok {W : World} (hL : laidMetH Tryd.prog Rows.planKeepRow.laid W) : ∀ g ∈ Go.VI.tyT.G, ∃ t u, W.cell? ⟨g, 0, none⟩ = some (.iface t u) := by
  intro g hg
  change g ∈ [0, 1] at hg
  simp only [List.mem_cons, List.not_mem_nil, or_false] at hg
  rcases hg with rfl | rfl
  · exact g0 hL
  · exact g1 hL
set_option maxRecDepth 100000 in
theorem lifted (os : Os) (started : os.Started) (H : Type) (enc : TypeId × Value → H) :
    ReturnsInHanded {} Tryd.checked os 7 .any (fun w args => (Rows.planKeepSpec.pre enc Tryd.prog Tryd.f7 Rows.planKeepRow.domain false w args ∧ laidMetH Tryd.prog Rows.planKeepRow.laid w) ∧ sizedMet enc Tryd.prog Tryd.f7 (OpenSpec.ofChange Rows.planKeepSpec) false w args) (Rows.planKeepSpec.post enc Tryd.prog Tryd.f7 false true false false) := by
  refine returnsInHanded_of_change_and (C := Tryd.checked) (X := fun w _ => laidMetH Tryd.prog Rows.planKeepRow.laid w) (fun _ _ _ hh h => h.of_heap hh) own started (by kernel_rfl) Tryd.func7
    (ChangeSpec.witness_shaped (enc := enc) (C := Tryd.checked) (os := os) (X := fun w _ => laidMetH Tryd.prog Rows.planKeepRow.laid w) false (World.laidAll Tryd.prog os Rows.planKeepRow.laid) #[.agg #[.slice none 0 0, .int .i64 0], .slice none 0 0] 8 (World.laidAll_os _ _ _)
      (World.shaped_of_ZipB (by kernel_rfl) (by kernel_rfl)) (by kernel_rfl) (by kernel_rfl) (by kernel_rfl)
      (by rw [MakeChecks.laidMetH_plain _ _ _ (by kernel_rfl)]; exact laidMet_laidAll _ (by kernel_rfl) (by kernel_rfl))) ?_
  intro W base args ds gs before hval0 hW hcnd hsz0 hL _
  have hval : ∀ (j : Nat) t v, Tryd.f7.params[j]? = some t → args[j]? = some v → Value.okWide Tryd.prog W .any base t v := hval0
  have hW' := hW
  obtain ⟨p, q, hA0, hV, rfl, hfz, hnd⟩ := hW
  have hA : DataW.TrodAll enc Tryd.prog W 0 (fun _ => true) true Tryd.f7.params.toList args.toList ds p := hA0
  rw [Tryd.params7] at hA hval
  obtain ⟨v0, vs0, d0, ds0, p0, q0, hargs, rfl, rfl, h0, r0⟩ := trodAll_cons hA
  obtain ⟨v1, vs1, d1, ds1, p1, q1, rfl, rfl, rfl, h1, r1⟩ := trodAll_cons r0
  obtain ⟨rfl, rfl, rfl⟩ := trodAll_nil r1
  obtain rfl : args = #[v0, v1] := by cases args; simp_all
  obtain ⟨rfl, rfl⟩ := trodVars_none hV
  have lt0 : ∀ x ∈ p0, x.block < W.heap.size := by obtain ⟨m, hm⟩ := h0; exact DataW.trod_lt m _ _ _ hm
  have lt1 : ∀ x ∈ p1, x.block < W.heap.size := by obtain ⟨m, hm⟩ := h1; exact DataW.trod_lt m _ _ _ hm
  obtain ⟨y0, e0⟩ := argGraph.run (hval 0 24 v0 rfl rfl) h0
  obtain ⟨y1, e1⟩ := argInts.run (hval 1 27 v1 rfl rfl) h1
  clear hA0 hval0 hsz0
  obtain ⟨k, hk⟩ := (Go.PL.PlanKeep_ev y0.1 y0.2 y1).rounds
  refine (run_law (Tf.tapewrightlaw17_PlanKeep.ok k) rfl (a := (y0, y1)) rfl rfl hk (w := W) (vals := [v0, v1]) rfl (fun i v x hv hx => ?_) (gok hL)).mono fun e W' ⟨he, bel⟩ => ?_
  · match i, hv, hx with
    | 0, hv, hx => cases hv; cases hx; exact e0
    | 1, hv, hx => cases hv; cases hx; exact e1
    | _ + 2, hv, hx => cases hx
  subst he
  exact ⟨_, rfl, _, _, _, [], _, [], hW', trodAll_mk1 (shut_bool Tryd.underlying4 _), (trodAll_cons_mk (Below.trod laidOut (by kernel_rfl) (of_decide_eq_true (by kernel_rfl)) h0 bel lt0) (trodAll_cons_mk (Below.trod laidOut (by kernel_rfl) (of_decide_eq_true (by kernel_rfl)) h1 bel lt1) trodAll_mk0)), rfl, bel.frame _, fun h => by cases h⟩
theorem over : Rows.planKeepRow.holds Tryd.pinned (OpenSpec.ofChange Rows.planKeepSpec) :=
  OpenClaim.holds_of_wide 7 Tryd.f7 rfl rfl rfl rfl rfl rfl rfl ⟨rfl, rfl, rfl, rfl, rfl⟩ rfl rfl rfl rfl rfl (by kernel_rfl) Tryd.func7 (by kernel_rfl)
    (of_decide_eq_true (by kernel_rfl)) (by unfold Func.isWrapper; first | (rw [if_pos (by decide +kernel)]; kernel_rfl) | (rw [if_neg (by decide +kernel)]; exact ⟨rfl, rfl⟩))
    (fun os started H enc _ => lifted os started H enc)
theorem card : Rows.PlanKeepCardSaid :=
  Claim7.holds_tied_plain_at .later [] [.data, .sentinel, .sentinel, .pinned] true (true, "ced8bf572417afeffe5849de449b1b861b9e315672932f7e8e505ed9f4a3eb80") false over (fun _ h => by cases h) (by kernel_rfl) (fun _ h => by cases h) planKeep_row_tie rfl ⟨rfl, rfl⟩ (by kernel_rfl) rfl
    (fun f fn hf hfn => by
      obtain rfl : f = 7 := Option.some.inj ((show Tryd.prog.funcNamed "tapewright/tapewrightlaw17.PlanKeep" = some 7 by kernel_rfl).symm.trans hf) |>.symm
      obtain rfl : fn = Tryd.f7 := (Option.some.inj (Tryd.func7.symm.trans hfn)).symm
      exact ⟨by kernel_rfl, fun j t ht => by
        rw [Tryd.params7] at ht
        have hm : t ∈ [24, 27] := by have := Array.mem_of_getElem? ht; simpa using this
        have hall : ([24, 27].all fun u => !Tryd.prog.wantsStandIn u) = true := by kernel_rfl
        exact (show Tryd.prog.wantsStandIn t = false by simpa using List.all_eq_true.1 hall t hm)⟩)
    (by kernel_rfl)
end Go.Proofs.YtljgpddjfobilaaDoor.planKeep
namespace Go.Proofs.YtljgpddjfobilaaDoor
/-- The card, under a short name, for the claim. -/
theorem planKeep_card_holds : Rows.PlanKeepCardSaid := planKeep.card
#print axioms planKeep_card_holds
end Go.Proofs.YtljgpddjfobilaaDoor
