/- For every input tapewrightlaw17.PlanMore answers true. Conditions: none beyond the statement's own. -/
import Derived.Test.YtljgpddjfobilaaDoorQ0
import Derived.Test.YtljgpddjfobilaaDoorRows
import Derived.WalkKit
import Derived.ProofKit
import Derived.OpenShut
import Derived.ShutString
import Derived.ChangeOld
import Derived.Below
import Derived.SizedLaws
import Derived.Lib.SmallJoins
import Derived.LaidMore
import Derived.LaidSub
import Derived.Lay
import Derived.SevenTiedAt
import Derived.Stop.Joined
import Derived.Stop.LaidErr
import Derived.FnData
import Derived.Test.YtljgpddjfobilaaDoorTie
import Derived.Test.YtljgpddjfobilaaDoorCards
set_option linter.unusedVariables false
set_option linter.unusedSimpArgs false
namespace Go.PL
open Go Go.VI
theorem rd_mem {l : List Int} {j : Nat} (h : j < l.length) : rd l (j : Int) ∈ l := by rw [rd_nat l j h]; exact List.getElem_mem _
theorem more_l10 (s ks : List Int) (cnt : Int) (hkl : ks.length ≤ 1000) (h : ∀ p ∈ ks, 0 ≤ p ∧ p < (s.length : Int)) : ∀ (d i : Nat), i + d = ks.length →
    EvG (fun _ L => L ((i : Int), (s, (cnt, (ks, (ks, (ks.length : Int))))))) Tf.tapewrightlaw17_PlanMore.s10 (.inr (s, (cnt, ks))) := by
  intro d
  induction d with
  | zero =>
    intro i hi
    refine EvG.step (fun F L => ?_) (EvG.now _)
    dsimp only [Tf.tapewrightlaw17_PlanMore.s10]
    simp only [bif_if, decide_eq_true_eq]
    rw [if_neg (by omega)]
  | succ d ih =>
    intro i hi
    have hi2 := h _ (rd_mem (show i < ks.length by omega))
    refine EvG.step (fun F L => ?_) (ih (i + 1) (by omega))
    dsimp only [Tf.tapewrightlaw17_PlanMore.s10]
    simp only [bif_if, decide_eq_true_eq, inR_iff, rd_def]
    rw [if_pos (by omega), if_pos (by omega), if_neg (by omega), if_neg (by omega), w64 (by omega) (by omega), succ_cast]
theorem more_l19 (s ks part : List Int) (cnt a n i : Int) (hpl : part.length ≤ 1000) (h : ∀ p ∈ part, 0 ≤ p ∧ p < (s.length : Int)) (ha : 0 ≤ a ∧ a < (s.length : Int)) (hd : ∀ p ∈ part, a ≠ p → rd s a ≠ rd s p) : ∀ (d j : Nat), j + d = part.length →
    EvG (fun _ L => L ((j : Int), (s, (cnt, (a, (part, (ks, (ks, (n, (i, (part.length : Int))))))))))) Tf.tapewrightlaw17_PlanMore.s19 (.inr (s, (cnt, (ks, (ks, (n, i)))))) := by
  intro d
  induction d with
  | zero =>
    intro j hj
    refine EvG.step (fun F L => ?_) (EvG.now _)
    dsimp only [Tf.tapewrightlaw17_PlanMore.s19]
    simp only [bif_if, decide_eq_true_eq]
    rw [if_neg (by omega)]
  | succ d ih =>
    intro j hj
    have hm := rd_mem (show j < part.length by omega)
    have hj2 := h _ hm
    have hj3 := hd _ hm
    refine EvG.step (fun F L => ?_) (ih (j + 1) (by omega))
    dsimp only [Tf.tapewrightlaw17_PlanMore.s19]
    simp only [bif_if, decide_eq_true_eq, inR_iff, rd_def, bne_iff_ne, beq_iff_eq]
    rw [if_pos (by omega), if_pos (by omega), w64 (by omega) (by omega), succ_cast]
    by_cases e : a = rd part (j : Int)
    · rw [if_neg (by simpa using e)]
    · rw [if_pos e, if_pos ha, if_pos hj2, if_neg (hj3 e)]
theorem more_l16 (s ks : List Int) (cnt : Int) (hkl : ks.length ≤ 1000) (h : ∀ p ∈ ks, 0 ≤ p ∧ p < (s.length : Int)) (hd : ∀ p ∈ ks, ∀ q ∈ ks, p ≠ q → rd s p ≠ rd s q) : ∀ (d i : Nat), i + d = ks.length →
    EvG (fun _ L => L (s, (cnt, ((i : Int), (ks, (ks, (ks.length : Int))))))) Tf.tapewrightlaw17_PlanMore.s16 (.inr ()) := by
  intro d
  induction d with
  | zero =>
    intro i hi
    refine EvG.step (fun F L => ?_) (EvG.now _)
    dsimp only [Tf.tapewrightlaw17_PlanMore.s16]
    simp only [bif_if, decide_eq_true_eq]
    rw [if_neg (by omega)]
  | succ d ih =>
    intro i hi
    have hm := rd_mem (show i < ks.length by omega)
    have hs : ∀ p ∈ ks.take i, p ∈ ks := fun p hp => List.mem_of_mem_take hp
    have h19 := more_l19 s ks (ks.take i) cnt (rd ks (i : Int)) (ks.length : Int) (i : Int) (by simp; omega) (fun p hp => h p (hs p hp)) (h _ hm) (fun p hp => hd _ hm p (hs p hp)) (ks.take i).length 0 (by omega)
    refine EvG.loop ?_
    simp only [Tf.tapewrightlaw17_PlanMore.s16, bif_if, decide_eq_true_eq, inR_iff, rd_def, Bool.and_eq_true, List.drop_zero, Int.toNat_natCast]
    refine EvG.pos (by omega) (EvG.pos (by omega) (EvG.pos (by omega) (EvG.bind (Ev.iter h19) ?_)))
    dsimp only [sumE]
    rw [w64 (by omega) (by omega), succ_cast]
    exact ih (i + 1) (by omega)
/-- PlanMore answers true. -/
theorem PlanMore_ev (l : List VI.Node) (loss : Int) (keep : List Int) : Ev (fun F => Tf.tapewrightlaw17_PlanMore.f F ((l, loss), keep)) true := by
  obtain ⟨b, hb, hbp⟩ := smallG_ev l loss
  have aw := Ev_ret planAwake_ev
  simp only [Tf.tapewrightlaw17_PlanMore.f, bif_if, decide_eq_true_eq, bne_iff_ne, beq_iff_eq, Bool.not_eq_true', Nat.ble_eq, set_one, List.replicate_zero, List.nil_append]
  by_cases c : b = true
  · subst c
    obtain ⟨hn, hl⟩ := hbp rfl
    refine Ev.bind hb (Ev_neg (by simp) (EvIf (fun hk => aw) (fun hk => ?_)))
    have hM := make_ev l loss keep hl (by omega) (by omega)
    refine Ev.bind hM ?_
    cases hok : okB l loss keep with
    | false =>
      rw [if_neg (by simp)]
      exact Ev_pos (by simp) (Ev_pos (by simp) aw)
    | true =>
      rw [if_pos rfl]
      have hge := lastV_ge l loss keep (ok_right hok).parts
      obtain ⟨m1, m2, m3, m4⟩ := makeGo_ok (lastV l loss keep) l.length (fun j hj => (hge j hj).1) l.length 0 [] [] (by omega) rfl (by simp) (fun j hj => by omega) (fun j k h1 h2 => by omega)
      have hkept : ∀ p ∈ keep ++ [loss], (0 ≤ p ∧ p < (l.length : Int)) ∧ rd (lastV l loss keep) p = l.length := fun p hp => by
        have hr : 0 ≤ p ∧ p < (l.length : Int) := by
          rcases List.mem_append.1 hp with h | h
          · exact ok_keep hok p h
          · rw [List.mem_singleton] at h; subst h; exact ⟨(ok_right hok).lo, (ok_right hok).hi⟩
        refine ⟨hr, ?_⟩
        have := lastV_kept l loss keep hok p.toNat (by omega)
        rw [show ((p.toNat : Nat) : Int) = p by omega] at this
        rw [this, if_pos]
        rcases List.mem_append.1 hp with h | h
        · simp [h]
        · rw [List.mem_singleton] at h; simp [h]
      generalize (makeGo (lastV l loss keep) l.length 0 [] []).1 = s at *
      generalize (makeGo (lastV l loss keep) l.length 0 [] []).2 = cnt at *
      generalize lastV l loss keep = last at *
      have hdis : ∀ p ∈ keep ++ [loss], ∀ q ∈ keep ++ [loss], p ≠ q → rd s p ≠ rd s q := by
        have key : ∀ p ∈ keep ++ [loss], ∀ q ∈ keep ++ [loss], p < q → rd s q ≠ rd s p := fun p hp q hq hpq heq => by
          have a := hkept p hp; have b := hkept q hq
          have := m4 p.toNat q.toNat (by omega) (by omega)
          rw [show ((p.toNat : Nat) : Int) = p by omega, show ((q.toNat : Nat) : Int) = q by omega] at this
          have := this heq
          omega
        intro p hp q hq hne heq
        by_cases h : p < q
        · exact key p hp q hq h heq.symm
        · exact key q hq p hp (by omega) heq
      have hin : ∀ p ∈ keep ++ [loss], 0 ≤ p ∧ p < (s.length : Int) := fun p hp => by have := (hkept p hp).1; omega
      have hkl : (keep ++ [loss]).length ≤ 1000 := by simp; omega
      dsimp only
      generalize hks : keep ++ [loss] = ks at *
      refine Ev_neg (by simp) (Ev_neg (by omega) (Ev_pos (by omega) (Ev_pos (by omega) (Ev.bind (Ev.iter (more_l10 s ks cnt hkl hin ks.length 0 (by omega))) ?_))))
      dsimp only [sumE]
      refine Ev.bind (Ev.iter (more_l16 s ks cnt hkl hin hdis ks.length 0 (by omega))) ?_
      exact aw
  · exact Ev.bind hb (Ev_pos (by simpa using c) aw)
end Go.PL
namespace Go.Proofs.YtljgpddjfobilaaDoor.planMore
open Go.ChangeShapes Go.WideShapes Go.ChangeAt Go.RowKit Go.VI
theorem laidOut : laidOutB Tryd.prog = true := by kernel_rfl
theorem own : ownKnob Tryd.prog.godebug = none := by kernel_rfl
set_option maxRecDepth 100000 in
theorem g0 {W : World} (hL : laidMetH Tryd.prog Rows.planMoreRow.laid W) : ∃ t u, W.cell? ⟨0, 0, none⟩ = some (.iface t u) := by
  have h1 := hL.filter (fun x => x.1 == "tapewright/rat.errForm")
  have h2 : laidMet Tryd.prog [("tapewright/rat.errForm", Rows.laid_tapewright_rat_errForm)] W := by
    have e : (Rows.planMoreRow.laid.filter (fun x => x.1 == "tapewright/rat.errForm")) = [("tapewright/rat.errForm", Rows.laid_tapewright_rat_errForm)] := by rfl
    rw [e, MakeChecks.laidMetH_plain _ _ _ (by kernel_rfl)] at h1
    exact h1
  obtain ⟨ps, ⟨g, t, cs, fuel, p, q, hg, ht, hv, hd, _, e0⟩, _, hrows⟩ := h2
  have hg' : Tryd.prog.globalNamed "tapewright/rat.errForm" = some 0 := by kernel_rfl
  obtain rfl := Option.some.inj (hg'.symm.trans hg)
  have ht' : (Tryd.prog.globals[0]?).map (·.type) = some 76 := by kernel_rfl
  obtain rfl := Option.some.inj (ht'.symm.trans ht)
  have hu := Tryd.underlying76
  unfold Rows.laid_tapewright_rat_errForm at hd
  rcases fuel with _ | fuel
  · simp [DataW.trod] at hd
  · unfold DataW.trod at hd
    rw [hu] at hd
    have hc := World.var?_cell hg' hv 0
    obtain ⟨l⟩ := cs
    match l, hd, hc with
    | [.iface T v], hd, hc => exact ⟨T, v, by simpa using hc⟩
    | [.nilIface], hd, _ => simp at hd
set_option maxRecDepth 100000 in
theorem g1 {W : World} (hL : laidMetH Tryd.prog Rows.planMoreRow.laid W) : ∃ t u, W.cell? ⟨1, 0, none⟩ = some (.iface t u) := by
  have h1 := hL.filter (fun x => x.1 == "tapewright/rat.errZero")
  have h2 : laidMet Tryd.prog [("tapewright/rat.errZero", Rows.laid_tapewright_rat_errZero)] W := by
    have e : (Rows.planMoreRow.laid.filter (fun x => x.1 == "tapewright/rat.errZero")) = [("tapewright/rat.errZero", Rows.laid_tapewright_rat_errZero)] := by rfl
    rw [e, MakeChecks.laidMetH_plain _ _ _ (by kernel_rfl)] at h1
    exact h1
  obtain ⟨ps, ⟨g, t, cs, fuel, p, q, hg, ht, hv, hd, _, e0⟩, _, hrows⟩ := h2
  have hg' : Tryd.prog.globalNamed "tapewright/rat.errZero" = some 1 := by kernel_rfl
  obtain rfl := Option.some.inj (hg'.symm.trans hg)
  have ht' : (Tryd.prog.globals[1]?).map (·.type) = some 76 := by kernel_rfl
  obtain rfl := Option.some.inj (ht'.symm.trans ht)
  have hu := Tryd.underlying76
  unfold Rows.laid_tapewright_rat_errZero at hd
  rcases fuel with _ | fuel
  · simp [DataW.trod] at hd
  · unfold DataW.trod at hd
    rw [hu] at hd
    have hc := World.var?_cell hg' hv 0
    obtain ⟨l⟩ := cs
    match l, hd, hc with
    | [.iface T v], hd, hc => exact ⟨T, v, by simpa using hc⟩
    | [.nilIface], hd, _ => simp at hd
theorem gok {W : World} (hL : laidMetH Tryd.prog Rows.planMoreRow.laid W) : ∀ g ∈ Go.VI.tyT.G, ∃ t u, W.cell? ⟨g, 0, none⟩ = some (.iface t u) := by
  intro g hg
  change g ∈ [0, 1] at hg
  simp only [List.mem_cons, List.not_mem_nil, or_false] at hg
  rcases hg with rfl | rfl
  · exact g0 hL
  · exact g1 hL
set_option maxRecDepth 100000 in
theorem lifted (os : Os) (started : os.Started) (H : Type) (enc : TypeId × Value → H) :
    ReturnsInHanded {} Tryd.checked os 9 .any (fun w args => (Rows.planMoreSpec.pre enc Tryd.prog Tryd.f9 Rows.planMoreRow.domain false w args ∧ laidMetH Tryd.prog Rows.planMoreRow.laid w) ∧ sizedMet enc Tryd.prog Tryd.f9 (OpenSpec.ofChange Rows.planMoreSpec) false w args) (Rows.planMoreSpec.post enc Tryd.prog Tryd.f9 false true false false) := by
  refine returnsInHanded_of_change_and (C := Tryd.checked) (X := fun w _ => laidMetH Tryd.prog Rows.planMoreRow.laid w) (fun _ _ _ hh h => h.of_heap hh) own started (by kernel_rfl) Tryd.func9
    (ChangeSpec.witness_shaped (enc := enc) (C := Tryd.checked) (os := os) (X := fun w _ => laidMetH Tryd.prog Rows.planMoreRow.laid w) false (World.laidAll Tryd.prog os Rows.planMoreRow.laid) #[.agg #[.slice none 0 0, .int .i64 0], .slice none 0 0] 8 (World.laidAll_os _ _ _)
      (World.shaped_of_ZipB (by kernel_rfl) (by kernel_rfl)) (by kernel_rfl) (by kernel_rfl) (by kernel_rfl)
      (by rw [MakeChecks.laidMetH_plain _ _ _ (by kernel_rfl)]; exact laidMet_laidAll _ (by kernel_rfl) (by kernel_rfl))) ?_
  intro W base args ds gs before hval0 hW hcnd hsz0 hL _
  have hval : ∀ (j : Nat) t v, Tryd.f9.params[j]? = some t → args[j]? = some v → Value.okWide Tryd.prog W .any base t v := hval0
  have hW' := hW
  obtain ⟨p, q, hA0, hV, rfl, hfz, hnd⟩ := hW
  have hA : DataW.TrodAll enc Tryd.prog W 0 (fun _ => true) true Tryd.f9.params.toList args.toList ds p := hA0
  rw [Tryd.params9] at hA hval
  obtain ⟨v0, vs0, d0, ds0, p0, q0, hargs, rfl, rfl, h0, r0⟩ := trodAll_cons hA
  obtain ⟨v1, vs1, d1, ds1, p1, q1, rfl, rfl, rfl, h1, r1⟩ := trodAll_cons r0
  obtain ⟨rfl, rfl, rfl⟩ := trodAll_nil r1
  obtain rfl : args = #[v0, v1] := by cases args; simp_all
  obtain ⟨rfl, rfl⟩ := trodVars_none hV
  have lt0 : ∀ x ∈ p0, x.block < W.heap.size := by obtain ⟨m, hm⟩ := h0; exact DataW.trod_lt m _ _ _ hm
  have lt1 : ∀ x ∈ p1, x.block < W.heap.size := by obtain ⟨m, hm⟩ := h1; exact DataW.trod_lt m _ _ _ hm
  obtain ⟨y0, e0⟩ := argGraph.run (hval 0 24 v0 rfl rfl) h0
  obtain ⟨y1, e1⟩ := argInts.run (hval 1 27 v1 rfl rfl) h1
  clear hA0 hval0 hsz0
  obtain ⟨k, hk⟩ := (Go.PL.PlanMore_ev y0.1 y0.2 y1).rounds
  refine (run_law (Tf.tapewrightlaw17_PlanMore.ok k) rfl (a := (y0, y1)) rfl rfl hk (w := W) (vals := [v0, v1]) rfl (fun i v x hv hx => ?_) (gok hL)).mono fun e W' ⟨he, bel⟩ => ?_
  · match i, hv, hx with
    | 0, hv, hx => cases hv; cases hx; exact e0
    | 1, hv, hx => cases hv; cases hx; exact e1
    | _ + 2, hv, hx => cases hx
  subst he
  exact ⟨_, rfl, _, _, _, [], _, [], hW', trodAll_mk1 (shut_bool Tryd.underlying4 _), (trodAll_cons_mk (Below.trod laidOut (by kernel_rfl) (of_decide_eq_true (by kernel_rfl)) h0 bel lt0) (trodAll_cons_mk (Below.trod laidOut (by kernel_rfl) (of_decide_eq_true (by kernel_rfl)) h1 bel lt1) trodAll_mk0)), rfl, bel.frame _, fun h => by cases h⟩
theorem over : Rows.planMoreRow.holds Tryd.pinned (OpenSpec.ofChange Rows.planMoreSpec) :=
  OpenClaim.holds_of_wide 9 Tryd.f9 rfl rfl rfl rfl rfl rfl rfl ⟨rfl, rfl, rfl, rfl, rfl⟩ rfl rfl rfl rfl rfl (by kernel_rfl) Tryd.func9 (by kernel_rfl)
    (of_decide_eq_true (by kernel_rfl)) (by unfold Func.isWrapper; first | (rw [if_pos (by decide +kernel)]; kernel_rfl) | (rw [if_neg (by decide +kernel)]; exact ⟨rfl, rfl⟩))
    (fun os started H enc _ => lifted os started H enc)
theorem card : Rows.PlanMoreCardSaid :=
  Claim7.holds_tied_plain_at .later [] [.data, .sentinel, .sentinel, .pinned] true (true, "ced8bf572417afeffe5849de449b1b861b9e315672932f7e8e505ed9f4a3eb80") false over (fun _ h => by cases h) (by kernel_rfl) (fun _ h => by cases h) planMore_row_tie rfl ⟨rfl, rfl⟩ (by kernel_rfl) rfl
    (fun f fn hf hfn => by
      obtain rfl : f = 9 := Option.some.inj ((show Tryd.prog.funcNamed "tapewright/tapewrightlaw17.PlanMore" = some 9 by kernel_rfl).symm.trans hf) |>.symm
      obtain rfl : fn = Tryd.f9 := (Option.some.inj (Tryd.func9.symm.trans hfn)).symm
      exact ⟨by kernel_rfl, fun j t ht => by
        rw [Tryd.params9] at ht
        have hm : t ∈ [24, 27] := by have := Array.mem_of_getElem? ht; simpa using this
        have hall : ([24, 27].all fun u => !Tryd.prog.wantsStandIn u) = true := by kernel_rfl
        exact (show Tryd.prog.wantsStandIn t = false by simpa using List.all_eq_true.1 hall t hm)⟩)
    (by kernel_rfl)
end Go.Proofs.YtljgpddjfobilaaDoor.planMore
namespace Go.Proofs.YtljgpddjfobilaaDoor
/-- The card, under a short name, for the claim. -/
theorem planMore_card_holds : Rows.PlanMoreCardSaid := planMore.card
#print axioms planMore_card_holds
end Go.Proofs.YtljgpddjfobilaaDoor
