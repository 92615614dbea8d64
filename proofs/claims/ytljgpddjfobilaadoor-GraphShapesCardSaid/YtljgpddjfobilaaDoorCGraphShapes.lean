/- For every input tapewrightlaw10.GraphShapes answers true. Conditions: none beyond the statement's own. -/
import Derived.Test.YtljgpddjfobilaaDoorQ0
import Derived.Test.YtljgpddjfobilaaDoorRows
import Derived.WalkKit
import Derived.ProofKit
import Derived.OpenShut
import Derived.ShutString
import Derived.ChangeOld
import Derived.Below
import Derived.SizedLaws
import Derived.Lib.SmallJoins
import Derived.LaidMore
import Derived.LaidSub
import Derived.Lay
import Derived.SevenTiedAt
import Derived.Stop.Joined
import Derived.Stop.LaidErr
import Derived.FnData
import Derived.Test.YtljgpddjfobilaaDoorTie
import Derived.Test.YtljgpddjfobilaaDoorCards
set_option linter.unusedVariables false
set_option linter.unusedSimpArgs false
namespace Go.PL
open Go Go.VI
theorem shapes_l4 (l : List VI.Node) (loss : Int) (hl : ∀ y ∈ l, smallN y) (hn : l.length ≤ 40) (hg : graphV l loss = true) : ∀ (d i : Nat), i + d = l.length →
    EvG (fun _ L => L ((i : Int), (l, (loss, (l, (l.length : Int)))))) Tf.tapewrightlaw10_GraphShapes.s4 (.inr ()) := by
  intro d
  induction d with
  | zero =>
    intro i hi
    refine EvG.step (fun F L => ?_) (EvG.now _)
    dsimp only [Tf.tapewrightlaw10_GraphShapes.s4]
    simp only [bif_if, decide_eq_true_eq]
    rw [if_neg (by omega)]
  | succ d ih =>
    intro i hi
    have e0 : l.getD (i : Int).toNat (dflt 6) = nd l (i : Int) := rfl
    have e1 : (l.take (i : Int).toNat).drop 0 = l.take i := by simp
    have hx := hl _ (nd_mem (l := l) (i := (i : Int)) ⟨by omega, by omega⟩)
    have h1 := graph_all hg i (by omega)
    have h2 : inferV l (nd l (i : Int)) = ((nd l (i : Int)).shape, true) := by
      have := inferV_more (l := l.take i) (r := l.drop i) (x := nd l (i : Int)) (by rw [h1])
      rw [List.take_append_drop] at this
      rw [this, h1]
    have h3 := inferV_rightS (l := l.take i) (x := nd l (i : Int)) (by rw [h1])
    have g1 := infer_ev (l.take i) (nd l (i : Int)) (fun y hy => hl y (List.mem_of_mem_take hy)) hx
    have g2 := infer_ev l (nd l (i : Int)) hl hx
    rw [h1] at h3 g1
    rw [h2] at g2
    have h4 := (rightS_iff _).1 h3
    have g3 := rsame_ev (nd l (i : Int)).shape (nd l (i : Int)).shape (by have := hx.2.1; omega)
    have g4 := rsize_ev _ h3
    refine EvG.loop ?_
    simp only [Tf.tapewrightlaw10_GraphShapes.s4, bif_if, decide_eq_true_eq, Bool.and_eq_true, inR_iff, e0, e1]
    refine EvG.pos (by omega) (EvG.pos (by omega) (EvG.pos (by omega) (EvG.bind g1 (EvG.bind g2 (EvG.neg (by simp) (EvG.neg (by simp) (EvG.bind g3 (EvG.neg (by simp) (EvG.bind g3 (EvG.neg (by simp) (EvG.bind g4 (EvG.neg (by omega) ?_))))))))))))
    rw [w64 (by omega) (by omega), succ_cast]
    exact ih (i + 1) (by omega)
/-- GraphShapes answers true. -/
theorem GraphShapes_ev (l : List VI.Node) (loss : Int) : Ev (fun F => Tf.tapewrightlaw10_GraphShapes.f F (l, loss)) true := by
  obtain ⟨b, hb, hbp⟩ := smallG_ev l loss
  have aw := Ev_ret graphAwake_ev
  simp only [Tf.tapewrightlaw10_GraphShapes.f, bif_if, Bool.not_eq_true']
  by_cases c : b = true
  · subst c
    obtain ⟨hn, hl⟩ := hbp rfl
    refine Ev.bind hb (Ev_neg (by simp) (Ev.bind (graph_ev l loss hl (by omega)) ?_))
    cases hg : graphV l loss with
    | false => exact Ev_pos rfl aw
    | true =>
      refine Ev_neg (by simp) (Ev.bind (Ev.iter (shapes_l4 l loss hl hn hg l.length 0 (by omega))) ?_)
      exact aw
  · exact Ev.bind hb (Ev_pos (by simpa using c) aw)
end Go.PL
namespace Go.Proofs.YtljgpddjfobilaaDoor.graphShapes
open Go.ChangeShapes Go.WideShapes Go.ChangeAt Go.RowKit Go.VI
theorem laidOut : laidOutB Tryd.prog = true := by kernel_rfl
theorem own : ownKnob Tryd.prog.godebug = none := by kernel_rfl
set_option maxRecDepth 100000 in
theorem g0 {W : World} (hL : laidMetH Tryd.prog Rows.graphShapesRow.laid W) : ∃ t u, W.cell? ⟨0, 0, none⟩ = some (.iface t u) := by
  have h1 := hL.filter (fun x => x.1 == "tapewright/rat.errForm")
  have h2 : laidMet Tryd.prog [("tapewright/rat.errForm", Rows.laid_tapewright_rat_errForm)] W := by
    have e : (Rows.graphShapesRow.laid.filter (fun x => x.1 == "tapewright/rat.errForm")) = [("tapewright/rat.errForm", Rows.laid_tapewright_rat_errForm)] := by rfl
    rw [e, MakeChecks.laidMetH_plain _ _ _ (by kernel_rfl)] at h1
    exact h1
  obtain ⟨ps, ⟨g, t, cs, fuel, p, q, hg, ht, hv, hd, _, e0⟩, _, hrows⟩ := h2
  have hg' : Tryd.prog.globalNamed "tapewright/rat.errForm" = some 0 := by kernel_rfl
  obtain rfl := Option.some.inj (hg'.symm.trans hg)
  have ht' : (Tryd.prog.globals[0]?).map (·.type) = some 76 := by kernel_rfl
  obtain rfl := Option.some.inj (ht'.symm.trans ht)
  have hu := Tryd.underlying76
  unfold Rows.laid_tapewright_rat_errForm at hd
  rcases fuel with _ | fuel
  · simp [DataW.trod] at hd
  · unfold DataW.trod at hd
    rw [hu] at hd
    have hc := World.var?_cell hg' hv 0
    obtain ⟨l⟩ := cs
    match l, hd, hc with
    | [.iface T v], hd, hc => exact ⟨T, v, by simpa using hc⟩
    | [.nilIface], hd, _ => simp at hd
set_option maxRecDepth 100000 in
theorem g1 {W : World} (hL : laidMetH Tryd.prog Rows.graphShapesRow.laid W) : ∃ t u, W.cell? ⟨1, 0, none⟩ = some (.iface t u) := by
  have h1 := hL.filter (fun x => x.1 == "tapewright/rat.errZero")
  have h2 : laidMet Tryd.prog [("tapewright/rat.errZero", Rows.laid_tapewright_rat_errZero)] W := by
    have e : (Rows.graphShapesRow.laid.filter (fun x => x.1 == "tapewright/rat.errZero")) = [("tapewright/rat.errZero", Rows.laid_tapewright_rat_errZero)] := by rfl
    rw [e, MakeChecks.laidMetH_plain _ _ _ (by kernel_rfl)] at h1
    exact h1
  obtain ⟨ps, ⟨g, t, cs, fuel, p, q, hg, ht, hv, hd, _, e0⟩, _, hrows⟩ := h2
  have hg' : Tryd.prog.globalNamed "tapewright/rat.errZero" = some 1 := by kernel_rfl
  obtain rfl := Option.some.inj (hg'.symm.trans hg)
  have ht' : (Tryd.prog.globals[1]?).map (·.type) = some 76 := by kernel_rfl
  obtain rfl := Option.some.inj (ht'.symm.trans ht)
  have hu := Tryd.underlying76
  unfold Rows.laid_tapewright_rat_errZero at hd
  rcases fuel with _ | fuel
  · simp [DataW.trod] at hd
  · unfold DataW.trod at hd
    rw [hu] at hd
    have hc := World.var?_cell hg' hv 0
    obtain ⟨l⟩ := cs
    match l, hd, hc with
    | [.iface T v], hd, hc => exact ⟨T, v, by simpa using hc⟩
    | [.nilIface], hd, _ => simp at hd
theorem gok {W : World} (hL : laidMetH Tryd.prog Rows.graphShapesRow.laid W) : ∀ g ∈ Go.VI.tyT.G, ∃ t u, W.cell? ⟨g, 0, none⟩ = some (.iface t u) := by
  intro g hg
  change g ∈ [0, 1] at hg
  simp only [List.mem_cons, List.not_mem_nil, or_false] at hg
  rcases hg with rfl | rfl
  · exact g0 hL
  · exact g1 hL
set_option maxRecDepth 100000 in
theorem lifted (os : Os) (started : os.Started) (H : Type) (enc : TypeId × Value → H) :
    ReturnsInHanded {} Tryd.checked os 3 .any (fun w args => (Rows.graphShapesSpec.pre enc Tryd.prog Tryd.f3 Rows.graphShapesRow.domain false w args ∧ laidMetH Tryd.prog Rows.graphShapesRow.laid w) ∧ sizedMet enc Tryd.prog Tryd.f3 (OpenSpec.ofChange Rows.graphShapesSpec) false w args) (Rows.graphShapesSpec.post enc Tryd.prog Tryd.f3 false true false false) := by
  refine returnsInHanded_of_change_and (C := Tryd.checked) (X := fun w _ => laidMetH Tryd.prog Rows.graphShapesRow.laid w) (fun _ _ _ hh h => h.of_heap hh) own started (by kernel_rfl) Tryd.func3
    (ChangeSpec.witness_shaped (enc := enc) (C := Tryd.checked) (os := os) (X := fun w _ => laidMetH Tryd.prog Rows.graphShapesRow.laid w) false (World.laidAll Tryd.prog os Rows.graphShapesRow.laid) #[.agg #[.slice none 0 0, .int .i64 0]] 8 (World.laidAll_os _ _ _)
      (World.shaped_of_ZipB (by kernel_rfl) (by kernel_rfl)) (by kernel_rfl) (by kernel_rfl) (by kernel_rfl)
      (by rw [MakeChecks.laidMetH_plain _ _ _ (by kernel_rfl)]; exact laidMet_laidAll _ (by kernel_rfl) (by kernel_rfl))) ?_
  intro W base args ds gs before hval0 hW hcnd hsz0 hL _
  have hval : ∀ (j : Nat) t v, Tryd.f3.params[j]? = some t → args[j]? = some v → Value.okWide Tryd.prog W .any base t v := hval0
  have hW' := hW
  obtain ⟨p, q, hA0, hV, rfl, hfz, hnd⟩ := hW
  have hA : DataW.TrodAll enc Tryd.prog W 0 (fun _ => true) true Tryd.f3.params.toList args.toList ds p := hA0
  rw [Tryd.params3] at hA hval
  obtain ⟨v0, vs0, d0, ds0, p0, q0, hargs, rfl, rfl, h0, r0⟩ := trodAll_cons hA
  obtain ⟨rfl, rfl, rfl⟩ := trodAll_nil r0
  obtain rfl : args = #[v0] := by cases args; simp_all
  obtain ⟨rfl, rfl⟩ := trodVars_none hV
  have lt0 : ∀ x ∈ p0, x.block < W.heap.size := by obtain ⟨m, hm⟩ := h0; exact DataW.trod_lt m _ _ _ hm
  obtain ⟨y0, f0, e0⟩ := argGraph.run (hval 0 24 v0 rfl rfl) h0
  clear hA0 hval0 hsz0
  obtain ⟨k, hk⟩ := (Go.PL.GraphShapes_ev y0.1 y0.2).rounds
  refine (run_law (Tf.tapewrightlaw10_GraphShapes.ok k) rfl (a := y0) rfl rfl hk (w := W) (vals := [v0]) rfl (fun i v x hv hx => ?_) (gok hL)).mono fun e W' ⟨he, bel⟩ => ?_
  · match i, hv, hx with
    | 0, hv, hx => cases hv; cases hx; exact e0
    | _ + 1, hv, hx => cases hx
  subst he
  exact ⟨_, rfl, _, _, _, [], _, [], hW', trodAll_mk1 (shut_bool Tryd.underlying4 _), (trodAll_cons_mk (Below.trod laidOut (by kernel_rfl) (of_decide_eq_true (by kernel_rfl)) h0 bel lt0) trodAll_mk0), rfl, bel.frame _, fun h => by cases h⟩
theorem over : Rows.graphShapesRow.holds Tryd.pinned (OpenSpec.ofChange Rows.graphShapesSpec) :=
  OpenClaim.holds_of_wide 3 Tryd.f3 rfl rfl rfl rfl rfl rfl rfl ⟨rfl, rfl, rfl, rfl, rfl⟩ rfl rfl rfl rfl rfl (by kernel_rfl) Tryd.func3 (by kernel_rfl)
    (of_decide_eq_true (by kernel_rfl)) (by unfold Func.isWrapper; first | (rw [if_pos (by decide +kernel)]; kernel_rfl) | (rw [if_neg (by decide +kernel)]; exact ⟨rfl, rfl⟩))
    (fun os started H enc _ => lifted os started H enc)
theorem card : Rows.GraphShapesCardSaid :=
  Claim7.holds_tied_plain_at .later [] [.data, .sentinel, .sentinel, .pinned] true (true, "ced8bf572417afeffe5849de449b1b861b9e315672932f7e8e505ed9f4a3eb80") false over (fun _ h => by cases h) (by kernel_rfl) (fun _ h => by cases h) graphShapes_row_tie rfl ⟨rfl, rfl⟩ (by kernel_rfl) rfl
    (fun f fn hf hfn => by
      obtain rfl : f = 3 := Option.some.inj ((show Tryd.prog.funcNamed "tapewright/tapewrightlaw10.GraphShapes" = some 3 by kernel_rfl).symm.trans hf) |>.symm
      obtain rfl : fn = Tryd.f3 := (Option.some.inj (Tryd.func3.symm.trans hfn)).symm
      exact ⟨by kernel_rfl, fun j t ht => by
        rw [Tryd.params3] at ht
        have hm : t ∈ [24] := by have := Array.mem_of_getElem? ht; simpa using this
        have hall : ([24].all fun u => !Tryd.prog.wantsStandIn u) = true := by kernel_rfl
        exact (show Tryd.prog.wantsStandIn t = false by simpa using List.all_eq_true.1 hall t hm)⟩)
    (by kernel_rfl)
end Go.Proofs.YtljgpddjfobilaaDoor.graphShapes
namespace Go.Proofs.YtljgpddjfobilaaDoor
/-- The card, under a short name, for the claim. -/
theorem graphShapes_card_holds : Rows.GraphShapesCardSaid := graphShapes.card
#print axioms graphShapes_card_holds
end Go.Proofs.YtljgpddjfobilaaDoor
