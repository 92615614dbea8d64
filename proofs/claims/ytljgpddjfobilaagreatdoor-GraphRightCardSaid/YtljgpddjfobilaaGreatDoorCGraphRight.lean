/- For every input tapewrightlaw10.GraphRight answers true. Conditions: none beyond the statement's own. -/
import Derived.Test.YtljgpddjfobilaaGreatDoorQ1
import Derived.Test.YtljgpddjfobilaaGreatDoorRows
import Derived.WalkKit
import Derived.ProofKit
import Derived.OpenShut
import Derived.ShutString
import Derived.ChangeOld
import Derived.Below
import Derived.SizedLaws
import Derived.Lib.SmallJoins
import Derived.LaidMore
import Derived.LaidSub
import Derived.Lay
import Derived.SevenTiedAt
import Derived.Stop.Joined
import Derived.Stop.LaidErr
import Derived.FnData
import Derived.Test.YtljgpddjfobilaaGreatDoorTie
import Derived.Test.YtljgpddjfobilaaGreatDoorCards
set_option linter.unusedVariables false
set_option linter.unusedSimpArgs false
namespace Go.PL
open Go Go.VI
theorem inferV_nil {l : List VI.Node} {x : VI.Node} (h : (inferV l x).2 = false) : (inferV l x).1 = [] := by
  unfold inferV at h ⊢
  split at h
  · rename_i hh
    rw [if_pos hh]
    generalize (if (partsV x.op).1 > 0 then (nd l x.a).shape else []) = a at h ⊢
    generalize (if (partsV x.op).1 > 1 then (nd l x.b).shape else []) = b at h ⊢
    unfold endV at h ⊢
    split at h
    · cases h
    · rename_i h2; rw [if_neg h2]
  · rename_i hh; rw [if_neg hh]
/-- GraphRight answers true. -/
theorem GraphRight_ev (l : List VI.Node) (loss : Int) (x : VI.Node) : Ev (fun F => Tf.tapewrightlaw10_GraphRight.f F ((l, loss), x)) true := by
  obtain ⟨b, hb, hbp⟩ := smallG_ev l loss
  obtain ⟨b2, hb2, hbp2⟩ := smallG_ev [x] 0
  have aw := Ev_ret graphAwake_ev
  simp only [Tf.tapewrightlaw10_GraphRight.f, bif_if, Bool.not_eq_true', decide_eq_true_eq, set_oneN, beq_iff_eq]
  refine Ev.bind hb (EvIf (fun _ => aw) (fun h => Ev.bind hb2 (EvIf (fun _ => aw) (fun h2 => ?_))))
  obtain ⟨hn, hl⟩ := hbp (by simpa using h)
  have hx := (hbp2 (by simpa using h2)).2 x (by simp)
  refine Ev.bind (rgraph_ev l loss hl (by omega)) (Ev.bind (graph_ev l loss hl (by omega)) (Ev_neg (by simp) ?_))
  cases hg : graphV l loss with
  | false => exact Ev_pos rfl aw
  | true =>
    refine Ev_neg (by simp) (Ev.bind (infer_ev l x hl hx) ?_)
    obtain ⟨t, h1, h3⟩ := rshape_ev l x hl hx
    refine Ev.bind h1 ?_
    have hlen := inferV_len l x
    cases hi : (inferV l x).2 with
    | false =>
      refine Ev_pos rfl (Ev_pos ?_ (Ev_pos ?_ aw))
      · rw [inferV_nil hi]; rfl
      · rfl
    | true =>
      have h4 := h3 hi
      refine Ev_neg (by simp) (Ev.bind (rsame_ev _ _ (by omega)) (Ev_pos (by simp [h4]) (Ev_pos ?_ aw)))
      rfl
end Go.PL
namespace Go.Proofs.YtljgpddjfobilaaGreatDoor.graphRight
open Go.ChangeShapes Go.WideShapes Go.ChangeAt Go.RowKit Go.VI
theorem laidOut : laidOutB Tryz.prog = true := by kernel_rfl
theorem own : ownKnob Tryz.prog.godebug = none := by kernel_rfl
set_option maxRecDepth 100000 in
theorem g0 {W : World} (hL : laidMetH Tryz.prog Rows.graphRightRow.laid W) : ∃ t u, W.cell? ⟨0, 0, none⟩ = some (.iface t u) := by
  have h1 := hL.filter (fun x => x.1 == "tapewright/rat.errForm")
  have h2 : laidMet Tryz.prog [("tapewright/rat.errForm", Rows.laid_tapewright_rat_errForm)] W := by
    have e : (Rows.graphRightRow.laid.filter (fun x => x.1 == "tapewright/rat.errForm")) = [("tapewright/rat.errForm", Rows.laid_tapewright_rat_errForm)] := by rfl
    rw [e, MakeChecks.laidMetH_plain _ _ _ (by kernel_rfl)] at h1
    exact h1
  obtain ⟨ps, ⟨g, t, cs, fuel, p, q, hg, ht, hv, hd, _, e0⟩, _, hrows⟩ := h2
  have hg' : Tryz.prog.globalNamed "tapewright/rat.errForm" = some 0 := by kernel_rfl
  obtain rfl := Option.some.inj (hg'.symm.trans hg)
  have ht' : (Tryz.prog.globals[0]?).map (·.type) = some 88 := by kernel_rfl
  obtain rfl := Option.some.inj (ht'.symm.trans ht)
  have hu := Tryz.underlying88
  unfold Rows.laid_tapewright_rat_errForm at hd
  rcases fuel with _ | fuel
  · simp [DataW.trod] at hd
  · unfold DataW.trod at hd
    rw [hu] at hd
    have hc := World.var?_cell hg' hv 0
    obtain ⟨l⟩ := cs
    match l, hd, hc with
    | [.iface T v], hd, hc => exact ⟨T, v, by simpa using hc⟩
    | [.nilIface], hd, _ => simp at hd
set_option maxRecDepth 100000 in
theorem g1 {W : World} (hL : laidMetH Tryz.prog Rows.graphRightRow.laid W) : ∃ t u, W.cell? ⟨1, 0, none⟩ = some (.iface t u) := by
  have h1 := hL.filter (fun x => x.1 == "tapewright/rat.errZero")
  have h2 : laidMet Tryz.prog [("tapewright/rat.errZero", Rows.laid_tapewright_rat_errZero)] W := by
    have e : (Rows.graphRightRow.laid.filter (fun x => x.1 == "tapewright/rat.errZero")) = [("tapewright/rat.errZero", Rows.laid_tapewright_rat_errZero)] := by rfl
    rw [e, MakeChecks.laidMetH_plain _ _ _ (by kernel_rfl)] at h1
    exact h1
  obtain ⟨ps, ⟨g, t, cs, fuel, p, q, hg, ht, hv, hd, _, e0⟩, _, hrows⟩ := h2
  have hg' : Tryz.prog.globalNamed "tapewright/rat.errZero" = some 1 := by kernel_rfl
  obtain rfl := Option.some.inj (hg'.symm.trans hg)
  have ht' : (Tryz.prog.globals[1]?).map (·.type) = some 88 := by kernel_rfl
  obtain rfl := Option.some.inj (ht'.symm.trans ht)
  have hu := Tryz.underlying88
  unfold Rows.laid_tapewright_rat_errZero at hd
  rcases fuel with _ | fuel
  · simp [DataW.trod] at hd
  · unfold DataW.trod at hd
    rw [hu] at hd
    have hc := World.var?_cell hg' hv 0
    obtain ⟨l⟩ := cs
    match l, hd, hc with
    | [.iface T v], hd, hc => exact ⟨T, v, by simpa using hc⟩
    | [.nilIface], hd, _ => simp at hd
theorem gok {W : World} (hL : laidMetH Tryz.prog Rows.graphRightRow.laid W) : ∀ g ∈ Go.VI.tyT.G, ∃ t u, W.cell? ⟨g, 0, none⟩ = some (.iface t u) := by
  intro g hg
  change g ∈ [0, 1] at hg
  simp only [List.mem_cons, List.not_mem_nil, or_false] at hg
  rcases hg with rfl | rfl
  · exact g0 hL
  · exact g1 hL
set_option maxRecDepth 100000 in
theorem lifted (os : Os) (started : os.Started) (H : Type) (enc : TypeId × Value → H) :
    ReturnsInHanded {} Tryz.checked os 3 .any (fun w args => (Rows.graphRightSpec.pre enc Tryz.prog Tryz.f3 Rows.graphRightRow.domain false w args ∧ laidMetH Tryz.prog Rows.graphRightRow.laid w) ∧ sizedMet enc Tryz.prog Tryz.f3 (OpenSpec.ofChange Rows.graphRightSpec) false w args) (Rows.graphRightSpec.post enc Tryz.prog Tryz.f3 false true false false) := by
  refine returnsInHanded_of_change_and (C := Tryz.checked) (X := fun w _ => laidMetH Tryz.prog Rows.graphRightRow.laid w) (fun _ _ _ hh h => h.of_heap hh) own started (by kernel_rfl) Tryz.func3
    (ChangeSpec.witness_shaped (enc := enc) (C := Tryz.checked) (os := os) (X := fun w _ => laidMetH Tryz.prog Rows.graphRightRow.laid w) false (World.laidAll Tryz.prog os Rows.graphRightRow.laid) #[.agg #[.slice none 0 0, .int .i64 0], .agg #[.string ByteArray.empty, .int .i64 0, .int .i64 0, .string ByteArray.empty, .slice none 0 0, .string ByteArray.empty, .int .i64 0, .slice none 0 0]] 8 (World.laidAll_os _ _ _)
      (World.shaped_of_ZipB (by kernel_rfl) (by kernel_rfl)) (by kernel_rfl) (by kernel_rfl) (by kernel_rfl)
      (by rw [MakeChecks.laidMetH_plain _ _ _ (by kernel_rfl)]; exact laidMet_laidAll _ (by kernel_rfl) (by kernel_rfl))) ?_
  intro W base args ds gs before hval0 hW hcnd hsz0 hL _
  have hval : ∀ (j : Nat) t v, Tryz.f3.params[j]? = some t → args[j]? = some v → Value.okWide Tryz.prog W .any base t v := hval0
  have hW' := hW
  obtain ⟨p, q, hA0, hV, rfl, hfz, hnd⟩ := hW
  have hA : DataW.TrodAll enc Tryz.prog W 0 (fun _ => true) true Tryz.f3.params.toList args.toList ds p := hA0
  rw [Tryz.params3] at hA hval
  obtain ⟨v0, vs0, d0, ds0, p0, q0, hargs, rfl, rfl, h0, r0⟩ := trodAll_cons hA
  obtain ⟨v1, vs1, d1, ds1, p1, q1, rfl, rfl, rfl, h1, r1⟩ := trodAll_cons r0
  obtain ⟨rfl, rfl, rfl⟩ := trodAll_nil r1
  obtain rfl : args = #[v0, v1] := by cases args; simp_all
  obtain ⟨rfl, rfl⟩ := trodVars_none hV
  have lt0 : ∀ x ∈ p0, x.block < W.heap.size := by obtain ⟨m, hm⟩ := h0; exact DataW.trod_lt m _ _ _ hm
  have lt1 : ∀ x ∈ p1, x.block < W.heap.size := by obtain ⟨m, hm⟩ := h1; exact DataW.trod_lt m _ _ _ hm
  obtain ⟨y0, f0, e0⟩ := argGraph.run (hval 0 24 v0 rfl rfl) h0
  obtain ⟨y1, f1, e1⟩ := argNode.run (hval 1 28 v1 rfl rfl) h1
  clear hA0 hval0 hsz0
  obtain ⟨k, hk⟩ := (Go.PL.GraphRight_ev y0.1 y0.2 y1).rounds
  refine (run_law (Tf.tapewrightlaw10_GraphRight.ok k) rfl (a := (y0, y1)) rfl rfl hk (w := W) (vals := [v0, v1]) rfl (fun i v x hv hx => ?_) (gok hL)).mono fun e W' ⟨he, bel⟩ => ?_
  · match i, hv, hx with
    | 0, hv, hx => cases hv; cases hx; exact e0
    | 1, hv, hx => cases hv; cases hx; exact e1
    | _ + 2, hv, hx => cases hx
  subst he
  exact ⟨_, rfl, _, _, _, [], _, [], hW', trodAll_mk1 (shut_bool Tryz.underlying4 _), (trodAll_cons_mk (Below.trod laidOut (by kernel_rfl) (of_decide_eq_true (by kernel_rfl)) h0 bel lt0) (trodAll_cons_mk (Below.trod laidOut (by kernel_rfl) (of_decide_eq_true (by kernel_rfl)) h1 bel lt1) trodAll_mk0)), rfl, bel.frame _, fun h => by cases h⟩
theorem over : Rows.graphRightRow.holds Tryz.pinned (OpenSpec.ofChange Rows.graphRightSpec) :=
  OpenClaim.holds_of_wide 3 Tryz.f3 rfl rfl rfl rfl rfl rfl rfl ⟨rfl, rfl, rfl, rfl, rfl⟩ rfl rfl rfl rfl rfl (by kernel_rfl) Tryz.func3 (by kernel_rfl)
    (of_decide_eq_true (by kernel_rfl)) (by unfold Func.isWrapper; first | (rw [if_pos (by decide +kernel)]; kernel_rfl) | (rw [if_neg (by decide +kernel)]; exact ⟨rfl, rfl⟩))
    (fun os started H enc _ => lifted os started H enc)
theorem card : Rows.GraphRightCardSaid :=
  Claim7.holds_tied_plain_at .later [] [.data, .sentinel, .sentinel, .pinned] true (true, "f94f8be5b14e180743717cd9fb73526b0716b630b0618e4011b8830be4c321ae") false over (fun _ h => by cases h) (by kernel_rfl) (fun _ h => by cases h) graphRight_row_tie rfl ⟨rfl, rfl⟩ (by kernel_rfl) rfl
    (fun f fn hf hfn => by
      obtain rfl : f = 3 := Option.some.inj ((show Tryz.prog.funcNamed "tapewright/tapewrightlaw10.GraphRight" = some 3 by kernel_rfl).symm.trans hf) |>.symm
      obtain rfl : fn = Tryz.f3 := (Option.some.inj (Tryz.func3.symm.trans hfn)).symm
      exact ⟨by kernel_rfl, fun j t ht => by
        rw [Tryz.params3] at ht
        have hm : t ∈ [24, 28] := by have := Array.mem_of_getElem? ht; simpa using this
        have hall : ([24, 28].all fun u => !Tryz.prog.wantsStandIn u) = true := by kernel_rfl
        exact (show Tryz.prog.wantsStandIn t = false by simpa using List.all_eq_true.1 hall t hm)⟩)
    (by kernel_rfl)
end Go.Proofs.YtljgpddjfobilaaGreatDoor.graphRight
namespace Go.Proofs.YtljgpddjfobilaaGreatDoor
/-- The card, under a short name, for the claim. -/
theorem graphRight_card_holds : Rows.GraphRightCardSaid := graphRight.card
#print axioms graphRight_card_holds
end Go.Proofs.YtljgpddjfobilaaGreatDoor
