/- For every input tapewrightlaw11.ShowTells answers true. Conditions: none beyond the statement's own. -/
import Derived.Test.YtffpponklejidaaGreatDoorRShowTells5
import Derived.Test.YtffpponklejidaaGreatDoorRows
import Derived.WalkKit
import Derived.ProofKit
import Derived.OpenShut
import Derived.ShutString
import Derived.ChangeOld
import Derived.Below
import Derived.SizedLaws
import Derived.Lib.SmallJoins
import Derived.LaidMore
import Derived.LaidSub
import Derived.Lay
import Derived.SevenTiedAt
import Derived.Stop.Joined
import Derived.Stop.LaidErr
import Derived.FnData
import Derived.Test.YtffpponklejidaaGreatDoorTie
import Derived.Test.YtffpponklejidaaGreatDoorCards
import Derived.KernelRfl
import Derived.Test.YtffpponklejidaaGreatDoorProg
import Derived.ChangeArms
import Derived.ChangeSame
import Derived.ChangeSlices
import Derived.DataElems
import Derived.WideShapes
import Derived.ChangeMaps5
import Derived.Shelf.Strings.BuilderK
import Derived.WalkSpells
import Derived.Shelf.GgClosure.StringsIndexFuncTop
import Derived.Ground.GgwProg
import Derived.Shelf.Strings.SlTrimAscii
import Derived.Lib.IndexBytes
import Derived.Shelf.Strings.Search2
import Derived.Lib.SplitLaws
import Derived.Laws.RangeString
import Derived.Laws.RangeAny
import Derived.Lib.SliceRun
import Derived.Shelf.Strconv.AtoiAll
import Derived.Shelf.Strconv.Itoa3
import Derived.Shelf.Strings.Count
import Derived.Shelf.Strings.OnBuilder
import Derived.MapKept
import Derived.ChangeMaps3
import Derived.Carry
import Derived.Laws.CopyRow
import Derived.Laws.MakeOwn
import Derived.Laws.Tables
import Derived.Great.BuildSlice
import Derived.Laws.AppendOwn
import Derived.Laws.Entries
import Derived.Laws.Cells
import Derived.Laws.Append
import Derived.Laws.BytesString
import Derived.Calls
import Derived.Orders
import Derived.RowKit
import Derived.Laws.World
import GoSem.Core.Region
import GoSem.Core.View
import GoSem.Op.String
import GoSem.Core.Code
set_option linter.unusedVariables false
set_option linter.unusedSimpArgs false
namespace Go.PL
set_option linter.unusedVariables false
set_option linter.unusedSimpArgs false
open Go Go.VI
theorem ShowTells_ev (l : List VI.Node) (loss : Int) : Ev (fun F => Tf.tapewrightlaw11_ShowTells.f F (l, loss)) true := by
  obtain ⟨b, hb, hbp⟩ := smallG_ev l loss
  have aw := Ev_ret showAwake_ev
  have e0 : seqB (⟨#[]⟩ : ByteArray) ⟨#[]⟩ = true := by decide +kernel
  simp only [Tf.tapewrightlaw11_ShowTells.f, bif_if, Bool.not_eq_true', beq_iff_eq, bne_iff_ne]
  refine Ev.bind hb (EvIf (fun _ => aw) (fun h => ?_))
  obtain ⟨hn, hs⟩ := hbp (by simpa using h)
  refine Ev.bind (showText_ev l loss (by omega) hs) (Ev.bind (rgraph_ev l loss hs (by omega)) ?_)
  cases hg : graphV l loss with
  | false =>
    have ht : textV l loss = none := by unfold textV; rw [if_neg (fun q => by rw [hg] at q; cases q.1)]
    rw [ht]
    exact Ev_pos rfl (Ev_pos e0 (Ev_pos rfl aw))
  | true =>
    refine Ev_neg (by simp) (Ev.bind (rgtext_ev (by omega) hs hg) ?_)
    cases ht : textV l loss with
    | none => exact Ev_pos rfl (Ev_pos e0 (Ev_pos rfl aw))
    | some s => exact Ev_neg (by simp) (Ev_pos (seqB_rfl _) (Ev_pos rfl aw))
end Go.PL
namespace Go.Proofs.YtffpponklejidaaGreatDoor.showTells
open Go.ChangeShapes Go.WideShapes Go.ChangeAt Go.RowKit Go.VI
set_option linter.unusedVariables false
theorem laidOut : laidOutB Tryz.prog = true := by kernel_rfl
theorem own : ownKnob Tryz.prog.godebug = none := by kernel_rfl
set_option maxRecDepth 100000 in
theorem g0 {W : World} (hL : laidMetH Tryz.prog Rows.showTellsRow.laid W) : ∃ t u, W.cell? ⟨0, 0, none⟩ = some (.iface t u) := by
  have h1 := hL.filter (fun x => x.1 == "tapewright/rat.errForm")
  have h2 : laidMet Tryz.prog [("tapewright/rat.errForm", Rows.laid_tapewright_rat_errForm)] W := by
    have e : (Rows.showTellsRow.laid.filter (fun x => x.1 == "tapewright/rat.errForm")) = [("tapewright/rat.errForm", Rows.laid_tapewright_rat_errForm)] := by rfl
    rw [e, MakeChecks.laidMetH_plain _ _ _ (by kernel_rfl)] at h1
    exact h1
  obtain ⟨ps, ⟨g, t, cs, fuel, p, q, hg, ht, hv, hd, _, e0⟩, _, hrows⟩ := h2
  have hg' : Tryz.prog.globalNamed "tapewright/rat.errForm" = some 0 := by kernel_rfl
  obtain rfl := Option.some.inj (hg'.symm.trans hg)
  have ht' : (Tryz.prog.globals[0]?).map (·.type) = some 82 := by kernel_rfl
  obtain rfl := Option.some.inj (ht'.symm.trans ht)
  have hu := Tryz.underlying82
  unfold Rows.laid_tapewright_rat_errForm at hd
  rcases fuel with _ | fuel
  · simp [DataW.trod] at hd
  · unfold DataW.trod at hd
    rw [hu] at hd
    have hc := World.var?_cell hg' hv 0
    obtain ⟨l⟩ := cs
    match l, hd, hc with
    | [.iface T v], hd, hc => exact ⟨T, v, by simpa using hc⟩
    | [.nilIface], hd, _ => simp at hd
set_option maxRecDepth 100000 in
theorem g3 {W : World} (hL : laidMetH Tryz.prog Rows.showTellsRow.laid W) : ∃ t u, W.cell? ⟨3, 0, none⟩ = some (.iface t u) := by
  have h1 := hL.filter (fun x => x.1 == "tapewright/rat.errZero")
  have h2 : laidMet Tryz.prog [("tapewright/rat.errZero", Rows.laid_tapewright_rat_errZero)] W := by
    have e : (Rows.showTellsRow.laid.filter (fun x => x.1 == "tapewright/rat.errZero")) = [("tapewright/rat.errZero", Rows.laid_tapewright_rat_errZero)] := by rfl
    rw [e, MakeChecks.laidMetH_plain _ _ _ (by kernel_rfl)] at h1
    exact h1
  obtain ⟨ps, ⟨g, t, cs, fuel, p, q, hg, ht, hv, hd, _, e0⟩, _, hrows⟩ := h2
  have hg' : Tryz.prog.globalNamed "tapewright/rat.errZero" = some 3 := by kernel_rfl
  obtain rfl := Option.some.inj (hg'.symm.trans hg)
  have ht' : (Tryz.prog.globals[3]?).map (·.type) = some 82 := by kernel_rfl
  obtain rfl := Option.some.inj (ht'.symm.trans ht)
  have hu := Tryz.underlying82
  unfold Rows.laid_tapewright_rat_errZero at hd
  rcases fuel with _ | fuel
  · simp [DataW.trod] at hd
  · unfold DataW.trod at hd
    rw [hu] at hd
    have hc := World.var?_cell hg' hv 0
    obtain ⟨l⟩ := cs
    match l, hd, hc with
    | [.iface T v], hd, hc => exact ⟨T, v, by simpa using hc⟩
    | [.nilIface], hd, _ => simp at hd
set_option maxRecDepth 100000 in
theorem g4 {W : World} (hL : laidMetH Tryz.prog Rows.showTellsRow.laid W) : ∃ t u, W.cell? ⟨4, 0, none⟩ = some (.iface t u) := by
  have h1 := hL.filter (fun x => x.1 == "strconv.ErrSyntax")
  have h2 : laidMet Tryz.prog [("strconv.ErrSyntax", Rows.laid_strconv_ErrSyntax)] W := by
    have e : (Rows.showTellsRow.laid.filter (fun x => x.1 == "strconv.ErrSyntax")) = [("strconv.ErrSyntax", Rows.laid_strconv_ErrSyntax)] := by rfl
    rw [e, MakeChecks.laidMetH_plain _ _ _ (by kernel_rfl)] at h1
    exact h1
  obtain ⟨ps, ⟨g, t, cs, fuel, p, q, hg, ht, hv, hd, _, e0⟩, _, hrows⟩ := h2
  have hg' : Tryz.prog.globalNamed "strconv.ErrSyntax" = some 4 := by kernel_rfl
  obtain rfl := Option.some.inj (hg'.symm.trans hg)
  have ht' : (Tryz.prog.globals[4]?).map (·.type) = some 82 := by kernel_rfl
  obtain rfl := Option.some.inj (ht'.symm.trans ht)
  have hu := Tryz.underlying82
  unfold Rows.laid_strconv_ErrSyntax at hd
  rcases fuel with _ | fuel
  · simp [DataW.trod] at hd
  · unfold DataW.trod at hd
    rw [hu] at hd
    have hc := World.var?_cell hg' hv 0
    obtain ⟨l⟩ := cs
    match l, hd, hc with
    | [.iface T v], hd, hc => exact ⟨T, v, by simpa using hc⟩
    | [.nilIface], hd, _ => simp at hd
set_option maxRecDepth 100000 in
theorem g5 {W : World} (hL : laidMetH Tryz.prog Rows.showTellsRow.laid W) : ∃ t u, W.cell? ⟨5, 0, none⟩ = some (.iface t u) := by
  have h1 := hL.filter (fun x => x.1 == "strconv.ErrRange")
  have h2 : laidMet Tryz.prog [("strconv.ErrRange", Rows.laid_strconv_ErrRange)] W := by
    have e : (Rows.showTellsRow.laid.filter (fun x => x.1 == "strconv.ErrRange")) = [("strconv.ErrRange", Rows.laid_strconv_ErrRange)] := by rfl
    rw [e, MakeChecks.laidMetH_plain _ _ _ (by kernel_rfl)] at h1
    exact h1
  obtain ⟨ps, ⟨g, t, cs, fuel, p, q, hg, ht, hv, hd, _, e0⟩, _, hrows⟩ := h2
  have hg' : Tryz.prog.globalNamed "strconv.ErrRange" = some 5 := by kernel_rfl
  obtain rfl := Option.some.inj (hg'.symm.trans hg)
  have ht' : (Tryz.prog.globals[5]?).map (·.type) = some 82 := by kernel_rfl
  obtain rfl := Option.some.inj (ht'.symm.trans ht)
  have hu := Tryz.underlying82
  unfold Rows.laid_strconv_ErrRange at hd
  rcases fuel with _ | fuel
  · simp [DataW.trod] at hd
  · unfold DataW.trod at hd
    rw [hu] at hd
    have hc := World.var?_cell hg' hv 0
    obtain ⟨l⟩ := cs
    match l, hd, hc with
    | [.iface T v], hd, hc => exact ⟨T, v, by simpa using hc⟩
    | [.nilIface], hd, _ => simp at hd
theorem gok {W : World} (hL : laidMetH Tryz.prog Rows.showTellsRow.laid W) : ∀ g ∈ Go.VI.tyT.G, ∃ t u, W.cell? ⟨g, 0, none⟩ = some (.iface t u) := by
  intro g hg
  change g ∈ [0, 3, 4, 5] at hg
  simp only [List.mem_cons, List.not_mem_nil, or_false] at hg
  rcases hg with rfl | rfl | rfl | rfl
  · exact g0 hL
  · exact g3 hL
  · exact g4 hL
  · exact g5 hL
set_option maxRecDepth 100000 in
theorem lifted (os : Os) (started : os.Started) (H : Type) (enc : TypeId × Value → H) :
    ReturnsInHanded {} Tryz.checked os 8 .any (fun w args => (Rows.showTellsSpec.pre enc Tryz.prog Tryz.f8 Rows.showTellsRow.domain false w args ∧ laidMetH Tryz.prog Rows.showTellsRow.laid w) ∧ sizedMet enc Tryz.prog Tryz.f8 (OpenSpec.ofChange Rows.showTellsSpec) false w args) (Rows.showTellsSpec.post enc Tryz.prog Tryz.f8 false true false false) := by
  refine returnsInHanded_of_change_and (C := Tryz.checked) (X := fun w _ => laidMetH Tryz.prog Rows.showTellsRow.laid w) (fun _ _ _ hh h => h.of_heap hh) own started (by kernel_rfl) Tryz.func8
    (ChangeSpec.witness_shaped (enc := enc) (C := Tryz.checked) (os := os) (X := fun w _ => laidMetH Tryz.prog Rows.showTellsRow.laid w) false (World.laidAll Tryz.prog os Rows.showTellsRow.laid) #[.agg #[.slice none 0 0, .int .i64 0]] 8 (World.laidAll_os _ _ _)
      (World.shaped_of_ZipB (by kernel_rfl) (by kernel_rfl)) (by kernel_rfl) (by kernel_rfl) (by kernel_rfl)
      (by rw [MakeChecks.laidMetH_plain _ _ _ (by kernel_rfl)]; exact laidMet_laidAll _ (by kernel_rfl) (by kernel_rfl))) ?_
  intro W base args ds gs before hval0 hW hcnd hsz0 hL _
  have hval : ∀ (j : Nat) t v, Tryz.f8.params[j]? = some t → args[j]? = some v → Value.okWide Tryz.prog W .any base t v := hval0
  have hW' := hW
  obtain ⟨p, q, hA0, hV, rfl, hfz, hnd⟩ := hW
  have hA : DataW.TrodAll enc Tryz.prog W 0 (fun _ => true) true Tryz.f8.params.toList args.toList ds p := hA0
  rw [Tryz.params8] at hA hval
  obtain ⟨v0, vs0, d0, ds0, p0, q0, hargs, rfl, rfl, h0, r0⟩ := trodAll_cons hA
  obtain ⟨rfl, rfl, rfl⟩ := trodAll_nil r0
  obtain rfl : args = #[v0] := by cases args; simp_all
  obtain ⟨rfl, rfl⟩ := trodVars_none hV
  have lt0 : ∀ x ∈ p0, x.block < W.heap.size := by obtain ⟨m, hm⟩ := h0; exact DataW.trod_lt m _ _ _ hm
  obtain ⟨y0, f0, e0⟩ := argGraph.run (hval 0 50 v0 rfl rfl) h0
  clear hA0 hval0 hsz0
  obtain ⟨k, hk⟩ := (Go.PL.ShowTells_ev y0.1 y0.2).rounds
  refine (run_law (Tf.tapewrightlaw11_ShowTells.ok k) rfl (a := y0) rfl rfl hk (w := W) (vals := [v0]) rfl (fun i v x hv hx => ?_) (gok hL)).mono fun e W' ⟨he, bel⟩ => ?_
  · match i, hv, hx with
    | 0, hv, hx => cases hv; cases hx; exact e0
    | _ + 1, hv, hx => cases hx
  subst he
  exact ⟨_, rfl, _, _, _, [], _, [], hW', trodAll_mk1 (shut_bool Tryz.underlying4 _), (trodAll_cons_mk (Below.trod laidOut (by kernel_rfl) (of_decide_eq_true (by kernel_rfl)) h0 bel lt0) trodAll_mk0), rfl, bel.frame _, fun h => by cases h⟩
theorem over : Rows.showTellsRow.holds Tryz.pinned (OpenSpec.ofChange Rows.showTellsSpec) :=
  OpenClaim.holds_of_wide 8 Tryz.f8 rfl rfl rfl rfl rfl rfl rfl ⟨rfl, rfl, rfl, rfl, rfl⟩ rfl rfl rfl rfl rfl (by kernel_rfl) Tryz.func8 (by kernel_rfl)
    (of_decide_eq_true (by kernel_rfl)) (by unfold Func.isWrapper; first | (rw [if_pos (by decide +kernel)]; kernel_rfl) | (rw [if_neg (by decide +kernel)]; exact ⟨rfl, rfl⟩))
    (fun os started H enc _ => lifted os started H enc)
theorem card : Rows.ShowTellsCardSaid :=
  Claim7.holds_tied_plain_at .later [] [.data, .data, .data, .data, .sentinel, .sentinel, .sentinel, .sentinel, .pinned] true (true, "fb1af7536014a3cfc210cf11ea8a697b3eff81a37a579b7a3656a0efa6388bcc") true over (fun _ h => by cases h) (by kernel_rfl) (fun _ h => by cases h) showTells_row_tie rfl ⟨rfl, rfl⟩ (by kernel_rfl) rfl
    (fun f fn hf hfn => by
      obtain rfl : f = 8 := Option.some.inj ((show Tryz.prog.funcNamed "tapewright/tapewrightlaw11.ShowTells" = some 8 by kernel_rfl).symm.trans hf) |>.symm
      obtain rfl : fn = Tryz.f8 := (Option.some.inj (Tryz.func8.symm.trans hfn)).symm
      exact ⟨by kernel_rfl, fun j t ht => by
        rw [Tryz.params8] at ht
        have hm : t ∈ [50] := by have := Array.mem_of_getElem? ht; simpa using this
        have hall : ([50].all fun u => !Tryz.prog.wantsStandIn u) = true := by kernel_rfl
        exact (show Tryz.prog.wantsStandIn t = false by simpa using List.all_eq_true.1 hall t hm)⟩)
    (by kernel_rfl)
end Go.Proofs.YtffpponklejidaaGreatDoor.showTells
namespace Go.Proofs.YtffpponklejidaaGreatDoor
/-- The card, under a short name, for the claim. -/
theorem showTells_card_holds : Rows.ShowTellsCardSaid := showTells.card
#print axioms showTells_card_holds
end Go.Proofs.YtffpponklejidaaGreatDoor
