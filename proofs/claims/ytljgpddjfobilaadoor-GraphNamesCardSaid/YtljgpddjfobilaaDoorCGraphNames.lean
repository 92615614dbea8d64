/- For every input tapewrightlaw10.GraphNames answers true. Conditions: none beyond the statement's own. -/
import Derived.Test.YtljgpddjfobilaaDoorQ0
import Derived.Test.YtljgpddjfobilaaDoorRows
import Derived.WalkKit
import Derived.ProofKit
import Derived.OpenShut
import Derived.ShutString
import Derived.ChangeOld
import Derived.Below
import Derived.SizedLaws
import Derived.Lib.SmallJoins
import Derived.LaidMore
import Derived.LaidSub
import Derived.Lay
import Derived.SevenTiedAt
import Derived.Stop.Joined
import Derived.Stop.LaidErr
import Derived.FnData
import Derived.Test.YtljgpddjfobilaaDoorTie
import Derived.Test.YtljgpddjfobilaaDoorCards
set_option linter.unusedVariables false
set_option linter.unusedSimpArgs false
namespace Go.PL
open Go Go.VI
/-- GraphNames answers true. -/
theorem GraphNames_ev (l : List VI.Node) (loss : Int) (at_ : Int) : Ev (fun F => Tf.tapewrightlaw10_GraphNames.f F ((l, loss), at_)) true := by
  obtain ⟨b, hb, hbp⟩ := smallG_ev l loss
  have aw := Ev_ret graphAwake_ev
  simp only [Tf.tapewrightlaw10_GraphNames.f, bif_if, Bool.not_eq_true', decide_eq_true_eq, Nat.ble_eq, inR_iff, List.replicate_zero, List.nil_append, set_one, set_oneN]
  by_cases c : b = true
  · subst c
    obtain ⟨hn, hl⟩ := hbp rfl
    refine Ev.bind hb (Ev_neg (by simp) (Ev.bind (graph_ev l loss hl (by omega)) ?_))
    cases hg : graphV l loss with
    | false => exact Ev_pos rfl aw
    | true =>
      refine Ev_neg (by simp) (EvIf (fun _ => aw) (fun h1 => EvIf (fun _ => aw) (fun h2 => ?_)))
      obtain ⟨i, rfl⟩ : ∃ i : Nat, at_ = (i : Int) := ⟨at_.toNat, by omega⟩
      have hi : i < l.length := by omega
      have e0 : l.getD i (dflt 6) = nd l (i : Int) := rfl
      have ei : (i : Int).toNat = i := by omega
      have hx := hl _ (nd_mem (l := l) (i := (i : Int)) ⟨by omega, by omega⟩)
      have hinf := graph_all hg i hi
      obtain ⟨n1, n2⟩ := infer_bare (l := l.take i) (x := nd l (i : Int)) (by rw [hinf])
      have hap : ∀ x : VI.Node, graphV (l ++ [x]) loss = true → ¬ seqB (nd l (i : Int)).name ⟨#[]⟩ = true → ¬ seqB (nd l (i : Int)).name x.name = true := fun x hg2 hne => by
        have := graph_apart hg2 i l.length hi (by simp) (by rw [nd_append (by omega)]; exact hne)
        rw [nd_append (by omega), nd_last] at this
        exact this
      simp only [ei, e0]
      refine Ev_pos (by omega) (Ev_pos (by omega) ?_)
      generalize hxx : nd l (i : Int) = x at *
      -- the name of another one, behind all
      have twice : graphV (l ++ [(⟨⟨#[112, 97, 114, 97, 109]⟩, 0, 0, x.name, [1], ByteArray.empty, 0, []⟩ : VI.Node)]) loss = false := by
        by_cases hne : seqB x.name ⟨#[]⟩ = true
        · refine not_right l.length (by simp) fun l0 => ?_
          rw [nd_last]
          cases hh : (inferV l0 (⟨⟨#[112, 97, 114, 97, 109]⟩, 0, 0, x.name, [1], ByteArray.empty, 0, []⟩ : VI.Node)).2 with
          | false => rfl
          | true =>
            have := (infer_bare hh).1
            rw [nameS_nil hne] at this
            rw [show namedB (⟨⟨#[112, 97, 114, 97, 109]⟩, 0, 0, x.name, [1], ByteArray.empty, 0, []⟩ : VI.Node) = true from by rw [namedB, show seqB _ oParam = true from seqB_rfl oParam]; rfl] at this
            cases this
        · cases hg2 : graphV (l ++ [(⟨⟨#[112, 97, 114, 97, 109]⟩, 0, 0, x.name, [1], ByteArray.empty, 0, []⟩ : VI.Node)]) loss with
          | false => rfl
          | true => have h9 := hap _ hg2 hne; exact absurd (seqB_rfl x.name) h9
      have g2 := graph_ev (l ++ [(⟨⟨#[112, 97, 114, 97, 109]⟩, 0, 0, x.name, [1], ByteArray.empty, 0, []⟩ : VI.Node)]) loss (small_app hl ⟨hx.1, by simp, show (0 : Nat) ≤ 30 from Nat.zero_le _, by simp, by simp⟩) (by simp; omega)
      rw [twice] at g2
      have wrong : ∀ (nm : ByteArray), nm.data.toList.length ≤ 30 → (nameS nm.data.toList ≠ namedB x) → Ev (fun F => Tf.graph_Right.f F (l.set i (⟨x.op, x.a, x.b, nm, x.shape, x.k, x.n, x.data⟩ : VI.Node), loss)) false := fun nm hsm hnn => by
        have := graph_ev (l.set i (⟨x.op, x.a, x.b, nm, x.shape, x.k, x.n, x.data⟩ : VI.Node)) loss (small_set hl i ⟨hsm, hx.2⟩) (by simp; omega)
        rw [not_right i (by simpa using hi) fun l0 => ?_] at this
        · exact this
        · rw [nd_set hi]
          cases hh : (inferV l0 (⟨x.op, x.a, x.b, nm, x.shape, x.k, x.n, x.data⟩ : VI.Node)).2 with
          | false => rfl
          | true => exact absurd (infer_bare hh).1 hnn
      by_cases hne : seqB x.name ⟨#[]⟩ = true
      · have hnn : namedB x = false := by rw [← n1, nameS_nil hne]
        refine Ev_pos hne (Ev_pos (by omega) (Ev_pos (by omega) (Ev_pos (by omega) (Ev_pos (by omega) (Ev.bind (wrong ⟨#[108, 111, 110, 101, 108, 121]⟩ (by decide) (by rw [hnn]; decide)) (Ev_pos rfl (Ev.bind g2 (Ev_pos rfl aw))))))))
      · have hnn : namedB x = true := n2.resolve_right hne
        refine Ev_neg hne (Ev_pos (by omega) (Ev_pos (by omega) (Ev_pos (by omega) (Ev_pos (by omega) (Ev.bind (wrong ⟨#[]⟩ (by decide) (by rw [hnn]; decide)) (Ev_pos rfl (Ev.bind g2 (Ev_pos rfl aw))))))))
  · exact Ev.bind hb (Ev_pos (by simpa using c) aw)
end Go.PL
namespace Go.Proofs.YtljgpddjfobilaaDoor.graphNames
open Go.ChangeShapes Go.WideShapes Go.ChangeAt Go.RowKit Go.VI
theorem laidOut : laidOutB Tryd.prog = true := by kernel_rfl
theorem own : ownKnob Tryd.prog.godebug = none := by kernel_rfl
set_option maxRecDepth 100000 in
theorem g0 {W : World} (hL : laidMetH Tryd.prog Rows.graphNamesRow.laid W) : ∃ t u, W.cell? ⟨0, 0, none⟩ = some (.iface t u) := by
  have h1 := hL.filter (fun x => x.1 == "tapewright/rat.errForm")
  have h2 : laidMet Tryd.prog [("tapewright/rat.errForm", Rows.laid_tapewright_rat_errForm)] W := by
    have e : (Rows.graphNamesRow.laid.filter (fun x => x.1 == "tapewright/rat.errForm")) = [("tapewright/rat.errForm", Rows.laid_tapewright_rat_errForm)] := by rfl
    rw [e, MakeChecks.laidMetH_plain _ _ _ (by kernel_rfl)] at h1
    exact h1
  obtain ⟨ps, ⟨g, t, cs, fuel, p, q, hg, ht, hv, hd, _, e0⟩, _, hrows⟩ := h2
  have hg' : Tryd.prog.globalNamed "tapewright/rat.errForm" = some 0 := by kernel_rfl
  obtain rfl := Option.some.inj (hg'.symm.trans hg)
  have ht' : (Tryd.prog.globals[0]?).map (·.type) = some 76 := by kernel_rfl
  obtain rfl := Option.some.inj (ht'.symm.trans ht)
  have hu := Tryd.underlying76
  unfold Rows.laid_tapewright_rat_errForm at hd
  rcases fuel with _ | fuel
  · simp [DataW.trod] at hd
  · unfold DataW.trod at hd
    rw [hu] at hd
    have hc := World.var?_cell hg' hv 0
    obtain ⟨l⟩ := cs
    match l, hd, hc with
    | [.iface T v], hd, hc => exact ⟨T, v, by simpa using hc⟩
    | [.nilIface], hd, _ => simp at hd
set_option maxRecDepth 100000 in
theorem g1 {W : World} (hL : laidMetH Tryd.prog Rows.graphNamesRow.laid W) : ∃ t u, W.cell? ⟨1, 0, none⟩ = some (.iface t u) := by
  have h1 := hL.filter (fun x => x.1 == "tapewright/rat.errZero")
  have h2 : laidMet Tryd.prog [("tapewright/rat.errZero", Rows.laid_tapewright_rat_errZero)] W := by
    have e : (Rows.graphNamesRow.laid.filter (fun x => x.1 == "tapewright/rat.errZero")) = [("tapewright/rat.errZero", Rows.laid_tapewright_rat_errZero)] := by rfl
    rw [e, MakeChecks.laidMetH_plain _ _ _ (by kernel_rfl)] at h1
    exact h1
  obtain ⟨ps, ⟨g, t, cs, fuel, p, q, hg, ht, hv, hd, _, e0⟩, _, hrows⟩ := h2
  have hg' : Tryd.prog.globalNamed "tapewright/rat.errZero" = some 1 := by kernel_rfl
  obtain rfl := Option.some.inj (hg'.symm.trans hg)
  have ht' : (Tryd.prog.globals[1]?).map (·.type) = some 76 := by kernel_rfl
  obtain rfl := Option.some.inj (ht'.symm.trans ht)
  have hu := Tryd.underlying76
  unfold Rows.laid_tapewright_rat_errZero at hd
  rcases fuel with _ | fuel
  · simp [DataW.trod] at hd
  · unfold DataW.trod at hd
    rw [hu] at hd
    have hc := World.var?_cell hg' hv 0
    obtain ⟨l⟩ := cs
    match l, hd, hc with
    | [.iface T v], hd, hc => exact ⟨T, v, by simpa using hc⟩
    | [.nilIface], hd, _ => simp at hd
theorem gok {W : World} (hL : laidMetH Tryd.prog Rows.graphNamesRow.laid W) : ∀ g ∈ Go.VI.tyT.G, ∃ t u, W.cell? ⟨g, 0, none⟩ = some (.iface t u) := by
  intro g hg
  change g ∈ [0, 1] at hg
  simp only [List.mem_cons, List.not_mem_nil, or_false] at hg
  rcases hg with rfl | rfl
  · exact g0 hL
  · exact g1 hL
set_option maxRecDepth 100000 in
theorem lifted (os : Os) (started : os.Started) (H : Type) (enc : TypeId × Value → H) :
    ReturnsInHanded {} Tryd.checked os 4 .any (fun w args => (Rows.graphNamesSpec.pre enc Tryd.prog Tryd.f4 Rows.graphNamesRow.domain false w args ∧ laidMetH Tryd.prog Rows.graphNamesRow.laid w) ∧ sizedMet enc Tryd.prog Tryd.f4 (OpenSpec.ofChange Rows.graphNamesSpec) false w args) (Rows.graphNamesSpec.post enc Tryd.prog Tryd.f4 false true false false) := by
  refine returnsInHanded_of_change_and (C := Tryd.checked) (X := fun w _ => laidMetH Tryd.prog Rows.graphNamesRow.laid w) (fun _ _ _ hh h => h.of_heap hh) own started (by kernel_rfl) Tryd.func4
    (ChangeSpec.witness_shaped (enc := enc) (C := Tryd.checked) (os := os) (X := fun w _ => laidMetH Tryd.prog Rows.graphNamesRow.laid w) false (World.laidAll Tryd.prog os Rows.graphNamesRow.laid) #[.agg #[.slice none 0 0, .int .i64 0], .int .i64 0] 8 (World.laidAll_os _ _ _)
      (World.shaped_of_ZipB (by kernel_rfl) (by kernel_rfl)) (by kernel_rfl) (by kernel_rfl) (by kernel_rfl)
      (by rw [MakeChecks.laidMetH_plain _ _ _ (by kernel_rfl)]; exact laidMet_laidAll _ (by kernel_rfl) (by kernel_rfl))) ?_
  intro W base args ds gs before hval0 hW hcnd hsz0 hL _
  have hval : ∀ (j : Nat) t v, Tryd.f4.params[j]? = some t → args[j]? = some v → Value.okWide Tryd.prog W .any base t v := hval0
  have hW' := hW
  obtain ⟨p, q, hA0, hV, rfl, hfz, hnd⟩ := hW
  have hA : DataW.TrodAll enc Tryd.prog W 0 (fun _ => true) true Tryd.f4.params.toList args.toList ds p := hA0
  rw [Tryd.params4] at hA hval
  obtain ⟨v0, vs0, d0, ds0, p0, q0, hargs, rfl, rfl, h0, r0⟩ := trodAll_cons hA
  obtain ⟨v1, vs1, d1, ds1, p1, q1, rfl, rfl, rfl, h1, r1⟩ := trodAll_cons r0
  obtain ⟨rfl, rfl, rfl⟩ := trodAll_nil r1
  obtain rfl : args = #[v0, v1] := by cases args; simp_all
  obtain ⟨rfl, rfl⟩ := trodVars_none hV
  have lt0 : ∀ x ∈ p0, x.block < W.heap.size := by obtain ⟨m, hm⟩ := h0; exact DataW.trod_lt m _ _ _ hm
  have lt1 : ∀ x ∈ p1, x.block < W.heap.size := by obtain ⟨m, hm⟩ := h1; exact DataW.trod_lt m _ _ _ hm
  obtain ⟨y0, f0, e0⟩ := argGraph.run (hval 0 24 v0 rfl rfl) h0
  obtain ⟨y1, f1, e1⟩ := argInt.run (hval 1 3 v1 rfl rfl) h1
  clear hA0 hval0 hsz0
  obtain ⟨k, hk⟩ := (Go.PL.GraphNames_ev y0.1 y0.2 y1).rounds
  refine (run_law (Tf.tapewrightlaw10_GraphNames.ok k) rfl (a := (y0, y1)) rfl rfl hk (w := W) (vals := [v0, v1]) rfl (fun i v x hv hx => ?_) (gok hL)).mono fun e W' ⟨he, bel⟩ => ?_
  · match i, hv, hx with
    | 0, hv, hx => cases hv; cases hx; exact e0
    | 1, hv, hx => cases hv; cases hx; exact e1
    | _ + 2, hv, hx => cases hx
  subst he
  exact ⟨_, rfl, _, _, _, [], _, [], hW', trodAll_mk1 (shut_bool Tryd.underlying4 _), (trodAll_cons_mk (Below.trod laidOut (by kernel_rfl) (of_decide_eq_true (by kernel_rfl)) h0 bel lt0) (trodAll_cons_mk (Below.trod laidOut (by kernel_rfl) (of_decide_eq_true (by kernel_rfl)) h1 bel lt1) trodAll_mk0)), rfl, bel.frame _, fun h => by cases h⟩
theorem over : Rows.graphNamesRow.holds Tryd.pinned (OpenSpec.ofChange Rows.graphNamesSpec) :=
  OpenClaim.holds_of_wide 4 Tryd.f4 rfl rfl rfl rfl rfl rfl rfl ⟨rfl, rfl, rfl, rfl, rfl⟩ rfl rfl rfl rfl rfl (by kernel_rfl) Tryd.func4 (by kernel_rfl)
    (of_decide_eq_true (by kernel_rfl)) (by unfold Func.isWrapper; first | (rw [if_pos (by decide +kernel)]; kernel_rfl) | (rw [if_neg (by decide +kernel)]; exact ⟨rfl, rfl⟩))
    (fun os started H enc _ => lifted os started H enc)
theorem card : Rows.GraphNamesCardSaid :=
  Claim7.holds_tied_plain_at .later [] [.data, .sentinel, .sentinel, .pinned] true (true, "ced8bf572417afeffe5849de449b1b861b9e315672932f7e8e505ed9f4a3eb80") false over (fun _ h => by cases h) (by kernel_rfl) (fun _ h => by cases h) graphNames_row_tie rfl ⟨rfl, rfl⟩ (by kernel_rfl) rfl
    (fun f fn hf hfn => by
      obtain rfl : f = 4 := Option.some.inj ((show Tryd.prog.funcNamed "tapewright/tapewrightlaw10.GraphNames" = some 4 by kernel_rfl).symm.trans hf) |>.symm
      obtain rfl : fn = Tryd.f4 := (Option.some.inj (Tryd.func4.symm.trans hfn)).symm
      exact ⟨by kernel_rfl, fun j t ht => by
        rw [Tryd.params4] at ht
        have hm : t ∈ [24, 3] := by have := Array.mem_of_getElem? ht; simpa using this
        have hall : ([24, 3].all fun u => !Tryd.prog.wantsStandIn u) = true := by kernel_rfl
        exact (show Tryd.prog.wantsStandIn t = false by simpa using List.all_eq_true.1 hall t hm)⟩)
    (by kernel_rfl)
end Go.Proofs.YtljgpddjfobilaaDoor.graphNames
namespace Go.Proofs.YtljgpddjfobilaaDoor
/-- The card, under a short name, for the claim. -/
theorem graphNames_card_holds : Rows.GraphNamesCardSaid := graphNames.card
#print axioms graphNames_card_holds
end Go.Proofs.YtljgpddjfobilaaDoor
