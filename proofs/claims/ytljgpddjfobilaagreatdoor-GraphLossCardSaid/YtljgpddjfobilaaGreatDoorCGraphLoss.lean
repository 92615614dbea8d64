/- For every input tapewrightlaw10.GraphLoss answers true. Conditions: none beyond the statement's own. -/
import Derived.Test.YtljgpddjfobilaaGreatDoorQ1
import Derived.Test.YtljgpddjfobilaaGreatDoorRows
import Derived.WalkKit
import Derived.ProofKit
import Derived.OpenShut
import Derived.ShutString
import Derived.ChangeOld
import Derived.Below
import Derived.SizedLaws
import Derived.Lib.SmallJoins
import Derived.LaidMore
import Derived.LaidSub
import Derived.Lay
import Derived.SevenTiedAt
import Derived.Stop.Joined
import Derived.Stop.LaidErr
import Derived.FnData
import Derived.Test.YtljgpddjfobilaaGreatDoorTie
import Derived.Test.YtljgpddjfobilaaGreatDoorCards
set_option linter.unusedVariables false
set_option linter.unusedSimpArgs false
namespace Go.PL
open Go Go.VI
theorem graph_other {l : List VI.Node} {loss other : Int} (h : graphV l loss = true) : graphV l other = decide (0 ≤ other ∧ other < l.length ∧ (nd l other).shape = []) := by
  unfold graphV at h ⊢
  split at h
  · rename_i hh
    rw [h]
    by_cases c : 0 ≤ other ∧ other < l.length ∧ (nd l other).shape = []
    · rw [if_pos ⟨hh.1, hh.2.1, c⟩, decide_eq_true c]
    · rw [if_neg (fun q => c q.2.2), decide_eq_false c]
  · cases h
theorem nd_take {l : List VI.Node} {k i : Nat} (h : i < k) : nd (l.take k) (i : Int) = nd l (i : Int) := by
  simp only [nd, Int.toNat_natCast, List.getD_eq_getElem?_getD]
  rw [List.getElem?_take_of_lt h]
theorem rightV_take (l : List VI.Node) (k : Nat) (hk : k ≤ l.length) : ∀ (n i : Nat) (m : List (ByteArray × Int)), i + n = k → rightV l (l.length - i) i m = true → rightV (l.take k) n i m = true := by
  intro n
  induction n with
  | zero => intro i m _ _; unfold rightV; rfl
  | succ n ih =>
    intro i m hi h
    rw [show l.length - i = (l.length - (i + 1)) + 1 by omega] at h
    unfold rightV at h ⊢
    simp only at h ⊢
    rw [nd_take (by omega), List.take_take, Nat.min_eq_left (by omega)]
    split at h
    · rename_i hh
      rw [if_pos hh]
      exact ih (i + 1) _ (by omega) h
    · cases h
theorem graph_take {l : List VI.Node} {loss : Int} (h : graphV l loss = true) : graphV (l.take (loss + 1).toNat) loss = true := by
  unfold graphV at h
  split at h
  · rename_i hh
    obtain ⟨k, rfl⟩ : ∃ k : Nat, loss = (k : Int) := ⟨loss.toNat, by omega⟩
    have ek : ((k : Int) + 1).toNat = k + 1 := by omega
    have hlen : (l.take (k + 1)).length = k + 1 := by rw [List.length_take]; omega
    rw [ek]
    unfold graphV
    rw [if_pos ⟨by omega, by omega, by omega, by omega, by rw [nd_take (by omega)]; exact hh.2.2.2.2⟩, hlen]
    exact rightV_take l (k + 1) (by omega) (k + 1) 0 [] (by omega) h
  · cases h
theorem graph_in {l : List VI.Node} {loss : Int} (h : graphV l loss = true) : 0 ≤ loss ∧ loss < l.length := by
  unfold graphV at h
  split at h
  · rename_i hh; exact ⟨hh.2.2.1, hh.2.2.2.1⟩
  · cases h
/-- GraphLoss answers true. -/
theorem GraphLoss_ev (l : List VI.Node) (loss other : Int) : Ev (fun F => Tf.tapewrightlaw10_GraphLoss.f F ((l, loss), other)) true := by
  obtain ⟨b, hb, hbp⟩ := smallG_ev l loss
  have aw := Ev_ret graphAwake_ev
  have e0 : ∀ j : Int, l.getD j.toNat (dflt 6) = nd l j := fun _ => rfl
  simp only [Tf.tapewrightlaw10_GraphLoss.f, bif_if, Bool.not_eq_true', decide_eq_true_eq, beq_iff_eq, Bool.and_eq_true, inR_iff, List.drop_zero, e0]
  refine Ev.bind hb (EvIf (fun _ => aw) (fun h => ?_))
  obtain ⟨hn, hl⟩ := hbp (by simpa using h)
  refine Ev.bind (rgraph_ev l loss hl (by omega)) ?_
  cases hg : graphV l loss with
  | false => exact Ev_pos rfl aw
  | true =>
    obtain ⟨h1, h2⟩ := graph_in hg
    have hw : IntKind.i64.wrap (loss + 1) = loss + 1 := w64 (by omega) (by omega)
    have hw2 : IntKind.i64.wrap ((l.length : Int) - 1) = (l.length : Int) - 1 := w64 (by omega) (by omega)
    rw [hw, hw2]
    have ho := graph_ev l other hl (by omega)
    rw [graph_other hg] at ho
    have hs := graph_ev (l.take (loss + 1).toNat) loss (fun y hy => hl y (List.mem_of_mem_take hy)) (by rw [List.length_take]; omega)
    rw [graph_take hg] at hs
    have fin := Ev.bind (f := fun F y => if y = true then (Tf.tapewrightlaw10_awake.f F ()).bind (fun y70 => some y70) else some false) hs (Ev_pos rfl aw)
    refine Ev_neg (by simp) (EvIf (fun c1 => ?_) (fun c1 => ?_))
    · refine Ev_pos (by omega) (Ev.bind ho (EvIf (fun c2 => ?_) (fun c2 => ?_)))
      · have em : mxI (mnI other ((l.length : Int) - 1)) 0 = other := by
          unfold mxI mnI
          split <;> split <;> omega
        rw [em]
        refine Ev_pos (by omega) (Ev_pos ?_ fin)
        rw [Bool.eq_iff_iff, decide_eq_true_eq, beq_iff_eq]
        constructor
        · intro q; rw [q.2.2]; rfl
        · intro q; exact ⟨by omega, by omega, List.length_eq_zero_iff.1 (by omega)⟩
      · exact Ev_pos (decide_eq_false (fun q => by omega)) fin
    · exact Ev_pos (by omega) (Ev.bind ho (Ev_pos (decide_eq_false (fun q => by omega)) fin))
end Go.PL
namespace Go.Proofs.YtljgpddjfobilaaGreatDoor.graphLoss
open Go.ChangeShapes Go.WideShapes Go.ChangeAt Go.RowKit Go.VI
theorem laidOut : laidOutB Tryz.prog = true := by kernel_rfl
theorem own : ownKnob Tryz.prog.godebug = none := by kernel_rfl
set_option maxRecDepth 100000 in
theorem g0 {W : World} (hL : laidMetH Tryz.prog Rows.graphLossRow.laid W) : ∃ t u, W.cell? ⟨0, 0, none⟩ = some (.iface t u) := by
  have h1 := hL.filter (fun x => x.1 == "tapewright/rat.errForm")
  have h2 : laidMet Tryz.prog [("tapewright/rat.errForm", Rows.laid_tapewright_rat_errForm)] W := by
    have e : (Rows.graphLossRow.laid.filter (fun x => x.1 == "tapewright/rat.errForm")) = [("tapewright/rat.errForm", Rows.laid_tapewright_rat_errForm)] := by rfl
    rw [e, MakeChecks.laidMetH_plain _ _ _ (by kernel_rfl)] at h1
    exact h1
  obtain ⟨ps, ⟨g, t, cs, fuel, p, q, hg, ht, hv, hd, _, e0⟩, _, hrows⟩ := h2
  have hg' : Tryz.prog.globalNamed "tapewright/rat.errForm" = some 0 := by kernel_rfl
  obtain rfl := Option.some.inj (hg'.symm.trans hg)
  have ht' : (Tryz.prog.globals[0]?).map (·.type) = some 88 := by kernel_rfl
  obtain rfl := Option.some.inj (ht'.symm.trans ht)
  have hu := Tryz.underlying88
  unfold Rows.laid_tapewright_rat_errForm at hd
  rcases fuel with _ | fuel
  · simp [DataW.trod] at hd
  · unfold DataW.trod at hd
    rw [hu] at hd
    have hc := World.var?_cell hg' hv 0
    obtain ⟨l⟩ := cs
    match l, hd, hc with
    | [.iface T v], hd, hc => exact ⟨T, v, by simpa using hc⟩
    | [.nilIface], hd, _ => simp at hd
set_option maxRecDepth 100000 in
theorem g1 {W : World} (hL : laidMetH Tryz.prog Rows.graphLossRow.laid W) : ∃ t u, W.cell? ⟨1, 0, none⟩ = some (.iface t u) := by
  have h1 := hL.filter (fun x => x.1 == "tapewright/rat.errZero")
  have h2 : laidMet Tryz.prog [("tapewright/rat.errZero", Rows.laid_tapewright_rat_errZero)] W := by
    have e : (Rows.graphLossRow.laid.filter (fun x => x.1 == "tapewright/rat.errZero")) = [("tapewright/rat.errZero", Rows.laid_tapewright_rat_errZero)] := by rfl
    rw [e, MakeChecks.laidMetH_plain _ _ _ (by kernel_rfl)] at h1
    exact h1
  obtain ⟨ps, ⟨g, t, cs, fuel, p, q, hg, ht, hv, hd, _, e0⟩, _, hrows⟩ := h2
  have hg' : Tryz.prog.globalNamed "tapewright/rat.errZero" = some 1 := by kernel_rfl
  obtain rfl := Option.some.inj (hg'.symm.trans hg)
  have ht' : (Tryz.prog.globals[1]?).map (·.type) = some 88 := by kernel_rfl
  obtain rfl := Option.some.inj (ht'.symm.trans ht)
  have hu := Tryz.underlying88
  unfold Rows.laid_tapewright_rat_errZero at hd
  rcases fuel with _ | fuel
  · simp [DataW.trod] at hd
  · unfold DataW.trod at hd
    rw [hu] at hd
    have hc := World.var?_cell hg' hv 0
    obtain ⟨l⟩ := cs
    match l, hd, hc with
    | [.iface T v], hd, hc => exact ⟨T, v, by simpa using hc⟩
    | [.nilIface], hd, _ => simp at hd
theorem gok {W : World} (hL : laidMetH Tryz.prog Rows.graphLossRow.laid W) : ∀ g ∈ Go.VI.tyT.G, ∃ t u, W.cell? ⟨g, 0, none⟩ = some (.iface t u) := by
  intro g hg
  change g ∈ [0, 1] at hg
  simp only [List.mem_cons, List.not_mem_nil, or_false] at hg
  rcases hg with rfl | rfl
  · exact g0 hL
  · exact g1 hL
set_option maxRecDepth 100000 in
theorem lifted (os : Os) (started : os.Started) (H : Type) (enc : TypeId × Value → H) :
    ReturnsInHanded {} Tryz.checked os 4 .any (fun w args => (Rows.graphLossSpec.pre enc Tryz.prog Tryz.f4 Rows.graphLossRow.domain false w args ∧ laidMetH Tryz.prog Rows.graphLossRow.laid w) ∧ sizedMet enc Tryz.prog Tryz.f4 (OpenSpec.ofChange Rows.graphLossSpec) false w args) (Rows.graphLossSpec.post enc Tryz.prog Tryz.f4 false true false false) := by
  refine returnsInHanded_of_change_and (C := Tryz.checked) (X := fun w _ => laidMetH Tryz.prog Rows.graphLossRow.laid w) (fun _ _ _ hh h => h.of_heap hh) own started (by kernel_rfl) Tryz.func4
    (ChangeSpec.witness_shaped (enc := enc) (C := Tryz.checked) (os := os) (X := fun w _ => laidMetH Tryz.prog Rows.graphLossRow.laid w) false (World.laidAll Tryz.prog os Rows.graphLossRow.laid) #[.agg #[.slice none 0 0, .int .i64 0], .int .i64 0] 8 (World.laidAll_os _ _ _)
      (World.shaped_of_ZipB (by kernel_rfl) (by kernel_rfl)) (by kernel_rfl) (by kernel_rfl) (by kernel_rfl)
      (by rw [MakeChecks.laidMetH_plain _ _ _ (by kernel_rfl)]; exact laidMet_laidAll _ (by kernel_rfl) (by kernel_rfl))) ?_
  intro W base args ds gs before hval0 hW hcnd hsz0 hL _
  have hval : ∀ (j : Nat) t v, Tryz.f4.params[j]? = some t → args[j]? = some v → Value.okWide Tryz.prog W .any base t v := hval0
  have hW' := hW
  obtain ⟨p, q, hA0, hV, rfl, hfz, hnd⟩ := hW
  have hA : DataW.TrodAll enc Tryz.prog W 0 (fun _ => true) true Tryz.f4.params.toList args.toList ds p := hA0
  rw [Tryz.params4] at hA hval
  obtain ⟨v0, vs0, d0, ds0, p0, q0, hargs, rfl, rfl, h0, r0⟩ := trodAll_cons hA
  obtain ⟨v1, vs1, d1, ds1, p1, q1, rfl, rfl, rfl, h1, r1⟩ := trodAll_cons r0
  obtain ⟨rfl, rfl, rfl⟩ := trodAll_nil r1
  obtain rfl : args = #[v0, v1] := by cases args; simp_all
  obtain ⟨rfl, rfl⟩ := trodVars_none hV
  have lt0 : ∀ x ∈ p0, x.block < W.heap.size := by obtain ⟨m, hm⟩ := h0; exact DataW.trod_lt m _ _ _ hm
  have lt1 : ∀ x ∈ p1, x.block < W.heap.size := by obtain ⟨m, hm⟩ := h1; exact DataW.trod_lt m _ _ _ hm
  obtain ⟨y0, f0, e0⟩ := argGraph.run (hval 0 24 v0 rfl rfl) h0
  obtain ⟨y1, f1, e1⟩ := argInt.run (hval 1 3 v1 rfl rfl) h1
  clear hA0 hval0 hsz0
  obtain ⟨k, hk⟩ := (Go.PL.GraphLoss_ev y0.1 y0.2 y1).rounds
  refine (run_law (Tf.tapewrightlaw10_GraphLoss.ok k) rfl (a := (y0, y1)) rfl rfl hk (w := W) (vals := [v0, v1]) rfl (fun i v x hv hx => ?_) (gok hL)).mono fun e W' ⟨he, bel⟩ => ?_
  · match i, hv, hx with
    | 0, hv, hx => cases hv; cases hx; exact e0
    | 1, hv, hx => cases hv; cases hx; exact e1
    | _ + 2, hv, hx => cases hx
  subst he
  exact ⟨_, rfl, _, _, _, [], _, [], hW', trodAll_mk1 (shut_bool Tryz.underlying4 _), (trodAll_cons_mk (Below.trod laidOut (by kernel_rfl) (of_decide_eq_true (by kernel_rfl)) h0 bel lt0) (trodAll_cons_mk (Below.trod laidOut (by kernel_rfl) (of_decide_eq_true (by kernel_rfl)) h1 bel lt1) trodAll_mk0)), rfl, bel.frame _, fun h => by cases h⟩
theorem over : Rows.graphLossRow.holds Tryz.pinned (OpenSpec.ofChange Rows.graphLossSpec) :=
  OpenClaim.holds_of_wide 4 Tryz.f4 rfl rfl rfl rfl rfl rfl rfl ⟨rfl, rfl, rfl, rfl, rfl⟩ rfl rfl rfl rfl rfl (by kernel_rfl) Tryz.func4 (by kernel_rfl)
    (of_decide_eq_true (by kernel_rfl)) (by unfold Func.isWrapper; first | (rw [if_pos (by decide +kernel)]; kernel_rfl) | (rw [if_neg (by decide +kernel)]; exact ⟨rfl, rfl⟩))
    (fun os started H enc _ => lifted os started H enc)
theorem card : Rows.GraphLossCardSaid :=
  Claim7.holds_tied_plain_at .later [] [.data, .sentinel, .sentinel, .pinned] true (true, "f94f8be5b14e180743717cd9fb73526b0716b630b0618e4011b8830be4c321ae") false over (fun _ h => by cases h) (by kernel_rfl) (fun _ h => by cases h) graphLoss_row_tie rfl ⟨rfl, rfl⟩ (by kernel_rfl) rfl
    (fun f fn hf hfn => by
      obtain rfl : f = 4 := Option.some.inj ((show Tryz.prog.funcNamed "tapewright/tapewrightlaw10.GraphLoss" = some 4 by kernel_rfl).symm.trans hf) |>.symm
      obtain rfl : fn = Tryz.f4 := (Option.some.inj (Tryz.func4.symm.trans hfn)).symm
      exact ⟨by kernel_rfl, fun j t ht => by
        rw [Tryz.params4] at ht
        have hm : t ∈ [24, 3] := by have := Array.mem_of_getElem? ht; simpa using this
        have hall : ([24, 3].all fun u => !Tryz.prog.wantsStandIn u) = true := by kernel_rfl
        exact (show Tryz.prog.wantsStandIn t = false by simpa using List.all_eq_true.1 hall t hm)⟩)
    (by kernel_rfl)
end Go.Proofs.YtljgpddjfobilaaGreatDoor.graphLoss
namespace Go.Proofs.YtljgpddjfobilaaGreatDoor
/-- The card, under a short name, for the claim. -/
theorem graphLoss_card_holds : Rows.GraphLossCardSaid := graphLoss.card
#print axioms graphLoss_card_holds
end Go.Proofs.YtljgpddjfobilaaGreatDoor
