/- For every input tapewrightlaw17.PlanLast answers true. Conditions: none beyond the statement's own. -/
import Derived.Test.YtljgpddjfobilaaDoorQ0
import Derived.Test.YtljgpddjfobilaaDoorRows
import Derived.WalkKit
import Derived.ProofKit
import Derived.OpenShut
import Derived.ShutString
import Derived.ChangeOld
import Derived.Below
import Derived.SizedLaws
import Derived.Lib.SmallJoins
import Derived.LaidMore
import Derived.LaidSub
import Derived.Lay
import Derived.SevenTiedAt
import Derived.Stop.Joined
import Derived.Stop.LaidErr
import Derived.FnData
import Derived.Test.YtljgpddjfobilaaDoorTie
import Derived.Test.YtljgpddjfobilaaDoorCards
set_option linter.unusedVariables false
set_option linter.unusedSimpArgs false
namespace Go.PL
open Go Go.VI
/-- Node x is made of node q. -/
def madeOf (x : VI.Node) (q : Nat) : Prop := (partsV x.op).1 > 0 ∧ x.a = (q : Int) ∨ (partsV x.op).1 > 1 ∧ x.b = (q : Int)
def lastOf (l : List VI.Node) (q : Nat) (v : Int) : Prop := v = (q : Int) ∨ ∃ k : Nat, k < l.length ∧ v = (k : Int) ∧ madeOf (nd l (k : Int)) q
theorem lastGo_made (l : List VI.Node) (hp : ∀ j : Nat, j < l.length → partsOk (nd l (j : Int)) j) : ∀ (d i : Nat) (o : List Int), i + d = l.length → o.length = l.length →
    (∀ j : Nat, j < i → lastOf l j (rd o (j : Int))) → ∀ j : Nat, j < l.length → lastOf l j (rd (lastGo l d i o) (j : Int)) := by
  intro d
  induction d with
  | zero => intro i o hi ho h j hj; exact h j (by omega)
  | succ d ih =>
    intro i o hi ho h j hj
    rw [lastGo]
    have hpi := hp i (by omega)
    refine ih (i + 1) _ (by omega) (by rw [stepL_len]; simp [ho]) (fun q hq => ?_) j hj
    have hy : lastOf l q (rd (o.set i (i : Int)) (q : Int)) := by
      rw [rd_set_any _ _ _ _ (by omega)]
      split
      · rename_i e; subst e; exact .inl rfl
      · exact h q (by omega)
    have hm : madeOf (nd l (i : Int)) q → lastOf l q (i : Int) := fun hm => .inr ⟨i, by omega, rfl, hm⟩
    generalize nd l (i : Int) = x at *
    have hol : (o.set i (i : Int)).length = l.length := by simp [ho]
    generalize o.set i (i : Int) = y at *
    unfold stepL
    split
    · exact hy
    · rename_i hz
      have n1 := nz_pos hpi hz
      have A := hpi.2.1 n1
      split
      · rename_i hT
        have n2 := t_two hT
        have B := hpi.2.2 (by omega)
        rw [rd_set_any _ _ _ _ (by simp; omega)]
        split
        · exact hm (.inl ⟨n1, by omega⟩)
        · rw [rd_set_any _ _ _ _ (by omega)]
          split
          · exact hm (.inr ⟨by omega, by omega⟩)
          · exact hy
      · rw [rd_set_any _ _ _ _ (by omega)]
        split
        · exact hm (.inl ⟨n1, by omega⟩)
        · exact hy
theorem last_l9 (l : List VI.Node) (loss : Int) (w ks : List Int) (hn : l.length ≤ 1000) (hw : w.length = l.length) (hr : ∀ j : Nat, j < l.length → (j : Int) ≤ rd w (j : Int) ∧ rd w (j : Int) ≤ l.length) (hp : ∀ j : Nat, j < l.length → (partsV (nd l (j : Int)).op).2 = true)
    (hm : ∀ j : Nat, j < l.length → rd w (j : Int) = (l.length : Int) ∨ lastOf l j (rd w (j : Int))) : ∀ (d i : Nat), i + d = w.length →
    EvG (fun _ L => L ((i : Int), (l, (loss, (w, (w, (ks, (w.length : Int)))))))) Tf.tapewrightlaw17_PlanLast.s9 (.inr (w, ks)) := by
  intro d
  induction d with
  | zero =>
    intro i hi
    refine EvG.step (fun F L => ?_) (EvG.now _)
    dsimp only [Tf.tapewrightlaw17_PlanLast.s9]
    simp only [bif_if, decide_eq_true_eq]
    rw [if_neg (by omega)]
  | succ d ih =>
    intro i hi
    have h1 := hr i (by omega)
    have hnext := ih (i + 1) (by omega)
    have hi' : IntKind.i64.wrap ((i : Int) + 1) = ((i + 1 : Nat) : Int) := by rw [w64 (by omega) (by omega), succ_cast]
    refine EvG.loop ?_
    simp only [Tf.tapewrightlaw17_PlanLast.s9, bif_if, decide_eq_true_eq, inR_iff, rd_def, beq_iff_eq, Bool.not_eq_true', beq_eq_false_iff_ne, hi']
    refine EvG.pos (by omega) (EvG.pos (by omega) (EvG.neg (by omega) (EvG.neg (by omega) ?_)))
    by_cases e1 : rd w (i : Int) = (i : Int)
    · exact EvG.pos e1 hnext
    refine EvG.neg e1 ?_
    by_cases e2 : rd w (i : Int) = (w.length : Int)
    · exact EvG.pos e2 hnext
    refine EvG.neg e2 ?_
    obtain ⟨k, hk, hv, hmade⟩ := ((hm i (by omega)).resolve_left (by omega)).resolve_left e1
    rw [hv]
    have e0 : l.getD (k : Int).toNat (dflt 6) = nd l (k : Int) := rfl
    have hpk := hp k hk
    have hpev := rparts_ev (nd l (k : Int)).op
    rw [if_pos hpk] at hpev
    simp only [e0]
    refine EvG.pos (by omega) (EvG.bind hpev ?_)
    have g0 : 0 ≤ (k : Int) ∧ (k : Int) < (l.length : Int) := by omega
    rcases hmade with ⟨m1, m2⟩ | ⟨m1, m2⟩
    · exact EvG.pos m1 (EvG.pos g0 (EvG.pos m2 hnext))
    · refine EvG.pos (by omega) (EvG.pos g0 ?_)
      by_cases ea : (nd l (k : Int)).a = (i : Int)
      · exact EvG.pos ea hnext
      · exact EvG.neg ea (EvG.pos m1 (EvG.pos g0 (EvG.neg (by simpa using m2) hnext)))
theorem last_l19 (w ks : List Int) (hkl : ks.length ≤ 1000) (h : ∀ p ∈ ks, (0 ≤ p ∧ p < (w.length : Int)) ∧ rd w p = (w.length : Int)) : ∀ (d i : Nat), i + d = ks.length →
    EvG (fun _ L => L ((i : Int), (w, (ks, (ks.length : Int))))) Tf.tapewrightlaw17_PlanLast.s19 (.inr ()) := by
  intro d
  induction d with
  | zero =>
    intro i hi
    refine EvG.step (fun F L => ?_) (EvG.now _)
    dsimp only [Tf.tapewrightlaw17_PlanLast.s19]
    simp only [bif_if, decide_eq_true_eq]
    rw [if_neg (by omega)]
  | succ d ih =>
    intro i hi
    obtain ⟨h1, h2⟩ := h (rd ks (i : Int)) (by rw [rd_nat ks i (by omega)]; exact List.getElem_mem _)
    refine EvG.step (fun F L => ?_) (ih (i + 1) (by omega))
    dsimp only [Tf.tapewrightlaw17_PlanLast.s19]
    simp only [bif_if, decide_eq_true_eq, inR_iff, rd_def, bne_iff_ne]
    rw [if_pos (by omega), if_pos (by omega), if_neg (by omega), if_neg (by omega), if_pos (by omega), if_neg (by simpa using h2), w64 (by omega) (by omega), succ_cast]
/-- PlanLast answers true. -/
theorem PlanLast_ev (l : List VI.Node) (loss : Int) (keep : List Int) : Ev (fun F => Tf.tapewrightlaw17_PlanLast.f F ((l, loss), keep)) true := by
  obtain ⟨b, hb, hbp⟩ := smallG_ev l loss
  have aw := Ev_ret planAwake_ev
  simp only [Tf.tapewrightlaw17_PlanLast.f, bif_if, decide_eq_true_eq, bne_iff_ne, beq_iff_eq, Bool.not_eq_true']
  by_cases c : b = true
  · subst c
    obtain ⟨hn, hl⟩ := hbp rfl
    refine Ev.bind hb (Ev_neg (by simp) (EvIf (fun hk => aw) (fun hk => ?_)))
    have hL := last_ev l loss keep hl (by omega) (by omega)
    refine Ev.bind hL ?_
    cases hok : okB l loss keep with
    | false =>
      rw [if_neg (by simp)]
      exact Ev_pos (by simp) (Ev_pos (by simp) aw)
    | true =>
      rw [if_pos rfl]
      have hro := ok_right hok
      have hge := lastV_ge l loss keep hro.parts
      have hll := lastV_len l loss keep
      have hkp := lastV_kept l loss keep hok
      have hmd := lastGo_made l hro.parts l.length 0 (List.replicate l.length 0) (by omega) (by simp) (fun j hj => by omega)
      have hm : ∀ j : Nat, j < l.length → rd (lastV l loss keep) (j : Int) = (l.length : Int) ∨ lastOf l j (rd (lastV l loss keep) (j : Int)) := fun j hj => by
        rw [hkp j hj]
        split
        · exact .inl rfl
        · exact .inr (hmd j hj)
      have hks : ∀ p ∈ keep, (0 ≤ p ∧ p < ((lastV l loss keep).length : Int)) ∧ rd (lastV l loss keep) p = ((lastV l loss keep).length : Int) := fun p hp => by
        have hr := ok_keep hok p hp
        refine ⟨by omega, ?_⟩
        have := hkp p.toNat (by omega)
        rw [show ((p.toNat : Nat) : Int) = p by omega] at this
        rw [this, if_pos (by simp [hp]), hll]
      generalize lastV l loss keep = w at *
      dsimp only
      refine Ev_neg (by simp) (Ev_neg (by omega) (Ev.bind (Ev.iter (last_l9 l loss w keep (by omega) hll hge (fun j hj => (hro.parts j hj).1) hm w.length 0 (by omega))) ?_))
      dsimp only [sumE]
      refine Ev.bind (Ev.iter (last_l19 w keep (by omega) hks keep.length 0 (by omega))) ?_
      exact aw
  · exact Ev.bind hb (Ev_pos (by simpa using c) aw)
end Go.PL
namespace Go.Proofs.YtljgpddjfobilaaDoor.planLast
open Go.ChangeShapes Go.WideShapes Go.ChangeAt Go.RowKit Go.VI
theorem laidOut : laidOutB Tryd.prog = true := by kernel_rfl
theorem own : ownKnob Tryd.prog.godebug = none := by kernel_rfl
set_option maxRecDepth 100000 in
theorem g0 {W : World} (hL : laidMetH Tryd.prog Rows.planLastRow.laid W) : ∃ t u, W.cell? ⟨0, 0, none⟩ = some (.iface t u) := by
  have h1 := hL.filter (fun x => x.1 == "tapewright/rat.errForm")
  have h2 : laidMet Tryd.prog [("tapewright/rat.errForm", Rows.laid_tapewright_rat_errForm)] W := by
    have e : (Rows.planLastRow.laid.filter (fun x => x.1 == "tapewright/rat.errForm")) = [("tapewright/rat.errForm", Rows.laid_tapewright_rat_errForm)] := by rfl
    rw [e, MakeChecks.laidMetH_plain _ _ _ (by kernel_rfl)] at h1
    exact h1
  obtain ⟨ps, ⟨g, t, cs, fuel, p, q, hg, ht, hv, hd, _, e0⟩, _, hrows⟩ := h2
  have hg' : Tryd.prog.globalNamed "tapewright/rat.errForm" = some 0 := by kernel_rfl
  obtain rfl := Option.some.inj (hg'.symm.trans hg)
  have ht' : (Tryd.prog.globals[0]?).map (·.type) = some 76 := by kernel_rfl
  obtain rfl := Option.some.inj (ht'.symm.trans ht)
  have hu := Tryd.underlying76
  unfold Rows.laid_tapewright_rat_errForm at hd
  rcases fuel with _ | fuel
  · simp [DataW.trod] at hd
  · unfold DataW.trod at hd
    rw [hu] at hd
    have hc := World.var?_cell hg' hv 0
    obtain ⟨l⟩ := cs
    match l, hd, hc with
    | [.iface T v], hd, hc => exact ⟨T, v, by simpa using hc⟩
    | [.nilIface], hd, _ => simp at hd
set_option maxRecDepth 100000 in
theorem g1 {W : World} (hL : laidMetH Tryd.prog Rows.planLastRow.laid W) : ∃ t u, W.cell? ⟨1, 0, none⟩ = some (.iface t u) := by
  have h1 := hL.filter (fun x => x.1 == "tapewright/rat.errZero")
  have h2 : laidMet Tryd.prog [("tapewright/rat.errZero", Rows.laid_tapewright_rat_errZero)] W := by
    have e : (Rows.planLastRow.laid.filter (fun x => x.1 == "tapewright/rat.errZero")) = [("tapewright/rat.errZero", Rows.laid_tapewright_rat_errZero)] := by rfl
    rw [e, MakeChecks.laidMetH_plain _ _ _ (by kernel_rfl)] at h1
    exact h1
  obtain ⟨ps, ⟨g, t, cs, fuel, p, q, hg, ht, hv, hd, _, e0⟩, _, hrows⟩ := h2
  have hg' : Tryd.prog.globalNamed "tapewright/rat.errZero" = some 1 := by kernel_rfl
  obtain rfl := Option.some.inj (hg'.symm.trans hg)
  have ht' : (Tryd.prog.globals[1]?).map (·.type) = some 76 := by kernel_rfl
  obtain rfl := Option.some.inj (ht'.symm.trans ht)
  have hu := Tryd.underlying76
  unfold Rows.laid_tapewright_rat_errZero at hd
  rcases fuel with _ | fuel
  · simp [DataW.trod] at hd
  · unfold DataW.trod at hd
    rw [hu] at hd
    have hc := World.var?_cell hg' hv 0
    obtain ⟨l⟩ := cs
    match l, hd, hc with
    | [.iface T v], hd, hc => exact ⟨T, v, by simpa using hc⟩
    | [.nilIface], hd, _ => simp at hd
theorem gok {W : World} (hL : laidMetH Tryd.prog Rows.planLastRow.laid W) : ∀ g ∈ Go.VI.tyT.G, ∃ t u, W.cell? ⟨g, 0, none⟩ = some (.iface t u) := by
  intro g hg
  change g ∈ [0, 1] at hg
  simp only [List.mem_cons, List.not_mem_nil, or_false] at hg
  rcases hg with rfl | rfl
  · exact g0 hL
  · exact g1 hL
set_option maxRecDepth 100000 in
theorem lifted (os : Os) (started : os.Started) (H : Type) (enc : TypeId × Value → H) :
    ReturnsInHanded {} Tryd.checked os 10 .any (fun w args => (Rows.planLastSpec.pre enc Tryd.prog Tryd.f10 Rows.planLastRow.domain false w args ∧ laidMetH Tryd.prog Rows.planLastRow.laid w) ∧ sizedMet enc Tryd.prog Tryd.f10 (OpenSpec.ofChange Rows.planLastSpec) false w args) (Rows.planLastSpec.post enc Tryd.prog Tryd.f10 false true false false) := by
  refine returnsInHanded_of_change_and (C := Tryd.checked) (X := fun w _ => laidMetH Tryd.prog Rows.planLastRow.laid w) (fun _ _ _ hh h => h.of_heap hh) own started (by kernel_rfl) Tryd.func10
    (ChangeSpec.witness_shaped (enc := enc) (C := Tryd.checked) (os := os) (X := fun w _ => laidMetH Tryd.prog Rows.planLastRow.laid w) false (World.laidAll Tryd.prog os Rows.planLastRow.laid) #[.agg #[.slice none 0 0, .int .i64 0], .slice none 0 0] 8 (World.laidAll_os _ _ _)
      (World.shaped_of_ZipB (by kernel_rfl) (by kernel_rfl)) (by kernel_rfl) (by kernel_rfl) (by kernel_rfl)
      (by rw [MakeChecks.laidMetH_plain _ _ _ (by kernel_rfl)]; exact laidMet_laidAll _ (by kernel_rfl) (by kernel_rfl))) ?_
  intro W base args ds gs before hval0 hW hcnd hsz0 hL _
  have hval : ∀ (j : Nat) t v, Tryd.f10.params[j]? = some t → args[j]? = some v → Value.okWide Tryd.prog W .any base t v := hval0
  have hW' := hW
  obtain ⟨p, q, hA0, hV, rfl, hfz, hnd⟩ := hW
  have hA : DataW.TrodAll enc Tryd.prog W 0 (fun _ => true) true Tryd.f10.params.toList args.toList ds p := hA0
  rw [Tryd.params10] at hA hval
  obtain ⟨v0, vs0, d0, ds0, p0, q0, hargs, rfl, rfl, h0, r0⟩ := trodAll_cons hA
  obtain ⟨v1, vs1, d1, ds1, p1, q1, rfl, rfl, rfl, h1, r1⟩ := trodAll_cons r0
  obtain ⟨rfl, rfl, rfl⟩ := trodAll_nil r1
  obtain rfl : args = #[v0, v1] := by cases args; simp_all
  obtain ⟨rfl, rfl⟩ := trodVars_none hV
  have lt0 : ∀ x ∈ p0, x.block < W.heap.size := by obtain ⟨m, hm⟩ := h0; exact DataW.trod_lt m _ _ _ hm
  have lt1 : ∀ x ∈ p1, x.block < W.heap.size := by obtain ⟨m, hm⟩ := h1; exact DataW.trod_lt m _ _ _ hm
  obtain ⟨y0, f0, e0⟩ := argGraph.run (hval 0 24 v0 rfl rfl) h0
  obtain ⟨y1, f1, e1⟩ := argInts.run (hval 1 27 v1 rfl rfl) h1
  clear hA0 hval0 hsz0
  obtain ⟨k, hk⟩ := (Go.PL.PlanLast_ev y0.1 y0.2 y1).rounds
  refine (run_law (Tf.tapewrightlaw17_PlanLast.ok k) rfl (a := (y0, y1)) rfl rfl hk (w := W) (vals := [v0, v1]) rfl (fun i v x hv hx => ?_) (gok hL)).mono fun e W' ⟨he, bel⟩ => ?_
  · match i, hv, hx with
    | 0, hv, hx => cases hv; cases hx; exact e0
    | 1, hv, hx => cases hv; cases hx; exact e1
    | _ + 2, hv, hx => cases hx
  subst he
  exact ⟨_, rfl, _, _, _, [], _, [], hW', trodAll_mk1 (shut_bool Tryd.underlying4 _), (trodAll_cons_mk (Below.trod laidOut (by kernel_rfl) (of_decide_eq_true (by kernel_rfl)) h0 bel lt0) (trodAll_cons_mk (Below.trod laidOut (by kernel_rfl) (of_decide_eq_true (by kernel_rfl)) h1 bel lt1) trodAll_mk0)), rfl, bel.frame _, fun h => by cases h⟩
theorem over : Rows.planLastRow.holds Tryd.pinned (OpenSpec.ofChange Rows.planLastSpec) :=
  OpenClaim.holds_of_wide 10 Tryd.f10 rfl rfl rfl rfl rfl rfl rfl ⟨rfl, rfl, rfl, rfl, rfl⟩ rfl rfl rfl rfl rfl (by kernel_rfl) Tryd.func10 (by kernel_rfl)
    (of_decide_eq_true (by kernel_rfl)) (by unfold Func.isWrapper; first | (rw [if_pos (by decide +kernel)]; kernel_rfl) | (rw [if_neg (by decide +kernel)]; exact ⟨rfl, rfl⟩))
    (fun os started H enc _ => lifted os started H enc)
theorem card : Rows.PlanLastCardSaid :=
  Claim7.holds_tied_plain_at .later [] [.data, .sentinel, .sentinel, .pinned] true (true, "ced8bf572417afeffe5849de449b1b861b9e315672932f7e8e505ed9f4a3eb80") false over (fun _ h => by cases h) (by kernel_rfl) (fun _ h => by cases h) planLast_row_tie rfl ⟨rfl, rfl⟩ (by kernel_rfl) rfl
    (fun f fn hf hfn => by
      obtain rfl : f = 10 := Option.some.inj ((show Tryd.prog.funcNamed "tapewright/tapewrightlaw17.PlanLast" = some 10 by kernel_rfl).symm.trans hf) |>.symm
      obtain rfl : fn = Tryd.f10 := (Option.some.inj (Tryd.func10.symm.trans hfn)).symm
      exact ⟨by kernel_rfl, fun j t ht => by
        rw [Tryd.params10] at ht
        have hm : t ∈ [24, 27] := by have := Array.mem_of_getElem? ht; simpa using this
        have hall : ([24, 27].all fun u => !Tryd.prog.wantsStandIn u) = true := by kernel_rfl
        exact (show Tryd.prog.wantsStandIn t = false by simpa using List.all_eq_true.1 hall t hm)⟩)
    (by kernel_rfl)
end Go.Proofs.YtljgpddjfobilaaDoor.planLast
namespace Go.Proofs.YtljgpddjfobilaaDoor
/-- The card, under a short name, for the claim. -/
theorem planLast_card_holds : Rows.PlanLastCardSaid := planLast.card
#print axioms planLast_card_holds
end Go.Proofs.YtljgpddjfobilaaDoor
