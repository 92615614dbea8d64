/- For every input tapewrightlaw17.PlanFew answers true. Conditions: none beyond the statement's own. -/
import Derived.Test.YtljgpddjfobilaaDoorQ0
import Derived.Test.YtljgpddjfobilaaDoorRows
import Derived.WalkKit
import Derived.ProofKit
import Derived.OpenShut
import Derived.ShutString
import Derived.ChangeOld
import Derived.Below
import Derived.SizedLaws
import Derived.Lib.SmallJoins
import Derived.LaidMore
import Derived.LaidSub
import Derived.Lay
import Derived.SevenTiedAt
import Derived.Stop.Joined
import Derived.Stop.LaidErr
import Derived.FnData
import Derived.Test.YtljgpddjfobilaaDoorTie
import Derived.Test.YtljgpddjfobilaaDoorCards
set_option linter.unusedVariables false
set_option linter.unusedSimpArgs false
namespace Go.PL
open Go Go.VI
def paramW : VI.Node := ⟨⟨#[112, 97, 114, 97, 109]⟩, 0, 0, ⟨#[119]⟩, [], ByteArray.empty, 0, []⟩
def reluN (k : Nat) : VI.Node := ⟨⟨#[114, 101, 108, 117]⟩, (k : Int), 0, ByteArray.empty, [], ByteArray.empty, 0, []⟩
def chainN (i : Nat) : List VI.Node := paramW :: (List.range i).map reluN
theorem chainN_len (i : Nat) : (chainN i).length = i + 1 := by simp [chainN]
theorem chainN_succ (i : Nat) : chainN (i + 1) = chainN i ++ [reluN i] := by simp [chainN, List.range_succ]
def chainL (m : Nat) : List Int := (List.range m).map (fun k : Nat => (k : Int) + 1) ++ [(m : Int)]
def chainB (m : Nat) : Bool := graphV (chainN m) (m : Int) && (chainN m).all smallB && (lastGo (chainN m) (m + 1) 0 (List.replicate (m + 1) 0) == chainL m)
theorem chain_ok : ∀ m : Fin 31, chainB m.1 = true := by decide +kernel
theorem chain_facts (m : Nat) (hm : m ≤ 30) : graphV (chainN m) (m : Int) = true ∧ (∀ x ∈ chainN m, smallN x) ∧ lastGo (chainN m) (m + 1) 0 (List.replicate (m + 1) 0) = chainL m := by
  have h := chain_ok ⟨m, by omega⟩
  simp only [chainB, Bool.and_eq_true, beq_iff_eq] at h
  exact ⟨h.1.1, smallL h.1.2, h.2⟩
theorem chainL_rd (m j : Nat) (hj : j < m) : rd (chainL m) (j : Int) = (j : Int) + 1 := by
  simp [rd, chainL, List.getD_eq_getElem?_getD, List.getElem?_append_left, hj]
theorem few_l6 (keep : List Int) (m : Nat) (hm : m ≤ 30) : ∀ (d i : Nat), i + d = m →
    EvG (fun _ L => L ((i : Int), (chainN i, (keep, ((m : Int), (m : Int)))))) Tf.tapewrightlaw17_PlanFew.s6 (keep, ((m : Int), chainN m)) := by
  intro d
  induction d with
  | zero =>
    intro i hi
    refine EvG.step (fun F L => ?_) (EvG.now _)
    dsimp only [Tf.tapewrightlaw17_PlanFew.s6]
    simp only [bif_if, decide_eq_true_eq]
    rw [if_neg (by omega), show i = m by omega]
  | succ d ih =>
    intro i hi
    refine EvG.step (fun F L => ?_) (ih (i + 1) (by omega))
    dsimp only [Tf.tapewrightlaw17_PlanFew.s6]
    simp only [bif_if, decide_eq_true_eq, Nat.ble_eq]
    rw [if_pos (by omega), if_pos (by rw [chainN_len]; omega), w64 (by omega) (by omega), succ_cast, chainN_succ]
    rfl
theorem idxZ_neg (p : Int → Bool) : ∀ (l : List Int) (i : Int), 0 ≤ i → idxZ p l i < 0 → ∀ x ∈ l, p x = false
  | [], _, _, _, x, hx => by simp at hx
  | y :: l, i, hi, h, x, hx => by
    rw [idxZ] at h
    by_cases hy : p y = true
    · rw [if_pos hy] at h; omega
    · rw [if_neg hy] at h
      rcases List.mem_cons.1 hx with rfl | hx
      · simpa using hy
      · exact idxZ_neg p l (i + 1) (by omega) h x hx
def below (keep : List Int) (i : Nat) : Nat := keep.countP fun p => decide (p < (i : Int))
theorem below_mono (keep : List Int) (i : Nat) : below keep i ≤ below keep (i + 1) := List.countP_mono_left fun x _ h => by simp at h ⊢; omega
theorem below_mem : ∀ (keep : List Int) (i : Nat), (i : Int) ∈ keep → below keep i + 1 ≤ below keep (i + 1)
  | [], i, h => by simp at h
  | p :: keep, i, h => by
    have hmono := below_mono keep i
    unfold below at *
    rw [List.countP_cons, List.countP_cons]
    by_cases e : p = (i : Int)
    · subst e
      simp only [decide_eq_true_eq]
      rw [if_neg (by omega), if_pos (by omega)]
      omega
    · have hm := below_mem keep i (by rcases List.mem_cons.1 h with h | h; exact absurd h.symm e; exact h)
      unfold below at hm
      simp only [decide_eq_true_eq]
      by_cases hp : p < (i : Int)
      · rw [if_pos hp, if_pos (by omega)]; omega
      · rw [if_neg hp]; omega
theorem makeGo_few (last keep : List Int) (n : Nat) (hl : ∀ j : Nat, j < n → rd last (j : Int) = (j : Int) + 1 ∨ (j : Int) ∈ keep) : ∀ (d i : Nat) (u s : List Int), i + d = n →
    u.countP (fun v => decide ((i : Int) < v)) ≤ below keep i → u.length ≤ below keep i + 1 → (0 < i → 1 ≤ u.length) → (makeGo last d i u s).2 ≤ (below keep n : Int) + 1 ∧ (0 < n → 1 ≤ (makeGo last d i u s).2) := by
  intro d
  induction d with
  | zero =>
    intro i u s hi h1 h2 h3
    have : i = n := by omega
    subst this
    simp only [makeGo]
    exact ⟨by omega, fun h => by have := h3 h; omega⟩
  | succ d ih =>
    intro i u s hi h1 h2 h3
    have hm := below_mono keep i
    have hsub : u.countP (fun v => decide (((i + 1 : Nat) : Int) < v)) ≤ u.countP (fun v => decide ((i : Int) < v)) := List.countP_mono_left fun x _ h => by simp at h ⊢; omega
    have hx : below keep i + (if decide (((i + 1 : Nat) : Int) < rd last (i : Int)) = true then 1 else 0) ≤ below keep (i + 1) := by
      rcases hl i (by omega) with h | h
      · rw [if_neg (by simp; omega)]; omega
      · have := below_mem keep i h
        split <;> omega
    rw [makeGo]
    by_cases c : idxZ (fun x => decide (x ≤ (i : Int))) u 0 < 0
    · have hall := idxZ_neg _ u 0 (by omega) c
      have hlen : u.countP (fun v => decide ((i : Int) < v)) = u.length := List.countP_eq_length.2 fun x hx => by have := hall x hx; simp at this ⊢; omega
      rw [if_pos c]
      refine ih (i + 1) _ _ (by omega) ?_ (by simp; omega) (by simp)
      rw [List.countP_append, List.countP_singleton]
      omega
    · rw [if_neg c]
      rcases idxZ_range (fun x => decide (x ≤ (i : Int))) u 0 with h | ⟨q, hq1, hq2, hq3⟩
      · omega
      · rw [hq2, show ((0 : Int) + (q : Int)).toNat = q by omega]
        refine ih (i + 1) _ _ (by omega) ?_ (by simp; omega) (fun _ => by simp; omega)
        rw [List.countP_set hq1]
        omega
theorem few_make (m : Nat) (hm : m ≤ 30) (keep : List Int) (hk : keep.length ≤ 10) : ∃ r : (List Int × Int) × Int, Ev (fun F => Tf.plan_Make.f F ((chainN m, (m : Int)), keep)) r ∧
    (r.2 ≠ 0 ∧ r.1.2 = 0 ∧ keep ≠ [] ∨ r.2 = 0 ∧ 1 ≤ r.1.2 ∧ r.1.2 ≤ (keep.length : Int) + 1) := by
  obtain ⟨h1, h2, h3⟩ := chain_facts m hm
  have hM := make_ev (chainN m) (m : Int) keep h2 (by rw [chainN_len]; omega) (by omega)
  refine ⟨_, hM, ?_⟩
  cases hok : okB (chainN m) (m : Int) keep with
  | false =>
    rw [if_neg (by simp)]
    refine .inl ⟨by simp, rfl, fun e => ?_⟩
    subst e
    simp [okB, h1] at hok
  | true =>
    rw [if_pos rfl]
    refine .inr ⟨rfl, ?_⟩
    have hlast : ∀ j : Nat, j < (chainN m).length → rd (lastV (chainN m) (m : Int) keep) (j : Int) = (j : Int) + 1 ∨ (j : Int) ∈ keep := fun j hj => by
      have e0 := chainN_len m
      rw [lastV_kept _ _ _ hok j hj]
      by_cases hj2 : (j : Int) ∈ keep
      · exact .inr hj2
      · refine .inl ?_
        by_cases hj3 : j = m
        · subst hj3; rw [if_pos (by simp), e0]; omega
        · rw [if_neg (by simp [hj2]; omega), e0, h3, chainL_rd m j (by omega)]
    have := makeGo_few (lastV (chainN m) (m : Int) keep) keep (chainN m).length hlast (chainN m).length 0 [] [] (by omega) (by simp) (by simp) (fun h => by omega)
    have hb : below keep (chainN m).length ≤ keep.length := List.countP_le_length
    exact ⟨this.2 (by rw [chainN_len]; omega), by have h := this.1; dsimp only; omega⟩
/-- PlanFew answers true. -/
theorem PlanFew_ev (n : Int) (hn : (Lit.int .u8 n).wf = true) (keep : List Int) : Ev (fun F => Tf.tapewrightlaw17_PlanFew.f F (n, keep)) true := by
  have aw := Ev_ret planAwake_ev
  have hn0 : 0 ≤ n ∧ n < 256 := by
    simp [Lit.wf, IntKind.min, IntKind.max, IntKind.signed, IntKind.bits] at hn
    omega
  simp only [Tf.tapewrightlaw17_PlanFew.f, bif_if, decide_eq_true_eq, bne_iff_ne, beq_iff_eq]
  obtain ⟨m, hm, em⟩ : ∃ m : Nat, m ≤ 30 ∧ IntKind.i64.wrap (1 + IntKind.i64.wrap (Int.tmod n 30)) = (m : Int) := by
    rw [Int.tmod_eq_emod_of_nonneg hn0.1]
    exact ⟨(1 + n % 30).toNat, by omega, by rw [w64 (n := n % 30) (by omega) (by omega), w64 (by omega) (by omega)]; omega⟩
  rw [em]
  refine EvIf (fun _ => aw) (fun hk => ?_)
  obtain ⟨r0, g0, p0⟩ := few_make m hm [] (by simp)
  obtain ⟨r1, g1, p1⟩ := few_make m hm keep (by omega)
  obtain ⟨q1, q2, q3⟩ := p0.resolve_left fun h => h.2.2 rfl
  have q4 : r0.1.2 = 1 := by simp at q3; omega
  have h6 := few_l6 keep m hm m 0 (by omega)
  refine Ev.bind (Ev.iter h6) (Ev.bind g0 (Ev.bind g1 ?_))
  rcases p1 with ⟨a1, a2, _⟩ | ⟨a1, a2, a3⟩
  · exact Ev_pos a1 (Ev_pos q4 (Ev_pos q1 (Ev_pos a2 aw)))
  · refine Ev_neg (by omega) (Ev_pos q4 (Ev_pos q1 (Ev_pos a2 (Ev_pos ?_ aw))))
    dsimp only
    rw [w64 (by omega) (by omega)]; exact a3
end Go.PL
namespace Go.Proofs.YtljgpddjfobilaaDoor.planFew
open Go.ChangeShapes Go.WideShapes Go.ChangeAt Go.RowKit Go.VI
theorem laidOut : laidOutB Tryd.prog = true := by kernel_rfl
theorem own : ownKnob Tryd.prog.godebug = none := by kernel_rfl
set_option maxRecDepth 100000 in
theorem g0 {W : World} (hL : laidMetH Tryd.prog Rows.planFewRow.laid W) : ∃ t u, W.cell? ⟨0, 0, none⟩ = some (.iface t u) := by
  have h1 := hL.filter (fun x => x.1 == "tapewright/rat.errForm")
  have h2 : laidMet Tryd.prog [("tapewright/rat.errForm", Rows.laid_tapewright_rat_errForm)] W := by
    have e : (Rows.planFewRow.laid.filter (fun x => x.1 == "tapewright/rat.errForm")) = [("tapewright/rat.errForm", Rows.laid_tapewright_rat_errForm)] := by rfl
    rw [e, MakeChecks.laidMetH_plain _ _ _ (by kernel_rfl)] at h1
    exact h1
  obtain ⟨ps, ⟨g, t, cs, fuel, p, q, hg, ht, hv, hd, _, e0⟩, _, hrows⟩ := h2
  have hg' : Tryd.prog.globalNamed "tapewright/rat.errForm" = some 0 := by kernel_rfl
  obtain rfl := Option.some.inj (hg'.symm.trans hg)
  have ht' : (Tryd.prog.globals[0]?).map (·.type) = some 76 := by kernel_rfl
  obtain rfl := Option.some.inj (ht'.symm.trans ht)
  have hu := Tryd.underlying76
  unfold Rows.laid_tapewright_rat_errForm at hd
  rcases fuel with _ | fuel
  · simp [DataW.trod] at hd
  · unfold DataW.trod at hd
    rw [hu] at hd
    have hc := World.var?_cell hg' hv 0
    obtain ⟨l⟩ := cs
    match l, hd, hc with
    | [.iface T v], hd, hc => exact ⟨T, v, by simpa using hc⟩
    | [.nilIface], hd, _ => simp at hd
set_option maxRecDepth 100000 in
theorem g1 {W : World} (hL : laidMetH Tryd.prog Rows.planFewRow.laid W) : ∃ t u, W.cell? ⟨1, 0, none⟩ = some (.iface t u) := by
  have h1 := hL.filter (fun x => x.1 == "tapewright/rat.errZero")
  have h2 : laidMet Tryd.prog [("tapewright/rat.errZero", Rows.laid_tapewright_rat_errZero)] W := by
    have e : (Rows.planFewRow.laid.filter (fun x => x.1 == "tapewright/rat.errZero")) = [("tapewright/rat.errZero", Rows.laid_tapewright_rat_errZero)] := by rfl
    rw [e, MakeChecks.laidMetH_plain _ _ _ (by kernel_rfl)] at h1
    exact h1
  obtain ⟨ps, ⟨g, t, cs, fuel, p, q, hg, ht, hv, hd, _, e0⟩, _, hrows⟩ := h2
  have hg' : Tryd.prog.globalNamed "tapewright/rat.errZero" = some 1 := by kernel_rfl
  obtain rfl := Option.some.inj (hg'.symm.trans hg)
  have ht' : (Tryd.prog.globals[1]?).map (·.type) = some 76 := by kernel_rfl
  obtain rfl := Option.some.inj (ht'.symm.trans ht)
  have hu := Tryd.underlying76
  unfold Rows.laid_tapewright_rat_errZero at hd
  rcases fuel with _ | fuel
  · simp [DataW.trod] at hd
  · unfold DataW.trod at hd
    rw [hu] at hd
    have hc := World.var?_cell hg' hv 0
    obtain ⟨l⟩ := cs
    match l, hd, hc with
    | [.iface T v], hd, hc => exact ⟨T, v, by simpa using hc⟩
    | [.nilIface], hd, _ => simp at hd
theorem gok {W : World} (hL : laidMetH Tryd.prog Rows.planFewRow.laid W) : ∀ g ∈ Go.VI.tyT.G, ∃ t u, W.cell? ⟨g, 0, none⟩ = some (.iface t u) := by
  intro g hg
  change g ∈ [0, 1] at hg
  simp only [List.mem_cons, List.not_mem_nil, or_false] at hg
  rcases hg with rfl | rfl
  · exact g0 hL
  · exact g1 hL
set_option maxRecDepth 100000 in
theorem lifted (os : Os) (started : os.Started) (H : Type) (enc : TypeId × Value → H) :
    ReturnsInHanded {} Tryd.checked os 8 .any (fun w args => (Rows.planFewSpec.pre enc Tryd.prog Tryd.f8 Rows.planFewRow.domain false w args ∧ laidMetH Tryd.prog Rows.planFewRow.laid w) ∧ sizedMet enc Tryd.prog Tryd.f8 (OpenSpec.ofChange Rows.planFewSpec) false w args) (Rows.planFewSpec.post enc Tryd.prog Tryd.f8 false true false false) := by
  refine returnsInHanded_of_change_and (C := Tryd.checked) (X := fun w _ => laidMetH Tryd.prog Rows.planFewRow.laid w) (fun _ _ _ hh h => h.of_heap hh) own started (by kernel_rfl) Tryd.func8
    (ChangeSpec.witness_shaped (enc := enc) (C := Tryd.checked) (os := os) (X := fun w _ => laidMetH Tryd.prog Rows.planFewRow.laid w) false (World.laidAll Tryd.prog os Rows.planFewRow.laid) #[.int .u8 0, .slice none 0 0] 8 (World.laidAll_os _ _ _)
      (World.shaped_of_ZipB (by kernel_rfl) (by kernel_rfl)) (by kernel_rfl) (by kernel_rfl) (by kernel_rfl)
      (by rw [MakeChecks.laidMetH_plain _ _ _ (by kernel_rfl)]; exact laidMet_laidAll _ (by kernel_rfl) (by kernel_rfl))) ?_
  intro W base args ds gs before hval0 hW hcnd hsz0 hL _
  have hval : ∀ (j : Nat) t v, Tryd.f8.params[j]? = some t → args[j]? = some v → Value.okWide Tryd.prog W .any base t v := hval0
  have hW' := hW
  obtain ⟨p, q, hA0, hV, rfl, hfz, hnd⟩ := hW
  have hA : DataW.TrodAll enc Tryd.prog W 0 (fun _ => true) true Tryd.f8.params.toList args.toList ds p := hA0
  rw [Tryd.params8] at hA hval
  obtain ⟨v0, vs0, d0, ds0, p0, q0, hargs, rfl, rfl, h0, r0⟩ := trodAll_cons hA
  obtain ⟨v1, vs1, d1, ds1, p1, q1, rfl, rfl, rfl, h1, r1⟩ := trodAll_cons r0
  obtain ⟨rfl, rfl, rfl⟩ := trodAll_nil r1
  obtain rfl : args = #[v0, v1] := by cases args; simp_all
  obtain ⟨rfl, rfl⟩ := trodVars_none hV
  have lt0 : ∀ x ∈ p0, x.block < W.heap.size := by obtain ⟨m, hm⟩ := h0; exact DataW.trod_lt m _ _ _ hm
  have lt1 : ∀ x ∈ p1, x.block < W.heap.size := by obtain ⟨m, hm⟩ := h1; exact DataW.trod_lt m _ _ _ hm
  obtain ⟨y0, f0, e0⟩ := argByte.run (hval 0 5 v0 rfl rfl) h0
  obtain ⟨y1, f1, e1⟩ := argInts.run (hval 1 27 v1 rfl rfl) h1
  clear hA0 hval0 hsz0
  obtain ⟨k, hk⟩ := (Go.PL.PlanFew_ev y0 f0 y1).rounds
  refine (run_law (Tf.tapewrightlaw17_PlanFew.ok k) rfl (a := (y0, y1)) rfl rfl hk (w := W) (vals := [v0, v1]) rfl (fun i v x hv hx => ?_) (gok hL)).mono fun e W' ⟨he, bel⟩ => ?_
  · match i, hv, hx with
    | 0, hv, hx => cases hv; cases hx; exact e0
    | 1, hv, hx => cases hv; cases hx; exact e1
    | _ + 2, hv, hx => cases hx
  subst he
  exact ⟨_, rfl, _, _, _, [], _, [], hW', trodAll_mk1 (shut_bool Tryd.underlying4 _), (trodAll_cons_mk (Below.trod laidOut (by kernel_rfl) (of_decide_eq_true (by kernel_rfl)) h0 bel lt0) (trodAll_cons_mk (Below.trod laidOut (by kernel_rfl) (of_decide_eq_true (by kernel_rfl)) h1 bel lt1) trodAll_mk0)), rfl, bel.frame _, fun h => by cases h⟩
theorem over : Rows.planFewRow.holds Tryd.pinned (OpenSpec.ofChange Rows.planFewSpec) :=
  OpenClaim.holds_of_wide 8 Tryd.f8 rfl rfl rfl rfl rfl rfl rfl ⟨rfl, rfl, rfl, rfl, rfl⟩ rfl rfl rfl rfl rfl (by kernel_rfl) Tryd.func8 (by kernel_rfl)
    (of_decide_eq_true (by kernel_rfl)) (by unfold Func.isWrapper; first | (rw [if_pos (by decide +kernel)]; kernel_rfl) | (rw [if_neg (by decide +kernel)]; exact ⟨rfl, rfl⟩))
    (fun os started H enc _ => lifted os started H enc)
theorem card : Rows.PlanFewCardSaid :=
  Claim7.holds_tied_plain_at .later [] [.data, .sentinel, .sentinel, .pinned] true (true, "ced8bf572417afeffe5849de449b1b861b9e315672932f7e8e505ed9f4a3eb80") false over (fun _ h => by cases h) (by kernel_rfl) (fun _ h => by cases h) planFew_row_tie rfl ⟨rfl, rfl⟩ (by kernel_rfl) rfl
    (fun f fn hf hfn => by
      obtain rfl : f = 8 := Option.some.inj ((show Tryd.prog.funcNamed "tapewright/tapewrightlaw17.PlanFew" = some 8 by kernel_rfl).symm.trans hf) |>.symm
      obtain rfl : fn = Tryd.f8 := (Option.some.inj (Tryd.func8.symm.trans hfn)).symm
      exact ⟨by kernel_rfl, fun j t ht => by
        rw [Tryd.params8] at ht
        have hm : t ∈ [5, 27] := by have := Array.mem_of_getElem? ht; simpa using this
        have hall : ([5, 27].all fun u => !Tryd.prog.wantsStandIn u) = true := by kernel_rfl
        exact (show Tryd.prog.wantsStandIn t = false by simpa using List.all_eq_true.1 hall t hm)⟩)
    (by kernel_rfl)
end Go.Proofs.YtljgpddjfobilaaDoor.planFew
namespace Go.Proofs.YtljgpddjfobilaaDoor
/-- The card, under a short name, for the claim. -/
theorem planFew_card_holds : Rows.PlanFewCardSaid := planFew.card
#print axioms planFew_card_holds
end Go.Proofs.YtljgpddjfobilaaDoor
