/- For every input tapewrightlaw10.GraphMore answers true. Conditions: none beyond the statement's own. -/
import Derived.Test.YtljgpddjfobilaaDoorQ0
import Derived.Test.YtljgpddjfobilaaDoorRows
import Derived.WalkKit
import Derived.ProofKit
import Derived.OpenShut
import Derived.ShutString
import Derived.ChangeOld
import Derived.Below
import Derived.SizedLaws
import Derived.Lib.SmallJoins
import Derived.LaidMore
import Derived.LaidSub
import Derived.Lay
import Derived.SevenTiedAt
import Derived.Stop.Joined
import Derived.Stop.LaidErr
import Derived.FnData
import Derived.Test.YtljgpddjfobilaaDoorTie
import Derived.Test.YtljgpddjfobilaaDoorCards
set_option linter.unusedVariables false
set_option linter.unusedSimpArgs false
namespace Go.PL
open Go Go.VI
@[reducible] def withS (x : VI.Node) (s : List Int) : VI.Node := ⟨x.op, x.a, x.b, x.name, s, x.k, x.n, x.data⟩
theorem ofV_shape (x : VI.Node) (a b : List Int) : (ofV x a b).1 = x.shape ∨ ∀ s, ofV (withS x s) a b = ofV x a b := by
  by_cases c0 : seqB x.op oConst = true
  · exact .inl (by simp only [ofV, if_pos c0])
  by_cases c1 : inL x.op [⟨#[97, 100, 100]⟩, ⟨#[115, 117, 98]⟩, ⟨#[109, 117, 108]⟩, ⟨#[109, 97, 120]⟩, ⟨#[97, 98, 111, 118, 101]⟩] = true
  · exact .inr fun _ => by simp only [ofV, if_neg c0, if_pos c1]
  by_cases c2 : seqB x.op ⟨#[109, 97, 116, 109, 117, 108]⟩ = true
  · exact .inr fun _ => by simp only [ofV, if_neg c0, if_neg c1, if_pos c2]
  by_cases c3 : inL x.op [⟨#[114, 101, 108, 117]⟩, ⟨#[97, 98, 115]⟩, ⟨#[115, 116, 101, 112]⟩, ⟨#[115, 105, 103, 110]⟩] = true
  · exact .inr fun _ => by simp only [ofV, if_neg c0, if_neg c1, if_neg c2, if_pos c3]
  by_cases c4 : seqB x.op oScale = true
  · exact .inr fun _ => by simp only [ofV, if_neg c0, if_neg c1, if_neg c2, if_neg c3, if_pos c4]
  by_cases c5 : seqB x.op oPower = true
  · exact .inr fun _ => by simp only [ofV, if_neg c0, if_neg c1, if_neg c2, if_neg c3, if_neg c4, if_pos c5]
  by_cases c6 : seqB x.op ⟨#[116, 114, 97, 110, 115, 112, 111, 115, 101]⟩ = true
  · exact .inr fun _ => by simp only [ofV, if_neg c0, if_neg c1, if_neg c2, if_neg c3, if_neg c4, if_neg c5, if_pos c6]
  by_cases c7 : seqB x.op ⟨#[115, 117, 109]⟩ = true
  · exact .inr fun _ => by simp only [ofV, if_neg c0, if_neg c1, if_neg c2, if_neg c3, if_neg c4, if_neg c5, if_neg c6, if_pos c7]
  by_cases c8 : seqB x.op ⟨#[114, 101, 115, 104, 97, 112, 101]⟩ = true
  · exact .inl (by simp only [ofV, if_neg c0, if_neg c1, if_neg c2, if_neg c3, if_neg c4, if_neg c5, if_neg c6, if_neg c7, if_pos c8])
  by_cases c9 : seqB x.op ⟨#[115, 112, 114, 101, 97, 100]⟩ = true
  · exact .inl (by simp only [ofV, if_neg c0, if_neg c1, if_neg c2, if_neg c3, if_neg c4, if_neg c5, if_neg c6, if_neg c7, if_neg c8, if_pos c9])
  exact .inl (by simp only [ofV, if_neg c0, if_neg c1, if_neg c2, if_neg c3, if_neg c4, if_neg c5, if_neg c6, if_neg c7, if_neg c8, if_neg c9])
theorem withS_self (x : VI.Node) : withS x x.shape = x := rfl
theorem endV_again (x : VI.Node) (a b : List Int) (h : (endV x a b).2 = true) : endV (withS x (endV x a b).1) a b = endV x a b := by
  have e : (endV x a b).1 = (ofV x a b).1 := by
    unfold endV at h ⊢
    split at h
    · rename_i hh; rw [if_pos hh]
    · cases h
  rcases ofV_shape x a b with h1 | h1
  · rw [e, h1, withS_self]
  · unfold endV
    rw [h1]
/-- What Infer tells is told again of the node that has it. -/
theorem inferV_again (l : List VI.Node) (x : VI.Node) (h : (inferV l x).2 = true) : inferV l (withS x (inferV l x).1) = inferV l x := by
  unfold inferV at h ⊢
  split at h
  · rename_i hh
    rw [if_pos hh]
    have hb : ∀ s, bareV (withS x s) (partsV x.op).1 = bareV x (partsV x.op).1 := fun _ => rfl
    rw [if_pos ⟨hh.1, by rw [show (withS x _).op = x.op from rfl, hb]; exact hh.2.1, hh.2.2⟩]
    exact endV_again x _ _ h
  · cases h
theorem inferV_none {l : List VI.Node} {x : VI.Node} (h : (inferV l x).2 = false) : (inferV l x).1 = [] := by
  unfold inferV at h ⊢
  split at h
  · rename_i hh
    rw [if_pos hh]
    generalize (if (partsV x.op).1 > 0 then (nd l x.a).shape else []) = a at h ⊢
    generalize (if (partsV x.op).1 > 1 then (nd l x.b).shape else []) = b at h ⊢
    unfold endV at h ⊢
    split at h
    · cases h
    · rename_i h2; rw [if_neg h2]
  · rename_i hh; rw [if_neg hh]
theorem rightV_more (x : VI.Node) (hx : seqB x.name ⟨#[]⟩ = true) (l : List VI.Node) (hi : inferV l x = (x.shape, true)) : ∀ (n i : Nat) (m : List (ByteArray × Int)), i + n = l.length → rightV l n i m = true → rightV (l ++ [x]) (n + 1) i m = true := by
  intro n
  induction n with
  | zero =>
    intro i m hn _
    have : i = l.length := by omega
    subst this
    unfold rightV
    simp only [nd_last, List.take_left']
    rw [hi, if_pos ⟨rfl, rfl, .inl hx⟩]
    rfl
  | succ n ih =>
    intro i m hn h
    unfold rightV at h
    simp only at h
    split at h
    · rename_i hh
      unfold rightV
      simp only
      rw [nd_append (by omega), List.take_append_of_le_length (by omega), if_pos hh]
      exact ih (i + 1) _ (by omega) h
    · cases h
theorem graph_more {l : List VI.Node} {loss : Int} {x : VI.Node} (hx : seqB x.name ⟨#[]⟩ = true) (hi : inferV l x = (x.shape, true)) (hl : l.length ≤ 199) (h : graphV l loss = true) : graphV (l ++ [x]) loss = true := by
  unfold graphV at h ⊢
  split at h
  · rename_i hh
    have e : (l ++ [x]).length = l.length + 1 := by simp
    rw [if_pos ⟨by omega, by omega, hh.2.2.1, by omega, by rw [nd_append ⟨hh.2.2.1, hh.2.2.2.1⟩]; exact hh.2.2.2.2⟩, e]
    exact rightV_more x hx l hi l.length 0 [] (by omega) h
  · cases h
theorem no_65 (s : List Int) : rightS (s ++ [65]) = false := by
  cases h : rightS (s ++ [65]) with
  | false => rfl
  | true =>
    have := ((rightS_iff _).1 h).2.1
    rw [okd_append] at this
    simp [okd] at this
/-- GraphMore answers true. -/
theorem GraphMore_ev (l : List VI.Node) (loss : Int) (x : VI.Node) : Ev (fun F => Tf.tapewrightlaw10_GraphMore.f F ((l, loss), x)) true := by
  obtain ⟨b, hb, hbp⟩ := smallG_ev l loss
  obtain ⟨b2, hb2, hbp2⟩ := smallG_ev [x] 0
  have aw := Ev_ret graphAwake_ev
  simp only [Tf.tapewrightlaw10_GraphMore.f, bif_if, Bool.not_eq_true', decide_eq_true_eq, Nat.ble_eq, List.replicate_zero, List.nil_append, set_one, set_oneN, beq_iff_eq]
  by_cases c : b = true
  · subst c
    obtain ⟨hn, hl⟩ := hbp rfl
    refine Ev.bind hb (Ev_neg (by simp) (Ev.bind hb2 (EvIf (fun _ => aw) (fun hb3 => EvIf (fun _ => aw) (fun h39 => ?_)))))
    have hx := (hbp2 (by simpa using hb3)).2 x (by simp)
    refine Ev.bind (graph_ev l loss hl (by omega)) ?_
    cases hg : graphV l loss with
    | false => exact Ev_pos rfl aw
    | true =>
      refine Ev_neg (by simp) (EvIf (fun _ => aw) (fun hnm => ?_))
      have hnm' : seqB x.name ⟨#[]⟩ = true := by simpa using hnm
      refine Ev.bind (infer_ev l x hl hx) ?_
      have hlen := inferV_len l x
      cases hi : (inferV l x).2 with
      | false =>
        refine Ev_pos rfl (Ev_pos ?_ aw)
        rw [inferV_none hi]; rfl
      | true =>
        have hag := inferV_again l x hi
        generalize (inferV l x) = t at hi hag hlen
        obtain ⟨s, t2⟩ := t
        simp only at hi hag hlen
        subst hi
        have s1 : ∀ z : List Int, z.length ≤ 10 → smallN (withS x z) := fun z hz => ⟨hx.1, hz, hx.2.2⟩
        have g1 := graph_ev (l ++ [withS x s]) loss (small_app hl (s1 s (by omega))) (by simp; omega)
        rw [graph_more (x := withS x s) hnm' hag (by omega) hg] at g1
        have g2 := graph_ev (l ++ [withS x (s ++ [65])]) loss (small_app hl (s1 _ (by simp; omega))) (by simp; omega)
        have hno : graphV (l ++ [withS x (s ++ [65])]) loss = false := by
          cases hg2 : graphV (l ++ [withS x (s ++ [65])]) loss with
          | false => rfl
          | true =>
            have ha := graph_all hg2 l.length (by simp)
            rw [nd_last] at ha
            have hr := inferV_rightS (l := (l ++ [withS x (s ++ [65])]).take l.length) (x := withS x (s ++ [65])) (by rw [ha])
            rw [ha] at hr
            have hr2 : rightS (s ++ [65]) = true := hr
            rw [no_65] at hr2
            cases hr2
        rw [hno] at g2
        dsimp only
        exact Ev_neg (by simp) (Ev_pos (by omega) (Ev_pos (by omega) (Ev_pos (by omega) (Ev_pos (by omega) (Ev_pos (by omega) (Ev_pos (by omega) (Ev.bind g1 (Ev_pos rfl (Ev.bind g2 (Ev_pos rfl aw))))))))))
  · exact Ev.bind hb (Ev_pos (by simpa using c) aw)
end Go.PL
namespace Go.Proofs.YtljgpddjfobilaaDoor.graphMore
open Go.ChangeShapes Go.WideShapes Go.ChangeAt Go.RowKit Go.VI
theorem laidOut : laidOutB Tryd.prog = true := by kernel_rfl
theorem own : ownKnob Tryd.prog.godebug = none := by kernel_rfl
set_option maxRecDepth 100000 in
theorem g0 {W : World} (hL : laidMetH Tryd.prog Rows.graphMoreRow.laid W) : ∃ t u, W.cell? ⟨0, 0, none⟩ = some (.iface t u) := by
  have h1 := hL.filter (fun x => x.1 == "tapewright/rat.errForm")
  have h2 : laidMet Tryd.prog [("tapewright/rat.errForm", Rows.laid_tapewright_rat_errForm)] W := by
    have e : (Rows.graphMoreRow.laid.filter (fun x => x.1 == "tapewright/rat.errForm")) = [("tapewright/rat.errForm", Rows.laid_tapewright_rat_errForm)] := by rfl
    rw [e, MakeChecks.laidMetH_plain _ _ _ (by kernel_rfl)] at h1
    exact h1
  obtain ⟨ps, ⟨g, t, cs, fuel, p, q, hg, ht, hv, hd, _, e0⟩, _, hrows⟩ := h2
  have hg' : Tryd.prog.globalNamed "tapewright/rat.errForm" = some 0 := by kernel_rfl
  obtain rfl := Option.some.inj (hg'.symm.trans hg)
  have ht' : (Tryd.prog.globals[0]?).map (·.type) = some 76 := by kernel_rfl
  obtain rfl := Option.some.inj (ht'.symm.trans ht)
  have hu := Tryd.underlying76
  unfold Rows.laid_tapewright_rat_errForm at hd
  rcases fuel with _ | fuel
  · simp [DataW.trod] at hd
  · unfold DataW.trod at hd
    rw [hu] at hd
    have hc := World.var?_cell hg' hv 0
    obtain ⟨l⟩ := cs
    match l, hd, hc with
    | [.iface T v], hd, hc => exact ⟨T, v, by simpa using hc⟩
    | [.nilIface], hd, _ => simp at hd
set_option maxRecDepth 100000 in
theorem g1 {W : World} (hL : laidMetH Tryd.prog Rows.graphMoreRow.laid W) : ∃ t u, W.cell? ⟨1, 0, none⟩ = some (.iface t u) := by
  have h1 := hL.filter (fun x => x.1 == "tapewright/rat.errZero")
  have h2 : laidMet Tryd.prog [("tapewright/rat.errZero", Rows.laid_tapewright_rat_errZero)] W := by
    have e : (Rows.graphMoreRow.laid.filter (fun x => x.1 == "tapewright/rat.errZero")) = [("tapewright/rat.errZero", Rows.laid_tapewright_rat_errZero)] := by rfl
    rw [e, MakeChecks.laidMetH_plain _ _ _ (by kernel_rfl)] at h1
    exact h1
  obtain ⟨ps, ⟨g, t, cs, fuel, p, q, hg, ht, hv, hd, _, e0⟩, _, hrows⟩ := h2
  have hg' : Tryd.prog.globalNamed "tapewright/rat.errZero" = some 1 := by kernel_rfl
  obtain rfl := Option.some.inj (hg'.symm.trans hg)
  have ht' : (Tryd.prog.globals[1]?).map (·.type) = some 76 := by kernel_rfl
  obtain rfl := Option.some.inj (ht'.symm.trans ht)
  have hu := Tryd.underlying76
  unfold Rows.laid_tapewright_rat_errZero at hd
  rcases fuel with _ | fuel
  · simp [DataW.trod] at hd
  · unfold DataW.trod at hd
    rw [hu] at hd
    have hc := World.var?_cell hg' hv 0
    obtain ⟨l⟩ := cs
    match l, hd, hc with
    | [.iface T v], hd, hc => exact ⟨T, v, by simpa using hc⟩
    | [.nilIface], hd, _ => simp at hd
theorem gok {W : World} (hL : laidMetH Tryd.prog Rows.graphMoreRow.laid W) : ∀ g ∈ Go.VI.tyT.G, ∃ t u, W.cell? ⟨g, 0, none⟩ = some (.iface t u) := by
  intro g hg
  change g ∈ [0, 1] at hg
  simp only [List.mem_cons, List.not_mem_nil, or_false] at hg
  rcases hg with rfl | rfl
  · exact g0 hL
  · exact g1 hL
set_option maxRecDepth 100000 in
theorem lifted (os : Os) (started : os.Started) (H : Type) (enc : TypeId × Value → H) :
    ReturnsInHanded {} Tryd.checked os 5 .any (fun w args => (Rows.graphMoreSpec.pre enc Tryd.prog Tryd.f5 Rows.graphMoreRow.domain false w args ∧ laidMetH Tryd.prog Rows.graphMoreRow.laid w) ∧ sizedMet enc Tryd.prog Tryd.f5 (OpenSpec.ofChange Rows.graphMoreSpec) false w args) (Rows.graphMoreSpec.post enc Tryd.prog Tryd.f5 false true false false) := by
  refine returnsInHanded_of_change_and (C := Tryd.checked) (X := fun w _ => laidMetH Tryd.prog Rows.graphMoreRow.laid w) (fun _ _ _ hh h => h.of_heap hh) own started (by kernel_rfl) Tryd.func5
    (ChangeSpec.witness_shaped (enc := enc) (C := Tryd.checked) (os := os) (X := fun w _ => laidMetH Tryd.prog Rows.graphMoreRow.laid w) false (World.laidAll Tryd.prog os Rows.graphMoreRow.laid) #[.agg #[.slice none 0 0, .int .i64 0], .agg #[.string ByteArray.empty, .int .i64 0, .int .i64 0, .string ByteArray.empty, .slice none 0 0, .string ByteArray.empty, .int .i64 0, .slice none 0 0]] 8 (World.laidAll_os _ _ _)
      (World.shaped_of_ZipB (by kernel_rfl) (by kernel_rfl)) (by kernel_rfl) (by kernel_rfl) (by kernel_rfl)
      (by rw [MakeChecks.laidMetH_plain _ _ _ (by kernel_rfl)]; exact laidMet_laidAll _ (by kernel_rfl) (by kernel_rfl))) ?_
  intro W base args ds gs before hval0 hW hcnd hsz0 hL _
  have hval : ∀ (j : Nat) t v, Tryd.f5.params[j]? = some t → args[j]? = some v → Value.okWide Tryd.prog W .any base t v := hval0
  have hW' := hW
  obtain ⟨p, q, hA0, hV, rfl, hfz, hnd⟩ := hW
  have hA : DataW.TrodAll enc Tryd.prog W 0 (fun _ => true) true Tryd.f5.params.toList args.toList ds p := hA0
  rw [Tryd.params5] at hA hval
  obtain ⟨v0, vs0, d0, ds0, p0, q0, hargs, rfl, rfl, h0, r0⟩ := trodAll_cons hA
  obtain ⟨v1, vs1, d1, ds1, p1, q1, rfl, rfl, rfl, h1, r1⟩ := trodAll_cons r0
  obtain ⟨rfl, rfl, rfl⟩ := trodAll_nil r1
  obtain rfl : args = #[v0, v1] := by cases args; simp_all
  obtain ⟨rfl, rfl⟩ := trodVars_none hV
  have lt0 : ∀ x ∈ p0, x.block < W.heap.size := by obtain ⟨m, hm⟩ := h0; exact DataW.trod_lt m _ _ _ hm
  have lt1 : ∀ x ∈ p1, x.block < W.heap.size := by obtain ⟨m, hm⟩ := h1; exact DataW.trod_lt m _ _ _ hm
  obtain ⟨y0, f0, e0⟩ := argGraph.run (hval 0 24 v0 rfl rfl) h0
  obtain ⟨y1, f1, e1⟩ := argNode.run (hval 1 30 v1 rfl rfl) h1
  clear hA0 hval0 hsz0
  obtain ⟨k, hk⟩ := (Go.PL.GraphMore_ev y0.1 y0.2 y1).rounds
  refine (run_law (Tf.tapewrightlaw10_GraphMore.ok k) rfl (a := (y0, y1)) rfl rfl hk (w := W) (vals := [v0, v1]) rfl (fun i v x hv hx => ?_) (gok hL)).mono fun e W' ⟨he, bel⟩ => ?_
  · match i, hv, hx with
    | 0, hv, hx => cases hv; cases hx; exact e0
    | 1, hv, hx => cases hv; cases hx; exact e1
    | _ + 2, hv, hx => cases hx
  subst he
  exact ⟨_, rfl, _, _, _, [], _, [], hW', trodAll_mk1 (shut_bool Tryd.underlying4 _), (trodAll_cons_mk (Below.trod laidOut (by kernel_rfl) (of_decide_eq_true (by kernel_rfl)) h0 bel lt0) (trodAll_cons_mk (Below.trod laidOut (by kernel_rfl) (of_decide_eq_true (by kernel_rfl)) h1 bel lt1) trodAll_mk0)), rfl, bel.frame _, fun h => by cases h⟩
theorem over : Rows.graphMoreRow.holds Tryd.pinned (OpenSpec.ofChange Rows.graphMoreSpec) :=
  OpenClaim.holds_of_wide 5 Tryd.f5 rfl rfl rfl rfl rfl rfl rfl ⟨rfl, rfl, rfl, rfl, rfl⟩ rfl rfl rfl rfl rfl (by kernel_rfl) Tryd.func5 (by kernel_rfl)
    (of_decide_eq_true (by kernel_rfl)) (by unfold Func.isWrapper; first | (rw [if_pos (by decide +kernel)]; kernel_rfl) | (rw [if_neg (by decide +kernel)]; exact ⟨rfl, rfl⟩))
    (fun os started H enc _ => lifted os started H enc)
theorem card : Rows.GraphMoreCardSaid :=
  Claim7.holds_tied_plain_at .later [] [.data, .sentinel, .sentinel, .pinned] true (true, "ced8bf572417afeffe5849de449b1b861b9e315672932f7e8e505ed9f4a3eb80") false over (fun _ h => by cases h) (by kernel_rfl) (fun _ h => by cases h) graphMore_row_tie rfl ⟨rfl, rfl⟩ (by kernel_rfl) rfl
    (fun f fn hf hfn => by
      obtain rfl : f = 5 := Option.some.inj ((show Tryd.prog.funcNamed "tapewright/tapewrightlaw10.GraphMore" = some 5 by kernel_rfl).symm.trans hf) |>.symm
      obtain rfl : fn = Tryd.f5 := (Option.some.inj (Tryd.func5.symm.trans hfn)).symm
      exact ⟨by kernel_rfl, fun j t ht => by
        rw [Tryd.params5] at ht
        have hm : t ∈ [24, 30] := by have := Array.mem_of_getElem? ht; simpa using this
        have hall : ([24, 30].all fun u => !Tryd.prog.wantsStandIn u) = true := by kernel_rfl
        exact (show Tryd.prog.wantsStandIn t = false by simpa using List.all_eq_true.1 hall t hm)⟩)
    (by kernel_rfl)
end Go.Proofs.YtljgpddjfobilaaDoor.graphMore
namespace Go.Proofs.YtljgpddjfobilaaDoor
/-- The card, under a short name, for the claim. -/
theorem graphMore_card_holds : Rows.GraphMoreCardSaid := graphMore.card
#print axioms graphMore_card_holds
end Go.Proofs.YtljgpddjfobilaaDoor
