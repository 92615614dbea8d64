/- For every input tapewrightlaw09.ReadAll answers true. Conditions: none beyond the statement's own. -/
import Derived.Test.YtffpponklejidaaGreatDoorQ1
import Derived.Test.YtffpponklejidaaGreatDoorRows
import Derived.WalkKit
import Derived.ProofKit
import Derived.OpenShut
import Derived.ShutString
import Derived.ChangeOld
import Derived.Below
import Derived.SizedLaws
import Derived.Lib.SmallJoins
import Derived.LaidMore
import Derived.LaidSub
import Derived.Lay
import Derived.SevenTiedAt
import Derived.Stop.Joined
import Derived.Stop.LaidErr
import Derived.FnData
import Derived.Test.YtffpponklejidaaGreatDoorTie
import Derived.Test.YtffpponklejidaaGreatDoorCards
set_option linter.unusedVariables false
set_option linter.unusedSimpArgs false
namespace Go.PL
open Go Go.VI
theorem allV_ok : ∀ (ls : List VI.Line) (acc : List VI.Stmt), (allV ls acc).2.2 = 0 → ∃ rest, (allV ls acc).1 = acc ++ rest ∧ rest.length = ls.length ∧ (allV ls acc).2.1 = 0
  | [], acc, _ => ⟨[], by simp [allV], rfl, rfl⟩
  | l :: r, acc, h => by
    rw [allV] at h ⊢
    cases hv : parseV l.words with
    | none => rw [hv] at h; simp at h
    | some s =>
      rw [hv] at h
      obtain ⟨rest, h1, h2, h3⟩ := allV_ok r (acc ++ [s]) h
      exact ⟨s :: rest, by simp only; rw [h1]; simp, by simp [h2], h3⟩
theorem ra_l8 (ws : List ByteArray) (hws : ws.length ≤ 10000) (e la at_ n i1 i2 : Int) (st : List VI.Stmt) (ls : List VI.Line) (s : ByteArray) : ∀ (d j : Nat), j + d = ws.length →
    ∃ r, (r = .inl true ∨ r = .inr (e, (la, (ws, (at_, (st, (ls, (s, (n, (i1, i2)))))))))) ∧ EvG (fun _ L => L ((j : Int), (ws, (e, (la, (ws, (at_, (st, (ls, (s, (n, (i1, (i2, (ws.length : Int)))))))))))))) Tf.tapewrightlaw09_ReadAll.s8 r := by
  intro d
  induction d with
  | zero =>
    intro j hj
    refine ⟨_, .inr rfl, EvG.step (fun F L => ?_) (EvG.now _)⟩
    dsimp only [Tf.tapewrightlaw09_ReadAll.s8]
    simp only [bif_if, decide_eq_true_eq]
    rw [if_neg (by omega)]
  | succ d ih =>
    intro j hj
    have hlt : j < ws.length := by omega
    have eg := getD_at ws j hlt
    have hw : IntKind.i64.wrap ((j : Int) + 1) = ((j + 1 : Nat) : Int) := by rw [w64 (by omega) (by omega), succ_cast]
    obtain ⟨r, h1, h2⟩ := ih (j + 1) (by omega)
    generalize ws[j] = w at *
    by_cases c : (w.size : Int) > 40
    · refine ⟨.inl true, .inl rfl, EvG.loop ?_⟩
      simp only [Tf.tapewrightlaw09_ReadAll.s8, bif_if, decide_eq_true_eq, inR_iff, eg, hw]
      exact EvG.pos (by omega) (EvG.pos (by omega) (EvG.pos c (EvG.bind readAwake_ev (EvG.now _))))
    · refine ⟨r, h1, EvG.loop ?_⟩
      simp only [Tf.tapewrightlaw09_ReadAll.s8, bif_if, decide_eq_true_eq, inR_iff, eg, hw]
      exact EvG.pos (by omega) (EvG.pos (by omega) (EvG.neg c h2))
theorem ra_l5 (ls : List VI.Line) (hls : ls.length ≤ 1000001) (ok : ∀ l ∈ ls, okLn l) (s : ByteArray) (st : List VI.Stmt) (at_ e : Int) : ∀ (d i : Nat) (acc : List VI.Stmt), i + d = ls.length → acc.length = i → allV (ls.drop i) acc = (st, (at_, e)) →
    ∃ r, (r = .inl true ∨ (r = .inr (s, (st, (at_, e))) ∧ e = 0 ∧ at_ = 0 ∧ st.length = ls.length)) ∧ EvG (fun _ L => L (e, (at_, (st, ((i : Int), (ls, (s, (ls.length : Int)))))))) Tf.tapewrightlaw09_ReadAll.s5 r := by
  intro d
  induction d with
  | zero =>
    intro i acc hi ha hv
    rw [List.drop_eq_nil_of_le (by omega), allV] at hv
    cases hv
    refine ⟨_, .inr ⟨rfl, rfl, rfl, by omega⟩, EvG.step (fun F L => ?_) (EvG.now _)⟩
    dsimp only [Tf.tapewrightlaw09_ReadAll.s5]
    simp only [bif_if, decide_eq_true_eq]
    rw [if_neg (by omega)]
  | succ d ih =>
    intro i acc hi ha hv
    have hlt : i < ls.length := by omega
    have eg : ls.getD (i : Int).toNat (dflt 8) = ls[i] := by rw [Int.toNat_natCast]; simp [List.getD_eq_getElem?_getD, hlt]
    have hw : IntKind.i64.wrap ((i : Int) + 1) = ((i + 1 : Nat) : Int) := by rw [w64 (by omega) (by omega), succ_cast]
    have ho := ok _ (List.getElem_mem hlt)
    have ih := ih (i + 1)
    rw [List.drop_eq_getElem_cons hlt, allV] at hv
    generalize ls[i] = l at *
    obtain ⟨r8, g1, g2⟩ := ra_l8 l.words (by have := ho.1; omega) e l.at_ at_ (ls.length : Int) (i : Int) (i : Int) st ls s l.words.length 0 (by omega)
    have open_ : ∀ {r}, EvG (fun F L => (Tf.tapewrightlaw09_ReadAll.l8 F (0, (l.words, (e, (l.at_, (l.words, (at_, (st, (ls, (s, ((ls.length : Int), ((i : Int), ((i : Int), (l.words.length : Int)))))))))))))).bind fun y34 => sumE y34 (fun y35 => some (.inl y35)) (fun y35 => (Tf.tapewrightref09_Parse.f F y35.2.2.1).bind fun y39 => if y39.2 = false then if (y35.2.2.2.2.1.length : Int) = 0 then if y35.2.2.2.1 = y35.2.1 then if y35.1 = 2 then (Tf.tapewrightlaw09_awake.f F ()).bind fun y63 => some (.inl y63) else some (.inl false) else some (.inl false) else some (.inl false) else
        if y35.1 = 0 then if y35.2.2.2.2.2.2.2.2.2 ≥ (y35.2.2.2.2.1.length : Int) then some (.inl false) else if 0 ≤ y35.2.2.2.2.2.2.2.2.2 ∧ y35.2.2.2.2.2.2.2.2.2 < (y35.2.2.2.2.1.length : Int) then (Tf.tapewrightref09_Equal.f F (y35.2.2.2.2.1.getD y35.2.2.2.2.2.2.2.2.2.toNat (dflt 7), y39.1)).bind fun y62 => if y62 = false then some (.inl false) else L (y35.1, (y35.2.2.2.1, (y35.2.2.2.2.1, (IntKind.i64.wrap (y35.2.2.2.2.2.2.2.2.1 + 1), (y35.2.2.2.2.2.1, (y35.2.2.2.2.2.2.1, y35.2.2.2.2.2.2.2.1)))))) else none else L (y35.1, (y35.2.2.2.1, (y35.2.2.2.2.1, (IntKind.i64.wrap (y35.2.2.2.2.2.2.2.2.1 + 1), (y35.2.2.2.2.2.1, (y35.2.2.2.2.2.2.1, y35.2.2.2.2.2.2.2.1)))))))) Tf.tapewrightlaw09_ReadAll.s5 r → EvG (fun _ L => L (e, (at_, (st, ((i : Int), (ls, (s, (ls.length : Int)))))))) Tf.tapewrightlaw09_ReadAll.s5 r := by
      intro r h
      refine EvG.loop ?_
      simp only [Tf.tapewrightlaw09_ReadAll.s5, bif_if, decide_eq_true_eq, inR_iff, eg, beq_iff_eq, Bool.not_eq_true']
      exact EvG.pos (by omega) (EvG.pos (by omega) h)
    rcases g1 with rfl | rfl
    · exact ⟨.inl true, .inl rfl, open_ (EvG.bind (Ev.iter g2) (EvG.now _))⟩
    obtain ⟨t, p1, p2⟩ := rparse_ev l.words ho.1 ho.2
    cases hp : parseV l.words with
    | none =>
      rw [hp] at hv p1
      cases hv
      exact ⟨.inl true, .inl rfl, open_ (EvG.bind (Ev.iter g2) (EvG.bind p1 (EvG.pos rfl (EvG.pos rfl (EvG.pos rfl (EvG.pos rfl (EvG.bind readAwake_ev (EvG.now _))))))))⟩
    | some q =>
      have := p2 q hp
      subst this
      rw [hp] at hv p1
      have hv : allV (ls.drop (i + 1)) (acc ++ [t]) = (st, (at_, e)) := hv
      obtain ⟨r, k1, k2⟩ := ih (acc ++ [t]) (by omega) (by simp [ha]) hv
      rw [← hw] at k2
      by_cases he : e = 0
      · obtain ⟨rest, q1, q2, q3⟩ := allV_ok (ls.drop (i + 1)) (acc ++ [t]) (by rw [hv]; exact he)
        rw [hv] at q1
        have q1 : st = acc ++ [t] ++ rest := q1
        have hl : i < st.length := by rw [q1]; simp; omega
        have hst : st.getD (i : Int).toNat (dflt 7) = t := by
          rw [Int.toNat_natCast, q1]
          simp [List.getD_eq_getElem?_getD, ← ha]
        refine ⟨r, k1, open_ (EvG.bind (Ev.iter g2) (EvG.bind p1 (EvG.neg (by simp) (EvG.pos he (EvG.neg (by dsimp only; omega) (EvG.pos (by dsimp only; omega) ?_))))))⟩
        dsimp only
        rw [hst]
        exact EvG.bind (requal_ev t (parse_okSt ho.1 hp)) (EvG.neg (by simp) k2)
      · exact ⟨r, k1, open_ (EvG.bind (Ev.iter g2) (EvG.bind p1 (EvG.neg (by simp) (EvG.neg he k2))))⟩
/-- ReadAll answers true. -/
theorem ReadAll_ev (s : ByteArray) : Ev (fun F => Tf.tapewrightlaw09_ReadAll.f F s) true := by
  have aw := Ev_ret readAwake_ev
  have hz := ba_size s
  simp only [Tf.tapewrightlaw09_ReadAll.f, bif_if, decide_eq_true_eq, beq_iff_eq]
  refine EvIf (fun _ => aw) (fun h => ?_)
  have hs : s.data.toList.length ≤ 1900 := by omega
  have hr := rlines_ev s (by omega)
  obtain ⟨ok, hn⟩ := short_text hs
  refine Ev.bind (readS_ev s hs) (Ev.bind hr ?_)
  obtain ⟨st, at_, e, hv⟩ : ∃ st at_ e, allV (linesV s) [] = (st, (at_, e)) := ⟨_, _, _, rfl⟩
  rw [hv]
  obtain ⟨r, h1, h2⟩ := ra_l5 (linesV s) hn ok s st at_ e (linesV s).length 0 [] (by omega) rfl (by rw [List.drop_zero]; exact hv)
  refine Ev.bind (Ev.iter h2) ?_
  rcases h1 with rfl | ⟨rfl, rfl, rfl, hl⟩
  · exact Ev.now _
  · have hl' : (st.length : Int) = ((linesV s).length : Int) := by omega
    dsimp only [sumE]
    refine Ev_pos rfl (Ev_pos rfl (Ev.bind hr ?_))
    exact Ev_pos hl' aw
end Go.PL
namespace Go.Proofs.YtffpponklejidaaGreatDoor.readAll
open Go.ChangeShapes Go.WideShapes Go.ChangeAt Go.RowKit Go.VI
theorem laidOut : laidOutB Tryz.prog = true := by kernel_rfl
theorem own : ownKnob Tryz.prog.godebug = none := by kernel_rfl
set_option maxRecDepth 100000 in
theorem g0 {W : World} (hL : laidMetH Tryz.prog Rows.readAllRow.laid W) : ∃ t u, W.cell? ⟨0, 0, none⟩ = some (.iface t u) := by
  have h1 := hL.filter (fun x => x.1 == "tapewright/rat.errForm")
  have h2 : laidMet Tryz.prog [("tapewright/rat.errForm", Rows.laid_tapewright_rat_errForm)] W := by
    have e : (Rows.readAllRow.laid.filter (fun x => x.1 == "tapewright/rat.errForm")) = [("tapewright/rat.errForm", Rows.laid_tapewright_rat_errForm)] := by rfl
    rw [e, MakeChecks.laidMetH_plain _ _ _ (by kernel_rfl)] at h1
    exact h1
  obtain ⟨ps, ⟨g, t, cs, fuel, p, q, hg, ht, hv, hd, _, e0⟩, _, hrows⟩ := h2
  have hg' : Tryz.prog.globalNamed "tapewright/rat.errForm" = some 0 := by kernel_rfl
  obtain rfl := Option.some.inj (hg'.symm.trans hg)
  have ht' : (Tryz.prog.globals[0]?).map (·.type) = some 82 := by kernel_rfl
  obtain rfl := Option.some.inj (ht'.symm.trans ht)
  have hu := Tryz.underlying82
  unfold Rows.laid_tapewright_rat_errForm at hd
  rcases fuel with _ | fuel
  · simp [DataW.trod] at hd
  · unfold DataW.trod at hd
    rw [hu] at hd
    have hc := World.var?_cell hg' hv 0
    obtain ⟨l⟩ := cs
    match l, hd, hc with
    | [.iface T v], hd, hc => exact ⟨T, v, by simpa using hc⟩
    | [.nilIface], hd, _ => simp at hd
set_option maxRecDepth 100000 in
theorem g3 {W : World} (hL : laidMetH Tryz.prog Rows.readAllRow.laid W) : ∃ t u, W.cell? ⟨3, 0, none⟩ = some (.iface t u) := by
  have h1 := hL.filter (fun x => x.1 == "tapewright/rat.errZero")
  have h2 : laidMet Tryz.prog [("tapewright/rat.errZero", Rows.laid_tapewright_rat_errZero)] W := by
    have e : (Rows.readAllRow.laid.filter (fun x => x.1 == "tapewright/rat.errZero")) = [("tapewright/rat.errZero", Rows.laid_tapewright_rat_errZero)] := by rfl
    rw [e, MakeChecks.laidMetH_plain _ _ _ (by kernel_rfl)] at h1
    exact h1
  obtain ⟨ps, ⟨g, t, cs, fuel, p, q, hg, ht, hv, hd, _, e0⟩, _, hrows⟩ := h2
  have hg' : Tryz.prog.globalNamed "tapewright/rat.errZero" = some 3 := by kernel_rfl
  obtain rfl := Option.some.inj (hg'.symm.trans hg)
  have ht' : (Tryz.prog.globals[3]?).map (·.type) = some 82 := by kernel_rfl
  obtain rfl := Option.some.inj (ht'.symm.trans ht)
  have hu := Tryz.underlying82
  unfold Rows.laid_tapewright_rat_errZero at hd
  rcases fuel with _ | fuel
  · simp [DataW.trod] at hd
  · unfold DataW.trod at hd
    rw [hu] at hd
    have hc := World.var?_cell hg' hv 0
    obtain ⟨l⟩ := cs
    match l, hd, hc with
    | [.iface T v], hd, hc => exact ⟨T, v, by simpa using hc⟩
    | [.nilIface], hd, _ => simp at hd
set_option maxRecDepth 100000 in
theorem g4 {W : World} (hL : laidMetH Tryz.prog Rows.readAllRow.laid W) : ∃ t u, W.cell? ⟨4, 0, none⟩ = some (.iface t u) := by
  have h1 := hL.filter (fun x => x.1 == "strconv.ErrSyntax")
  have h2 : laidMet Tryz.prog [("strconv.ErrSyntax", Rows.laid_strconv_ErrSyntax)] W := by
    have e : (Rows.readAllRow.laid.filter (fun x => x.1 == "strconv.ErrSyntax")) = [("strconv.ErrSyntax", Rows.laid_strconv_ErrSyntax)] := by rfl
    rw [e, MakeChecks.laidMetH_plain _ _ _ (by kernel_rfl)] at h1
    exact h1
  obtain ⟨ps, ⟨g, t, cs, fuel, p, q, hg, ht, hv, hd, _, e0⟩, _, hrows⟩ := h2
  have hg' : Tryz.prog.globalNamed "strconv.ErrSyntax" = some 4 := by kernel_rfl
  obtain rfl := Option.some.inj (hg'.symm.trans hg)
  have ht' : (Tryz.prog.globals[4]?).map (·.type) = some 82 := by kernel_rfl
  obtain rfl := Option.some.inj (ht'.symm.trans ht)
  have hu := Tryz.underlying82
  unfold Rows.laid_strconv_ErrSyntax at hd
  rcases fuel with _ | fuel
  · simp [DataW.trod] at hd
  · unfold DataW.trod at hd
    rw [hu] at hd
    have hc := World.var?_cell hg' hv 0
    obtain ⟨l⟩ := cs
    match l, hd, hc with
    | [.iface T v], hd, hc => exact ⟨T, v, by simpa using hc⟩
    | [.nilIface], hd, _ => simp at hd
set_option maxRecDepth 100000 in
theorem g5 {W : World} (hL : laidMetH Tryz.prog Rows.readAllRow.laid W) : ∃ t u, W.cell? ⟨5, 0, none⟩ = some (.iface t u) := by
  have h1 := hL.filter (fun x => x.1 == "strconv.ErrRange")
  have h2 : laidMet Tryz.prog [("strconv.ErrRange", Rows.laid_strconv_ErrRange)] W := by
    have e : (Rows.readAllRow.laid.filter (fun x => x.1 == "strconv.ErrRange")) = [("strconv.ErrRange", Rows.laid_strconv_ErrRange)] := by rfl
    rw [e, MakeChecks.laidMetH_plain _ _ _ (by kernel_rfl)] at h1
    exact h1
  obtain ⟨ps, ⟨g, t, cs, fuel, p, q, hg, ht, hv, hd, _, e0⟩, _, hrows⟩ := h2
  have hg' : Tryz.prog.globalNamed "strconv.ErrRange" = some 5 := by kernel_rfl
  obtain rfl := Option.some.inj (hg'.symm.trans hg)
  have ht' : (Tryz.prog.globals[5]?).map (·.type) = some 82 := by kernel_rfl
  obtain rfl := Option.some.inj (ht'.symm.trans ht)
  have hu := Tryz.underlying82
  unfold Rows.laid_strconv_ErrRange at hd
  rcases fuel with _ | fuel
  · simp [DataW.trod] at hd
  · unfold DataW.trod at hd
    rw [hu] at hd
    have hc := World.var?_cell hg' hv 0
    obtain ⟨l⟩ := cs
    match l, hd, hc with
    | [.iface T v], hd, hc => exact ⟨T, v, by simpa using hc⟩
    | [.nilIface], hd, _ => simp at hd
theorem gok {W : World} (hL : laidMetH Tryz.prog Rows.readAllRow.laid W) : ∀ g ∈ Go.VI.tyT.G, ∃ t u, W.cell? ⟨g, 0, none⟩ = some (.iface t u) := by
  intro g hg
  change g ∈ [0, 3, 4, 5] at hg
  simp only [List.mem_cons, List.not_mem_nil, or_false] at hg
  rcases hg with rfl | rfl | rfl | rfl
  · exact g0 hL
  · exact g3 hL
  · exact g4 hL
  · exact g5 hL
set_option maxRecDepth 100000 in
theorem lifted (os : Os) (started : os.Started) (H : Type) (enc : TypeId × Value → H) :
    ReturnsInHanded {} Tryz.checked os 4 .any (fun w args => (Rows.readAllSpec.pre enc Tryz.prog Tryz.f4 Rows.readAllRow.domain false w args ∧ laidMetH Tryz.prog Rows.readAllRow.laid w) ∧ sizedMet enc Tryz.prog Tryz.f4 (OpenSpec.ofChange Rows.readAllSpec) false w args) (Rows.readAllSpec.post enc Tryz.prog Tryz.f4 false true false false) := by
  refine returnsInHanded_of_change_and (C := Tryz.checked) (X := fun w _ => laidMetH Tryz.prog Rows.readAllRow.laid w) (fun _ _ _ hh h => h.of_heap hh) own started (by kernel_rfl) Tryz.func4
    (ChangeSpec.witness_shaped (enc := enc) (C := Tryz.checked) (os := os) (X := fun w _ => laidMetH Tryz.prog Rows.readAllRow.laid w) false (World.laidAll Tryz.prog os Rows.readAllRow.laid) #[.string ByteArray.empty] 8 (World.laidAll_os _ _ _)
      (World.shaped_of_ZipB (by kernel_rfl) (by kernel_rfl)) (by kernel_rfl) (by kernel_rfl) (by kernel_rfl)
      (by rw [MakeChecks.laidMetH_plain _ _ _ (by kernel_rfl)]; exact laidMet_laidAll _ (by kernel_rfl) (by kernel_rfl))) ?_
  intro W base args ds gs before hval0 hW hcnd hsz0 hL _
  have hval : ∀ (j : Nat) t v, Tryz.f4.params[j]? = some t → args[j]? = some v → Value.okWide Tryz.prog W .any base t v := hval0
  have hW' := hW
  obtain ⟨p, q, hA0, hV, rfl, hfz, hnd⟩ := hW
  have hA : DataW.TrodAll enc Tryz.prog W 0 (fun _ => true) true Tryz.f4.params.toList args.toList ds p := hA0
  rw [Tryz.params4] at hA hval
  obtain ⟨v0, vs0, d0, ds0, p0, q0, hargs, rfl, rfl, h0, r0⟩ := trodAll_cons hA
  obtain ⟨rfl, rfl, rfl⟩ := trodAll_nil r0
  obtain rfl : args = #[v0] := by cases args; simp_all
  obtain ⟨rfl, rfl⟩ := trodVars_none hV
  have lt0 : ∀ x ∈ p0, x.block < W.heap.size := by obtain ⟨m, hm⟩ := h0; exact DataW.trod_lt m _ _ _ hm
  obtain ⟨y0, f0, e0⟩ := argStr.run (hval 0 9 v0 rfl rfl) h0
  clear hA0 hval0 hsz0
  obtain ⟨k, hk⟩ := (Go.PL.ReadAll_ev y0).rounds
  refine (run_law (Tf.tapewrightlaw09_ReadAll.ok k) rfl (a := y0) rfl rfl hk (w := W) (vals := [v0]) rfl (fun i v x hv hx => ?_) (gok hL)).mono fun e W' ⟨he, bel⟩ => ?_
  · match i, hv, hx with
    | 0, hv, hx => cases hv; cases hx; exact e0
    | _ + 1, hv, hx => cases hx
  subst he
  exact ⟨_, rfl, _, _, _, [], _, [], hW', trodAll_mk1 (shut_bool Tryz.underlying4 _), (trodAll_cons_mk (Below.trod laidOut (by kernel_rfl) (of_decide_eq_true (by kernel_rfl)) h0 bel lt0) trodAll_mk0), rfl, bel.frame _, fun h => by cases h⟩
theorem over : Rows.readAllRow.holds Tryz.pinned (OpenSpec.ofChange Rows.readAllSpec) :=
  OpenClaim.holds_of_wide 4 Tryz.f4 rfl rfl rfl rfl rfl rfl rfl ⟨rfl, rfl, rfl, rfl, rfl⟩ rfl rfl rfl rfl rfl (by kernel_rfl) Tryz.func4 (by kernel_rfl)
    (of_decide_eq_true (by kernel_rfl)) (by unfold Func.isWrapper; first | (rw [if_pos (by decide +kernel)]; kernel_rfl) | (rw [if_neg (by decide +kernel)]; exact ⟨rfl, rfl⟩))
    (fun os started H enc _ => lifted os started H enc)
theorem card : Rows.ReadAllCardSaid :=
  Claim7.holds_tied_plain_at .later [] [.data, .data, .data, .data, .sentinel, .sentinel, .sentinel, .sentinel, .pinned] true (true, "fb1af7536014a3cfc210cf11ea8a697b3eff81a37a579b7a3656a0efa6388bcc") true over (fun _ h => by cases h) (by kernel_rfl) (fun _ h => by cases h) readAll_row_tie rfl ⟨rfl, rfl⟩ (by kernel_rfl) rfl
    (fun f fn hf hfn => by
      obtain rfl : f = 4 := Option.some.inj ((show Tryz.prog.funcNamed "tapewright/tapewrightlaw09.ReadAll" = some 4 by kernel_rfl).symm.trans hf) |>.symm
      obtain rfl : fn = Tryz.f4 := (Option.some.inj (Tryz.func4.symm.trans hfn)).symm
      exact ⟨by kernel_rfl, fun j t ht => by
        rw [Tryz.params4] at ht
        have hm : t ∈ [9] := by have := Array.mem_of_getElem? ht; simpa using this
        have hall : ([9].all fun u => !Tryz.prog.wantsStandIn u) = true := by kernel_rfl
        exact (show Tryz.prog.wantsStandIn t = false by simpa using List.all_eq_true.1 hall t hm)⟩)
    (by kernel_rfl)
end Go.Proofs.YtffpponklejidaaGreatDoor.readAll
namespace Go.Proofs.YtffpponklejidaaGreatDoor
/-- The card, under a short name, for the claim. -/
theorem readAll_card_holds : Rows.ReadAllCardSaid := readAll.card
#print axioms readAll_card_holds
end Go.Proofs.YtffpponklejidaaGreatDoor
