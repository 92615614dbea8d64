/- For every input tapewrightlaw10.GraphBuilds answers true. Conditions: none beyond the statement's own. -/
import Derived.Test.YtffpponklejidaaGreatDoorZRGraphBuilds5
import Derived.Test.YtffpponklejidaaGreatDoorRows
import Derived.WalkKit
import Derived.ProofKit
import Derived.OpenShut
import Derived.ShutString
import Derived.ChangeOld
import Derived.Below
import Derived.SizedLaws
import Derived.Lib.SmallJoins
import Derived.LaidMore
import Derived.LaidSub
import Derived.Lay
import Derived.SevenTiedAt
import Derived.Stop.Joined
import Derived.Stop.LaidErr
import Derived.FnData
import Derived.Test.YtffpponklejidaaGreatDoorTie
import Derived.Test.YtffpponklejidaaGreatDoorCards
import Derived.KernelRfl
import Derived.Test.YtffpponklejidaaGreatDoorProg
import Derived.ChangeArms
import Derived.ChangeSame
import Derived.ChangeSlices
import Derived.DataElems
import Derived.WideShapes
import Derived.ChangeMaps5
import Derived.Shelf.Strings.BuilderK
import Derived.Shelf.GgClosure.StringsIndexFuncTop
import Derived.Ground.GgwProg
import Derived.Shelf.Strings.SlTrimAscii
import Derived.Lib.IndexBytes
import Derived.Shelf.Strings.Search2
import Derived.Lib.SplitLaws
import Derived.Laws.RangeString
import Derived.Laws.RangeAny
import Derived.Lib.SliceRun
import Derived.Shelf.Strconv.AtoiAll
import Derived.Shelf.Strconv.Itoa3
import Derived.Shelf.Strings.Count
import Derived.Shelf.Strings.OnBuilder
import Derived.WalkSpells
import Derived.MapKept
import Derived.ChangeMaps3
import Derived.Carry
import Derived.Laws.CopyRow
import Derived.Laws.MakeOwn
import Derived.Laws.Tables
import Derived.Great.BuildSlice
import Derived.Laws.AppendOwn
import Derived.Laws.Entries
import Derived.Laws.Cells
import Derived.Laws.Append
import Derived.Laws.BytesString
import Derived.Calls
import Derived.Orders
import Derived.RowKit
import Derived.Laws.World
import GoSem.Core.Region
import GoSem.Core.View
import GoSem.Op.String
import GoSem.Core.Code
set_option linter.unusedVariables false
set_option linter.unusedSimpArgs false
namespace Go.PL
set_option linter.unusedVariables false
set_option linter.unusedSimpArgs false
open Go Go.VI
def S11b (s : VI.Stmt) (j : Int) (xs : List ByteArray) (l : List VI.Stmt) (len i : Int) (m : List VI.Stmt) := (j, (xs, (l, (l, (len, (i, (s.name, (s.op, (s.args, (s.dims, (s.k, (s.n, (s.data, (m, (xs.length : Int)))))))))))))))
def R11b (s : VI.Stmt) (l : List VI.Stmt) (len i : Int) (m : List VI.Stmt) := (l, (l, (len, (i, (s.name, (s.op, (s.args, (s.dims, (s.k, (s.n, (s.data, m)))))))))))
theorem gb_l11 (s : VI.Stmt) (xs : List ByteArray) (hx : xs.length ≤ 1000000) (l m : List VI.Stmt) (len i : Int) : ∀ (d j : Nat), j + d = xs.length →
    EvG (fun _ L => L (S11b s (j : Int) xs l len i m)) Tf.wlaw10_GraphBuilds.s11 (if ((xs.drop j).all fun x => decide (x.size ≤ 30)) = true then .inr (R11b s l len i m) else .inl true) := by
  intro d
  induction d with
  | zero =>
    intro j hj
    rw [List.drop_eq_nil_of_le (by omega)]
    unfold S11b
    refine EvG.loop ?_
    simp only [Tf.wlaw10_GraphBuilds.s11, bif_if, decide_eq_true_eq, List.all_nil, if_true]
    exact EvG.neg (by omega) (EvG.now _)
  | succ d ih =>
    intro j hj
    have hlt : j < xs.length := by omega
    have eg : xs.getD (j : Int).toNat (dflt 4) = xs[j] := getD_at xs j hlt
    have hw : IntKind.i64.wrap ((j : Int) + 1) = ((j + 1 : Nat) : Int) := by rw [w64 (by omega) (by omega), succ_cast]
    have ih := ih (j + 1) (by omega)
    rw [List.drop_eq_getElem_cons hlt, List.all_cons]
    generalize xs[j] = x at *
    unfold S11b
    refine EvG.loop ?_
    simp only [Tf.wlaw10_GraphBuilds.s11, bif_if, decide_eq_true_eq, inR_iff, eg, hw]
    refine EvG.pos (by omega) (EvG.pos (by omega) ?_)
    by_cases c : x.size ≤ 30
    · rw [decide_eq_true c, Bool.true_and]
      exact EvG.neg (by omega) ih
    · rw [decide_eq_false c, Bool.false_and, if_neg (by simp)]
      exact EvG.pos (by omega) (EvG.bind graphAwake_ev (EvG.now _))
def dk (s : VI.Stmt) : Prop := s.data = [] ∨ s.k = emB
theorem parse_dk {w : List ByteArray} {s : VI.Stmt} (h : parseV w = some s) : dk s := by
  have made : ∀ {w0 op a : ByteArray} {rest : List ByteArray}, madeV w0 op a rest = some s → dk s := by
    intro w0 op a rest h
    unfold madeV at h
    repeat' split at h
    all_goals first | (cases h; done) | skip
    · cases h; exact .inl rfl
    · cases h; exact .inl rfl
    · cases h; exact .inl rfl
    · obtain ⟨n, _, h⟩ := Option.bind_eq_some_iff.1 h
      split at h
      · cases h; exact .inl rfl
      · cases h
    · obtain ⟨d, hd, h⟩ := Option.bind_eq_some_iff.1 h
      split at h
      · cases h; exact .inl rfl
      · cases h
  match w, h with
  | [], h => cases h
  | [_], h => cases h
  | w0 :: w1 :: r, h =>
    rw [parseV_cons] at h
    split at h
    · split at h
      · exact made h
      · cases h
    · split at h
      · split at h
        · obtain ⟨d, hd, h⟩ := Option.bind_eq_some_iff.1 h
          split at h
          · cases h; exact .inl rfl
          · cases h
        · split at h
          · unfold constV at h
            obtain ⟨k, _, h⟩ := Option.bind_eq_some_iff.1 h
            obtain ⟨d, hd, h⟩ := Option.bind_eq_some_iff.1 h
            split at h
            · cases h; exact .inr rfl
            · cases h
          · split at h
            · cases h; exact .inl rfl
            · cases h
      · cases h
theorem all_dk : ∀ {L : List VI.Line} {S : List VI.Stmt}, L.map (fun l => parseV l.words) = S.map some → ∀ s ∈ S, dk s
  | [], S, h => by
    cases S with
    | nil => intro s hs; simp at hs
    | cons s S => simp at h
  | l :: L, [], h => by simp at h
  | l :: L, s :: S, h => by
    rw [List.map_cons, List.map_cons, List.cons.injEq] at h
    intro t ht
    rcases List.mem_cons.1 ht with rfl | ht
    · exact parse_dk h.1
    · exact all_dk h.2 t ht
theorem set_oneSz (a b : VI.Stmt) : List.set (List.replicate 1 a) 0 b = [b] := rfl
theorem gb_l8 (l : List VI.Stmt) (hl : l.length ≤ 1000) (hs : ∀ s ∈ l, okS s) (hd : ∀ s ∈ l, dk s) : ∀ (d i : Nat), i + d = l.length →
    ∃ r : Bool ⊕ ((List VI.Stmt) × (List VI.Stmt)), EvG (fun _ L => L ((i : Int), (l.take i, (l, (l, (l.length : Int)))))) Tf.wlaw10_GraphBuilds.s8 r ∧ (r = .inl true ∨ r = .inr (l, l)) := by
  intro d
  induction d with
  | zero =>
    intro i hi
    refine ⟨.inr (l, l), ?_, .inr rfl⟩
    rw [List.take_of_length_le (by omega)]
    refine EvG.loop ?_
    simp only [Tf.wlaw10_GraphBuilds.s8, bif_if, decide_eq_true_eq]
    exact EvG.neg (by omega) (EvG.now _)
  | succ d ih =>
    intro i hi
    have hlt : i < l.length := by omega
    have e0 : l.getD (i : Int).toNat (dflt 11) = l[i] := by rw [Int.toNat_natCast]; simp [List.getD_eq_getElem?_getD, hlt]
    have hw : IntKind.i64.wrap ((i : Int) + 1) = ((i + 1 : Nat) : Int) := by rw [w64 (by omega) (by omega), succ_cast]
    obtain ⟨r, g1, g2⟩ := ih (i + 1) (by omega)
    have et : l.take (i + 1) = l.take i ++ [l[i]] := by rw [List.take_succ_eq_append_getElem hlt]
    rw [et] at g1
    have hok := hs _ (List.getElem_mem hlt)
    have hdk := hd _ (List.getElem_mem hlt)
    have hdl := hok.2.2.2.2.2.1
    have htl : (l.take i).length ≤ 1000 := by rw [List.length_take]; omega
    generalize l[i] = s at *
    have h11 := gb_l11 s (s.data ++ [s.k]) (by simp; omega) l (l.take i) (l.length : Int) (i : Int) (s.data ++ [s.k]).length 0 (by omega)
    rw [List.drop_zero] at h11
    have hchk : (List.isEmpty s.data || Nat.beq (ByteArray.size ([s.k].getD 0 (⟨#[]⟩ : ByteArray))) 0) = true := by
      rcases hdk with e | e
      · rw [e]; rfl
      · rw [e, Bool.or_eq_true]; exact .inr rfl
    by_cases c : ((s.data ++ [s.k]).all fun x => decide (x.size ≤ 30)) = true
    · rw [if_pos c] at h11
      refine ⟨r, EvG.loop ?_, g2⟩
      simp only [Tf.wlaw10_GraphBuilds.s8, bif_if, decide_eq_true_eq, inR_iff, e0, Nat.ble_eq, set_oneBn, Bool.true_and, Bool.and_eq_true, hchk, true_and, set_oneSz]
      refine EvG.pos (by omega) (EvG.pos (by omega) (EvG.pos (by omega) (EvG.bind (Ev.iter h11) ?_)))
      simp only [R11b, sumE, hw]
      exact EvG.pos (by omega) g1
    · rw [if_neg c] at h11
      refine ⟨.inl true, EvG.loop ?_, .inl rfl⟩
      simp only [Tf.wlaw10_GraphBuilds.s8, bif_if, decide_eq_true_eq, inR_iff, e0, Nat.ble_eq, set_oneBn, Bool.true_and, Bool.and_eq_true, hchk, true_and, set_oneSz]
      exact EvG.pos (by omega) (EvG.pos (by omega) (EvG.pos (by omega) (EvG.bind (Ev.iter h11) (EvG.now _))))
theorem GraphBuilds_ev (s : ByteArray) : Ev (fun F => Tf.wlaw10_GraphBuilds.f F s) true := by
  have aw := Ev_ret graphAwake_ev
  have hz := ba_size s
  simp only [Tf.wlaw10_GraphBuilds.f, bif_if, Bool.not_eq_true', beq_iff_eq, bne_iff_ne, decide_eq_true_eq]
  refine EvIf (fun _ => aw) (fun h => ?_)
  have hlen : s.data.toList.length ≤ 1024 := by omega
  have hr := readS_ev s (by omega)
  have hc := short_read s (by omega)
  have hcs := allV_cases (linesV s) []
  refine Ev.bind hr ?_
  rcases hc with ⟨c1, c2⟩ | ⟨c1, c2, c3⟩
  · exact Ev_pos c1 (Ev_pos (by rw [c2]; rfl) aw)
  · have hdk : ∀ t ∈ (allV (linesV s) []).1, dk t := by
      rcases hcs with ⟨q1, _⟩ | ⟨_, S, q2, q3⟩
      · exact absurd c1 q1
      · rw [q2, List.nil_append]; exact all_dk q3
    generalize allV (linesV s) [] = R at *
    refine Ev_neg (by simp [c1]) ?_
    obtain ⟨r, g1, g2⟩ := gb_l8 R.1 (by omega) c2 hdk R.1.length 0 (by omega)
    rw [List.take_zero] at g1
    refine Ev.bind (Ev.iter g1) ?_
    rcases g2 with rfl | rfl
    · exact Ev.now _
    · have hb := build_right c2
      have hbe := build_ev R.1 c2 (by omega)
      have hbr := rbuild_ev R.1 c2 (by omega)
      have hbad := build_bad R.1
      generalize buildV R.1 = B at *
      obtain ⟨⟨l, loss⟩, at_, f⟩ := B
      dsimp only [sumE] at hb hbad ⊢
      refine Ev.bind hbe (Ev.bind hbr ?_)
      by_cases cf : f = 0
      · obtain ⟨hg, hs, hl⟩ := hb cf
        have hgr := graph_ev l loss hs (by omega)
        rw [hg] at hgr
        exact Ev.bind (equalG_ev l l loss loss (by omega) hs) (Ev_pos (by simp) (Ev_pos rfl (Ev_pos rfl (Ev_neg (by simp [cf]) (Ev.bind hgr (Ev_pos rfl aw))))))
      · have hl := hbad cf
        subst hl
        exact Ev.bind (equalG_ev [] [] loss loss (by simp) (by simp)) (Ev_pos (by simp) (Ev_pos rfl (Ev_pos rfl (Ev_pos cf aw))))
end Go.PL
namespace Go.Proofs.YtffpponklejidaaGreatDoor.graphBuilds
open Go.ChangeShapes Go.WideShapes Go.ChangeAt Go.RowKit Go.VI
set_option linter.unusedVariables false
theorem laidOut : laidOutB Tryz.prog = true := by kernel_rfl
theorem own : ownKnob Tryz.prog.godebug = none := by kernel_rfl
set_option maxRecDepth 100000 in
theorem g0 {W : World} (hL : laidMetH Tryz.prog Rows.graphBuildsRow.laid W) : ∃ t u, W.cell? ⟨0, 0, none⟩ = some (.iface t u) := by
  have h1 := hL.filter (fun x => x.1 == "tapewright/rat.errForm")
  have h2 : laidMet Tryz.prog [("tapewright/rat.errForm", Rows.laid_tapewright_rat_errForm)] W := by
    have e : (Rows.graphBuildsRow.laid.filter (fun x => x.1 == "tapewright/rat.errForm")) = [("tapewright/rat.errForm", Rows.laid_tapewright_rat_errForm)] := by rfl
    rw [e, MakeChecks.laidMetH_plain _ _ _ (by kernel_rfl)] at h1
    exact h1
  obtain ⟨ps, ⟨g, t, cs, fuel, p, q, hg, ht, hv, hd, _, e0⟩, _, hrows⟩ := h2
  have hg' : Tryz.prog.globalNamed "tapewright/rat.errForm" = some 0 := by kernel_rfl
  obtain rfl := Option.some.inj (hg'.symm.trans hg)
  have ht' : (Tryz.prog.globals[0]?).map (·.type) = some 82 := by kernel_rfl
  obtain rfl := Option.some.inj (ht'.symm.trans ht)
  have hu := Tryz.underlying82
  unfold Rows.laid_tapewright_rat_errForm at hd
  rcases fuel with _ | fuel
  · simp [DataW.trod] at hd
  · unfold DataW.trod at hd
    rw [hu] at hd
    have hc := World.var?_cell hg' hv 0
    obtain ⟨l⟩ := cs
    match l, hd, hc with
    | [.iface T v], hd, hc => exact ⟨T, v, by simpa using hc⟩
    | [.nilIface], hd, _ => simp at hd
set_option maxRecDepth 100000 in
theorem g3 {W : World} (hL : laidMetH Tryz.prog Rows.graphBuildsRow.laid W) : ∃ t u, W.cell? ⟨3, 0, none⟩ = some (.iface t u) := by
  have h1 := hL.filter (fun x => x.1 == "tapewright/rat.errZero")
  have h2 : laidMet Tryz.prog [("tapewright/rat.errZero", Rows.laid_tapewright_rat_errZero)] W := by
    have e : (Rows.graphBuildsRow.laid.filter (fun x => x.1 == "tapewright/rat.errZero")) = [("tapewright/rat.errZero", Rows.laid_tapewright_rat_errZero)] := by rfl
    rw [e, MakeChecks.laidMetH_plain _ _ _ (by kernel_rfl)] at h1
    exact h1
  obtain ⟨ps, ⟨g, t, cs, fuel, p, q, hg, ht, hv, hd, _, e0⟩, _, hrows⟩ := h2
  have hg' : Tryz.prog.globalNamed "tapewright/rat.errZero" = some 3 := by kernel_rfl
  obtain rfl := Option.some.inj (hg'.symm.trans hg)
  have ht' : (Tryz.prog.globals[3]?).map (·.type) = some 82 := by kernel_rfl
  obtain rfl := Option.some.inj (ht'.symm.trans ht)
  have hu := Tryz.underlying82
  unfold Rows.laid_tapewright_rat_errZero at hd
  rcases fuel with _ | fuel
  · simp [DataW.trod] at hd
  · unfold DataW.trod at hd
    rw [hu] at hd
    have hc := World.var?_cell hg' hv 0
    obtain ⟨l⟩ := cs
    match l, hd, hc with
    | [.iface T v], hd, hc => exact ⟨T, v, by simpa using hc⟩
    | [.nilIface], hd, _ => simp at hd
set_option maxRecDepth 100000 in
theorem g4 {W : World} (hL : laidMetH Tryz.prog Rows.graphBuildsRow.laid W) : ∃ t u, W.cell? ⟨4, 0, none⟩ = some (.iface t u) := by
  have h1 := hL.filter (fun x => x.1 == "strconv.ErrSyntax")
  have h2 : laidMet Tryz.prog [("strconv.ErrSyntax", Rows.laid_strconv_ErrSyntax)] W := by
    have e : (Rows.graphBuildsRow.laid.filter (fun x => x.1 == "strconv.ErrSyntax")) = [("strconv.ErrSyntax", Rows.laid_strconv_ErrSyntax)] := by rfl
    rw [e, MakeChecks.laidMetH_plain _ _ _ (by kernel_rfl)] at h1
    exact h1
  obtain ⟨ps, ⟨g, t, cs, fuel, p, q, hg, ht, hv, hd, _, e0⟩, _, hrows⟩ := h2
  have hg' : Tryz.prog.globalNamed "strconv.ErrSyntax" = some 4 := by kernel_rfl
  obtain rfl := Option.some.inj (hg'.symm.trans hg)
  have ht' : (Tryz.prog.globals[4]?).map (·.type) = some 82 := by kernel_rfl
  obtain rfl := Option.some.inj (ht'.symm.trans ht)
  have hu := Tryz.underlying82
  unfold Rows.laid_strconv_ErrSyntax at hd
  rcases fuel with _ | fuel
  · simp [DataW.trod] at hd
  · unfold DataW.trod at hd
    rw [hu] at hd
    have hc := World.var?_cell hg' hv 0
    obtain ⟨l⟩ := cs
    match l, hd, hc with
    | [.iface T v], hd, hc => exact ⟨T, v, by simpa using hc⟩
    | [.nilIface], hd, _ => simp at hd
set_option maxRecDepth 100000 in
theorem g5 {W : World} (hL : laidMetH Tryz.prog Rows.graphBuildsRow.laid W) : ∃ t u, W.cell? ⟨5, 0, none⟩ = some (.iface t u) := by
  have h1 := hL.filter (fun x => x.1 == "strconv.ErrRange")
  have h2 : laidMet Tryz.prog [("strconv.ErrRange", Rows.laid_strconv_ErrRange)] W := by
    have e : (Rows.graphBuildsRow.laid.filter (fun x => x.1 == "strconv.ErrRange")) = [("strconv.ErrRange", Rows.laid_strconv_ErrRange)] := by rfl
    rw [e, MakeChecks.laidMetH_plain _ _ _ (by kernel_rfl)] at h1
    exact h1
  obtain ⟨ps, ⟨g, t, cs, fuel, p, q, hg, ht, hv, hd, _, e0⟩, _, hrows⟩ := h2
  have hg' : Tryz.prog.globalNamed "strconv.ErrRange" = some 5 := by kernel_rfl
  obtain rfl := Option.some.inj (hg'.symm.trans hg)
  have ht' : (Tryz.prog.globals[5]?).map (·.type) = some 82 := by kernel_rfl
  obtain rfl := Option.some.inj (ht'.symm.trans ht)
  have hu := Tryz.underlying82
  unfold Rows.laid_strconv_ErrRange at hd
  rcases fuel with _ | fuel
  · simp [DataW.trod] at hd
  · unfold DataW.trod at hd
    rw [hu] at hd
    have hc := World.var?_cell hg' hv 0
    obtain ⟨l⟩ := cs
    match l, hd, hc with
    | [.iface T v], hd, hc => exact ⟨T, v, by simpa using hc⟩
    | [.nilIface], hd, _ => simp at hd
theorem gok {W : World} (hL : laidMetH Tryz.prog Rows.graphBuildsRow.laid W) : ∀ g ∈ Go.VI.tyT.G, ∃ t u, W.cell? ⟨g, 0, none⟩ = some (.iface t u) := by
  intro g hg
  change g ∈ [0, 3, 4, 5] at hg
  simp only [List.mem_cons, List.not_mem_nil, or_false] at hg
  rcases hg with rfl | rfl | rfl | rfl
  · exact g0 hL
  · exact g3 hL
  · exact g4 hL
  · exact g5 hL
set_option maxRecDepth 100000 in
theorem lifted (os : Os) (started : os.Started) (H : Type) (enc : TypeId × Value → H) :
    ReturnsInHanded {} Tryz.checked os 10 .any (fun w args => (Rows.graphBuildsSpec.pre enc Tryz.prog Tryz.f10 Rows.graphBuildsRow.domain false w args ∧ laidMetH Tryz.prog Rows.graphBuildsRow.laid w) ∧ sizedMet enc Tryz.prog Tryz.f10 (OpenSpec.ofChange Rows.graphBuildsSpec) false w args) (Rows.graphBuildsSpec.post enc Tryz.prog Tryz.f10 false true false false) := by
  refine returnsInHanded_of_change_and (C := Tryz.checked) (X := fun w _ => laidMetH Tryz.prog Rows.graphBuildsRow.laid w) (fun _ _ _ hh h => h.of_heap hh) own started (by kernel_rfl) Tryz.func10
    (ChangeSpec.witness_shaped (enc := enc) (C := Tryz.checked) (os := os) (X := fun w _ => laidMetH Tryz.prog Rows.graphBuildsRow.laid w) false (World.laidAll Tryz.prog os Rows.graphBuildsRow.laid) #[.string ByteArray.empty] 8 (World.laidAll_os _ _ _)
      (World.shaped_of_ZipB (by kernel_rfl) (by kernel_rfl)) (by kernel_rfl) (by kernel_rfl) (by kernel_rfl)
      (by rw [MakeChecks.laidMetH_plain _ _ _ (by kernel_rfl)]; exact laidMet_laidAll _ (by kernel_rfl) (by kernel_rfl))) ?_
  intro W base args ds gs before hval0 hW hcnd hsz0 hL _
  have hval : ∀ (j : Nat) t v, Tryz.f10.params[j]? = some t → args[j]? = some v → Value.okWide Tryz.prog W .any base t v := hval0
  have hW' := hW
  obtain ⟨p, q, hA0, hV, rfl, hfz, hnd⟩ := hW
  have hA : DataW.TrodAll enc Tryz.prog W 0 (fun _ => true) true Tryz.f10.params.toList args.toList ds p := hA0
  rw [Tryz.params10] at hA hval
  obtain ⟨v0, vs0, d0, ds0, p0, q0, hargs, rfl, rfl, h0, r0⟩ := trodAll_cons hA
  obtain ⟨rfl, rfl, rfl⟩ := trodAll_nil r0
  obtain rfl : args = #[v0] := by cases args; simp_all
  obtain ⟨rfl, rfl⟩ := trodVars_none hV
  have lt0 : ∀ x ∈ p0, x.block < W.heap.size := by obtain ⟨m, hm⟩ := h0; exact DataW.trod_lt m _ _ _ hm
  obtain ⟨y0, f0, e0⟩ := argStr.run (hval 0 9 v0 rfl rfl) h0
  clear hA0 hval0 hsz0
  obtain ⟨k, hk⟩ := (Go.PL.GraphBuilds_ev y0).rounds
  refine (run_law (Tf.wlaw10_GraphBuilds.ok k) rfl (a := y0) rfl rfl hk (w := W) (vals := [v0]) rfl (fun i v x hv hx => ?_) (gok hL)).mono fun e W' ⟨he, bel⟩ => ?_
  · match i, hv, hx with
    | 0, hv, hx => cases hv; cases hx; exact e0
    | _ + 1, hv, hx => cases hx
  subst he
  exact ⟨_, rfl, _, _, _, [], _, [], hW', trodAll_mk1 (shut_bool Tryz.underlying4 _), (trodAll_cons_mk (Below.trod laidOut (by kernel_rfl) (of_decide_eq_true (by kernel_rfl)) h0 bel lt0) trodAll_mk0), rfl, bel.frame _, fun h => by cases h⟩
theorem over : Rows.graphBuildsRow.holds Tryz.pinned (OpenSpec.ofChange Rows.graphBuildsSpec) :=
  OpenClaim.holds_of_wide 10 Tryz.f10 rfl rfl rfl rfl rfl rfl rfl ⟨rfl, rfl, rfl, rfl, rfl⟩ rfl rfl rfl rfl rfl (by kernel_rfl) Tryz.func10 (by kernel_rfl)
    (of_decide_eq_true (by kernel_rfl)) (by unfold Func.isWrapper; first | (rw [if_pos (by decide +kernel)]; kernel_rfl) | (rw [if_neg (by decide +kernel)]; exact ⟨rfl, rfl⟩))
    (fun os started H enc _ => lifted os started H enc)
theorem card : Rows.GraphBuildsCardSaid :=
  Claim7.holds_tied_plain_at .later [] [.data, .data, .data, .data, .sentinel, .sentinel, .sentinel, .sentinel, .pinned] true (true, "fb1af7536014a3cfc210cf11ea8a697b3eff81a37a579b7a3656a0efa6388bcc") true over (fun _ h => by cases h) (by kernel_rfl) (fun _ h => by cases h) graphBuilds_row_tie rfl ⟨rfl, rfl⟩ (by kernel_rfl) rfl
    (fun f fn hf hfn => by
      obtain rfl : f = 10 := Option.some.inj ((show Tryz.prog.funcNamed "tapewright/tapewrightlaw10.GraphBuilds" = some 10 by kernel_rfl).symm.trans hf) |>.symm
      obtain rfl : fn = Tryz.f10 := (Option.some.inj (Tryz.func10.symm.trans hfn)).symm
      exact ⟨by kernel_rfl, fun j t ht => by
        rw [Tryz.params10] at ht
        have hm : t ∈ [9] := by have := Array.mem_of_getElem? ht; simpa using this
        have hall : ([9].all fun u => !Tryz.prog.wantsStandIn u) = true := by kernel_rfl
        exact (show Tryz.prog.wantsStandIn t = false by simpa using List.all_eq_true.1 hall t hm)⟩)
    (by kernel_rfl)
end Go.Proofs.YtffpponklejidaaGreatDoor.graphBuilds
namespace Go.Proofs.YtffpponklejidaaGreatDoor
/-- The card, under a short name, for the claim. -/
theorem graphBuilds_card_holds : Rows.GraphBuildsCardSaid := graphBuilds.card
#print axioms graphBuilds_card_holds
end Go.Proofs.YtffpponklejidaaGreatDoor
