/- For every input tapewrightlaw11.ShowRows answers true. Conditions: none beyond the statement's own. -/
import Derived.Test.YtffpponklejidaaGreatDoorRShowRows5
import Derived.Test.YtffpponklejidaaGreatDoorRows
import Derived.WalkKit
import Derived.ProofKit
import Derived.OpenShut
import Derived.ShutString
import Derived.ChangeOld
import Derived.Below
import Derived.SizedLaws
import Derived.Lib.SmallJoins
import Derived.LaidMore
import Derived.LaidSub
import Derived.Lay
import Derived.SevenTiedAt
import Derived.Stop.Joined
import Derived.Stop.LaidErr
import Derived.FnData
import Derived.Test.YtffpponklejidaaGreatDoorTie
import Derived.Test.YtffpponklejidaaGreatDoorCards
import Derived.KernelRfl
import Derived.Test.YtffpponklejidaaGreatDoorProg
import Derived.ChangeArms
import Derived.ChangeSame
import Derived.ChangeSlices
import Derived.DataElems
import Derived.WideShapes
import Derived.ChangeMaps5
import Derived.Shelf.Strings.BuilderK
import Derived.WalkSpells
import Derived.Shelf.GgClosure.StringsIndexFuncTop
import Derived.Ground.GgwProg
import Derived.Shelf.Strings.SlTrimAscii
import Derived.Lib.IndexBytes
import Derived.Shelf.Strings.Search2
import Derived.Lib.SplitLaws
import Derived.Laws.RangeString
import Derived.Laws.RangeAny
import Derived.Lib.SliceRun
import Derived.Shelf.Strconv.AtoiAll
import Derived.Shelf.Strconv.Itoa3
import Derived.Shelf.Strings.Count
import Derived.Shelf.Strings.OnBuilder
import Derived.MapKept
import Derived.ChangeMaps3
import Derived.Carry
import Derived.Laws.CopyRow
import Derived.Laws.MakeOwn
import Derived.Laws.Tables
import Derived.Great.BuildSlice
import Derived.Laws.AppendOwn
import Derived.Laws.Entries
import Derived.Laws.Cells
import Derived.Laws.Append
import Derived.Laws.BytesString
import Derived.Calls
import Derived.Orders
import Derived.RowKit
import Derived.Laws.World
import GoSem.Core.Region
import GoSem.Core.View
import GoSem.Op.String
import GoSem.Core.Code
set_option linter.unusedVariables false
set_option linter.unusedSimpArgs false
namespace Go.PL
set_option linter.unusedVariables false
set_option linter.unusedSimpArgs false
open Go Go.VI
def scan (N : Nat) : List UInt8 → Nat → Nat → Nat → Nat × Nat
  | [], _, r, f => (r, f)
  | b :: t, i, r, f => if b = 10 then scan N t (i + 1) (r + 1) (if i + 1 < N then i + 1 else f) else scan N t (i + 1) r f
theorem scan_app (N : Nat) : ∀ (a b : List UInt8) (i r f : Nat), scan N (a ++ b) i r f = scan N b (i + a.length) (scan N a i r f).1 (scan N a i r f).2
  | [], b, i, r, f => rfl
  | x :: a, b, i, r, f => by
    rw [List.cons_append, scan, scan, List.length_cons]
    split
    · rw [scan_app N a b]; congr 1; omega
    · rw [scan_app N a b]; congr 1; omega
theorem scan_no (N : Nat) : ∀ (a : List UInt8) (i r f : Nat), (∀ b ∈ a, b ≠ 10) → scan N a i r f = (r, f)
  | [], i, r, f, _ => rfl
  | x :: a, i, r, f, h => by rw [scan, if_neg (h x (by simp)), scan_no N a _ _ _ (fun b hb => h b (by simp [hb]))]
theorem scan_rows (N : Nat) (l : List VI.Node) (k : Nat) (hl : l.length ≤ 99) (ok : ∀ i, i < l.length → OkN l i) : ∀ i, i ≤ l.length → (rowsL l (stm k) i).length < N → scan N (rowsL l (stm k) i) 0 0 0 = (i, (rowsL l (stm k) i).length)
  | 0, _, _ => rfl
  | i + 1, hi, h => by
    rw [rowsL_succ, List.length_append, List.length_append] at h
    have h1 : ([10] : List UInt8).length = 1 := rfl
    have ih := scan_rows N l k hl ok i (by omega) (by omega)
    have hw := row_words (k := k) (show i < l.length by omega) hl ok
    rw [rowsL_succ, scan_app, ih, scan_app, scan_no N (rowL l (stm k) i) _ _ _ (fun b hb => (jn_nl hw.2 b hb).1)]
    rw [scan, if_pos rfl, if_pos (by omega), scan, List.length_append, List.length_append, h1]
    congr 1; omega
theorem sr_go (s : ByteArray) (hs : s.data.toList.length ≤ 20000000) (l : List VI.Node) (loss : Int) : ∀ (d i r f : Nat), i + d = s.data.toList.length → r ≤ i → f ≤ i →
    EvG (fun _ L => L ((i : Int), (s, ((r : Int), ((f : Int), (l, (loss, (s.size : Int)))))))) Tf.tapewrightlaw11_ShowRows.s8 (s, (((scan s.data.toList.length (s.data.toList.drop i) i r f).2 : Int), (l, (loss, ((scan s.data.toList.length (s.data.toList.drop i) i r f).1 : Int))))) := by
  have hz := ba_size s
  intro d
  induction d with
  | zero =>
    intro i r f hi _ _
    rw [List.drop_eq_nil_of_le (by omega)]
    refine EvG.step (fun F L => ?_) (EvG.now _)
    dsimp only [Tf.tapewrightlaw11_ShowRows.s8, scan]
    simp only [bif_if, decide_eq_true_eq]
    rw [if_neg (by omega)]
  | succ d ih =>
    intro i r f hi hr hf
    have hlt : i < s.data.toList.length := by omega
    have hb := bt_data s i hlt
    have hw : IntKind.i64.wrap ((i : Int) + 1) = ((i + 1 : Nat) : Int) := by rw [w64 (by omega) (by omega), succ_cast]
    have hw2 : IntKind.i64.wrap ((r : Int) + 1) = ((r + 1 : Nat) : Int) := by rw [w64 (by omega) (by omega), succ_cast]
    have ih := ih (i + 1)
    rw [List.drop_eq_getElem_cons hlt, scan]
    generalize s.data.toList[i] = b at *
    by_cases c : b = 10
    · rw [if_pos c]
      by_cases c2 : i + 1 < s.data.toList.length
      · rw [if_pos c2]
        refine EvG.loop ?_
        simp only [Tf.tapewrightlaw11_ShowRows.s8, bif_if, decide_eq_true_eq, inR_iff, hb, hw, hw2, beq_iff_eq]
        exact EvG.pos (by omega) (EvG.pos (by omega) (EvG.pos (by rw [c]; rfl) (EvG.pos (by omega) (ih (r + 1) (i + 1) (by omega) (by omega) (by omega)))))
      · rw [if_neg c2]
        refine EvG.loop ?_
        simp only [Tf.tapewrightlaw11_ShowRows.s8, bif_if, decide_eq_true_eq, inR_iff, hb, hw, hw2, beq_iff_eq]
        exact EvG.pos (by omega) (EvG.pos (by omega) (EvG.pos (by rw [c]; rfl) (EvG.neg (by omega) (ih (r + 1) f (by omega) (by omega) (by omega)))))
    · rw [if_neg c]
      refine EvG.loop ?_
      simp only [Tf.tapewrightlaw11_ShowRows.s8, bif_if, decide_eq_true_eq, inR_iff, hb, hw, hw2, beq_iff_eq]
      refine EvG.pos (by omega) (EvG.pos (by omega) (EvG.neg (fun q => c ?_) (ih r f (by omega) (by omega) (by omega))))
      apply UInt8.toNat_inj.1
      have : (10 : UInt8).toNat = 10 := rfl
      omega
theorem rows_len {l : List VI.Node} {st : ByteArray} (hs : ∀ y ∈ l, smallN y) (hst : st.size ≤ 32) (ok : ∀ i, i < l.length → OkN l i) : ∀ i, i ≤ l.length → (rowsL l st i).length ≤ 80001 * i
  | 0, _ => by simp [rowsL]
  | i + 1, h => by
    have := rows_len hs hst ok i (by omega)
    have h2 := row_len (show i < l.length by omega) hs hst (ok i (by omega))
    rw [rowsL_succ, List.length_append, List.length_append]
    have h1 : ([10] : List UInt8).length = 1 := rfl
    omega
theorem ShowRows_ev (l : List VI.Node) (loss : Int) : Ev (fun F => Tf.tapewrightlaw11_ShowRows.f F (l, loss)) true := by
  obtain ⟨b, hb, hbp⟩ := smallG_ev l loss
  have aw := Ev_ret showAwake_ev
  simp only [Tf.tapewrightlaw11_ShowRows.f, bif_if, Bool.not_eq_true', decide_eq_true_eq, beq_iff_eq, bne_iff_ne, Bool.and_eq_true, inR_iff]
  refine Ev.bind hb (EvIf (fun _ => aw) (fun h => ?_))
  obtain ⟨hn40, hs⟩ := hbp (by simpa using h)
  have hn : l.length ≤ 99 := by omega
  refine Ev.bind (showText_ev l loss hn hs) ?_
  cases ht : textV l loss with
  | none => exact Ev_pos (by simp) (Ev_pos (by decide +kernel) aw)
  | some s =>
    obtain ⟨hg, hf, rfl⟩ := textV_some ht
    obtain ⟨⟨g1, g2, g3, _⟩, ok⟩ := graph_facts hg
    have hst := stemV_size l
    obtain ⟨k, hk⟩ : ∃ k, stemV l = stm k := ⟨_, rfl⟩
    rw [hk] at hst ht ⊢
    have hrl := rows_len hs hst ok l.length (Nat.le_refl _)
    obtain ⟨j, hj⟩ : ∃ j : Nat, loss = (j : Int) := ⟨loss.toNat, by omega⟩
    have hnm := nmV_ok (show j < 100 by omega) (ok j (by omega)) k
    have hnz := nmV_size hs hst loss
    rw [ba_size] at hnz
    obtain ⟨R, hR⟩ : ∃ R, rowsL l (stm k) l.length = R := ⟨_, rfl⟩
    obtain ⟨M, hM⟩ : ∃ M, (nmV l (stm k) loss).data.toList = M := ⟨_, rfl⟩
    have hT : textL l loss (stm k) = R ++ (([108, 111, 115, 115, 32] ++ M) ++ [10]) := by unfold textL; rw [hR, hM]; simp [oLoss']
    have hMo : ∀ b ∈ M, b ≠ 10 := fun b hb => by rw [← hM, hj] at hb; exact (hnm.2 b hb).1
    have hlen : (textL l loss (stm k)).length = R.length + 5 + M.length + 1 := by rw [hT]; simp; omega
    rw [hM] at hnz
    rw [hR] at hrl
    have hsc := scan_rows (textL l loss (stm k)).length l k hn ok l.length (Nat.le_refl _) (by rw [hR]; omega)
    rw [hR] at hsc
    have hscan : scan (textL l loss (stm k)).length (textL l loss (stm k)) 0 0 0 = (l.length + 1, R.length) := by
      have e : scan (textL l loss (stm k)).length (R ++ (([108, 111, 115, 115, 32] ++ M) ++ [10])) 0 0 0 = (l.length + 1, R.length) := by
        rw [scan_app, hsc, scan_app, scan_no _ ([108, 111, 115, 115, 32] ++ M) _ _ _ (fun b hb => by
          rcases List.mem_append.1 hb with hb | hb
          · intro e; subst e; revert hb; decide
          · exact hMo b hb)]
        have h5 : ([108, 111, 115, 115, 32] ++ M : List UInt8).length = 5 + M.length := by simp; omega
        rw [scan, if_pos rfl, if_neg (by rw [h5, hlen]; omega), scan]
      rw [hT] at e ⊢
      exact e
    have hsz : (bL (textL l loss (stm k))).size = R.length + 5 + M.length + 1 := by rw [ba_size, bL_list, hlen]
    have go := sr_go (bL (textL l loss (stm k))) (by rw [bL_list, hlen]; omega) l loss (textL l loss (stm k)).length 0 0 0 (by rw [bL_list]; omega) (by omega) (by omega)
    rw [List.drop_zero, bL_list, hscan] at go
    have w1 : IntKind.i64.wrap ((l.length : Int) + 1) = ((l.length + 1 : Nat) : Int) := by rw [w64 (by omega) (by omega)]; omega
    have w2 : IntKind.i64.wrap ((R.length : Int) + 5) = ((R.length + 5 : Nat) : Int) := by rw [w64 (by omega) (by omega)]; omega
    have w3 : IntKind.i64.wrap (((bL (textL l loss (stm k))).size : Int) - 1) = ((R.length + 5 + M.length : Nat) : Int) := by rw [hsz, w64 (by omega) (by omega)]; omega
    refine Ev_neg (by simp) (Ev.bind (Ev.iter go) ?_)
    dsimp only
    rw [w1, w2, w3, Int.toNat_natCast, Int.toNat_natCast]
    have hex : (bL (textL l loss (stm k))).extract R.length (R.length + 5) = ⟨#[108, 111, 115, 115, 32]⟩ := by
      apply ba_ext
      rw [ba_extract, bL_list, hT, List.take_append, List.drop_append]
      simp
    have hlast : byteAt (bL (textL l loss (stm k))) ((R.length + 5 + M.length : Nat) : Int) = 10 := by
      rw [bt_data _ _ (by rw [bL_list, hlen]; omega)]
      have e : (bL (textL l loss (stm k))).data.toList[R.length + 5 + M.length]? = some 10 := by
        rw [bL_list, hT, List.getElem?_append_right (by omega), List.getElem?_append_right (by simp; omega)]
        have : R.length + 5 + M.length - R.length - ([108, 111, 115, 115, 32] ++ M : List UInt8).length = 0 := by simp; omega
        rw [this]; rfl
      rw [List.getElem?_eq_getElem (by rw [bL_list, hlen]; omega)] at e
      rw [Option.some.inj e]; rfl
    rw [hex, hlast]
    refine Ev_pos rfl (Ev_pos (by rw [hsz]; omega) (Ev_pos (by rw [hsz]; omega) (Ev_pos (by omega) (Ev_pos (by decide +kernel) (Ev_pos (by rw [hsz]; omega) (Ev_pos rfl aw))))))
end Go.PL
namespace Go.Proofs.YtffpponklejidaaGreatDoor.showRows
open Go.ChangeShapes Go.WideShapes Go.ChangeAt Go.RowKit Go.VI
set_option linter.unusedVariables false
theorem laidOut : laidOutB Tryz.prog = true := by kernel_rfl
theorem own : ownKnob Tryz.prog.godebug = none := by kernel_rfl
set_option maxRecDepth 100000 in
theorem g0 {W : World} (hL : laidMetH Tryz.prog Rows.showRowsRow.laid W) : ∃ t u, W.cell? ⟨0, 0, none⟩ = some (.iface t u) := by
  have h1 := hL.filter (fun x => x.1 == "tapewright/rat.errForm")
  have h2 : laidMet Tryz.prog [("tapewright/rat.errForm", Rows.laid_tapewright_rat_errForm)] W := by
    have e : (Rows.showRowsRow.laid.filter (fun x => x.1 == "tapewright/rat.errForm")) = [("tapewright/rat.errForm", Rows.laid_tapewright_rat_errForm)] := by rfl
    rw [e, MakeChecks.laidMetH_plain _ _ _ (by kernel_rfl)] at h1
    exact h1
  obtain ⟨ps, ⟨g, t, cs, fuel, p, q, hg, ht, hv, hd, _, e0⟩, _, hrows⟩ := h2
  have hg' : Tryz.prog.globalNamed "tapewright/rat.errForm" = some 0 := by kernel_rfl
  obtain rfl := Option.some.inj (hg'.symm.trans hg)
  have ht' : (Tryz.prog.globals[0]?).map (·.type) = some 82 := by kernel_rfl
  obtain rfl := Option.some.inj (ht'.symm.trans ht)
  have hu := Tryz.underlying82
  unfold Rows.laid_tapewright_rat_errForm at hd
  rcases fuel with _ | fuel
  · simp [DataW.trod] at hd
  · unfold DataW.trod at hd
    rw [hu] at hd
    have hc := World.var?_cell hg' hv 0
    obtain ⟨l⟩ := cs
    match l, hd, hc with
    | [.iface T v], hd, hc => exact ⟨T, v, by simpa using hc⟩
    | [.nilIface], hd, _ => simp at hd
set_option maxRecDepth 100000 in
theorem g3 {W : World} (hL : laidMetH Tryz.prog Rows.showRowsRow.laid W) : ∃ t u, W.cell? ⟨3, 0, none⟩ = some (.iface t u) := by
  have h1 := hL.filter (fun x => x.1 == "tapewright/rat.errZero")
  have h2 : laidMet Tryz.prog [("tapewright/rat.errZero", Rows.laid_tapewright_rat_errZero)] W := by
    have e : (Rows.showRowsRow.laid.filter (fun x => x.1 == "tapewright/rat.errZero")) = [("tapewright/rat.errZero", Rows.laid_tapewright_rat_errZero)] := by rfl
    rw [e, MakeChecks.laidMetH_plain _ _ _ (by kernel_rfl)] at h1
    exact h1
  obtain ⟨ps, ⟨g, t, cs, fuel, p, q, hg, ht, hv, hd, _, e0⟩, _, hrows⟩ := h2
  have hg' : Tryz.prog.globalNamed "tapewright/rat.errZero" = some 3 := by kernel_rfl
  obtain rfl := Option.some.inj (hg'.symm.trans hg)
  have ht' : (Tryz.prog.globals[3]?).map (·.type) = some 82 := by kernel_rfl
  obtain rfl := Option.some.inj (ht'.symm.trans ht)
  have hu := Tryz.underlying82
  unfold Rows.laid_tapewright_rat_errZero at hd
  rcases fuel with _ | fuel
  · simp [DataW.trod] at hd
  · unfold DataW.trod at hd
    rw [hu] at hd
    have hc := World.var?_cell hg' hv 0
    obtain ⟨l⟩ := cs
    match l, hd, hc with
    | [.iface T v], hd, hc => exact ⟨T, v, by simpa using hc⟩
    | [.nilIface], hd, _ => simp at hd
set_option maxRecDepth 100000 in
theorem g4 {W : World} (hL : laidMetH Tryz.prog Rows.showRowsRow.laid W) : ∃ t u, W.cell? ⟨4, 0, none⟩ = some (.iface t u) := by
  have h1 := hL.filter (fun x => x.1 == "strconv.ErrSyntax")
  have h2 : laidMet Tryz.prog [("strconv.ErrSyntax", Rows.laid_strconv_ErrSyntax)] W := by
    have e : (Rows.showRowsRow.laid.filter (fun x => x.1 == "strconv.ErrSyntax")) = [("strconv.ErrSyntax", Rows.laid_strconv_ErrSyntax)] := by rfl
    rw [e, MakeChecks.laidMetH_plain _ _ _ (by kernel_rfl)] at h1
    exact h1
  obtain ⟨ps, ⟨g, t, cs, fuel, p, q, hg, ht, hv, hd, _, e0⟩, _, hrows⟩ := h2
  have hg' : Tryz.prog.globalNamed "strconv.ErrSyntax" = some 4 := by kernel_rfl
  obtain rfl := Option.some.inj (hg'.symm.trans hg)
  have ht' : (Tryz.prog.globals[4]?).map (·.type) = some 82 := by kernel_rfl
  obtain rfl := Option.some.inj (ht'.symm.trans ht)
  have hu := Tryz.underlying82
  unfold Rows.laid_strconv_ErrSyntax at hd
  rcases fuel with _ | fuel
  · simp [DataW.trod] at hd
  · unfold DataW.trod at hd
    rw [hu] at hd
    have hc := World.var?_cell hg' hv 0
    obtain ⟨l⟩ := cs
    match l, hd, hc with
    | [.iface T v], hd, hc => exact ⟨T, v, by simpa using hc⟩
    | [.nilIface], hd, _ => simp at hd
set_option maxRecDepth 100000 in
theorem g5 {W : World} (hL : laidMetH Tryz.prog Rows.showRowsRow.laid W) : ∃ t u, W.cell? ⟨5, 0, none⟩ = some (.iface t u) := by
  have h1 := hL.filter (fun x => x.1 == "strconv.ErrRange")
  have h2 : laidMet Tryz.prog [("strconv.ErrRange", Rows.laid_strconv_ErrRange)] W := by
    have e : (Rows.showRowsRow.laid.filter (fun x => x.1 == "strconv.ErrRange")) = [("strconv.ErrRange", Rows.laid_strconv_ErrRange)] := by rfl
    rw [e, MakeChecks.laidMetH_plain _ _ _ (by kernel_rfl)] at h1
    exact h1
  obtain ⟨ps, ⟨g, t, cs, fuel, p, q, hg, ht, hv, hd, _, e0⟩, _, hrows⟩ := h2
  have hg' : Tryz.prog.globalNamed "strconv.ErrRange" = some 5 := by kernel_rfl
  obtain rfl := Option.some.inj (hg'.symm.trans hg)
  have ht' : (Tryz.prog.globals[5]?).map (·.type) = some 82 := by kernel_rfl
  obtain rfl := Option.some.inj (ht'.symm.trans ht)
  have hu := Tryz.underlying82
  unfold Rows.laid_strconv_ErrRange at hd
  rcases fuel with _ | fuel
  · simp [DataW.trod] at hd
  · unfold DataW.trod at hd
    rw [hu] at hd
    have hc := World.var?_cell hg' hv 0
    obtain ⟨l⟩ := cs
    match l, hd, hc with
    | [.iface T v], hd, hc => exact ⟨T, v, by simpa using hc⟩
    | [.nilIface], hd, _ => simp at hd
theorem gok {W : World} (hL : laidMetH Tryz.prog Rows.showRowsRow.laid W) : ∀ g ∈ Go.VI.tyT.G, ∃ t u, W.cell? ⟨g, 0, none⟩ = some (.iface t u) := by
  intro g hg
  change g ∈ [0, 3, 4, 5] at hg
  simp only [List.mem_cons, List.not_mem_nil, or_false] at hg
  rcases hg with rfl | rfl | rfl | rfl
  · exact g0 hL
  · exact g3 hL
  · exact g4 hL
  · exact g5 hL
set_option maxRecDepth 100000 in
theorem lifted (os : Os) (started : os.Started) (H : Type) (enc : TypeId × Value → H) :
    ReturnsInHanded {} Tryz.checked os 9 .any (fun w args => (Rows.showRowsSpec.pre enc Tryz.prog Tryz.f9 Rows.showRowsRow.domain false w args ∧ laidMetH Tryz.prog Rows.showRowsRow.laid w) ∧ sizedMet enc Tryz.prog Tryz.f9 (OpenSpec.ofChange Rows.showRowsSpec) false w args) (Rows.showRowsSpec.post enc Tryz.prog Tryz.f9 false true false false) := by
  refine returnsInHanded_of_change_and (C := Tryz.checked) (X := fun w _ => laidMetH Tryz.prog Rows.showRowsRow.laid w) (fun _ _ _ hh h => h.of_heap hh) own started (by kernel_rfl) Tryz.func9
    (ChangeSpec.witness_shaped (enc := enc) (C := Tryz.checked) (os := os) (X := fun w _ => laidMetH Tryz.prog Rows.showRowsRow.laid w) false (World.laidAll Tryz.prog os Rows.showRowsRow.laid) #[.agg #[.slice none 0 0, .int .i64 0]] 8 (World.laidAll_os _ _ _)
      (World.shaped_of_ZipB (by kernel_rfl) (by kernel_rfl)) (by kernel_rfl) (by kernel_rfl) (by kernel_rfl)
      (by rw [MakeChecks.laidMetH_plain _ _ _ (by kernel_rfl)]; exact laidMet_laidAll _ (by kernel_rfl) (by kernel_rfl))) ?_
  intro W base args ds gs before hval0 hW hcnd hsz0 hL _
  have hval : ∀ (j : Nat) t v, Tryz.f9.params[j]? = some t → args[j]? = some v → Value.okWide Tryz.prog W .any base t v := hval0
  have hW' := hW
  obtain ⟨p, q, hA0, hV, rfl, hfz, hnd⟩ := hW
  have hA : DataW.TrodAll enc Tryz.prog W 0 (fun _ => true) true Tryz.f9.params.toList args.toList ds p := hA0
  rw [Tryz.params9] at hA hval
  obtain ⟨v0, vs0, d0, ds0, p0, q0, hargs, rfl, rfl, h0, r0⟩ := trodAll_cons hA
  obtain ⟨rfl, rfl, rfl⟩ := trodAll_nil r0
  obtain rfl : args = #[v0] := by cases args; simp_all
  obtain ⟨rfl, rfl⟩ := trodVars_none hV
  have lt0 : ∀ x ∈ p0, x.block < W.heap.size := by obtain ⟨m, hm⟩ := h0; exact DataW.trod_lt m _ _ _ hm
  obtain ⟨y0, f0, e0⟩ := argGraph.run (hval 0 50 v0 rfl rfl) h0
  clear hA0 hval0 hsz0
  obtain ⟨k, hk⟩ := (Go.PL.ShowRows_ev y0.1 y0.2).rounds
  refine (run_law (Tf.tapewrightlaw11_ShowRows.ok k) rfl (a := y0) rfl rfl hk (w := W) (vals := [v0]) rfl (fun i v x hv hx => ?_) (gok hL)).mono fun e W' ⟨he, bel⟩ => ?_
  · match i, hv, hx with
    | 0, hv, hx => cases hv; cases hx; exact e0
    | _ + 1, hv, hx => cases hx
  subst he
  exact ⟨_, rfl, _, _, _, [], _, [], hW', trodAll_mk1 (shut_bool Tryz.underlying4 _), (trodAll_cons_mk (Below.trod laidOut (by kernel_rfl) (of_decide_eq_true (by kernel_rfl)) h0 bel lt0) trodAll_mk0), rfl, bel.frame _, fun h => by cases h⟩
theorem over : Rows.showRowsRow.holds Tryz.pinned (OpenSpec.ofChange Rows.showRowsSpec) :=
  OpenClaim.holds_of_wide 9 Tryz.f9 rfl rfl rfl rfl rfl rfl rfl ⟨rfl, rfl, rfl, rfl, rfl⟩ rfl rfl rfl rfl rfl (by kernel_rfl) Tryz.func9 (by kernel_rfl)
    (of_decide_eq_true (by kernel_rfl)) (by unfold Func.isWrapper; first | (rw [if_pos (by decide +kernel)]; kernel_rfl) | (rw [if_neg (by decide +kernel)]; exact ⟨rfl, rfl⟩))
    (fun os started H enc _ => lifted os started H enc)
theorem card : Rows.ShowRowsCardSaid :=
  Claim7.holds_tied_plain_at .later [] [.data, .data, .data, .data, .sentinel, .sentinel, .sentinel, .sentinel, .pinned] true (true, "fb1af7536014a3cfc210cf11ea8a697b3eff81a37a579b7a3656a0efa6388bcc") true over (fun _ h => by cases h) (by kernel_rfl) (fun _ h => by cases h) showRows_row_tie rfl ⟨rfl, rfl⟩ (by kernel_rfl) rfl
    (fun f fn hf hfn => by
      obtain rfl : f = 9 := Option.some.inj ((show Tryz.prog.funcNamed "tapewright/tapewrightlaw11.ShowRows" = some 9 by kernel_rfl).symm.trans hf) |>.symm
      obtain rfl : fn = Tryz.f9 := (Option.some.inj (Tryz.func9.symm.trans hfn)).symm
      exact ⟨by kernel_rfl, fun j t ht => by
        rw [Tryz.params9] at ht
        have hm : t ∈ [50] := by have := Array.mem_of_getElem? ht; simpa using this
        have hall : ([50].all fun u => !Tryz.prog.wantsStandIn u) = true := by kernel_rfl
        exact (show Tryz.prog.wantsStandIn t = false by simpa using List.all_eq_true.1 hall t hm)⟩)
    (by kernel_rfl)
end Go.Proofs.YtffpponklejidaaGreatDoor.showRows
namespace Go.Proofs.YtffpponklejidaaGreatDoor
/-- The card, under a short name, for the claim. -/
theorem showRows_card_holds : Rows.ShowRowsCardSaid := showRows.card
#print axioms showRows_card_holds
end Go.Proofs.YtffpponklejidaaGreatDoor
