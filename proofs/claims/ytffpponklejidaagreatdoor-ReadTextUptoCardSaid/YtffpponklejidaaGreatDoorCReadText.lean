/- For every input tapewrightlaw09.ReadText answers true. Conditions: the second form's own: what comes in is of bulk at most 1048576. -/
import Derived.Test.YtffpponklejidaaGreatDoorQ1
import Derived.Test.YtffpponklejidaaGreatDoorRows
import Derived.JoinedCond
import Derived.Deep.DeepHandedRow
import Derived.WalkKit
import Derived.ProofKit
import Derived.OpenShut
import Derived.ShutString
import Derived.ChangeOld
import Derived.Below
import Derived.SizedLaws
import Derived.Lib.SmallJoins
import Derived.LaidMore
import Derived.LaidSub
import Derived.Lay
import Derived.SevenTiedAt
import Derived.Stop.Joined
import Derived.Stop.LaidErr
import Derived.FnData
import Derived.Test.YtffpponklejidaaGreatDoorTie
import Derived.Test.YtffpponklejidaaGreatDoorCards
set_option linter.unusedVariables false
set_option linter.unusedSimpArgs false
namespace Go.PL
open Go Go.VI
abbrev nlB : ByteArray := ⟨#[10]⟩
/-- What is read of a line. -/
def rdL (x : ByteArray) : List VI.Stmt := (allV (linesV x) []).1
def goodX (x : ByteArray) : Prop := (∀ b ∈ x.data.toList, b ≠ 10) ∧ x.data.toList.length ≤ 40 ∧ (allV (linesV x) []).2.2 = 0
def catL (l : List ByteArray) : List UInt8 := l.flatMap fun x => x.data.toList ++ [10]
def cntL (l : List ByteArray) : Nat := (l.map fun x => (rdL x).length).sum
theorem catL_len : ∀ (l : List ByteArray), (∀ x ∈ l, goodX x) → (catL l).length ≤ 41 * l.length
  | [], _ => by simp [catL]
  | x :: r, h => by
    have ih := catL_len r (fun y hy => h y (by simp [hy]))
    have := (h x (by simp)).2.1
    unfold catL at ih ⊢
    rw [List.flatMap_cons, List.length_append, List.length_append, List.length_cons, List.length_cons, List.length_nil]
    omega
theorem lines_one (x : ByteArray) (h : ∀ b ∈ x.data.toList, b ≠ 10) : linesV x = mkL 1 (wordsL x.data.toList) := by
  unfold linesV
  rw [spl_one 10 _ h, linesGo, linesGo, List.append_nil]
  rfl
theorem one_line (x : ByteArray) (h : goodX x) (n : Int) (R : List VI.Line) (acc : List VI.Stmt) : allV (mkL n (wordsL x.data.toList) ++ R) acc = allV R (acc ++ rdL x) ∧ (rdL x).length ≤ 1 := by
  obtain ⟨h1, _, h3⟩ := h
  unfold rdL
  rw [lines_one x h1] at h3 ⊢
  unfold mkL at h3 ⊢
  split
  · simp [allV]
  · rename_i hw
    rw [if_neg hw, allV] at h3
    rw [List.singleton_append, allV, allV]
    dsimp only at h3 ⊢
    cases hp : parseV (wordsL x.data.toList) with
    | none => rw [hp] at h3; simp at h3
    | some s => simp [allV]
theorem cntL_le : ∀ (l : List ByteArray), (∀ x ∈ l, goodX x) → cntL l ≤ l.length
  | [], _ => by simp [cntL]
  | x :: r, h => by
    have ih := cntL_le r (fun y hy => h y (by simp [hy]))
    have := (one_line x (h x (by simp)) 1 [] []).2
    unfold cntL at ih ⊢
    rw [List.map_cons, List.sum_cons, List.length_cons]
    omega
theorem spl_cat : ∀ (l : List ByteArray), (∀ x ∈ l, goodX x) → ∀ t : List UInt8, spl 10 (catL l ++ t) = l.map (fun x => x.data.toList) ++ spl 10 t
  | [], _, t => by simp [catL]
  | x :: r, h, t => by
    have ih := spl_cat r (fun y hy => h y (by simp [hy])) t
    have e : catL (x :: r) ++ t = x.data.toList ++ 10 :: (catL r ++ t) := by simp [catL]
    rw [e, spl_word 10 _ _ (h x (by simp)).1, ih]
    simp
theorem all_cat : ∀ (l : List ByteArray), (∀ x ∈ l, goodX x) → ∀ (rest : List (List UInt8)) (k : Nat) (acc : List VI.Stmt),
    ∃ A : List VI.Stmt, A.length = cntL l ∧ allV (linesGo k (l.map (fun x => x.data.toList) ++ rest)) acc = allV (linesGo (k + l.length) rest) (acc ++ A)
  | [], _, rest, k, acc => ⟨[], rfl, by simp⟩
  | x :: r, h, rest, k, acc => by
    obtain ⟨A, h1, h2⟩ := all_cat r (fun y hy => h y (by simp [hy])) rest (k + 1) (acc ++ rdL x)
    refine ⟨rdL x ++ A, by simp [cntL, h1], ?_⟩
    rw [List.map_cons, List.cons_append, linesGo, (one_line x (h x (by simp)) _ _ acc).1, h2]
    have e : k + 1 + r.length = k + (x :: r).length := by simp; omega
    rw [e, List.append_assoc]
theorem words_nil : wordsL [] = [] := rfl
abbrev nothingB : ByteArray := ⟨#[110, 111, 116, 104, 105, 110, 103]⟩
theorem words_nothing : wordsL nothingB.data.toList = [nothingB] := by decide +kernel
theorem text_all (s : ByteArray) (l : List ByteArray) (h : ∀ x ∈ l, goodX x) (hs : s.data.toList = catL l) :
    (∃ A : List VI.Stmt, A.length = cntL l ∧ allV (linesV s) [] = (A, ((0 : Int), (0 : Int)))) ∧ allV (linesV (s ++ nothingB)) [] = ([], (((l.length + 1 : Nat) : Int), (2 : Int))) := by
  constructor
  · obtain ⟨A, h1, h2⟩ := all_cat l h [[]] 0 []
    refine ⟨A, h1, ?_⟩
    unfold linesV
    have e := spl_cat l h []
    rw [List.append_nil] at e
    rw [hs, e]
    have e2 : spl 10 [] = [[]] := rfl
    rw [e2, h2]
    rw [linesGo, linesGo, words_nil, List.nil_append]
    rfl
  · obtain ⟨A, h1, h2⟩ := all_cat l h [nothingB.data.toList] 0 []
    unfold linesV
    rw [ba_append, hs, spl_cat l h]
    have e2 : spl 10 nothingB.data.toList = [nothingB.data.toList] := by decide +kernel
    rw [e2, h2, linesGo, linesGo, words_nothing, Nat.zero_add]
    rfl
theorem rt_l8 (x : ByteArray) (hx : x.data.toList.length ≤ 1500000) (l1 l2 : List ByteArray) (n ri many : Int) (s : ByteArray) : ∀ (d j : Nat), j + d = x.data.toList.length →
    ∃ r, (r = .inl true ∨ ((∀ b ∈ x.data.toList.drop j, b ≠ 10) ∧ r = .inr (l1, (l2, (n, (ri, (many, (x, s)))))))) ∧ EvG (fun _ L => L ((j : Int), (x, (l1, (l2, (n, (ri, (many, (s, (x.size : Int)))))))))) Tf.tapewrightlaw09_ReadText.s8 r := by
  have hz := ba_size x
  intro d
  induction d with
  | zero =>
    intro j hj
    refine ⟨_, .inr ⟨fun b hb => by rw [List.drop_eq_nil_of_le (by omega)] at hb; simp at hb, rfl⟩, EvG.step (fun F L => ?_) (EvG.now _)⟩
    dsimp only [Tf.tapewrightlaw09_ReadText.s8]
    simp only [bif_if, decide_eq_true_eq]
    rw [if_neg (by omega)]
  | succ d ih =>
    intro j hj
    have hlt : j < x.data.toList.length := by omega
    have hb := bt_data x j hlt
    have hw : IntKind.i64.wrap ((j : Int) + 1) = ((j + 1 : Nat) : Int) := by rw [w64 (by omega) (by omega), succ_cast]
    obtain ⟨r, h1, h2⟩ := ih (j + 1) (by omega)
    rw [List.drop_eq_getElem_cons hlt]
    generalize x.data.toList[j] = b at *
    by_cases c : b = 10
    · refine ⟨.inl true, .inl rfl, EvG.loop ?_⟩
      simp only [Tf.tapewrightlaw09_ReadText.s8, bif_if, decide_eq_true_eq, inR_iff, hb, beq_iff_eq]
      exact EvG.pos (by omega) (EvG.pos (by omega) (EvG.pos (by rw [c]; rfl) (EvG.bind readAwake_ev (EvG.now _))))
    · refine ⟨r, ?_, EvG.loop ?_⟩
      · rcases h1 with h1 | ⟨h1, h3⟩
        · exact .inl h1
        · refine .inr ⟨fun y hy => ?_, h3⟩
          rcases List.mem_cons.1 hy with rfl | hy
          · exact c
          · exact h1 y hy
      simp only [Tf.tapewrightlaw09_ReadText.s8, bif_if, decide_eq_true_eq, inR_iff, hb, beq_iff_eq, hw]
      refine EvG.pos (by omega) (EvG.pos (by omega) (EvG.neg (fun q => c ?_) h2))
      apply UInt8.toNat_inj.1
      have : (10 : UInt8).toNat = 10 := rfl
      omega
theorem rt_l5 (l : List ByteArray) (hl : l.length ≤ 20) (hs : ∀ x ∈ l, x.data.toList.length ≤ 1500000) : ∀ (d i : Nat) (s : ByteArray), i + d = l.length → (∀ x ∈ l.take i, goodX x) → s.data.toList = catL (l.take i) →
    ∃ r, (r = .inl true ∨ ∃ s' : ByteArray, r = .inr (l, ((cntL l : Int), s')) ∧ (∀ x ∈ l, goodX x) ∧ s'.data.toList = catL l) ∧ EvG (fun _ L => L ((i : Int), ((cntL (l.take i) : Int), (s, (l, (l, (l.length : Int))))))) Tf.tapewrightlaw09_ReadText.s5 r := by
  intro d
  induction d with
  | zero =>
    intro i s hi hg hc
    rw [List.take_of_length_le (by omega)] at hg hc ⊢
    refine ⟨_, .inr ⟨s, rfl, hg, hc⟩, EvG.step (fun F L => ?_) (EvG.now _)⟩
    dsimp only [Tf.tapewrightlaw09_ReadText.s5]
    simp only [bif_if, decide_eq_true_eq]
    rw [if_neg (by omega)]
  | succ d ih =>
    intro i s hi hg hc
    have hlt : i < l.length := by omega
    have eg := getD_at l i hlt
    have hw : IntKind.i64.wrap ((i : Int) + 1) = ((i + 1 : Nat) : Int) := by rw [w64 (by omega) (by omega), succ_cast]
    have hm := hs _ (List.getElem_mem hlt)
    have et : l.take (i + 1) = l.take i ++ [l[i]] := by rw [List.take_succ_eq_append_getElem hlt]
    have ih := ih (i + 1)
    rw [et] at ih
    generalize l[i] = x at *
    have hz := ba_size x
    have hzs := ba_size s
    obtain ⟨r8, g1, g2⟩ := rt_l8 x hm l l (l.length : Int) (i : Int) (cntL (l.take i) : Int) s x.data.toList.length 0 (by omega)
    have g2 : EvG (fun _ L => L ((0 : Int), (x, (l, (l, ((l.length : Int), ((i : Int), ((cntL (l.take i) : Int), (s, (x.size : Int)))))))))) Tf.tapewrightlaw09_ReadText.s8 r8 := g2
    have hcl := catL_len (l.take i) hg
    have hcn := cntL_le (l.take i) hg
    have htl : (l.take i).length ≤ 20 := by rw [List.length_take]; omega
    rcases g1 with rfl | ⟨hno, rfl⟩
    · refine ⟨.inl true, .inl rfl, EvG.loop ?_⟩
      simp only [Tf.tapewrightlaw09_ReadText.s5, bif_if, decide_eq_true_eq, inR_iff, eg]
      exact EvG.pos (by omega) (EvG.pos (by omega) (EvG.bind (Ev.iter g2) (EvG.now _)))
    rw [List.drop_zero] at hno
    have hr := readS_ev x (by omega)
    by_cases c1 : (allV (linesV x) []).2.2 = 0
    · by_cases c2 : x.data.toList.length ≤ 40
      · have gx : goodX x := ⟨hno, c2, c1⟩
        have h1 := (one_line x gx 1 [] []).2
        have ecn : cntL (l.take i ++ [x]) = cntL (l.take i) + (rdL x).length := by simp [cntL]
        obtain ⟨r, k1, k2⟩ := ih (s ++ (x ++ nlB)) (by omega) (fun y hy => by
          rcases List.mem_append.1 hy with h | h
          · exact hg y h
          · simp at h; subst h; exact gx) (by rw [ba_append, ba_append, hc]; simp [catL])
        rw [ecn] at k2
        refine ⟨r, k1, EvG.loop ?_⟩
        have hwm : IntKind.i64.wrap ((cntL (l.take i) : Int) + ((allV (linesV x) []).1.length : Int)) = ((cntL (l.take i) + (rdL x).length : Nat) : Int) := by
          show IntKind.i64.wrap ((cntL (l.take i) : Int) + ((rdL x).length : Int)) = _
          rw [w64 (by omega) (by omega)]; omega
        have hn1 : (x ++ nlB).size = x.size + 1 := by rw [ba_size, ba_size, ba_append]; simp
        simp only [Tf.tapewrightlaw09_ReadText.s5, bif_if, decide_eq_true_eq, inR_iff, eg, hw, bne_iff_ne, Nat.ble_eq]
        refine EvG.pos (by omega) (EvG.pos (by omega) (EvG.bind (Ev.iter g2) (EvG.bind hr (EvG.neg (fun q => q c1) (EvG.neg (by dsimp only; omega) (EvG.pos (by dsimp only; omega) (EvG.pos (by dsimp only; rw [hn1, hzs, hc]; omega) ?_)))))))
        dsimp only
        rw [hwm, hw]
        exact k2
      · refine ⟨.inl true, .inl rfl, EvG.loop ?_⟩
        simp only [Tf.tapewrightlaw09_ReadText.s5, bif_if, decide_eq_true_eq, inR_iff, eg, bne_iff_ne]
        exact EvG.pos (by omega) (EvG.pos (by omega) (EvG.bind (Ev.iter g2) (EvG.bind hr (EvG.neg (fun q => q c1) (EvG.pos (by dsimp only; omega) (EvG.bind readAwake_ev (EvG.now _)))))))
    · refine ⟨.inl true, .inl rfl, EvG.loop ?_⟩
      simp only [Tf.tapewrightlaw09_ReadText.s5, bif_if, decide_eq_true_eq, inR_iff, eg, bne_iff_ne]
      exact EvG.pos (by omega) (EvG.pos (by omega) (EvG.bind (Ev.iter g2) (EvG.bind hr (EvG.pos c1 (EvG.bind readAwake_ev (EvG.now _))))))
/-- ReadText answers true, if no line has more than so many bytes. -/
theorem ReadText_ev (l : List ByteArray) (hs : ∀ x ∈ l, x.size ≤ 1048576) : Ev (fun F => Tf.tapewrightlaw09_ReadText.f F l) true := by
  have aw := Ev_ret readAwake_ev
  simp only [Tf.tapewrightlaw09_ReadText.f, bif_if, decide_eq_true_eq, beq_iff_eq, Nat.ble_eq]
  by_cases hl : (l.length : Int) > 20
  · exact Ev_pos hl aw
  refine Ev_neg hl ?_
  obtain ⟨r, h1, h2⟩ := rt_l5 l (by omega) (fun x hx => by have := hs x hx; have := ba_size x; omega) l.length 0 ⟨#[]⟩ (by omega) (by simp) (by simp [catL])
  refine Ev.bind (Ev.iter h2) ?_
  rcases h1 with rfl | ⟨s, rfl, hg, hc⟩
  · exact Ev.now _
  obtain ⟨⟨A, a1, a2⟩, a3⟩ := text_all s l hg hc
  have hcl := catL_len l hg
  have hz := ba_size s
  have r1 := readS_ev s (by rw [hc]; omega)
  have r2 := readS_ev (s ++ nothingB) (by rw [ba_append, hc, List.length_append]; show _ + 7 ≤ _; omega)
  rw [a2] at r1
  rw [a3] at r2
  dsimp only [sumE]
  refine Ev.bind r1 (Ev_pos (by rw [hz, hc]; omega) (Ev.bind r2 ?_))
  dsimp only
  refine Ev_pos (by rw [a1]) (Ev_pos rfl (Ev_pos rfl (Ev_pos rfl (Ev_pos ?_ (Ev_pos rfl aw)))))
  rw [w64 (by omega) (by omega)]; omega
end Go.PL
namespace Go.Proofs.YtffpponklejidaaGreatDoor.readText
open Go.ChangeShapes Go.WideShapes Go.ChangeAt Go.RowKit Go.VI
theorem laidOut : laidOutB Tryz.prog = true := by kernel_rfl
theorem own : ownKnob Tryz.prog.godebug = none := by kernel_rfl
set_option maxRecDepth 100000 in
theorem g0 {W : World} (hL : laidMetH Tryz.prog Rows.readTextUptoRow.laid W) : ∃ t u, W.cell? ⟨0, 0, none⟩ = some (.iface t u) := by
  have h1 := hL.filter (fun x => x.1 == "tapewright/rat.errForm")
  have h2 : laidMet Tryz.prog [("tapewright/rat.errForm", Rows.laid_tapewright_rat_errForm)] W := by
    have e : (Rows.readTextUptoRow.laid.filter (fun x => x.1 == "tapewright/rat.errForm")) = [("tapewright/rat.errForm", Rows.laid_tapewright_rat_errForm)] := by rfl
    rw [e, MakeChecks.laidMetH_plain _ _ _ (by kernel_rfl)] at h1
    exact h1
  obtain ⟨ps, ⟨g, t, cs, fuel, p, q, hg, ht, hv, hd, _, e0⟩, _, hrows⟩ := h2
  have hg' : Tryz.prog.globalNamed "tapewright/rat.errForm" = some 0 := by kernel_rfl
  obtain rfl := Option.some.inj (hg'.symm.trans hg)
  have ht' : (Tryz.prog.globals[0]?).map (·.type) = some 82 := by kernel_rfl
  obtain rfl := Option.some.inj (ht'.symm.trans ht)
  have hu := Tryz.underlying82
  unfold Rows.laid_tapewright_rat_errForm at hd
  rcases fuel with _ | fuel
  · simp [DataW.trod] at hd
  · unfold DataW.trod at hd
    rw [hu] at hd
    have hc := World.var?_cell hg' hv 0
    obtain ⟨l⟩ := cs
    match l, hd, hc with
    | [.iface T v], hd, hc => exact ⟨T, v, by simpa using hc⟩
    | [.nilIface], hd, _ => simp at hd
set_option maxRecDepth 100000 in
theorem g3 {W : World} (hL : laidMetH Tryz.prog Rows.readTextUptoRow.laid W) : ∃ t u, W.cell? ⟨3, 0, none⟩ = some (.iface t u) := by
  have h1 := hL.filter (fun x => x.1 == "tapewright/rat.errZero")
  have h2 : laidMet Tryz.prog [("tapewright/rat.errZero", Rows.laid_tapewright_rat_errZero)] W := by
    have e : (Rows.readTextUptoRow.laid.filter (fun x => x.1 == "tapewright/rat.errZero")) = [("tapewright/rat.errZero", Rows.laid_tapewright_rat_errZero)] := by rfl
    rw [e, MakeChecks.laidMetH_plain _ _ _ (by kernel_rfl)] at h1
    exact h1
  obtain ⟨ps, ⟨g, t, cs, fuel, p, q, hg, ht, hv, hd, _, e0⟩, _, hrows⟩ := h2
  have hg' : Tryz.prog.globalNamed "tapewright/rat.errZero" = some 3 := by kernel_rfl
  obtain rfl := Option.some.inj (hg'.symm.trans hg)
  have ht' : (Tryz.prog.globals[3]?).map (·.type) = some 82 := by kernel_rfl
  obtain rfl := Option.some.inj (ht'.symm.trans ht)
  have hu := Tryz.underlying82
  unfold Rows.laid_tapewright_rat_errZero at hd
  rcases fuel with _ | fuel
  · simp [DataW.trod] at hd
  · unfold DataW.trod at hd
    rw [hu] at hd
    have hc := World.var?_cell hg' hv 0
    obtain ⟨l⟩ := cs
    match l, hd, hc with
    | [.iface T v], hd, hc => exact ⟨T, v, by simpa using hc⟩
    | [.nilIface], hd, _ => simp at hd
set_option maxRecDepth 100000 in
theorem g4 {W : World} (hL : laidMetH Tryz.prog Rows.readTextUptoRow.laid W) : ∃ t u, W.cell? ⟨4, 0, none⟩ = some (.iface t u) := by
  have h1 := hL.filter (fun x => x.1 == "strconv.ErrSyntax")
  have h2 : laidMet Tryz.prog [("strconv.ErrSyntax", Rows.laid_strconv_ErrSyntax)] W := by
    have e : (Rows.readTextUptoRow.laid.filter (fun x => x.1 == "strconv.ErrSyntax")) = [("strconv.ErrSyntax", Rows.laid_strconv_ErrSyntax)] := by rfl
    rw [e, MakeChecks.laidMetH_plain _ _ _ (by kernel_rfl)] at h1
    exact h1
  obtain ⟨ps, ⟨g, t, cs, fuel, p, q, hg, ht, hv, hd, _, e0⟩, _, hrows⟩ := h2
  have hg' : Tryz.prog.globalNamed "strconv.ErrSyntax" = some 4 := by kernel_rfl
  obtain rfl := Option.some.inj (hg'.symm.trans hg)
  have ht' : (Tryz.prog.globals[4]?).map (·.type) = some 82 := by kernel_rfl
  obtain rfl := Option.some.inj (ht'.symm.trans ht)
  have hu := Tryz.underlying82
  unfold Rows.laid_strconv_ErrSyntax at hd
  rcases fuel with _ | fuel
  · simp [DataW.trod] at hd
  · unfold DataW.trod at hd
    rw [hu] at hd
    have hc := World.var?_cell hg' hv 0
    obtain ⟨l⟩ := cs
    match l, hd, hc with
    | [.iface T v], hd, hc => exact ⟨T, v, by simpa using hc⟩
    | [.nilIface], hd, _ => simp at hd
set_option maxRecDepth 100000 in
theorem g5 {W : World} (hL : laidMetH Tryz.prog Rows.readTextUptoRow.laid W) : ∃ t u, W.cell? ⟨5, 0, none⟩ = some (.iface t u) := by
  have h1 := hL.filter (fun x => x.1 == "strconv.ErrRange")
  have h2 : laidMet Tryz.prog [("strconv.ErrRange", Rows.laid_strconv_ErrRange)] W := by
    have e : (Rows.readTextUptoRow.laid.filter (fun x => x.1 == "strconv.ErrRange")) = [("strconv.ErrRange", Rows.laid_strconv_ErrRange)] := by rfl
    rw [e, MakeChecks.laidMetH_plain _ _ _ (by kernel_rfl)] at h1
    exact h1
  obtain ⟨ps, ⟨g, t, cs, fuel, p, q, hg, ht, hv, hd, _, e0⟩, _, hrows⟩ := h2
  have hg' : Tryz.prog.globalNamed "strconv.ErrRange" = some 5 := by kernel_rfl
  obtain rfl := Option.some.inj (hg'.symm.trans hg)
  have ht' : (Tryz.prog.globals[5]?).map (·.type) = some 82 := by kernel_rfl
  obtain rfl := Option.some.inj (ht'.symm.trans ht)
  have hu := Tryz.underlying82
  unfold Rows.laid_strconv_ErrRange at hd
  rcases fuel with _ | fuel
  · simp [DataW.trod] at hd
  · unfold DataW.trod at hd
    rw [hu] at hd
    have hc := World.var?_cell hg' hv 0
    obtain ⟨l⟩ := cs
    match l, hd, hc with
    | [.iface T v], hd, hc => exact ⟨T, v, by simpa using hc⟩
    | [.nilIface], hd, _ => simp at hd
theorem gok {W : World} (hL : laidMetH Tryz.prog Rows.readTextUptoRow.laid W) : ∀ g ∈ Go.VI.tyT.G, ∃ t u, W.cell? ⟨g, 0, none⟩ = some (.iface t u) := by
  intro g hg
  change g ∈ [0, 3, 4, 5] at hg
  simp only [List.mem_cons, List.not_mem_nil, or_false] at hg
  rcases hg with rfl | rfl | rfl | rfl
  · exact g0 hL
  · exact g3 hL
  · exact g4 hL
  · exact g5 hL
set_option maxRecDepth 100000 in
theorem lifted (os : Os) (started : os.Started) (H : Type) (enc : TypeId × Value → H) (F : Stop.Interp) :
    ReturnsInHanded {} Tryz.checked os 6 .any ((Rows.OpenSpec.upto Rows.readTextSpec).preRow enc Tryz.prog Tryz.f6 Rows.readTextUptoRow.domain false Rows.readTextUptoRow.laid) (((Rows.OpenSpec.upto Rows.readTextSpec).at F).post enc Tryz.prog Tryz.f6 false true false false) := by
  refine returnsInHanded_of_row (C := Tryz.checked) own started (by kernel_rfl) Tryz.func6
    ⟨World.laidAll Tryz.prog os Rows.readTextUptoRow.laid, fun _ _ => 0, ⟨#[], #[.slice none 0 0], []⟩, World.laidAll_os _ _ _, World.shaped_of_ZipB (by kernel_rfl) (by kernel_rfl),
      rfl, (Input.okWide_of_okWideB (by kernel_rfl)).2,
      ⟨⟨(OpenSpec.pre_some (k := Rows.uptoSmall) rfl _ _ _ _).2 ⟨[.nil], [], [], DataW.Whole_of_whole (x := ([DataW.nil], [], [])) (fuel := 8) (by kernel_rfl), by kernel_rfl, by kernel_rfl⟩,
        by rw [MakeChecks.laidMetH_plain _ _ _ (by kernel_rfl)]; exact laidMet_laidAll _ (by kernel_rfl) (by kernel_rfl)⟩, sizedMet_of_sizedB (fuel := 8) (by kernel_rfl)⟩, by
      simp only [Assume.holds]
      exact ⟨by simp, by simp, fun h => (by cases h), by simp, by simp⟩⟩ ?_
  intro W base args ds gs before hval0 hW hcnd hkk hsz0 hL _ _
  have hval : ∀ (j : Nat) t v, Tryz.f6.params[j]? = some t → args[j]? = some v → Value.okWide Tryz.prog W .any base t v := hval0
  have hW' := hW
  obtain ⟨p, q, hA0, hV, rfl, hfz, hnd⟩ := hW
  have hA : DataW.TrodAll enc Tryz.prog W 0 (fun _ => true) true Tryz.f6.params.toList args.toList ds p := hA0
  rw [Tryz.params6] at hA hval
  obtain ⟨v0, vs0, d0, ds0, p0, q0, hargs, rfl, rfl, h0, r0⟩ := trodAll_cons hA
  obtain ⟨rfl, rfl, rfl⟩ := trodAll_nil r0
  obtain rfl : args = #[v0] := by cases args; simp_all
  obtain ⟨rfl, rfl⟩ := trodVars_none hV
  have lt0 : ∀ x ∈ p0, x.block < W.heap.size := by obtain ⟨m, hm⟩ := h0; exact DataW.trod_lt m _ _ _ hm
  have hN : Rows.uptoBulk d0 ≤ 1048576 := by
    have h1 := hkk _ rfl
    have h2 : Rows.uptoBulkAll ([d0] ++ ([] : List (DataW H))) ≤ 1048576 := of_decide_eq_true h1
    rw [List.append_nil, Rows.uptoBulkAll, Rows.uptoBulkAll] at h2
    omega
  obtain ⟨y0, f0, e0⟩ := argStrsUp (hval 0 22 v0 rfl rfl) h0 hN
  clear hA0 hval0 hsz0
  obtain ⟨k, hk⟩ := (Go.PL.ReadText_ev y0 f0).rounds
  refine (run_law (Tf.tapewrightlaw09_ReadText.ok k) rfl (a := y0) rfl rfl hk (w := W) (vals := [v0]) rfl (fun i v x hv hx => ?_) (gok hL)).mono fun e W' ⟨he, bel⟩ => ?_
  · match i, hv, hx with
    | 0, hv, hx => cases hv; cases hx; exact e0
    | _ + 1, hv, hx => cases hx
  subst he
  exact ⟨_, rfl, _, _, _, [], _, [], hW', trodAll_mk1 (shut_bool Tryz.underlying4 _), (trodAll_cons_mk (Below.trod laidOut (by kernel_rfl) (of_decide_eq_true (by kernel_rfl)) h0 bel lt0) trodAll_mk0), rfl, bel.frame _, fun h => by cases h⟩
theorem over : Rows.readTextUptoRow.holds Tryz.pinned (Rows.OpenSpec.upto Rows.readTextSpec) :=
  OpenClaim.holds_of_cond 6 Tryz.f6 rfl rfl rfl rfl rfl rfl rfl ⟨rfl, rfl, rfl, rfl, rfl⟩ rfl rfl rfl rfl rfl (by kernel_rfl) Tryz.func6 (by kernel_rfl)
    (of_decide_eq_true (by kernel_rfl)) (by unfold Func.isWrapper; first | (rw [if_pos (by decide +kernel)]; kernel_rfl) | (rw [if_neg (by decide +kernel)]; exact ⟨rfl, rfl⟩))
    (fun os started H enc _ F => by rw [OpenClaim.pre_eq_preRow]; exact lifted os started H enc F)
theorem card : Rows.ReadTextUptoCardSaid :=
  Claim7.holds_tied_plain_at .later [] [.data, .data, .data, .data, .sentinel, .sentinel, .sentinel, .sentinel, .pinned] true (true, "fb1af7536014a3cfc210cf11ea8a697b3eff81a37a579b7a3656a0efa6388bcc") true over (fun _ h => by cases h) (by kernel_rfl) (fun _ h => by cases h) readTextUpto_row_tie rfl ⟨rfl, rfl⟩ (by kernel_rfl) rfl
    (fun f fn hf hfn => by
      obtain rfl : f = 6 := Option.some.inj ((show Tryz.prog.funcNamed "tapewright/tapewrightlaw09.ReadText" = some 6 by kernel_rfl).symm.trans hf) |>.symm
      obtain rfl : fn = Tryz.f6 := (Option.some.inj (Tryz.func6.symm.trans hfn)).symm
      exact ⟨by kernel_rfl, fun j t ht => by
        rw [Tryz.params6] at ht
        have hm : t ∈ [22] := by have := Array.mem_of_getElem? ht; simpa using this
        have hall : ([22].all fun u => !Tryz.prog.wantsStandIn u) = true := by kernel_rfl
        exact (show Tryz.prog.wantsStandIn t = false by simpa using List.all_eq_true.1 hall t hm)⟩)
    (by kernel_rfl)
end Go.Proofs.YtffpponklejidaaGreatDoor.readText
namespace Go.Proofs.YtffpponklejidaaGreatDoor
/-- The card, under a short name, for the claim. -/
theorem readTextUpto_card_holds : Rows.ReadTextUptoCardSaid := readText.card
#print axioms readTextUpto_card_holds
end Go.Proofs.YtffpponklejidaaGreatDoor
