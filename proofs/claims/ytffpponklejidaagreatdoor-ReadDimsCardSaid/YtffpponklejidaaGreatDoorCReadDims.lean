/- For every input tapewrightlaw09.ReadDims answers true. Conditions: none beyond the statement's own. -/
import Derived.Test.YtffpponklejidaaGreatDoorQ1
import Derived.Test.YtffpponklejidaaGreatDoorRows
import Derived.WalkKit
import Derived.ProofKit
import Derived.OpenShut
import Derived.ShutString
import Derived.ChangeOld
import Derived.Below
import Derived.SizedLaws
import Derived.Lib.SmallJoins
import Derived.LaidMore
import Derived.LaidSub
import Derived.Lay
import Derived.SevenTiedAt
import Derived.Stop.Joined
import Derived.Stop.LaidErr
import Derived.FnData
import Derived.Test.YtffpponklejidaaGreatDoorTie
import Derived.Test.YtffpponklejidaaGreatDoorCards
set_option linter.unusedVariables false
set_option linter.unusedSimpArgs false
namespace Go.PL
open Go Go.VI
def wordB (n : Nat) : ByteArray := ⟨(dig2 n).toArray⟩
/-- The word of a number, as the law makes it. -/
def wordT (m : Int) : ByteArray := strOf [IntKind.u8.wrap (IntKind.i64.wrap ((48 : Int) + Int.tmod (IntKind.i64.wrap (Int.tmod m 100)) 10))]
def wordH (m : Int) : ByteArray := strOf [IntKind.u8.wrap (IntKind.i64.wrap ((48 : Int) + IntKind.i64.wrap (Int.tdiv (IntKind.i64.wrap (Int.tmod m 100)) 10)))]
theorem word_all : ∀ m : Fin 256, IntKind.i64.wrap (Int.tmod (m.val : Int) 100) = ((m.val % 100 : Nat) : Int) ∧ (if ((m.val % 100 : Nat) : Int) > 9 then wordH (m.val : Int) ++ wordT (m.val : Int) else wordT (m.val : Int)).data.toList = dig2 (m.val % 100) ∧ (wordH (m.val : Int)).size = 1 ∧ (wordT (m.val : Int)).size = 1 := by decide +kernel
theorem rd_l5 (l : List Int) (hl : l.length ≤ 10) (hb : ∀ n ∈ l, 0 ≤ n ∧ n ≤ 255) (w0 : List ByteArray) (hw0 : w0.length ≤ 2) : ∀ (d i : Nat) (ds : List Int) (ws : List ByteArray), i + d = l.length → ds.length = i → ws.length ≤ i →
    numsS ws = some ds → (∀ w ∈ ws, w.data.toList.length ≤ 2) → ∃ ds' ws', numsS ws' = some ds' ∧ ds'.length = l.length ∧ (∀ w ∈ ws', w.data.toList.length ≤ 2) ∧
    EvG (fun _ L => L ((i : Int), (ds, (w0 ++ ws, (l, (l.length : Int)))))) Tf.tapewrightlaw09_ReadDims.s5 (ds', w0 ++ ws') := by
  have nums_snoc : ∀ (ws : List ByteArray) (ds : List Int) (w : ByteArray) (n : Int), numsS ws = some ds → numS w = some n → numsS (ws ++ [w]) = some (ds ++ [n]) := by
    intro ws
    induction ws with
    | nil => intro ds w n h1 h2; cases h1; simp [numsS, h2]
    | cons a r ih =>
      intro ds w n h1 h2
      rw [numsS] at h1
      obtain ⟨x, hx, h1⟩ := Option.bind_eq_some_iff.1 h1
      obtain ⟨y, hy, rfl⟩ := Option.map_eq_some_iff.1 h1
      rw [List.cons_append, numsS, hx, ih y w n hy h2]
      rfl
  intro d
  induction d with
  | zero =>
    intro i ds ws hi hd hws hn hsz
    refine ⟨ds, ws, hn, by omega, hsz, EvG.step (fun F L => ?_) (EvG.now _)⟩
    dsimp only [Tf.tapewrightlaw09_ReadDims.s5]
    simp only [bif_if, decide_eq_true_eq]
    rw [if_neg (by omega)]
  | succ d ih =>
    intro i ds ws hi hd hws hn hsz
    have hlt : i < l.length := by omega
    have hw : IntKind.i64.wrap ((i : Int) + 1) = ((i + 1 : Nat) : Int) := by rw [w64 (by omega) (by omega), succ_cast]
    have hm : rd l (i : Int) ∈ l := by
      have : rd l (i : Int) = l[i] := by simp [rd, List.getD_eq_getElem?_getD, hlt]
      rw [this]; exact List.getElem_mem hlt
    have hbm := hb _ hm
    generalize hrd : rd l (i : Int) = m at *
    obtain ⟨k, rfl⟩ : ∃ k : Nat, m = (k : Int) := ⟨m.toNat, by omega⟩
    obtain ⟨f1, f2, f3, f4⟩ := word_all ⟨k, by omega⟩
    dsimp only at f1 f2 f3 f4
    have ih := fun w : ByteArray => ih (i + 1) (ds ++ [((k % 100 : Nat) : Int)]) (ws ++ [w]) (by omega) (by simp [hd]) (by simp; omega)
    have hk100 : k % 100 < 100 := Nat.mod_lt _ (by decide)
    have go : ∀ w : ByteArray, w.data.toList = dig2 (k % 100) → ∃ ds' ws', numsS ws' = some ds' ∧ ds'.length = l.length ∧ (∀ w ∈ ws', w.data.toList.length ≤ 2) ∧ EvG (fun _ L => L (((i + 1 : Nat) : Int), (ds ++ [((k % 100 : Nat) : Int)], (w0 ++ ws ++ [w], (l, (l.length : Int)))))) Tf.tapewrightlaw09_ReadDims.s5 (ds', w0 ++ ws') := by
      intro w hw
      have hnw : numS w = some ((k % 100 : Nat) : Int) := by unfold numS; rw [hw]; exact digs_num hk100
      have hlw : w.data.toList.length ≤ 2 := by rw [hw]; unfold dig2; split <;> simp
      obtain ⟨ds', ws', g1, g2, g3, g4⟩ := ih w (nums_snoc ws ds w _ hn hnw) (fun x hx => by
        rcases List.mem_append.1 hx with h | h
        · exact hsz x h
        · rw [List.mem_singleton] at h; subst h; exact hlw)
      rw [← List.append_assoc] at g4
      exact ⟨ds', ws', g1, g2, g3, g4⟩
    have hwl : (w0 ++ ws).length ≤ i + 2 := by rw [List.length_append]; omega
    by_cases c9 : ((k % 100 : Nat) : Int) > 9
    · rw [if_pos c9] at f2
      obtain ⟨ds', ws', g1, g2, g3, g4⟩ := go _ f2
      refine ⟨ds', ws', g1, g2, g3, EvG.loop ?_⟩
      unfold wordT wordH at *
      simp only [Tf.tapewrightlaw09_ReadDims.s5, bif_if, decide_eq_true_eq, inR_iff, rd_def, hw, Nat.ble_eq, set_oneB, set_one, hrd, f1] at *
      refine EvG.pos (by omega) (EvG.pos (by omega) (EvG.pos c9 (EvG.pos (by omega) (EvG.pos (by omega) (EvG.pos (by omega) g4)))))
    · rw [if_neg c9] at f2
      obtain ⟨ds', ws', g1, g2, g3, g4⟩ := go _ f2
      refine ⟨ds', ws', g1, g2, g3, EvG.loop ?_⟩
      unfold wordT wordH at *
      simp only [Tf.tapewrightlaw09_ReadDims.s5, bif_if, decide_eq_true_eq, inR_iff, rd_def, hw, Nat.ble_eq, set_oneB, set_one, hrd, f1] at *
      refine EvG.pos (by omega) (EvG.pos (by omega) (EvG.neg c9 (EvG.pos (by omega) (EvG.pos (by omega) g4))))
theorem set_twoW (a b : ByteArray) : ((List.replicate 2 ByteArray.empty).set 0 a).set 1 b = [a, b] := rfl
/-- ReadDims answers true. -/
theorem ReadDims_ev (l : List Int) (hw : ∀ n ∈ l, (Lit.int .u8 n).wf = true) : Ev (fun F => Tf.tapewrightlaw09_ReadDims.f F l) true := by
  have aw := Ev_ret readAwake_ev
  have hb : ∀ n ∈ l, 0 ≤ n ∧ n ≤ 255 := fun n hn => by
    have := hw n hn
    simp [Lit.wf, IntKind.min, IntKind.max, IntKind.signed, IntKind.bits] at this
    omega
  simp only [Tf.tapewrightlaw09_ReadDims.f, bif_if, decide_eq_true_eq, beq_iff_eq, Bool.not_eq_true', set_twoW]
  refine EvIf (fun _ => aw) (fun h10 => ?_)
  obtain ⟨ds, ws, g1, g2, g3, g4⟩ := rd_l5 l (by omega) hb [⟨#[112, 97, 114, 97, 109]⟩, ⟨#[119]⟩] (by simp) l.length 0 [] [] (by omega) rfl (by simp) rfl (by simp)
  rw [List.append_nil] at g4
  have hwl : ws.length = ds.length := (numsS_len g1).symm
  have hs : shortW ([⟨#[112, 97, 114, 97, 109]⟩, ⟨#[119]⟩] ++ ws) := fun w hx => by
    rcases List.mem_append.1 hx with h | h
    · simp at h; rcases h with rfl | rfl <;> decide
    · have := g3 w h; omega
  have hp : parseV ([⟨#[112, 97, 114, 97, 109]⟩, ⟨#[119]⟩] ++ ws) = if rightS ds = true then some ⟨⟨#[119]⟩, oParam, [], ds, emB, 0, []⟩ else none := by
    show parseV (oParam :: ⟨#[119]⟩ :: ws) = _
    rw [parseV_cons, if_neg (by decide +kernel), if_pos (by decide +kernel), if_pos (.inl (by decide +kernel)), g1, Option.bind_some]
  have hpe : Ev (fun F => Tf.read_Parse.f F ⟨1, [⟨#[112, 97, 114, 97, 109]⟩, ⟨#[119]⟩] ++ ws⟩) (match parseV ([⟨#[112, 97, 114, 97, 109]⟩, ⟨#[119]⟩] ++ ws) with | some s => (s, 0) | none => (stmtZ, 2)) := read_parse_ev ⟨1, _⟩ (by show (_ ++ ws).length ≤ 2000; simp; omega) hs
  rw [hp] at hpe
  refine Ev.bind (Ev.iter g4) ?_
  cases hr : rightS ds with
  | false =>
    rw [hr] at hpe
    have hre := right_ev ds
    rw [hr] at hre
    exact Ev.bind hpe (Ev.bind hre (Ev_pos rfl (Ev_pos (by show seqB emB ⟨#[]⟩ = true; decide +kernel) (Ev_pos rfl aw))))
  | true =>
    rw [hr] at hpe
    have hre := right_ev ds
    rw [hr] at hre
    exact Ev.bind hpe (Ev.bind hre (Ev_neg (by simp) (Ev_pos (by show seqB ⟨#[119]⟩ ⟨#[119]⟩ = true; decide +kernel) (Ev_pos (by show seqB oParam oParam = true; decide +kernel) (Ev.bind (same_ev ds ds (by omega)) (Ev_pos (by simp) (Ev_pos rfl aw)))))))
end Go.PL
namespace Go.Proofs.YtffpponklejidaaGreatDoor.readDims
open Go.ChangeShapes Go.WideShapes Go.ChangeAt Go.RowKit Go.VI
theorem laidOut : laidOutB Tryz.prog = true := by kernel_rfl
theorem own : ownKnob Tryz.prog.godebug = none := by kernel_rfl
set_option maxRecDepth 100000 in
theorem g0 {W : World} (hL : laidMetH Tryz.prog Rows.readDimsRow.laid W) : ∃ t u, W.cell? ⟨0, 0, none⟩ = some (.iface t u) := by
  have h1 := hL.filter (fun x => x.1 == "tapewright/rat.errForm")
  have h2 : laidMet Tryz.prog [("tapewright/rat.errForm", Rows.laid_tapewright_rat_errForm)] W := by
    have e : (Rows.readDimsRow.laid.filter (fun x => x.1 == "tapewright/rat.errForm")) = [("tapewright/rat.errForm", Rows.laid_tapewright_rat_errForm)] := by rfl
    rw [e, MakeChecks.laidMetH_plain _ _ _ (by kernel_rfl)] at h1
    exact h1
  obtain ⟨ps, ⟨g, t, cs, fuel, p, q, hg, ht, hv, hd, _, e0⟩, _, hrows⟩ := h2
  have hg' : Tryz.prog.globalNamed "tapewright/rat.errForm" = some 0 := by kernel_rfl
  obtain rfl := Option.some.inj (hg'.symm.trans hg)
  have ht' : (Tryz.prog.globals[0]?).map (·.type) = some 82 := by kernel_rfl
  obtain rfl := Option.some.inj (ht'.symm.trans ht)
  have hu := Tryz.underlying82
  unfold Rows.laid_tapewright_rat_errForm at hd
  rcases fuel with _ | fuel
  · simp [DataW.trod] at hd
  · unfold DataW.trod at hd
    rw [hu] at hd
    have hc := World.var?_cell hg' hv 0
    obtain ⟨l⟩ := cs
    match l, hd, hc with
    | [.iface T v], hd, hc => exact ⟨T, v, by simpa using hc⟩
    | [.nilIface], hd, _ => simp at hd
set_option maxRecDepth 100000 in
theorem g3 {W : World} (hL : laidMetH Tryz.prog Rows.readDimsRow.laid W) : ∃ t u, W.cell? ⟨3, 0, none⟩ = some (.iface t u) := by
  have h1 := hL.filter (fun x => x.1 == "tapewright/rat.errZero")
  have h2 : laidMet Tryz.prog [("tapewright/rat.errZero", Rows.laid_tapewright_rat_errZero)] W := by
    have e : (Rows.readDimsRow.laid.filter (fun x => x.1 == "tapewright/rat.errZero")) = [("tapewright/rat.errZero", Rows.laid_tapewright_rat_errZero)] := by rfl
    rw [e, MakeChecks.laidMetH_plain _ _ _ (by kernel_rfl)] at h1
    exact h1
  obtain ⟨ps, ⟨g, t, cs, fuel, p, q, hg, ht, hv, hd, _, e0⟩, _, hrows⟩ := h2
  have hg' : Tryz.prog.globalNamed "tapewright/rat.errZero" = some 3 := by kernel_rfl
  obtain rfl := Option.some.inj (hg'.symm.trans hg)
  have ht' : (Tryz.prog.globals[3]?).map (·.type) = some 82 := by kernel_rfl
  obtain rfl := Option.some.inj (ht'.symm.trans ht)
  have hu := Tryz.underlying82
  unfold Rows.laid_tapewright_rat_errZero at hd
  rcases fuel with _ | fuel
  · simp [DataW.trod] at hd
  · unfold DataW.trod at hd
    rw [hu] at hd
    have hc := World.var?_cell hg' hv 0
    obtain ⟨l⟩ := cs
    match l, hd, hc with
    | [.iface T v], hd, hc => exact ⟨T, v, by simpa using hc⟩
    | [.nilIface], hd, _ => simp at hd
set_option maxRecDepth 100000 in
theorem g4 {W : World} (hL : laidMetH Tryz.prog Rows.readDimsRow.laid W) : ∃ t u, W.cell? ⟨4, 0, none⟩ = some (.iface t u) := by
  have h1 := hL.filter (fun x => x.1 == "strconv.ErrSyntax")
  have h2 : laidMet Tryz.prog [("strconv.ErrSyntax", Rows.laid_strconv_ErrSyntax)] W := by
    have e : (Rows.readDimsRow.laid.filter (fun x => x.1 == "strconv.ErrSyntax")) = [("strconv.ErrSyntax", Rows.laid_strconv_ErrSyntax)] := by rfl
    rw [e, MakeChecks.laidMetH_plain _ _ _ (by kernel_rfl)] at h1
    exact h1
  obtain ⟨ps, ⟨g, t, cs, fuel, p, q, hg, ht, hv, hd, _, e0⟩, _, hrows⟩ := h2
  have hg' : Tryz.prog.globalNamed "strconv.ErrSyntax" = some 4 := by kernel_rfl
  obtain rfl := Option.some.inj (hg'.symm.trans hg)
  have ht' : (Tryz.prog.globals[4]?).map (·.type) = some 82 := by kernel_rfl
  obtain rfl := Option.some.inj (ht'.symm.trans ht)
  have hu := Tryz.underlying82
  unfold Rows.laid_strconv_ErrSyntax at hd
  rcases fuel with _ | fuel
  · simp [DataW.trod] at hd
  · unfold DataW.trod at hd
    rw [hu] at hd
    have hc := World.var?_cell hg' hv 0
    obtain ⟨l⟩ := cs
    match l, hd, hc with
    | [.iface T v], hd, hc => exact ⟨T, v, by simpa using hc⟩
    | [.nilIface], hd, _ => simp at hd
set_option maxRecDepth 100000 in
theorem g5 {W : World} (hL : laidMetH Tryz.prog Rows.readDimsRow.laid W) : ∃ t u, W.cell? ⟨5, 0, none⟩ = some (.iface t u) := by
  have h1 := hL.filter (fun x => x.1 == "strconv.ErrRange")
  have h2 : laidMet Tryz.prog [("strconv.ErrRange", Rows.laid_strconv_ErrRange)] W := by
    have e : (Rows.readDimsRow.laid.filter (fun x => x.1 == "strconv.ErrRange")) = [("strconv.ErrRange", Rows.laid_strconv_ErrRange)] := by rfl
    rw [e, MakeChecks.laidMetH_plain _ _ _ (by kernel_rfl)] at h1
    exact h1
  obtain ⟨ps, ⟨g, t, cs, fuel, p, q, hg, ht, hv, hd, _, e0⟩, _, hrows⟩ := h2
  have hg' : Tryz.prog.globalNamed "strconv.ErrRange" = some 5 := by kernel_rfl
  obtain rfl := Option.some.inj (hg'.symm.trans hg)
  have ht' : (Tryz.prog.globals[5]?).map (·.type) = some 82 := by kernel_rfl
  obtain rfl := Option.some.inj (ht'.symm.trans ht)
  have hu := Tryz.underlying82
  unfold Rows.laid_strconv_ErrRange at hd
  rcases fuel with _ | fuel
  · simp [DataW.trod] at hd
  · unfold DataW.trod at hd
    rw [hu] at hd
    have hc := World.var?_cell hg' hv 0
    obtain ⟨l⟩ := cs
    match l, hd, hc with
    | [.iface T v], hd, hc => exact ⟨T, v, by simpa using hc⟩
    | [.nilIface], hd, _ => simp at hd
theorem gok {W : World} (hL : laidMetH Tryz.prog Rows.readDimsRow.laid W) : ∀ g ∈ Go.VI.tyT.G, ∃ t u, W.cell? ⟨g, 0, none⟩ = some (.iface t u) := by
  intro g hg
  change g ∈ [0, 3, 4, 5] at hg
  simp only [List.mem_cons, List.not_mem_nil, or_false] at hg
  rcases hg with rfl | rfl | rfl | rfl
  · exact g0 hL
  · exact g3 hL
  · exact g4 hL
  · exact g5 hL
set_option maxRecDepth 100000 in
theorem lifted (os : Os) (started : os.Started) (H : Type) (enc : TypeId × Value → H) :
    ReturnsInHanded {} Tryz.checked os 7 .any (fun w args => (Rows.readDimsSpec.pre enc Tryz.prog Tryz.f7 Rows.readDimsRow.domain false w args ∧ laidMetH Tryz.prog Rows.readDimsRow.laid w) ∧ sizedMet enc Tryz.prog Tryz.f7 (OpenSpec.ofChange Rows.readDimsSpec) false w args) (Rows.readDimsSpec.post enc Tryz.prog Tryz.f7 false true false false) := by
  refine returnsInHanded_of_change_and (C := Tryz.checked) (X := fun w _ => laidMetH Tryz.prog Rows.readDimsRow.laid w) (fun _ _ _ hh h => h.of_heap hh) own started (by kernel_rfl) Tryz.func7
    (ChangeSpec.witness_shaped (enc := enc) (C := Tryz.checked) (os := os) (X := fun w _ => laidMetH Tryz.prog Rows.readDimsRow.laid w) false (World.laidAll Tryz.prog os Rows.readDimsRow.laid) #[.slice none 0 0] 8 (World.laidAll_os _ _ _)
      (World.shaped_of_ZipB (by kernel_rfl) (by kernel_rfl)) (by kernel_rfl) (by kernel_rfl) (by kernel_rfl)
      (by rw [MakeChecks.laidMetH_plain _ _ _ (by kernel_rfl)]; exact laidMet_laidAll _ (by kernel_rfl) (by kernel_rfl))) ?_
  intro W base args ds gs before hval0 hW hcnd hsz0 hL _
  have hval : ∀ (j : Nat) t v, Tryz.f7.params[j]? = some t → args[j]? = some v → Value.okWide Tryz.prog W .any base t v := hval0
  have hW' := hW
  obtain ⟨p, q, hA0, hV, rfl, hfz, hnd⟩ := hW
  have hA : DataW.TrodAll enc Tryz.prog W 0 (fun _ => true) true Tryz.f7.params.toList args.toList ds p := hA0
  rw [Tryz.params7] at hA hval
  obtain ⟨v0, vs0, d0, ds0, p0, q0, hargs, rfl, rfl, h0, r0⟩ := trodAll_cons hA
  obtain ⟨rfl, rfl, rfl⟩ := trodAll_nil r0
  obtain rfl : args = #[v0] := by cases args; simp_all
  obtain ⟨rfl, rfl⟩ := trodVars_none hV
  have lt0 : ∀ x ∈ p0, x.block < W.heap.size := by obtain ⟨m, hm⟩ := h0; exact DataW.trod_lt m _ _ _ hm
  obtain ⟨y0, f0, e0⟩ := argBytes.run (hval 0 44 v0 rfl rfl) h0
  clear hA0 hval0 hsz0
  obtain ⟨k, hk⟩ := (Go.PL.ReadDims_ev y0 f0).rounds
  refine (run_law (Tf.tapewrightlaw09_ReadDims.ok k) rfl (a := y0) rfl rfl hk (w := W) (vals := [v0]) rfl (fun i v x hv hx => ?_) (gok hL)).mono fun e W' ⟨he, bel⟩ => ?_
  · match i, hv, hx with
    | 0, hv, hx => cases hv; cases hx; exact e0
    | _ + 1, hv, hx => cases hx
  subst he
  exact ⟨_, rfl, _, _, _, [], _, [], hW', trodAll_mk1 (shut_bool Tryz.underlying4 _), (trodAll_cons_mk (Below.trod laidOut (by kernel_rfl) (of_decide_eq_true (by kernel_rfl)) h0 bel lt0) trodAll_mk0), rfl, bel.frame _, fun h => by cases h⟩
theorem over : Rows.readDimsRow.holds Tryz.pinned (OpenSpec.ofChange Rows.readDimsSpec) :=
  OpenClaim.holds_of_wide 7 Tryz.f7 rfl rfl rfl rfl rfl rfl rfl ⟨rfl, rfl, rfl, rfl, rfl⟩ rfl rfl rfl rfl rfl (by kernel_rfl) Tryz.func7 (by kernel_rfl)
    (of_decide_eq_true (by kernel_rfl)) (by unfold Func.isWrapper; first | (rw [if_pos (by decide +kernel)]; kernel_rfl) | (rw [if_neg (by decide +kernel)]; exact ⟨rfl, rfl⟩))
    (fun os started H enc _ => lifted os started H enc)
theorem card : Rows.ReadDimsCardSaid :=
  Claim7.holds_tied_plain_at .later [] [.data, .data, .data, .data, .sentinel, .sentinel, .sentinel, .sentinel, .pinned] true (true, "fb1af7536014a3cfc210cf11ea8a697b3eff81a37a579b7a3656a0efa6388bcc") true over (fun _ h => by cases h) (by kernel_rfl) (fun _ h => by cases h) readDims_row_tie rfl ⟨rfl, rfl⟩ (by kernel_rfl) rfl
    (fun f fn hf hfn => by
      obtain rfl : f = 7 := Option.some.inj ((show Tryz.prog.funcNamed "tapewright/tapewrightlaw09.ReadDims" = some 7 by kernel_rfl).symm.trans hf) |>.symm
      obtain rfl : fn = Tryz.f7 := (Option.some.inj (Tryz.func7.symm.trans hfn)).symm
      exact ⟨by kernel_rfl, fun j t ht => by
        rw [Tryz.params7] at ht
        have hm : t ∈ [44] := by have := Array.mem_of_getElem? ht; simpa using this
        have hall : ([44].all fun u => !Tryz.prog.wantsStandIn u) = true := by kernel_rfl
        exact (show Tryz.prog.wantsStandIn t = false by simpa using List.all_eq_true.1 hall t hm)⟩)
    (by kernel_rfl)
end Go.Proofs.YtffpponklejidaaGreatDoor.readDims
namespace Go.Proofs.YtffpponklejidaaGreatDoor
/-- The card, under a short name, for the claim. -/
theorem readDims_card_holds : Rows.ReadDimsCardSaid := readDims.card
#print axioms readDims_card_holds
end Go.Proofs.YtffpponklejidaaGreatDoor
