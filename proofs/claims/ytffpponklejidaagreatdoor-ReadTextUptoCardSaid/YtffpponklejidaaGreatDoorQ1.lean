import Derived.Test.YtffpponklejidaaGreatDoorQ0
import Derived.Test.YtffpponklejidaaGreatDoorRows
set_option linter.unusedVariables false
set_option linter.unusedSimpArgs false
namespace Go.PL
open Go Go.VI
def kindV (op : ByteArray) : Int × Int :=
  if inL op twoL = true then (2, 0) else if inL op oneL = true then (1, 0) else if seqB op oScale = true then (1, 1) else if seqB op oPower = true then (1, 2) else if inL op resL = true then (1, 3) else (0, 0)
theorem kind_l2 (op : ByteArray) (ws : List ByteArray) (hwl : ws.length ≤ 1000) : ∀ (d j : Nat), j + d = ws.length →
    EvG (fun _ L => L ((j : Int), (op, (ws, (ws.length : Int))))) Tf.tapewrightref09_kind.s2 (if inL op (ws.drop j) = true then (.inl (2, 0) : (Int × Int) ⊕ ByteArray) else .inr op) := by
  intro d
  induction d with
  | zero =>
    intro j hj
    rw [List.drop_eq_nil_of_le (by omega), if_neg (by simp [inL])]
    refine EvG.step (fun F L => ?_) (EvG.now _)
    dsimp only [Tf.tapewrightref09_kind.s2]
    simp only [bif_if, decide_eq_true_eq]
    rw [if_neg (by omega)]
  | succ d ih =>
    intro j hj
    have hi := ih (j + 1) (by omega)
    rw [rinL_drop op ws j (by omega)]
    have e0 : ws.getD (j : Int).toNat (dflt 4) = ws.getD j (dflt 4) := by rw [Int.toNat_natCast]
    by_cases c : seqB (ws.getD j (dflt 4)) op = true
    · rw [c, if_pos (by simp)]
      refine EvG.step (fun F L => ?_) (EvG.now _)
      dsimp only [Tf.tapewrightref09_kind.s2]
      simp only [bif_if, decide_eq_true_eq, inR_iff, e0]
      rw [if_pos (by omega), if_pos (by omega), if_pos c]
    · rw [Bool.not_eq_true] at c
      rw [c, Bool.false_or]
      refine EvG.step (fun F L => ?_) hi
      dsimp only [Tf.tapewrightref09_kind.s2]
      simp only [bif_if, decide_eq_true_eq, inR_iff, e0]
      rw [if_pos (by omega), if_pos (by omega), c, if_neg (by simp), w64 (by omega) (by omega), succ_cast]
theorem kind_l8 (op : ByteArray) (ws : List ByteArray) (hwl : ws.length ≤ 1000) : ∀ (d j : Nat), j + d = ws.length →
    EvG (fun _ L => L ((j : Int), (op, (ws, (ws.length : Int))))) Tf.tapewrightref09_kind.s8 (if inL op (ws.drop j) = true then (.inl (1, 0) : (Int × Int) ⊕ ByteArray) else .inr op) := by
  intro d
  induction d with
  | zero =>
    intro j hj
    rw [List.drop_eq_nil_of_le (by omega), if_neg (by simp [inL])]
    refine EvG.step (fun F L => ?_) (EvG.now _)
    dsimp only [Tf.tapewrightref09_kind.s8]
    simp only [bif_if, decide_eq_true_eq]
    rw [if_neg (by omega)]
  | succ d ih =>
    intro j hj
    have hi := ih (j + 1) (by omega)
    rw [rinL_drop op ws j (by omega)]
    have e0 : ws.getD (j : Int).toNat (dflt 4) = ws.getD j (dflt 4) := by rw [Int.toNat_natCast]
    by_cases c : seqB (ws.getD j (dflt 4)) op = true
    · rw [c, if_pos (by simp)]
      refine EvG.step (fun F L => ?_) (EvG.now _)
      dsimp only [Tf.tapewrightref09_kind.s8]
      simp only [bif_if, decide_eq_true_eq, inR_iff, e0]
      rw [if_pos (by omega), if_pos (by omega), if_pos c]
    · rw [Bool.not_eq_true] at c
      rw [c, Bool.false_or]
      refine EvG.step (fun F L => ?_) hi
      dsimp only [Tf.tapewrightref09_kind.s8]
      simp only [bif_if, decide_eq_true_eq, inR_iff, e0]
      rw [if_pos (by omega), if_pos (by omega), c, if_neg (by simp), w64 (by omega) (by omega), succ_cast]
theorem kind_ev (op : ByteArray) : Ev (fun F => Tf.tapewrightref09_kind.f F op) (kindV op) := by
  simp only [Tf.tapewrightref09_kind.f, bif_if]
  have h2 := kind_l2 op twoL (by decide) 6 0 (by decide)
  have h8 := kind_l8 op oneL (by decide) 6 0 (by decide)
  rw [List.drop_zero] at h2 h8
  unfold kindV
  refine Ev.bind (Ev.iter h2) ?_
  by_cases c2 : inL op twoL = true
  · rw [if_pos c2, if_pos c2]; exact Ev.now _
  rw [if_neg c2, if_neg c2]
  refine Ev.bind (Ev.iter h8) ?_
  by_cases c1 : inL op oneL = true
  · rw [if_pos c1, if_pos c1]; exact Ev.now _
  rw [if_neg c1, if_neg c1]
  refine EvIf (fun h => Ev.eq (if_pos h)) (fun h => ?_)
  rw [if_neg h]
  refine EvIf (fun h => Ev.eq (if_pos h)) (fun h => ?_)
  rw [if_neg h]
  refine EvIf (fun h => Ev.eq (if_pos (inL_of h (by decide +kernel)))) (fun h => ?_)
  refine EvIf (fun h => Ev.eq (if_pos (inL_of h (by decide +kernel)))) (fun h' => Ev.eq (if_neg ?_))
  simp only [inL, resL, List.any_cons, List.any_nil]
  simp [h, h']
theorem rpn_go (w0 op : ByteArray) (args w : List ByteArray) (bh : Int) (hal : args.length ≤ 1000) (hs : shortW args) : ∀ (d i : Nat), i + d = args.length →
    EvG (fun _ L => L (emB, (emB, ((), ((), (emB, (0, ((), ((i : Int), (w0, (op, (args, ((), (emB, (0, ((), (bh, ((args.length : Int), w)))))))))))))))))) Tf.tapewrightref09_Parse.s7
      (if (args.drop i).all nmB = true then .inr (emB, (emB, ((), ((), (emB, (0, ((), (w0, (op, (args, ((), (emB, (0, ((), (bh, ((args.length : Int), w)))))))))))))))) else .inl (emB, (emB, ((), ((), (emB, (0, ((), false)))))))) := by
  intro d
  induction d with
  | zero =>
    intro i hi
    rw [List.drop_eq_nil_of_le (by omega), if_pos (show ([] : List ByteArray).all nmB = true from rfl)]
    refine EvG.step (fun F L => ?_) (EvG.now _)
    dsimp only [Tf.tapewrightref09_Parse.s7]
    simp only [bif_if, decide_eq_true_eq]
    rw [if_neg (by omega)]
  | succ d ih =>
    intro i hi
    have hlt : i < args.length := by omega
    have eg := getD_at args i hlt
    have hm := hs _ (List.getElem_mem hlt)
    have hw : IntKind.i64.wrap ((i : Int) + 1) = ((i + 1 : Nat) : Int) := by rw [w64 (by omega) (by omega), succ_cast]
    have h2 := ih (i + 1) (by omega)
    rw [List.drop_eq_getElem_cons hlt, List.all_cons]
    generalize args[i] = s at *
    have hn := rname_ev s (by omega)
    refine EvG.loop ?_
    simp only [Tf.tapewrightref09_Parse.s7, bif_if, decide_eq_true_eq, inR_iff, eg, hw, Bool.not_eq_true']
    refine EvG.pos (by omega) (EvG.pos (by omega) (EvG.bind hn ?_))
    show EvG (fun F L => if nmB s = false then _ else _) _ _
    cases hr : nmB s with
    | true => rw [Bool.true_and]; exact EvG.neg (by simp) h2
    | false => rw [Bool.false_and, if_neg (by simp)]; exact EvG.pos rfl (EvG.now _)
/-- What the walk over a const's words tells. -/
def CR (res : (ByteArray × (ByteArray × (Unit × ((List Int) × (ByteArray × (Int × ((List ByteArray) × Bool))))))) ⊕ (ByteArray × (ByteArray × (Unit × (Unit × (ByteArray × (Int × Unit))))))) (p : Option VI.Stmt) : Prop :=
  (∃ s : VI.Stmt, p = some s ∧ s.args = [] ∧ res = .inl (s.name, (s.op, ((), (s.dims, (s.k, (s.n, (s.data, true)))))))) ∨
  (p = none ∧ (res = .inl (emB, (emB, ((), ([], (emB, (0, ([], false))))))) ∨ res = .inr (emB, (emB, ((), ((), (emB, (0, ()))))))))
theorem rpc_go (w0 w1 : ByteArray) (r : List ByteArray) (hl : r.length ≤ 2000000) (hs : shortW r) : ∀ (d i : Nat), i + d = r.length → idxE r = (idxE (r.drop i)).map (· + i) →
    ∃ res, CR res (constV w1 r) ∧ EvG (fun _ L => L (emB, (emB, ((), ((), (emB, (0, ((), ((w0 :: w1 :: r), ((i + 2 : Nat) : Int)))))))))) Tf.tapewrightref09_Parse.s39 res := by
  intro d
  induction d with
  | zero =>
    intro i hi hx
    rw [List.drop_eq_nil_of_le (by omega)] at hx
    refine ⟨_, .inr ⟨by unfold constV; rw [hx]; rfl, .inr rfl⟩, EvG.step (fun F L => ?_) (EvG.now _)⟩
    dsimp only [Tf.tapewrightref09_Parse.s39]
    simp only [bif_if, decide_eq_true_eq, List.length_cons]
    rw [if_neg (by omega)]
  | succ d ih =>
    intro i hi hx
    have hlt : i < r.length := by omega
    have hlen : (w0 :: w1 :: r).length = r.length + 2 := rfl
    have eg : (w0 :: w1 :: r).getD ((i + 2 : Nat) : Int).toNat (dflt 4) = r[i] := by rw [Int.toNat_natCast]; simp [List.getD_eq_getElem?_getD, hlt]
    have hw : IntKind.i64.wrap (((i + 2 : Nat) : Int) + 1) = ((i + 3 : Nat) : Int) := by rw [w64 (by omega) (by omega)]; omega
    have ih := ih (i + 1) (by omega)
    rw [List.drop_eq_getElem_cons hlt, idxE] at hx
    have ht : ((w0 :: w1 :: r).take ((i + 2 : Nat) : Int).toNat).drop 2 = r.take i := by rw [Int.toNat_natCast]; rfl
    have hdr : (w0 :: w1 :: r).drop ((i + 3 : Nat) : Int).toNat = r.drop (i + 1) := by rw [Int.toNat_natCast]; rfl
    by_cases c : seqB r[i] eqB = true
    · rw [if_pos c] at hx
      have hx : idxE r = some i := by rw [hx]; simp
      have hcv : constV w1 r = (numsS (r.take i)).bind fun d => if rightS d = true ∧ ((r.drop (i + 1)).length : Int) = prodI d ∧ (r.drop (i + 1)).all ratB = true then some ⟨w1, oConst, [], d, emB, 0, r.drop (i + 1)⟩ else none := by unfold constV; rw [hx, Option.bind_some]
      have hd := rdims_ev (r.take i) (by rw [List.length_take]; omega) (fun s h => hs s (List.mem_of_mem_take h))
      have hrt := rats_ev (r.drop (i + 1)) (by rw [List.length_drop]; omega) (fun s h => hs s (List.mem_of_mem_drop h))
      have open_ : ∀ res, EvG (fun F L => (Tf.tapewrightref09_dims.f F (r.take i)).bind fun y63 => if 0 ≤ ((i + 3 : Nat) : Int) ∧ ((i + 3 : Nat) : Int) ≤ ((w0 :: w1 :: r).length : Int) then if y63.2 = false then some (.inl (emB, (emB, ((), ([], (emB, (0, ([], false)))))))) else (Tf.tapewrightref04_Size.f F y63.1).bind fun y81 => if ((r.drop (i + 1)).length : Int) ≠ y81 then some (.inl (emB, (emB, ((), ([], (emB, (0, ([], false)))))))) else (Tf.tapewrightref09_rationals.f F (r.drop (i + 1))).bind fun y87 => if y87 = false then some (.inl (emB, (emB, ((), ([], (emB, (0, ([], false)))))))) else if (0 : Int) ≤ 1 ∧ (1 : Int) < ((w0 :: w1 :: r).length : Int) then some (.inl (w1, (oConst, ((), (y63.1, (emB, (0, (r.drop (i + 1), true)))))))) else none else none) Tf.tapewrightref09_Parse.s39 res →
          EvG (fun _ L => L (emB, (emB, ((), ((), (emB, (0, ((), ((w0 :: w1 :: r), ((i + 2 : Nat) : Int)))))))))) Tf.tapewrightref09_Parse.s39 res := by
        intro res h
        refine EvG.loop ?_
        simp only [Tf.tapewrightref09_Parse.s39, bif_if, decide_eq_true_eq, inR_iff, eg, hw, Bool.not_eq_true', Bool.and_eq_true, Bool.true_and, take_len, ht, hdr, bne_iff_ne, List.getD_cons_zero, List.getD_cons_succ]
        exact EvG.pos (by omega) (EvG.pos (by omega) (EvG.pos c (EvG.pos (by omega) (EvG.pos (by omega) h))))
      rw [hcv]
      cases hn : numsS (r.take i) with
      | none =>
        rw [hn] at hd
        exact ⟨_, .inr ⟨rfl, .inl rfl⟩, open_ _ (EvG.bind hd (EvG.pos (by omega) (EvG.pos rfl (EvG.now _))))⟩
      | some ds =>
        rw [hn] at hd
        rw [Option.bind_some]
        by_cases cr : rightS ds = true
        · by_cases c2 : ((r.drop (i + 1)).length : Int) = prodI ds
          · by_cases c3 : (r.drop (i + 1)).all ratB = true
            · refine ⟨_, .inl ⟨_, if_pos ⟨cr, c2, c3⟩, rfl, rfl⟩, open_ _ (EvG.bind hd (EvG.pos (by omega) (EvG.neg (by simp [cr]) (EvG.bind (rsize_ev ds cr) (EvG.neg (by omega) (EvG.bind hrt (EvG.neg (by simp [c3]) (EvG.pos (by omega) (EvG.now _))))))))) ⟩
            · refine ⟨_, .inr ⟨if_neg (fun q => c3 q.2.2), .inl rfl⟩, open_ _ (EvG.bind hd (EvG.pos (by omega) (EvG.neg (by simp [cr]) (EvG.bind (rsize_ev ds cr) (EvG.neg (by omega) (EvG.bind hrt (EvG.pos (by simpa using c3) (EvG.now _))))))))⟩
          · exact ⟨_, .inr ⟨if_neg (fun q => c2 q.2.1), .inl rfl⟩, open_ _ (EvG.bind hd (EvG.pos (by omega) (EvG.neg (by simp [cr]) (EvG.bind (rsize_ev ds cr) (EvG.pos c2 (EvG.now _))))))⟩
        · exact ⟨_, .inr ⟨if_neg (fun q => cr q.1), .inl rfl⟩, open_ _ (EvG.bind hd (EvG.pos (by omega) (EvG.pos (by simpa using cr) (EvG.now _))))⟩
    · rw [if_neg c] at hx
      obtain ⟨res, h1, h2⟩ := ih (by rw [hx, Option.map_map]; congr 1; funext k; simp; omega)
      refine ⟨res, h1, EvG.loop ?_⟩
      simp only [Tf.tapewrightref09_Parse.s39, bif_if, decide_eq_true_eq, inR_iff, eg, hw]
      have e3 : ((i + 1 + 2 : Nat) : Int) = ((i + 3 : Nat) : Int) := by omega
      rw [e3] at h2
      exact EvG.pos (by omega) (EvG.pos (by omega) (EvG.neg c h2))
end Go.PL
namespace Go.PL
open Go Go.VI
theorem tw_self {p : UInt8 → Bool} : ∀ {l : List UInt8}, (∀ b ∈ l, p b = true) → l.takeWhile p = l
  | [], _ => rfl
  | x :: l, h => by rw [List.takeWhile_cons, if_pos (h x (by simp)), tw_self (fun b hb => h b (by simp [hb]))]
theorem set_oneBq (x : ByteArray) : (List.replicate 1 ByteArray.empty).set 0 x = [x] := rfl
def bL (l : List UInt8) : ByteArray := ⟨l.toArray⟩
theorem bL_list (l : List UInt8) : (bL l).data.toList = l := by simp [bL]
theorem bL_of (s : ByteArray) : bL s.data.toList = s := ba_mk s
/-- The pieces between signs. -/
def spl (c : UInt8) : List UInt8 → List (List UInt8)
  | [] => [[]]
  | x :: r => if x = c then [] :: spl c r else match spl c r with
    | h :: t => (x :: h) :: t
    | [] => [[x]]
theorem spl_ne (c : UInt8) : ∀ l, spl c l ≠ []
  | [] => by simp [spl]
  | x :: r => by
    unfold spl
    split
    · simp
    · split <;> simp
theorem spl_cons (c x : UInt8) (r : List UInt8) (h : x ≠ c) : ∃ p q, spl c r = p :: q ∧ spl c (x :: r) = (x :: p) :: q := by
  cases hs : spl c r with
  | nil => exact absurd hs (spl_ne c r)
  | cons p q => exact ⟨p, q, rfl, by rw [spl, if_neg h, hs]⟩
theorem spl_word (c : UInt8) : ∀ (w q : List UInt8), (∀ b ∈ w, b ≠ c) → spl c (w ++ c :: q) = w :: spl c q
  | [], q, _ => by rw [List.nil_append, spl, if_pos rfl]
  | x :: w, q, h => by
    have ih := spl_word c w q (fun b hb => h b (by simp [hb]))
    rw [List.cons_append, spl, if_neg (h x (by simp)), ih]
theorem spl_one (c : UInt8) : ∀ (w : List UInt8), (∀ b ∈ w, b ≠ c) → spl c w = [w]
  | [], _ => rfl
  | x :: w, h => by
    have ih := spl_one c w (fun b hb => h b (by simp [hb]))
    rw [spl, if_neg (h x (by simp)), ih]
theorem idx_split : ∀ (l : List UInt8) (c : UInt8), (Go.Lib.indexByte l c = -1 ∧ ∀ b ∈ l, b ≠ c) ∨ ∃ w q, Go.Lib.indexByte l c = (w.length : Int) ∧ l = w ++ c :: q ∧ ∀ b ∈ w, b ≠ c
  | [], c => .inl ⟨rfl, by simp⟩
  | x :: l, c => by
    unfold Go.Lib.indexByte
    by_cases hx : x = c
    · right
      exact ⟨[], l, by simp [hx], by simp [hx], by simp⟩
    · have hb : (x == c) = false := by simpa using hx
      rw [hb]
      rcases idx_split l c with ⟨h1, h2⟩ | ⟨w, q, h1, h2, h3⟩
      · left
        refine ⟨by rw [h1]; rfl, fun b hb => ?_⟩
        rcases List.mem_cons.1 hb with rfl | h
        · exact hx
        · exact h2 b h
      · right
        refine ⟨x :: w, q, ?_, by rw [h2]; rfl, fun b hb => ?_⟩
        · rw [h1]
          have : ((w.length : Int) == -1) = false := by simp
          rw [if_neg (by simp), if_neg (by simp)]
          simp
        · rcases List.mem_cons.1 hb with rfl | h
          · exact hx
          · exact h3 b h
theorem spl_count (c : UInt8) : ∀ l, (spl c l).length = l.count c + 1
  | [] => rfl
  | x :: r => by
    have ih := spl_count c r
    by_cases h : x = c
    · rw [spl, if_pos h, List.length_cons, ih, h]; simp
    · obtain ⟨p, q, h1, h2⟩ := spl_cons c x r h
      rw [h2, List.count_cons, if_neg (by simpa using h)]
      rw [h1] at ih
      simpa using ih
def splB (c : UInt8) (s : ByteArray) : List ByteArray := (spl c s.data.toList).map bL
theorem index_is (s : ByteArray) (c : UInt8) : ∀ F, Tf.strings_Index.f F (s, ⟨#[c]⟩) = some (Go.Lib.indexByte s.data.toList c) := fun F => rfl
theorem ext_pre (s : ByteArray) (w q : List UInt8) (c : UInt8) (h : s.data.toList = w ++ c :: q) : s.extract 0 w.length = bL w ∧ s.extract (w.length + 1) s.size = bL q := by
  have hz := ba_size s
  constructor
  · apply ba_ext
    rw [ba_extract, bL_list, h]; simp
  · apply ba_ext
    rw [ba_extract, bL_list, hz, List.take_length, h]
    simp [List.drop_append]
theorem set_midB {α : Type} (a r : List α) (x y : α) : (a ++ y :: r).set a.length x = a ++ x :: r := by
  rw [List.set_append_right _ _ (Nat.le_refl _)]; simp
theorem gen_go (c : UInt8) (n : Nat) (hn : n ≤ 20000000) : ∀ (k i : Nat) (s : ByteArray) (pre : List ByteArray), i + k = n → pre.length = i → s.data.toList.count c = k → s.data.toList.length ≤ 20000000 →
    ∃ q last, splB c s = q ++ [last] ∧ q.length = k ∧ EvG (fun _ L => L ((i : Int), (pre ++ List.replicate (k + 1) ByteArray.empty, (s, ((⟨#[c]⟩ : ByteArray), ((0 : Int), (n : Int))))))) Tf.strings_genSplit.s11 ((n : Int), (pre ++ q ++ [ByteArray.empty], last)) := by
  intro k
  induction k with
  | zero =>
    intro i s pre hi hp hc hl
    have hno : ∀ b ∈ s.data.toList, b ≠ c := fun b hb e => by subst e; have := List.count_pos_iff.2 hb; omega
    refine ⟨[], s, ?_, rfl, EvG.step (fun F L => ?_) (EvG.now _)⟩
    · unfold splB; rw [spl_one c _ hno]; simp [bL_of]
    · dsimp only [Tf.strings_genSplit.s11]
      simp only [bif_if, decide_eq_true_eq]
      rw [if_neg (by omega)]
      have e : i = n := by omega
      subst e
      simp
  | succ k ih =>
    intro i s pre hi hp hc hl
    have hz := ba_size s
    have hw : IntKind.i64.wrap ((i : Int) + 1) = ((i + 1 : Nat) : Int) := by rw [w64 (by omega) (by omega), succ_cast]
    rcases idx_split s.data.toList c with ⟨_, h2⟩ | ⟨w, r, h1, h2, h3⟩
    · have : s.data.toList.count c = 0 := List.count_eq_zero.2 (fun h => h2 c h rfl)
      omega
    obtain ⟨e1, e2⟩ := ext_pre s w r c h2
    have hlen : s.data.toList.length = w.length + r.length + 1 := by rw [h2]; simp; omega
    have hcr : r.count c = k := by
      rw [h2, List.count_append, List.count_cons] at hc
      have : w.count c = 0 := List.count_eq_zero.2 (fun h => h3 c h rfl)
      simp [this] at hc
      exact hc
    obtain ⟨q, last, g1, g2, g3⟩ := ih (i + 1) (bL r) (pre ++ [bL w]) (by omega) (by simp [hp]) (by rw [bL_list]; exact hcr) (by rw [bL_list]; omega)
    refine ⟨bL w :: q, last, ?_, by simp [g2], EvG.loop ?_⟩
    · unfold splB at g1 ⊢
      rw [bL_list] at g1
      rw [h2, spl_word c w r h3, List.map_cons, g1]; rfl
    · have hsz : ((⟨#[c]⟩ : ByteArray).size : Int) = 1 := rfl
      simp only [Tf.strings_genSplit.s11, bif_if, decide_eq_true_eq, inR_iff, Bool.and_eq_true, hw, hsz, Int.add_zero]
      refine EvG.pos (by omega) (EvG.bind ⟨0, fun F _ => index_is s c F⟩ ?_)
      rw [h1]
      have w1 : IntKind.i64.wrap (w.length : Int) = (w.length : Int) := w64 (by omega) (by omega)
      have w2 : IntKind.i64.wrap ((w.length : Int) + 1) = ((w.length + 1 : Nat) : Int) := by rw [w64 (by omega) (by omega)]; omega
      rw [w1, w2]
      have hal : (pre ++ List.replicate (k + 1 + 1) ByteArray.empty).length = i + k + 2 := by simp [hp]; omega
      refine EvG.neg (by omega) (EvG.pos (by omega) (EvG.pos (by omega) (EvG.pos (by omega) ?_)))
      rw [Int.toNat_natCast, Int.toNat_natCast, Int.toNat_natCast, e1, e2]
      have es : (pre ++ List.replicate (k + 1 + 1) ByteArray.empty).set i (bL w) = pre ++ [bL w] ++ List.replicate (k + 1) ByteArray.empty := by
        rw [List.replicate_succ, ← hp, set_midB]; simp
      rw [es]
      have ee : pre ++ (bL w :: q) ++ [ByteArray.empty] = pre ++ [bL w] ++ q ++ [ByteArray.empty] := by simp
      rw [ee]
      exact g3
theorem split_ev (s : ByteArray) (c : UInt8) (hs : s.data.toList.length ≤ 20000000) : Ev (fun F => Tf.strings_Split.f F (s, ⟨#[c]⟩)) (splB c s) := by
  have hz := ba_size s
  have hcl : s.data.toList.count c ≤ s.data.toList.length := List.count_le_length
  have hcnt : ∀ F, Tf.strings_Count.f F (s, ⟨#[c]⟩) = some ((s.data.toList.count c : Nat) : Int) := fun F => rfl
  obtain ⟨q, last, g1, g2, g3⟩ := gen_go c (s.data.toList.count c) (by omega) (s.data.toList.count c) 0 s [] (by omega) rfl rfl hs
  have hsz : seqB (⟨#[c]⟩ : ByteArray) ⟨#[]⟩ = false := by
    cases h : seqB (⟨#[c]⟩ : ByteArray) ⟨#[]⟩ with
    | false => rfl
    | true => have := (nil_iff _).1 h; simp at this
  simp only [Tf.strings_Split.f, Tf.strings_genSplit.f, bif_if, decide_eq_true_eq, beq_iff_eq, hsz, inR_iff, Bool.and_eq_true]
  refine Ev_ret ?_
  refine Ev_neg (by omega) (Ev_neg (by simp) (Ev_pos (by omega) (Ev.bind ⟨0, fun F _ => hcnt F⟩ ?_)))
  have w1 : IntKind.i64.wrap (((s.data.toList.count c : Nat) : Int) + 1) = ((s.data.toList.count c + 1 : Nat) : Int) := by rw [w64 (by omega) (by omega)]; omega
  have w2 : IntKind.i64.wrap ((s.size : Int) + 1) = ((s.size + 1 : Nat) : Int) := by rw [w64 (by omega) (by omega)]; omega
  have em : mnI ((s.data.toList.count c + 1 : Nat) : Int) ((s.size + 1 : Nat) : Int) = ((s.data.toList.count c + 1 : Nat) : Int) := by unfold mnI; rw [if_neg (by omega)]
  have w3 : IntKind.i64.wrap (((s.data.toList.count c + 1 : Nat) : Int) - 1) = ((s.data.toList.count c : Nat) : Int) := by rw [w64 (by omega) (by omega)]; omega
  rw [w1, w2, em, w3, Int.toNat_natCast]
  rw [List.nil_append, List.nil_append] at g3
  refine Ev_pos (by omega) (Ev.bind (Ev.iter g3) ?_)
  dsimp only
  rw [w1]
  simp only [Int.toNat_natCast]
  have hset : (q ++ [ByteArray.empty]).set (s.data.toList.count c) last = q ++ [last] := by rw [← g2, set_midB]
  rw [hset]
  have hl : (q ++ [last]).length = s.data.toList.count c + 1 := by simp [g2]
  have hl0 : (q ++ [ByteArray.empty]).length = s.data.toList.count c + 1 := by simp [g2]
  refine Ev_pos (by rw [hl0]; omega) (Ev_pos (by rw [hl]; omega) (Ev.eq ?_))
  rw [g1, Nat.sub_zero, List.drop_zero, List.take_of_length_le (by omega)]
theorem cut35_ev (s : ByteArray) (hs : s.data.toList.length ≤ 20000000) : ∃ y, Ev (fun F => Tf.strings_Cut.f F (s, ⟨#[35]⟩)) (bL (s.data.toList.takeWhile (· ≠ 35)), y) := by
  have hz := ba_size s
  have e1 : ((⟨#[35]⟩ : ByteArray).size : Int) = 1 := rfl
  have hix : ∀ F, Tf.internal_stringslite_Index.f F (s, ⟨#[35]⟩) = some (Go.Lib.indexByte s.data.toList 35) := fun F => rfl
  simp only [Tf.strings_Cut.f, Tf.internal_stringslite_Cut.f, bif_if, decide_eq_true_eq, Bool.and_eq_true, e1]
  rcases idx_split s.data.toList 35 with ⟨h1, h2⟩ | ⟨w, r, h1, h2, h3⟩
  · have et : s.data.toList.takeWhile (· ≠ 35) = s.data.toList := tw_self (fun b hb => by simpa using h2 b hb)
    rw [et, bL_of]
    refine ⟨(⟨#[]⟩, false), Ev.bind (a := (s, ⟨#[]⟩, false)) (Ev.bind ⟨0, fun F _ => hix F⟩ (Ev_neg ?_ (Ev.now _))) (Ev.now _)⟩
    rw [h1]; decide
  · obtain ⟨g1, g2⟩ := ext_pre s w r 35 h2
    have et : s.data.toList.takeWhile (· ≠ 35) = w := by
      rw [h2, List.takeWhile_append_of_pos (fun b hb => by simpa using h3 b hb)]; simp
    have hlen : s.data.toList.length = w.length + r.length + 1 := by rw [h2]; simp; omega
    have w2 : IntKind.i64.wrap ((w.length : Int) + 1) = ((w.length + 1 : Nat) : Int) := by rw [w64 (by omega) (by omega)]; omega
    rw [et, ← g1]
    refine ⟨(s.extract (w.length + 1) s.size, true), Ev.bind (a := (s.extract 0 w.length, s.extract (w.length + 1) s.size, true)) (Ev.bind ⟨0, fun F _ => hix F⟩ ?_) (Ev.now _)⟩
    rw [h1, w2, Int.toNat_natCast]
    exact Ev_pos (by omega) (Ev_pos (by omega) (Ev_pos (by omega) (Ev.now _)))
def wordsL (p : List UInt8) : List ByteArray := ((spl 32 (p.takeWhile (· ≠ 35))).filter (fun w => !w.isEmpty)).map bL
def mkL (n : Int) (ws : List ByteArray) : List VI.Line := if ws.isEmpty then [] else [⟨n, ws⟩]
def linesGo : Nat → List (List UInt8) → List VI.Line
  | _, [] => []
  | i, p :: r => mkL ((i + 1 : Nat) : Int) (wordsL p) ++ linesGo (i + 1) r
def linesV (s : ByteArray) : List VI.Line := linesGo 0 (spl 10 s.data.toList)
theorem lines_l8 (ps : List (List UInt8)) (X : List ByteArray) (u v w : Int) (Y : List VI.Line) (hps : ps.length ≤ 20000001) : ∀ (d j : Nat) (acc : List ByteArray), j + d = ps.length → acc.length ≤ j →
    EvG (fun _ L => L ((j : Int), (acc, (ps.map bL, (X, (u, (v, (w, (Y, ((ps.map bL).length : Int)))))))))) Tf.lex_Lines.s8 (X, (u, (v, (acc ++ ((ps.drop j).filter (fun w => !w.isEmpty)).map bL, (w, Y))))) := by
  intro d
  induction d with
  | zero =>
    intro j acc hj _
    rw [List.drop_eq_nil_of_le (by omega)]
    refine EvG.step (fun F L => ?_) (EvG.now _)
    dsimp only [Tf.lex_Lines.s8]
    simp only [bif_if, decide_eq_true_eq, List.length_map]
    rw [if_neg (by omega)]
    simp
  | succ d ih =>
    intro j acc hj ha
    have hlt : j < ps.length := by omega
    have eg : (ps.map bL).getD (j : Int).toNat (dflt 4) = bL ps[j] := by rw [Int.toNat_natCast]; simp [List.getD_eq_getElem?_getD, hlt]
    have hw : IntKind.i64.wrap ((j : Int) + 1) = ((j + 1 : Nat) : Int) := by rw [w64 (by omega) (by omega), succ_cast]
    have ih := ih (j + 1)
    rw [List.drop_eq_getElem_cons hlt]
    generalize ps[j] = p at *
    have hnil : seqB (bL p) ⟨#[]⟩ = p.isEmpty := by
      rw [Bool.eq_iff_iff, nil_iff, bL_list, List.isEmpty_iff]
    have hml : (ps.map bL).length = ps.length := List.length_map ..
    refine EvG.loop ?_
    simp only [Tf.lex_Lines.s8, bif_if, decide_eq_true_eq, inR_iff, eg, hw, hnil, Bool.not_eq_true', Nat.ble_eq, set_oneBq]
    refine EvG.pos (by omega) (EvG.pos (by omega) ?_)
    cases hp : p.isEmpty with
    | true =>
      have e : (p :: ps.drop (j + 1)).filter (fun w => !w.isEmpty) = (ps.drop (j + 1)).filter (fun w => !w.isEmpty) := by rw [List.filter_cons, hp]; rfl
      rw [e]
      exact EvG.neg (by simp) (ih acc (by omega) (by omega))
    | false =>
      have e : (p :: ps.drop (j + 1)).filter (fun w => !w.isEmpty) = p :: (ps.drop (j + 1)).filter (fun w => !w.isEmpty) := by rw [List.filter_cons, hp]; rfl
      rw [e]
      have h2 := ih (acc ++ [bL p]) (by omega) (by simp; omega)
      rw [List.map_cons]
      rw [List.append_assoc, List.singleton_append] at h2
      exact EvG.pos rfl (EvG.pos (by omega) h2)
theorem set_oneL (a b : VI.Line) : List.set (List.replicate 1 a) 0 b = [b] := rfl
theorem lines_l3 (ps : List (List UInt8)) (hps : ps.length ≤ 20000001) (hpl : ∀ p ∈ ps, p.length ≤ 20000000) : ∀ (d j : Nat) (acc : List VI.Line), j + d = ps.length → acc.length ≤ j →
    EvG (fun _ L => L ((j : Int), (acc, (ps.map bL, ((ps.map bL).length : Int))))) Tf.lex_Lines.s3 (acc ++ linesGo j (ps.drop j)) := by
  intro d
  induction d with
  | zero =>
    intro j acc hj _
    rw [List.drop_eq_nil_of_le (by omega)]
    refine EvG.step (fun F L => ?_) (EvG.now _)
    dsimp only [Tf.lex_Lines.s3]
    simp only [bif_if, decide_eq_true_eq, List.length_map]
    rw [if_neg (by omega)]
    simp [linesGo]
  | succ d ih =>
    intro j acc hj ha
    have hlt : j < ps.length := by omega
    have eg : (ps.map bL).getD (j : Int).toNat (dflt 4) = bL ps[j] := by rw [Int.toNat_natCast]; simp [List.getD_eq_getElem?_getD, hlt]
    have hw : IntKind.i64.wrap ((j : Int) + 1) = ((j + 1 : Nat) : Int) := by rw [w64 (by omega) (by omega), succ_cast]
    have ih := ih (j + 1)
    have hm := hpl _ (List.getElem_mem hlt)
    rw [List.drop_eq_getElem_cons hlt, linesGo]
    generalize ps[j] = p at *
    have hml : (ps.map bL).length = ps.length := List.length_map ..
    obtain ⟨y, hcut⟩ := cut35_ev (bL p) (by rw [bL_list]; exact hm)
    rw [bL_list] at hcut
    have htl : (p.takeWhile (· ≠ 35)).length ≤ p.length := (List.takeWhile_sublist _).length_le
    have hsp := split_ev (bL (p.takeWhile (· ≠ 35))) 32 (by rw [bL_list]; omega)
    unfold splB at hsp
    rw [bL_list] at hsp
    have hspl : (spl 32 (p.takeWhile (· ≠ 35))).length ≤ 20000001 := by
      rw [spl_count]
      have : (p.takeWhile (· ≠ 35)).count 32 ≤ (p.takeWhile (· ≠ 35)).length := List.count_le_length
      omega
    have h8 := lines_l8 (spl 32 (p.takeWhile (· ≠ 35))) (ps.map bL) ((ps.map bL).length : Int) (j : Int) (j : Int) acc hspl _ 0 [] (Nat.zero_add _) (by simp)
    rw [List.drop_zero, List.nil_append] at h8
    have ew : ((spl 32 (p.takeWhile (· ≠ 35))).filter (fun w => !w.isEmpty)).map bL = wordsL p := rfl
    rw [ew] at h8
    refine EvG.loop ?_
    simp only [Tf.lex_Lines.s3, bif_if, decide_eq_true_eq, inR_iff, eg, Nat.ble_eq, set_oneL]
    refine EvG.pos (by omega) (EvG.pos (by omega) (EvG.bind hcut (EvG.bind hsp (EvG.bind (Ev.iter h8) ?_))))
    dsimp only
    rw [hw]
    unfold mkL
    cases hwl : wordsL p with
    | nil =>
      refine EvG.neg (by simp) ?_
      simpa using ih acc (by omega) (by omega)
    | cons a r =>
      refine EvG.pos (by simp) (EvG.pos (by omega) ?_)
      have h2 := ih (acc ++ [⟨((j + 1 : Nat) : Int), a :: r⟩]) (by omega) (by simp; omega)
      simpa using h2
theorem spl_mem_len (c : UInt8) : ∀ (l : List UInt8), ∀ p ∈ spl c l, p.length ≤ l.length
  | [], p, h => by simp [spl] at h; simp [h]
  | x :: r, p, h => by
    by_cases hx : x = c
    · rw [spl, if_pos hx] at h
      rcases List.mem_cons.1 h with rfl | h
      · simp
      · have := spl_mem_len c r p h; simp; omega
    · obtain ⟨p0, q, h1, h2⟩ := spl_cons c x r hx
      rw [h2] at h
      rcases List.mem_cons.1 h with rfl | h
      · have := spl_mem_len c r p0 (by rw [h1]; simp); simpa using this
      · have := spl_mem_len c r p (by rw [h1]; simp [h]); simp; omega
theorem lines_ev (s : ByteArray) (hs : s.data.toList.length ≤ 20000000) : Ev (fun F => Tf.lex_Lines.f F s) (linesV s) := by
  have hsp := split_ev s 10 hs
  have hspl : (spl 10 s.data.toList).length ≤ 20000001 := by
    rw [spl_count]
    have : s.data.toList.count 10 ≤ s.data.toList.length := List.count_le_length
    omega
  have h3 := lines_l3 (spl 10 s.data.toList) hspl (fun p hp => Nat.le_trans (spl_mem_len 10 _ p hp) hs) _ 0 [] (Nat.zero_add _) (by simp)
  rw [List.drop_zero, List.nil_append] at h3
  simp only [Tf.lex_Lines.f]
  exact Ev.bind hsp (Ev_ret (Ev.iter h3))
def flush (word : List UInt8) : List ByteArray := if word.isEmpty then [] else [bL word]
def lexR : List UInt8 → Nat → List UInt8 → List ByteArray → Bool → List VI.Line
  | [], n, word, words, off => mkL (n : Int) (words ++ flush word)
  | b :: r, n, word, words, off =>
    if b = 10 then mkL (n : Int) (words ++ flush word) ++ lexR r (n + 1) [] [] false
    else if off = true ∨ b = 32 ∨ b = 35 then lexR r n [] (words ++ flush word) (off || b == 35)
    else lexR r n (word ++ [b]) words off
def cleanW (w : List UInt8) : Prop := ∀ b ∈ w, b ≠ 32 ∧ b ≠ 35 ∧ b ≠ 10
theorem words_word {w : List UInt8} (h : cleanW w) : wordsL w = flush w := by
  unfold wordsL flush
  rw [tw_self (fun b hb => by simpa using (h b hb).2.1), spl_one 32 w (fun b hb => (h b hb).1)]
  cases w <;> rfl
theorem words_sp {w : List UInt8} (h : cleanW w) (q : List UInt8) : wordsL (w ++ 32 :: q) = flush w ++ wordsL q := by
  unfold wordsL flush
  rw [List.takeWhile_append_of_pos (fun b hb => by simpa using (h b hb).2.1), List.takeWhile_cons, if_pos (by decide), spl_word 32 w _ (fun b hb => (h b hb).1)]
  cases w <;> rfl
theorem words_hash {w : List UInt8} (h : cleanW w) (q : List UInt8) : wordsL (w ++ 35 :: q) = flush w := by
  rw [← words_word h]
  unfold wordsL
  rw [List.takeWhile_append_of_pos (fun b hb => by simpa using (h b hb).2.1), List.takeWhile_cons, if_neg (by decide), tw_self (fun b hb => by simpa using (h b hb).2.1), List.append_nil]
theorem lexR_spec : ∀ (l : List UInt8) (n : Nat) (word : List UInt8) (words : List ByteArray) (off : Bool), cleanW word → (off = true → word = []) →
    ∃ p r, spl 10 l = p :: r ∧ lexR l n word words off = mkL (n : Int) (words ++ (if off = true then [] else wordsL (word ++ p))) ++ linesGo n r
  | [], n, word, words, off, hw, ho => by
    refine ⟨[], [], rfl, ?_⟩
    rw [lexR, linesGo, List.append_nil, List.append_nil]
    cases off with
    | true => rw [ho rfl]; rfl
    | false => rw [if_neg (by simp), words_word hw]
  | b :: l, n, word, words, off, hw, ho => by
    rw [lexR]
    by_cases h10 : b = 10
    · obtain ⟨p, r, h1, h2⟩ := lexR_spec l (n + 1) [] [] false (fun b hb => by simp at hb) (fun _ => rfl)
      refine ⟨[], p :: r, by rw [spl, if_pos h10, h1], ?_⟩
      rw [if_pos h10, h2, linesGo, List.append_nil]
      simp only [Bool.false_eq_true, if_false, List.nil_append]
      congr 2
      cases off with
      | true => rw [ho rfl]; rfl
      | false => rw [if_neg (by simp), words_word hw]
    · rw [if_neg h10]
      obtain ⟨p, r, h1, h2⟩ := spl_cons 10 b l h10
      by_cases hoff : off = true ∨ b = 32 ∨ b = 35
      · rw [if_pos hoff]
        obtain ⟨p', r', h3, h4⟩ := lexR_spec l n [] (words ++ flush word) (off || b == 35) (fun b hb => by simp at hb) (fun _ => rfl)
        rw [h1] at h3
        obtain ⟨rfl, rfl⟩ := List.cons.inj h3
        refine ⟨b :: p, r, h2, ?_⟩
        rw [h4]
        congr 2
        cases off with
        | true =>
          rw [ho rfl]
          simp [flush]
        | false =>
          rcases hoff with h | h | h
          · cases h
          · subst h
            rw [words_sp hw]
            simp
          · subst h
            rw [words_hash hw]
            simp
      · rw [if_neg hoff]
        have hb : b ≠ 32 ∧ b ≠ 35 := ⟨fun h => hoff (.inr (.inl h)), fun h => hoff (.inr (.inr h))⟩
        have hof : off = false := by cases off with | true => exact absurd (.inl rfl) hoff | false => rfl
        obtain ⟨p', r', h3, h4⟩ := lexR_spec l n (word ++ [b]) words off (fun x hx => by
          rcases List.mem_append.1 hx with h | h
          · exact hw x h
          · simp at h; subst h; exact ⟨hb.1, hb.2, h10⟩) (fun h => by rw [hof] at h; cases h)
        rw [h1] at h3
        obtain ⟨rfl, rfl⟩ := List.cons.inj h3
        refine ⟨b :: p, r, h2, ?_⟩
        rw [h4]
        simp [hof]
theorem lexR_lines (s : ByteArray) : lexR s.data.toList 1 [] [] false = linesV s := by
  obtain ⟨p, r, h1, h2⟩ := lexR_spec s.data.toList 1 [] [] false (fun b hb => by simp at hb) (fun _ => rfl)
  rw [h2]
  unfold linesV
  rw [h1, linesGo]
  simp
end Go.PL
namespace Go.PL
open Go Go.VI
theorem bL_size (l : List UInt8) : (bL l).size = l.length := by rw [ba_size, bL_list]
theorem bL_snoc (s : ByteArray) (w : List UInt8) (i : Nat) (b : UInt8) (hi : i < s.data.toList.length) (hb : s.data.toList[i]? = some b) : bL w ++ s.extract i (i + 1) = bL (w ++ [b]) := by
  apply ba_ext
  rw [ba_append, bL_list, bL_list, ba_extract]
  congr 1
  rw [List.getElem?_eq_getElem hi] at hb
  cases hb
  rw [List.drop_take, List.drop_eq_getElem_cons hi]
  simp
theorem flush_len (w : List UInt8) : (flush w).length ≤ 1 := by unfold flush; split <;> simp
theorem mkL_len (n : Int) (ws : List ByteArray) : (mkL n ws).length ≤ 1 := by unfold mkL; split <;> simp
theorem rlines_go (s : ByteArray) (hs : s.data.toList.length ≤ 20000000) : ∀ (d i n : Nat) (out : List VI.Line) (word : List UInt8) (words : List ByteArray) (off : Bool), i + d = s.data.toList.length + 1 → n ≤ i + 1 → out.length ≤ i → word.length ≤ i → words.length ≤ i →
    EvG (fun _ L => L ((i : Int), ((n : Int), (out, (s, (bL word, (words, off))))))) Tf.tapewrightref08_Lines.s5 (if i ≤ s.data.toList.length then out ++ lexR (s.data.toList.drop i) n word words off else out) := by
  intro d
  induction d with
  | zero =>
    intro i n out word words off hi _ _ _ _
    have hz := ba_size s
    rw [if_neg (by omega)]
    refine EvG.step (fun F L => ?_) (EvG.now _)
    dsimp only [Tf.tapewrightref08_Lines.s5]
    simp only [bif_if, decide_eq_true_eq]
    rw [if_neg (by omega)]
  | succ d ih =>
    intro i n out word words off hi hn ho hw hws
    have hz := ba_size s
    have ew : IntKind.i64.wrap ((i : Int) + 1) = ((i + 1 : Nat) : Int) := by rw [w64 (by omega) (by omega), succ_cast]
    have en : IntKind.i64.wrap ((n : Int) + 1) = ((n + 1 : Nat) : Int) := by rw [w64 (by omega) (by omega), succ_cast]
    have hsz := bL_size word
    have hfl := flush_len word
    have e0 : (⟨#[]⟩ : ByteArray) = bL [] := rfl
    have stop : ∀ {r : List VI.Line}, EvG (fun _ L => L (((i + 1 : Nat) : Int), (((n + 1 : Nat) : Int), (out ++ mkL (n : Int) (words ++ flush word), (s, (bL [], ([], false))))))) Tf.tapewrightref08_Lines.s5 r →
        EvG (fun F L => if ((bL word).size : Int) > 0 then if words.length + 1 ≤ 1099511627776 then if ((words ++ [bL word]).length : Int) > 0 then if out.length + 1 ≤ 1099511627776 then L (((i + 1 : Nat) : Int), (((n + 1 : Nat) : Int), (out ++ [⟨(n : Int), words ++ [bL word]⟩], (s, (bL [], ([], false)))))) else none else L (((i + 1 : Nat) : Int), (((n + 1 : Nat) : Int), (out, (s, (bL [], ([], false)))))) else none else if (words.length : Int) > 0 then if out.length + 1 ≤ 1099511627776 then L (((i + 1 : Nat) : Int), (((n + 1 : Nat) : Int), (out ++ [⟨(n : Int), words⟩], (s, (bL [], ([], false)))))) else none else L (((i + 1 : Nat) : Int), (((n + 1 : Nat) : Int), (out, (s, (bL [], ([], false))))))) Tf.tapewrightref08_Lines.s5 r := by
      intro r h
      cases word with
      | nil =>
        simp only [flush, List.isEmpty_nil, if_true, List.append_nil] at h
        refine EvG.neg (by rw [hsz]; simp) ?_
        cases words with
        | nil => exact EvG.neg (by simp) (by simpa [mkL] using h)
        | cons a t => exact EvG.pos (by simp) (EvG.pos (by omega) (by simpa [mkL] using h))
      | cons a t =>
        simp only [flush, List.isEmpty_cons, Bool.false_eq_true, if_false] at h
        refine EvG.pos (by rw [hsz]; simp) (EvG.pos (by omega) (EvG.pos (by simp) (EvG.pos (by omega) ?_)))
        have : (words ++ [bL (a :: t)]).isEmpty = false := by simp
        simpa [mkL, this] using h
    have go : ∀ {r : List VI.Line} (off' : Bool), EvG (fun _ L => L (((i + 1 : Nat) : Int), ((n : Int), (out, (s, (bL [], (words ++ flush word, off'))))))) Tf.tapewrightref08_Lines.s5 r →
        EvG (fun F L => if ((bL word).size : Int) > 0 then if words.length + 1 ≤ 1099511627776 then L (((i + 1 : Nat) : Int), ((n : Int), (out, (s, (bL [], (words ++ [bL word], off')))))) else none else L (((i + 1 : Nat) : Int), ((n : Int), (out, (s, (bL [], (words, off'))))))) Tf.tapewrightref08_Lines.s5 r := by
      intro r off' h
      cases word with
      | nil =>
        simp only [flush, List.isEmpty_nil, if_true, List.append_nil] at h
        exact EvG.neg (by rw [hsz]; simp) h
      | cons a t =>
        simp only [flush, List.isEmpty_cons, Bool.false_eq_true, if_false] at h
        exact EvG.pos (by rw [hsz]; simp) (EvG.pos (by omega) h)
    have hmk := mkL_len (n : Int) (words ++ flush word)
    have hwf : (words ++ flush word).length ≤ i + 1 := by rw [List.length_append]; omega
    have I1 := ih (i + 1) (n + 1) (out ++ mkL (n : Int) (words ++ flush word)) [] [] false (by omega) (by omega) (by rw [List.length_append]; omega) (by simp) (by simp)
    have I2 := fun off' : Bool => ih (i + 1) n out [] (words ++ flush word) off' (by omega) (by omega) (by omega) (by simp) hwf
    rw [if_pos (show i ≤ s.data.toList.length by omega)]
    by_cases hend : i = s.data.toList.length
    · rw [if_neg (by omega)] at I1
      rw [List.drop_eq_nil_of_le (by omega), lexR]
      refine EvG.loop ?_
      simp only [Tf.tapewrightref08_Lines.s5, bif_if, decide_eq_true_eq, beq_iff_eq, Nat.ble_eq, inR_iff, ew, en]
      simp only [set_oneBq, set_oneL, e0]
      exact EvG.pos (by omega) (EvG.pos (by omega) (stop I1))
    · have hlt : i < s.data.toList.length := by omega
      rw [if_pos (by omega)] at I1
      have I2 := fun off' : Bool => by have h := I2 off'; rw [if_pos (show i + 1 ≤ s.data.toList.length by omega)] at h; exact h
      have hb := byte_at s i hlt s.data.toList[i] (List.getElem?_eq_getElem hlt)
      have hsn := bL_snoc s word i s.data.toList[i] hlt (List.getElem?_eq_getElem hlt)
      have I3 := ih (i + 1) n out (word ++ [s.data.toList[i]]) words off (by omega) (by omega) (by omega) (by simp; omega) (by omega)
      rw [if_pos (show i + 1 ≤ s.data.toList.length by omega)] at I3
      rw [List.drop_eq_getElem_cons hlt, lexR]
      generalize s.data.toList[i] = b at *
      have num : ∀ c : UInt8, (b.toNat : Int) = (c.toNat : Int) ↔ b = c := fun c => by
        rw [← UInt8.toNat_inj]; omega
      have n10 : (b.toNat : Int) = 10 ↔ b = 10 := num 10
      have n32 : (b.toNat : Int) = 32 ↔ b = 32 := num 32
      have n35 : (b.toNat : Int) = 35 ↔ b = 35 := num 35
      refine EvG.loop ?_
      simp only [Tf.tapewrightref08_Lines.s5, bif_if, decide_eq_true_eq, beq_iff_eq, Nat.ble_eq, inR_iff, Bool.and_eq_true, ew, en, hb, n10, n32, n35]
      simp only [set_oneBq, set_oneL, e0]
      refine EvG.pos (by omega) (EvG.neg (by omega) (EvG.pos (by omega) ?_))
      by_cases h10 : b = 10
      · rw [if_pos h10]
        rw [← List.append_assoc]
        refine EvG.pos h10 ?_
        have I1' := stop I1
        refine EvG.congr (fun F L => ?_) I1'
        simp only [if_pos h10]
      · rw [if_neg h10]
        refine EvG.neg h10 ?_
        have hin : (0 : Int) ≤ (i : Int) ∧ (i : Int) < (s.size : Int) := by omega
        by_cases ho1 : off = true
        · rw [if_pos (.inl ho1)]
          refine EvG.pos ho1 ?_
          have I2' := go (off || b == 35) (I2 (off || b == 35))
          refine EvG.congr (fun F L => ?_) I2'
          simp only [if_neg h10, if_pos hin]
          by_cases h35 : b = 35 <;> simp [h35, ho1]
        · have hof : off = false := by simpa using ho1
          refine EvG.neg ho1 (EvG.pos hin ?_)
          by_cases h32 : b = 32
          · rw [if_pos (.inr (.inl h32))]
            refine EvG.pos h32 ?_
            have h35 : ¬ b = 35 := by rw [h32]; decide
            have I2' := go (off || b == 35) (I2 (off || b == 35))
            refine EvG.congr (fun F L => ?_) I2'
            have hq : (b == 35) = false := by rw [h32]; decide
            simp only [if_neg h10, if_pos hin, if_neg h35, hq, Bool.or_false]
          · refine EvG.neg h32 (EvG.pos hin ?_)
            by_cases h35 : b = 35
            · rw [if_pos (.inr (.inr h35))]
              refine EvG.pos h35 ?_
              have I2' := go (off || b == 35) (I2 (off || b == 35))
              refine EvG.congr (fun F L => ?_) I2'
              simp only [if_neg h10, if_pos hin, if_pos h35]
              simp [h35, hof]
            · rw [if_neg (fun q => by rcases q with q | q | q; exact ho1 q; exact h32 q; exact h35 q)]
              refine EvG.neg h35 ?_
              have en1 : (((i + 1 : Nat) : Int)).toNat = i + 1 := Int.toNat_natCast _
              have hex : (s.extract i (i + 1)).size = 1 := by rw [ba_size, ba_extract, List.length_drop, List.length_take]; omega
              simp only [en1, Int.toNat_natCast, hsn]
              refine EvG.pos (by omega) (EvG.pos (by omega) (EvG.pos (by rw [hex, hsz]; omega) (EvG.neg h10 (EvG.pos hin (EvG.neg h35 I3)))))
/-- The document's lines. -/
theorem rlines_ev (s : ByteArray) (hs : s.data.toList.length ≤ 20000000) : Ev (fun F => Tf.tapewrightref08_Lines.f F s) (linesV s) := by
  have h := rlines_go s hs (s.data.toList.length + 1) 0 1 [] [] [] false (by omega) (by omega) (by simp) (by simp) (by simp)
  rw [if_pos (Nat.zero_le _), List.drop_zero, List.nil_append, lexR_lines] at h
  simp only [Tf.tapewrightref08_Lines.f]
  exact Ev_ret (Ev.iter h)
end Go.PL
namespace Go.PL
open Go Go.VI
def smallB (x : VI.Node) : Bool := decide (x.name.data.toList.length ≤ 30) && decide (x.shape.length ≤ 10) && decide (x.k.data.toList.length ≤ 30) && decide (x.data.length ≤ 70) && x.data.all fun s => decide (s.data.toList.length ≤ 30)
theorem smallB_iff (x : VI.Node) : smallB x = true ↔ smallN x := by simp [smallB, smallN, and_assoc]
theorem smallL {l : List VI.Node} (h : l.all smallB = true) : ∀ x ∈ l, smallN x := fun x hx => (smallB_iff x).1 (List.all_eq_true.1 h x hx)
theorem sm_l9 (l : List VI.Node) (n i : Int) (ds : List ByteArray) (hdl : ds.length ≤ 70) : ∀ (d j : Nat), j + d = ds.length →
    ∃ r : Bool ⊕ (List VI.Node × Int × Int), EvG (fun _ L => L ((j : Int), (ds, (l, (n, (i, (ds.length : Int))))))) Tf.tapewrightref10_Small.s9 r ∧ (r = .inl false ∨ (r = .inr (l, n, i) ∧ ∀ q : Nat, j ≤ q → q < ds.length → (ds.getD q (dflt 4)).data.toList.length ≤ 30)) := by
  intro d
  induction d with
  | zero =>
    intro j hj
    refine ⟨.inr (l, n, i), EvG.step (fun F L => ?_) (EvG.now _), .inr ⟨rfl, fun q h1 h2 => by omega⟩⟩
    dsimp only [Tf.tapewrightref10_Small.s9]
    simp only [bif_if, decide_eq_true_eq]
    rw [if_neg (by omega)]
  | succ d ih =>
    intro j hj
    by_cases c : ((ds.getD j (dflt 4)).size : Int) > 30
    · refine ⟨.inl false, EvG.step (fun F L => ?_) (EvG.now _), .inl rfl⟩
      dsimp only [Tf.tapewrightref10_Small.s9]
      simp only [bif_if, decide_eq_true_eq, inR_iff, Int.toNat_natCast]
      rw [if_pos (by omega), if_pos (by omega), if_pos c]
    · obtain ⟨r, g1, g2⟩ := ih (j + 1) (by omega)
      refine ⟨r, EvG.step (fun F L => ?_) g1, g2.imp_right fun h => ⟨h.1, fun q h1 h2 => ?_⟩⟩
      · dsimp only [Tf.tapewrightref10_Small.s9]
        simp only [bif_if, decide_eq_true_eq, inR_iff, Int.toNat_natCast]
        rw [if_pos (by omega), if_pos (by omega), if_neg c, w64 (by omega) (by omega), succ_cast]
      · by_cases e : q = j
        · subst e; rw [← ba_size]; omega
        · exact h.2 q (by omega) h2
theorem sm_l4 (l : List VI.Node) (hn : l.length ≤ 40) : ∀ (d i : Nat), i + d = l.length →
    ∃ r : Bool ⊕ Unit, EvG (fun _ L => L ((i : Int), (l, (l.length : Int)))) Tf.tapewrightref10_Small.s4 r ∧ (r = .inl false ∨ (r = .inr () ∧ ∀ j : Nat, i ≤ j → j < l.length → smallN (nd l (j : Int)))) := by
  intro d
  induction d with
  | zero =>
    intro i hi
    refine ⟨.inr (), EvG.step (fun F L => ?_) (EvG.now _), .inr ⟨rfl, fun j h1 h2 => by omega⟩⟩
    dsimp only [Tf.tapewrightref10_Small.s4]
    simp only [bif_if, decide_eq_true_eq]
    rw [if_neg (by omega)]
  | succ d ih =>
    intro i hi
    have e0 : l.getD (i : Int).toNat (dflt 6) = nd l (i : Int) := rfl
    have hw : IntKind.i64.wrap ((i : Int) + 1) = ((i + 1 : Nat) : Int) := by rw [w64 (by omega) (by omega), succ_cast]
    obtain ⟨r, g1, g2⟩ := ih (i + 1) (by omega)
    generalize hx : nd l (i : Int) = x at e0
    by_cases c1 : (x.shape.length : Int) > 10
    · refine ⟨.inl false, EvG.step (fun F L => ?_) (EvG.now _), .inl rfl⟩
      dsimp only [Tf.tapewrightref10_Small.s4]
      simp only [bif_if, decide_eq_true_eq, inR_iff, e0]
      rw [if_pos (by omega), if_pos (by omega), if_pos c1]
    by_cases c2 : (x.data.length : Int) > 70
    · refine ⟨.inl false, EvG.step (fun F L => ?_) (EvG.now _), .inl rfl⟩
      dsimp only [Tf.tapewrightref10_Small.s4]
      simp only [bif_if, decide_eq_true_eq, inR_iff, e0]
      rw [if_pos (by omega), if_pos (by omega), if_neg c1, if_pos c2]
    by_cases c3 : (x.k.size : Int) > 30
    · refine ⟨.inl false, EvG.step (fun F L => ?_) (EvG.now _), .inl rfl⟩
      dsimp only [Tf.tapewrightref10_Small.s4]
      simp only [bif_if, decide_eq_true_eq, inR_iff, e0]
      rw [if_pos (by omega), if_pos (by omega), if_neg c1, if_neg c2, if_pos c3]
    by_cases c4 : (x.name.size : Int) > 30
    · refine ⟨.inl false, EvG.step (fun F L => ?_) (EvG.now _), .inl rfl⟩
      dsimp only [Tf.tapewrightref10_Small.s4]
      simp only [bif_if, decide_eq_true_eq, inR_iff, e0]
      rw [if_pos (by omega), if_pos (by omega), if_neg c1, if_neg c2, if_neg c3, if_pos c4]
    obtain ⟨r9, k1, k2⟩ := sm_l9 l (l.length : Int) (i : Int) x.data (by omega) x.data.length 0 (by omega)
    have op : ∀ F L, Tf.tapewrightref10_Small.s4 F L ((i : Int), (l, (l.length : Int))) = (Tf.tapewrightref10_Small.l9 F (0, (x.data, (l, ((l.length : Int), ((i : Int), (x.data.length : Int))))))).bind (fun y45 => (sumE y45 (fun y46 => (some (.inl y46))) (fun y46 => (L (IntKind.i64.wrap (y46.2.2 + 1), (y46.1, y46.2.1)))))) := fun F L => by
      dsimp only [Tf.tapewrightref10_Small.s4]
      simp only [bif_if, decide_eq_true_eq, inR_iff, e0]
      rw [if_pos (by omega), if_pos (by omega), if_neg c1, if_neg c2, if_neg c3, if_neg c4]
    rcases k2 with rfl | ⟨rfl, k3⟩
    · exact ⟨.inl false, EvG.step op (EvG.bind (Ev.iter k1) (EvG.now _)), .inl rfl⟩
    · refine ⟨r, EvG.step op (EvG.bind (Ev.iter k1) ?_), g2.imp_right fun h => ⟨h.1, fun j h1 h2 => ?_⟩⟩
      · dsimp only [sumE]
        rw [hw]; exact g1
      · by_cases e : j = i
        · subst e
          rw [hx]
          refine ⟨by rw [← ba_size]; omega, by omega, by rw [← ba_size]; omega, by omega, fun s hs => ?_⟩
          obtain ⟨q, hq, rfl⟩ := List.getElem_of_mem hs
          have := k3 q (Nat.zero_le _) hq
          simpa [List.getD_eq_getElem?_getD, hq] using this
        · exact h.2 j (by omega) h2
/-- Small lets in only small graphs. -/
theorem smallG_ev (l : List VI.Node) (loss : Int) : ∃ b, Ev (fun F => Tf.tapewrightref10_Small.f F (l, loss)) b ∧ (b = true → l.length ≤ 40 ∧ ∀ x ∈ l, smallN x) := by
  simp only [Tf.tapewrightref10_Small.f, bif_if, decide_eq_true_eq]
  by_cases c : (l.length : Int) > 40
  · exact ⟨false, Ev_pos c (Ev.now _), fun h => by cases h⟩
  · obtain ⟨r, g1, g2⟩ := sm_l4 l (by omega) l.length 0 (by omega)
    rcases g2 with rfl | ⟨rfl, h⟩
    · exact ⟨false, Ev_neg c (Ev.bind (Ev.iter g1) (Ev.now _)), fun h => by cases h⟩
    · refine ⟨true, Ev_neg c (Ev.bind (Ev.iter g1) (Ev.now _)), fun _ => ⟨by omega, fun x hx => ?_⟩⟩
      obtain ⟨j, hj, rfl⟩ := List.getElem_of_mem hx
      have := h j (Nat.zero_le _) hj
      rwa [show nd l (j : Int) = l[j] by simp [nd, List.getD_eq_getElem?_getD, hj]] at this
theorem rsame_l4 (a b : List Int) (hb : a.length < 9223372036854775807) (hl : a.length = b.length) : ∀ (d j : Nat), j + d = a.length →
    EvG (fun _ L => L ((j : Int), (b, a))) Tf.tapewrightref04_Same.s4 (if a.drop j = b.drop j then .inr () else .inl false) := by
  intro d
  induction d with
  | zero =>
    intro j hj
    rw [List.drop_eq_nil_of_le (by omega), List.drop_eq_nil_of_le (by omega), if_pos rfl]
    refine EvG.step (fun F L => ?_) (EvG.now _)
    dsimp only [Tf.tapewrightref04_Same.s4]
    simp only [bif_if, decide_eq_true_eq]
    rw [if_neg (by omega)]
  | succ d ih =>
    intro j hj
    rw [drop_rd a j (by omega), drop_rd b j (by omega)]
    by_cases c : rd a (j : Int) = rd b (j : Int)
    · have hi := ih (j + 1) (by omega)
      have e : (rd a (j : Int) :: a.drop (j + 1) = rd b (j : Int) :: b.drop (j + 1)) ↔ a.drop (j + 1) = b.drop (j + 1) := by simp [c]
      simp only [e]
      refine EvG.step (fun F L => ?_) hi
      dsimp only [Tf.tapewrightref04_Same.s4]
      simp only [bif_if, decide_eq_true_eq, inR_iff, rd_def, bne_iff_ne]
      rw [if_pos (by omega), if_pos (by omega), if_pos (by omega), if_neg (by simpa using c), w64 (by omega) (by omega), succ_cast]
    · rw [if_neg (by simp [c])]
      refine EvG.step (fun F L => ?_) (EvG.now _)
      dsimp only [Tf.tapewrightref04_Same.s4]
      simp only [bif_if, decide_eq_true_eq, inR_iff, rd_def, bne_iff_ne]
      rw [if_pos (by omega), if_pos (by omega), if_pos (by omega), if_pos c]
theorem rsame_ev (a b : List Int) (hb : a.length < 9223372036854775807) : Ev (fun F => Tf.tapewrightref04_Same.f F (a, b)) (decide (a = b)) := by
  simp only [Tf.tapewrightref04_Same.f, bif_if, bne_iff_ne]
  by_cases c : a.length = b.length
  · have h := rsame_l4 a b hb c a.length 0 (by omega)
    rw [List.drop_zero, List.drop_zero] at h
    refine Ev_neg (by omega) (Ev.bind (Ev.iter h) ?_)
    by_cases e : a = b
    · rw [if_pos e]; exact Ev.eq (by simp [e])
    · rw [if_neg e]; exact Ev.eq (by simp [e])
  · exact Ev_pos (by omega) (Ev.eq (by simp; intro h; exact c (by rw [h])))
end Go.PL
namespace Go.PL
open Go Go.VI
theorem rname1 (w : ByteArray) (h : w.data.toList.length ≤ 20000000) : Ev (fun F => Tf.tapewrightref08_Name.f F w) (nmB w) := rname_ev w h
theorem rparse_made (w0 w1 op a : ByteArray) (rest : List ByteArray) (h1 : seqB w1 eqB = true) (hl : rest.length ≤ 2000000) (hs : shortW (w0 :: w1 :: op :: a :: rest)) : Yes (fun F => Tf.tapewrightref09_Parse.f F (w0 :: w1 :: op :: a :: rest)) (madeV w0 op a rest) := by
  have hsr : shortW rest := fun s h => hs s (by simp [h])
  have hs0 := hs w0 (by simp)
  have hsa := hs a (by simp)
  have hlen : (w0 :: w1 :: op :: a :: rest).length = rest.length + 4 := rfl
  have hn0 := rname1 w0 (by omega)
  have hd := rdims_ev rest (by omega) hsr
  have hrt := rats_ev rest (by omega) hsr
  simp only [Tf.tapewrightref09_Parse.f, bif_if, decide_eq_true_eq, beq_iff_eq, bne_iff_ne, inR_iff, Bool.and_eq_true, Bool.not_eq_true', take_len, List.getD_cons_zero, List.getD_cons_succ]
  refine Yes.pos (by omega) (Yes.pos (by omega) (Yes.pos h1 (Yes.pos (by omega) (Yes.bind (kind_ev op) ?_))))
  have w4 : IntKind.i64.wrap ((3 : Int) + 1) = 4 := by decide
  have w5 : IntKind.i64.wrap ((3 : Int) + 2) = 5 := by decide
  have t4 : ((w0 :: w1 :: op :: a :: rest).take (4 : Int).toNat).drop 3 = [a] := rfl
  have d4 : (w0 :: w1 :: op :: a :: rest).drop (4 : Int).toNat = rest := rfl
  have g1 := rpn_go w0 op [a] (w0 :: w1 :: op :: a :: rest)
  by_cases c2 : inL op twoL = true
  · have hk : kindV op = (2, 0) := by unfold kindV; rw [if_pos c2]
    rw [hk]
    dsimp only
    rw [w5]
    refine Yes.neg (by decide) (Yes.if (fun h => Yes.no ?_) (fun h => Yes.pos (by omega) (Yes.bind hn0 (Yes.if (fun h0 => Yes.no ?_) (fun h0 => ?_)))))
    · by_cases hb : (nmB w0 && nmB a) = true
      · rw [made_two c2 hb, if_neg (fun q => by omega)]
      · exact made_no hb
    · exact made_no (by rw [h0]; simp)
    have h0 : nmB w0 = true := by simpa using h0
    match rest, hl, hs, hsr, hlen, h with
    | [], hl, hs, hsr, hlen, h => exact absurd (show ((4 : Nat) : Int) < 5 by decide) h
    | b :: r2, hl, hs, hsr, hlen, h =>
    have t5 : ((w0 :: w1 :: op :: a :: b :: r2).take (5 : Int).toNat).drop 3 = [a, b] := rfl
    have d5 : (w0 :: w1 :: op :: a :: b :: r2).drop (5 : Int).toNat = r2 := rfl
    have hlb : (b :: r2).length = r2.length + 1 := rfl
    have g2 := rpn_go w0 op [a, b] (w0 :: w1 :: op :: a :: b :: r2) 0 (by simp) (fun s hx => hs s (by simp at hx; rcases hx with rfl | rfl <;> simp)) 2 0 rfl
    rw [t5]
    refine Yes.pos (by omega) (Yes.pos (by omega) (Yes.pos (by omega) (Yes.pos (by decide) (Yes.bind (Ev.iter g2) ?_))))
    rw [List.drop_zero]
    have ea : ([a, b].all nmB) = (nmB a && nmB b) := by simp
    rw [ea]
    by_cases hab : (nmB a && nmB b) = true
    · rw [if_pos hab]
      have hab' := hab
      rw [Bool.and_eq_true] at hab'
      show Yes (fun F => if (0 : Int) ≤ IntKind.i64.wrap (3 + (([a, b] : List ByteArray).length : Int)) ∧ IntKind.i64.wrap (3 + (([a, b] : List ByteArray).length : Int)) ≤ ((w0 :: w1 :: op :: a :: b :: r2).length : Int) then _ else none) _
      have w5' : IntKind.i64.wrap (3 + (([a, b] : List ByteArray).length : Int)) = 5 := show IntKind.i64.wrap (3 + ((2 : Nat) : Int)) = 5 from by decide
      dsimp only [sumE]
      rw [w5', d5]
      rw [made_two c2 (by rw [h0, hab'.1]; rfl)]
      refine Yes.pos (by omega) (Yes.pos (by decide) (Yes.if (fun hx => Yes.no (if_neg (fun q => ?_))) (fun hx => Yes.neg (by decide) (Yes.neg (by decide) (Yes.neg (by decide) (Yes.is ?_))))))
      · have : IntKind.i64.wrap (Int.tdiv (IntKind.i64.wrap ((0 : Int) + 1)) 2) = 0 := by decide
        rw [this] at hx
        omega
      · have : IntKind.i64.wrap (Int.tdiv (IntKind.i64.wrap ((0 : Int) + 1)) 2) = 0 := by decide
        rw [this] at hx
        have hr2 : r2 = [] := List.length_eq_zero_iff.1 (by omega)
        subst hr2
        rw [if_pos ⟨rfl, by simp [hab'.2]⟩]
    · rw [if_neg hab]
      refine Yes.no ?_
      by_cases hb : (nmB w0 && nmB a) = true
      · rw [made_two c2 hb, if_neg (fun q => hab ?_)]
        rw [Bool.and_eq_true] at hb ⊢
        refine ⟨hb.2, ?_⟩
        have := q.2
        simp at this
        exact this.1
      · exact made_no hb
  by_cases c0 : (kindV op).1 = 0
  · refine Yes.pos c0 (Yes.no ?_)
    unfold kindV at c0
    unfold madeV
    rw [if_neg c2] at c0
    by_cases hb : (nmB w0 && nmB a) = true
    · rw [if_pos hb, if_neg c2]
      by_cases k1 : inL op oneL = true
      · rw [if_pos k1] at c0; simp at c0
      rw [if_neg k1] at c0 ⊢
      by_cases k2 : seqB op oScale = true
      · rw [if_pos k2] at c0; simp at c0
      rw [if_neg k2] at c0 ⊢
      by_cases k3 : seqB op oPower = true
      · rw [if_pos k3] at c0; simp at c0
      rw [if_neg k3] at c0 ⊢
      by_cases k4 : inL op resL = true
      · rw [if_pos k4] at c0; simp at c0
      rw [if_neg k4]
    · rw [if_neg hb]
  have hk : ∃ bh, kindV op = (1, bh) := by
    unfold kindV at c0 ⊢
    rw [if_neg c2] at c0 ⊢
    by_cases k1 : inL op oneL = true
    · rw [if_pos k1]; exact ⟨_, rfl⟩
    rw [if_neg k1] at c0 ⊢
    by_cases k2 : seqB op oScale = true
    · rw [if_pos k2]; exact ⟨_, rfl⟩
    rw [if_neg k2] at c0 ⊢
    by_cases k3 : seqB op oPower = true
    · rw [if_pos k3]; exact ⟨_, rfl⟩
    rw [if_neg k3] at c0 ⊢
    by_cases k4 : inL op resL = true
    · rw [if_pos k4]; exact ⟨_, rfl⟩
    rw [if_neg k4] at c0
    exact absurd rfl c0
  obtain ⟨bh, hk⟩ := hk
  have hg := g1 bh (by simp) (fun s hx => hs s (by simp at hx; subst hx; simp)) 1 0 rfl
  rw [List.drop_zero] at hg
  rw [hk]
  dsimp only
  rw [w4]
  refine Yes.neg (by decide) (Yes.neg (by omega) (Yes.pos (by omega) (Yes.bind hn0 (Yes.if (fun h0 => Yes.no (made_no (by rw [h0]; simp))) (fun h0 => ?_)))))
  have h0 : nmB w0 = true := by simpa using h0
  rw [t4]
  refine Yes.pos (by omega) (Yes.pos (by omega) (Yes.pos (by omega) (Yes.pos (by decide) (Yes.bind (Ev.iter hg) ?_))))
  have ea : ([a].all nmB) = nmB a := by simp
  rw [ea]
  by_cases ha : nmB a = true
  · rw [if_pos ha]
    have hb : (nmB w0 && nmB a) = true := by rw [h0, ha]; rfl
    have w4' : IntKind.i64.wrap (3 + (([a] : List ByteArray).length : Int)) = 4 := show IntKind.i64.wrap (3 + ((1 : Nat) : Int)) = 4 from by decide
    dsimp only [sumE]
    rw [w4', d4]
    refine Yes.pos (by omega) ?_
    unfold kindV at hk
    rw [if_neg c2] at hk
    by_cases k1 : inL op oneL = true
    · rw [if_pos k1] at hk
      have : bh = 0 := by cases hk; rfl
      subst this
      have wz : IntKind.i64.wrap (Int.tdiv (IntKind.i64.wrap ((0 : Int) + 1)) 2) = 0 := by decide
      rw [wz, made_one k1 hb]
      exact Yes.pos (by decide) (Yes.if (fun hx => Yes.no (if_neg (fun q => by omega))) (fun hx => Yes.neg (by decide) (Yes.neg (by decide) (Yes.neg (by decide) (Yes.is (if_pos (by omega)))))))
    rw [if_neg k1] at hk
    by_cases k2 : seqB op oScale = true
    · rw [if_pos k2] at hk
      have : bh = 1 := by cases hk; rfl
      subst this
      have wz : IntKind.i64.wrap (Int.tdiv (IntKind.i64.wrap ((1 : Int) + 1)) 2) = 1 := by decide
      rw [wz, made_sc k2 hb]
      refine Yes.pos (by decide) (Yes.if (fun hx => Yes.no (if_neg (fun q => by omega))) (fun hx => Yes.pos (by decide) (Yes.bind hrt (Yes.pos (by omega) ?_))))
      have h1r : rest.length = 1 := by omega
      obtain ⟨x, rfl⟩ := List.length_eq_one_iff.1 h1r
      have ex : ([x].all ratB) = ratB x := by simp
      rw [ex]
      cases hx : ratB x with
      | false => exact Yes.pos rfl (Yes.no (if_neg (fun q => by have q2 := q.2; simp [hx] at q2)))
      | true => exact Yes.neg (by simp) (Yes.is (if_pos ⟨rfl, by simp [hx]⟩))
    rw [if_neg k2] at hk
    by_cases k3 : seqB op oPower = true
    · rw [if_pos k3] at hk
      have : bh = 2 := by cases hk; rfl
      subst this
      have wz : IntKind.i64.wrap (Int.tdiv (IntKind.i64.wrap ((2 : Int) + 1)) 2) = 1 := by decide
      rw [wz, made_pw k3 hb]
      refine Yes.pos (by decide) (Yes.if (fun hx => Yes.no (if_neg (fun q => by omega))) (fun hx => Yes.neg (by decide) (Yes.pos (by decide) (Yes.pos (by omega) ?_))))
      have h1r : rest.length = 1 := by omega
      rw [if_pos h1r]
      obtain ⟨x, rfl⟩ := List.length_eq_one_iff.1 h1r
      obtain ⟨v, hv, hq⟩ := rnumber_ev x (by have := hsr x (by simp); omega)
      refine Yes.bind hv ?_
      show Yes _ ((numS x).bind _)
      cases hn : numS x with
      | none => exact Yes.neg (by simp) (Yes.no rfl)
      | some n =>
        have := hq n hn
        subst this
        refine Yes.pos rfl ?_
        rw [Option.bind_some]
        exact Yes.if (fun hx => Yes.no (if_neg (by have := of_decide_eq_false hx; dsimp only at this; omega))) (fun hx => Yes.is (if_pos (by have hx : decide (v < 7) = true := by simpa using hx
                                                                                                                                             have := of_decide_eq_true hx; omega)))
    rw [if_neg k3] at hk
    by_cases k4 : inL op resL = true
    · rw [if_pos k4] at hk
      have : bh = 3 := by cases hk; rfl
      subst this
      rw [made_rs k4 hb]
      refine Yes.neg (by decide) (Yes.neg (by decide) (Yes.neg (by decide) (Yes.pos (by decide) (Yes.bind hd ?_))))
      cases numsS rest with
      | none => exact Yes.pos rfl (Yes.no rfl)
      | some d =>
        rw [Option.bind_some]
        exact Yes.if (fun (hx : rightS d = false) => Yes.no (if_neg (by rw [hx]; simp))) (fun (hx : ¬ rightS d = false) => Yes.is (if_pos (by simpa using hx)))
    rw [if_neg k4] at hk
    cases hk
  · rw [if_neg ha]
    exact Yes.no (made_no (by rw [h0]; simpa using ha))
end Go.PL
namespace Go.PL
open Go Go.VI
/-- The document's reading of a line's words. -/
theorem rparse_ev (w : List ByteArray) (hl : w.length ≤ 2000000) (hs : shortW w) : Yes (fun F => Tf.tapewrightref09_Parse.f F w) (parseV w) := by
  match w, hl, hs with
  | [], _, _ =>
    simp only [Tf.tapewrightref09_Parse.f, bif_if, decide_eq_true_eq, beq_iff_eq]
    exact Yes.neg (by decide) (Yes.pos (by decide) (Yes.no rfl))
  | [w0], _, _ =>
    simp only [Tf.tapewrightref09_Parse.f, bif_if, decide_eq_true_eq, beq_iff_eq]
    exact Yes.neg (by simp) (Yes.pos (by simp) (Yes.no rfl))
  | w0 :: w1 :: r, hl, hs =>
    by_cases hm : 2 ≤ r.length ∧ seqB w1 eqB = true
    · match r, hm, hl, hs with
      | op :: a :: rest, hm, hl, hs =>
        have hp : parseV (w0 :: w1 :: op :: a :: rest) = madeV w0 op a rest := by
          rw [parseV_cons]
          rw [if_pos hm.2]
        rw [hp]
        exact rparse_made w0 w1 op a rest hm.2 (by simp at hl; omega) hs
    have hsr : shortW r := fun s h => hs s (by simp [h])
    have hs1 := hs w1 (by simp)
    have hlen : (w0 :: w1 :: r).length = r.length + 2 := rfl
    have hd := rdims_ev r (by omega) hsr
    have hn1 := rname1 w1 (by omega)
    have hp : parseV (w0 :: w1 :: r) = if nmB w1 = true then
      if seqB w0 oParam = true ∨ seqB w0 oInput = true then (numsS r).bind fun d => if rightS d = true then some ⟨w1, w0, [], d, emB, 0, []⟩ else none
      else if seqB w0 oConst = true then constV w1 r
      else if seqB w0 oLoss' = true ∧ r.length = 0 then some ⟨emB, oLoss', [w1], [], emB, 0, []⟩
      else none else none := by
      rw [parseV_cons]
      by_cases c : seqB w1 eqB = true
      · rw [if_pos c, eq_noname c, if_neg (by simp)]
        match r, hm with
        | [], _ => rfl
        | [_], _ => rfl
        | _ :: _ :: _, hm => exact absurd ⟨by simp, c⟩ hm
      · rw [if_neg c]
    rw [hp]
    have par : ∀ o, (o = oParam ∨ o = oInput) → seqB w0 o = true → nmB w1 = true → Yes (fun F => if (2 : Int) ≤ ((w0 :: w1 :: r).length : Int) then (Tf.tapewrightref09_dims.f F r).bind fun y43 => if y43.2 = false then some ((⟨emB, emB, [], [], emB, 0, []⟩ : VI.Stmt), false) else if (0 : Int) ≤ 1 ∧ (1 : Int) < ((w0 :: w1 :: r).length : Int) then if (0 : Int) ≤ 0 ∧ (0 : Int) < ((w0 :: w1 :: r).length : Int) then some ((⟨w1, w0, [], y43.1, emB, 0, []⟩ : VI.Stmt), true) else none else none else none)
        (if nmB w1 = true then
      if seqB w0 oParam = true ∨ seqB w0 oInput = true then (numsS r).bind fun d => if rightS d = true then some ⟨w1, w0, [], d, emB, 0, []⟩ else none
      else if seqB w0 oConst = true then constV w1 r
      else if seqB w0 oLoss' = true ∧ r.length = 0 then some ⟨emB, oLoss', [w1], [], emB, 0, []⟩
      else none else none) := by
      intro o ho h0 hn
      have z : seqB w0 oParam = true ∨ seqB w0 oInput = true := by rcases ho with rfl | rfl; exact .inl h0; exact .inr h0
      rw [if_pos hn, if_pos z]
      refine Yes.pos (by omega) (Yes.bind hd ?_)
      cases numsS r with
      | none => exact Yes.pos rfl (Yes.no rfl)
      | some d =>
        rw [Option.bind_some]
        exact Yes.if (fun (hx : rightS d = false) => Yes.no (if_neg (by rw [hx]; simp))) (fun (hx : ¬ rightS d = false) => Yes.pos (by omega) (Yes.pos (by omega) (Yes.is (if_pos (by simpa using hx)))))
    have con : seqB w0 oConst = true → nmB w1 = true → Yes (fun F => (Tf.tapewrightref09_Parse.l39 F (emB, (emB, ((), ((), (emB, ((0 : Int), ((), ((w0 :: w1 :: r), (2 : Int)))))))))).bind fun y49 => sumE y49 (fun y50 => some ((⟨y50.1, y50.2.1, [], y50.2.2.2.1, y50.2.2.2.2.1, y50.2.2.2.2.2.1, y50.2.2.2.2.2.2.1⟩ : VI.Stmt), y50.2.2.2.2.2.2.2)) (fun y50 => some ((⟨emB, emB, [], [], emB, 0, []⟩ : VI.Stmt), false)))
        (if nmB w1 = true then
      if seqB w0 oParam = true ∨ seqB w0 oInput = true then (numsS r).bind fun d => if rightS d = true then some ⟨w1, w0, [], d, emB, 0, []⟩ else none
      else if seqB w0 oConst = true then constV w1 r
      else if seqB w0 oLoss' = true ∧ r.length = 0 then some ⟨emB, oLoss', [w1], [], emB, 0, []⟩
      else none else none) := by
      intro h0 hn
      have z : ¬ (seqB w0 oParam = true ∨ seqB w0 oInput = true) := by rw [seqB_iff.1 h0]; decide +kernel
      rw [if_pos hn, if_neg z, if_pos h0]
      obtain ⟨res, h1, h2⟩ := rpc_go w0 w1 r (by omega) hsr r.length 0 (by omega) (by rw [List.drop_zero]; simp)
      have h2 : EvG (fun _ L => L (emB, (emB, ((), ((), (emB, ((0 : Int), ((), ((w0 :: w1 :: r), (2 : Int)))))))))) Tf.tapewrightref09_Parse.s39 res := h2
      refine Yes.bind (Ev.iter h2) ?_
      rcases h1 with ⟨s, g1, g2, rfl⟩ | ⟨g1, rfl | rfl⟩
      · refine Yes.is (g1.trans ?_)
        congr 1
        cases s
        simp only at g2
        subst g2
        rfl
      · exact Yes.no g1
      · exact Yes.no g1
    have pel : nmB w1 = false → (if nmB w1 = true then
      if seqB w0 oParam = true ∨ seqB w0 oInput = true then (numsS r).bind fun d => if rightS d = true then some ⟨w1, w0, [], d, emB, 0, []⟩ else none
      else if seqB w0 oConst = true then constV w1 r
      else if seqB w0 oLoss' = true ∧ r.length = 0 then some ⟨emB, oLoss', [w1], [], emB, 0, []⟩
      else none else none) = (none : Option VI.Stmt) := fun h => if_neg (by rw [h]; simp)
    have plo : nmB w1 = true → seqB w0 oLoss' = true → r.length = 0 → (if nmB w1 = true then
      if seqB w0 oParam = true ∨ seqB w0 oInput = true then (numsS r).bind fun d => if rightS d = true then some ⟨w1, w0, [], d, emB, 0, []⟩ else none
      else if seqB w0 oConst = true then constV w1 r
      else if seqB w0 oLoss' = true ∧ r.length = 0 then some ⟨emB, oLoss', [w1], [], emB, 0, []⟩
      else none else none) = some (⟨emB, oLoss', [w1], [], emB, 0, []⟩ : VI.Stmt) := fun h h2 h3 => by
      have z : ¬ (seqB w0 oParam = true ∨ seqB w0 oInput = true) := by rw [seqB_iff.1 h2]; decide +kernel
      have z2 : ¬ seqB w0 oConst = true := by rw [seqB_iff.1 h2]; decide +kernel
      rw [if_pos h, if_neg z, if_neg z2, if_pos ⟨h2, h3⟩]
    have pno : ¬ seqB w0 oParam = true → ¬ seqB w0 oInput = true → ¬ seqB w0 oConst = true → ¬ (seqB w0 oLoss' = true ∧ r.length = 0) → (if nmB w1 = true then
      if seqB w0 oParam = true ∨ seqB w0 oInput = true then (numsS r).bind fun d => if rightS d = true then some ⟨w1, w0, [], d, emB, 0, []⟩ else none
      else if seqB w0 oConst = true then constV w1 r
      else if seqB w0 oLoss' = true ∧ r.length = 0 then some ⟨emB, oLoss', [w1], [], emB, 0, []⟩
      else none else none) = (none : Option VI.Stmt) := fun h1 h2 h3 h4 => by
      have z : ¬ (seqB w0 oParam = true ∨ seqB w0 oInput = true) := fun q => q.elim h1 h2
      rw [if_neg z, if_neg h3, if_neg h4]
      split <;> rfl
    have hdr1 : (w0 :: w1 :: r).drop 1 = w1 :: r := rfl
    generalize (if nmB w1 = true then
      if seqB w0 oParam = true ∨ seqB w0 oInput = true then (numsS r).bind fun d => if rightS d = true then some ⟨w1, w0, [], d, emB, 0, []⟩ else none
      else if seqB w0 oConst = true then constV w1 r
      else if seqB w0 oLoss' = true ∧ r.length = 0 then some (⟨emB, oLoss', [w1], [], emB, 0, []⟩ : VI.Stmt)
      else none else none) = p at par con pel plo pno ⊢
    simp only [Tf.tapewrightref09_Parse.f, bif_if, decide_eq_true_eq, beq_iff_eq, inR_iff, Bool.true_and, Bool.not_eq_true', take_len, drop2, hdr1, List.getD_cons_zero, List.getD_cons_succ]
    refine Yes.if (fun h4 => Yes.pos (by omega) (Yes.neg (fun q => hm ⟨by omega, q⟩) ?_)) (fun h4 => ?_)
    all_goals
      refine Yes.neg (by omega) (Yes.pos (by omega) (Yes.bind hn1 (Yes.if (fun hx => Yes.no (pel hx)) (fun hx => Yes.pos (by omega) ?_))))
      have hx : nmB w1 = true := by simpa using hx
      refine Yes.if (fun hl0 => Yes.if (fun hl2 => Yes.pos (by omega) ?_) (fun hl2 => ?_)) (fun hl0 => ?_)
      · have hr0 : r = [] := List.length_eq_zero_iff.1 (by omega)
        refine Yes.is ((plo hx hl0 (by omega)).trans ?_)
        rw [hr0]
      · refine Yes.pos (by omega) (Yes.if (fun h => par _ (.inl rfl) h hx) (fun n1 => Yes.pos (by omega) (Yes.if (fun h => par _ (.inr rfl) h hx) (fun n2 => Yes.pos (by omega) (Yes.if (fun h => Yes.no (pno n1 n2 (by rw [h]; simp) (fun q => by omega))) (fun h => con (by simpa using h) hx))))))
      · refine Yes.pos (by omega) (Yes.if (fun h => par _ (.inl rfl) h hx) (fun n1 => Yes.pos (by omega) (Yes.if (fun h => par _ (.inr rfl) h hx) (fun n2 => Yes.pos (by omega) (Yes.if (fun h => Yes.no (pno n1 n2 (by rw [h]; simp) (fun q => hl0 q.1))) (fun h => con (by simpa using h) hx))))))
theorem rsameS_go (l : List ByteArray) (hl : l.length ≤ 20000000) : ∀ (d i : Nat), i + d = l.length → EvG (fun _ L => L ((i : Int), (l, l))) Tf.tapewrightref09_same.s4 (.inr ()) := by
  intro d
  induction d with
  | zero =>
    intro i hi
    refine EvG.step (fun F L => ?_) (EvG.now _)
    dsimp only [Tf.tapewrightref09_same.s4]
    simp only [bif_if, decide_eq_true_eq]
    rw [if_neg (by omega)]
  | succ d ih =>
    intro i hi
    have hw : IntKind.i64.wrap ((i : Int) + 1) = ((i + 1 : Nat) : Int) := by rw [w64 (by omega) (by omega), succ_cast]
    refine EvG.loop ?_
    simp only [Tf.tapewrightref09_same.s4, bif_if, decide_eq_true_eq, inR_iff, hw, seqB_rfl, Bool.not_true, Bool.false_eq_true]
    exact EvG.pos (by omega) (EvG.pos (by omega) (EvG.pos (by omega) (EvG.neg (by simp) (ih (i + 1) (by omega)))))
theorem rsameS_ev (l : List ByteArray) (hl : l.length ≤ 20000000) : Ev (fun F => Tf.tapewrightref09_same.f F (l, l)) true := by
  simp only [Tf.tapewrightref09_same.f, bif_if, bne_iff_ne]
  exact Ev_neg (by simp) (Ev.bind (Ev.iter (rsameS_go l hl l.length 0 (by omega))) (Ev.now _))
def okSt (s : VI.Stmt) : Prop := s.args.length ≤ 20000000 ∧ s.dims.length ≤ 20000000 ∧ s.data.length ≤ 20000000
theorem requal_ev (s : VI.Stmt) (h : okSt s) : Ev (fun F => Tf.tapewrightref09_Equal.f F (s, s)) true := by
  simp only [Tf.tapewrightref09_Equal.f, bif_if, seqB_rfl, beq_iff_eq]
  exact Ev_pos (by trivial) (Ev_pos (by trivial) (Ev.bind (rsameS_ev _ h.1) (Ev_pos rfl (Ev.bind (rsame_ev _ _ (by have := h.2.1; omega)) (Ev_pos (by simp) (Ev_pos (by trivial) (Ev_pos (by trivial) (Ev_ret (rsameS_ev _ h.2.2)))))))))
theorem numsS_len : ∀ {l : List ByteArray} {d : List Int}, numsS l = some d → d.length = l.length
  | [], d, h => by cases h; rfl
  | w :: r, d, h => by
    unfold numsS at h
    obtain ⟨n, _, h⟩ := Option.bind_eq_some_iff.1 h
    obtain ⟨l, hl, rfl⟩ := Option.map_eq_some_iff.1 h
    simp [numsS_len hl]
theorem parse_okSt {w : List ByteArray} {s : VI.Stmt} (hl : w.length ≤ 2000000) (h : parseV w = some s) : okSt s := by
  have made : ∀ {w0 op a : ByteArray} {rest : List ByteArray}, rest.length ≤ 2000000 → madeV w0 op a rest = some s → okSt s := by
    intro w0 op a rest hr h
    unfold madeV at h
    repeat' split at h
    all_goals first | (cases h; done) | skip
    · cases h; exact ⟨by simp; omega, by simp, by simp⟩
    · cases h; exact ⟨by simp, by simp, by simp⟩
    · cases h; exact ⟨by simp, by simp, by simp⟩
    · obtain ⟨n, _, h⟩ := Option.bind_eq_some_iff.1 h
      split at h
      · cases h; exact ⟨by simp, by simp, by simp⟩
      · cases h
    · obtain ⟨d, hd, h⟩ := Option.bind_eq_some_iff.1 h
      have := numsS_len hd
      split at h
      · cases h; exact ⟨by simp, by simp only; omega, by simp⟩
      · cases h
  match w, hl, h with
  | [], hl, h => cases h
  | [_], hl, h => cases h
  | w0 :: w1 :: r, hl, h =>
    have hlr : r.length ≤ 2000000 := by simp at hl; omega
    rw [parseV_cons] at h
    split at h
    · split at h
      · rename_i op a rest; exact made (by simp at hl; omega) h
      · cases h
    · split at h
      · split at h
        · obtain ⟨d, hd, h⟩ := Option.bind_eq_some_iff.1 h
          have := numsS_len hd
          split at h
          · cases h; exact ⟨by simp, by simp only; omega, by simp⟩
          · cases h
        · split at h
          · unfold constV at h
            obtain ⟨k, _, h⟩ := Option.bind_eq_some_iff.1 h
            obtain ⟨d, hd, h⟩ := Option.bind_eq_some_iff.1 h
            have := numsS_len hd
            rw [List.length_take] at this
            split at h
            · cases h; exact ⟨by simp, by simp only; omega, by simp only [List.length_drop]; omega⟩
            · cases h
          · split at h
            · cases h; exact ⟨by simp, by simp, by simp⟩
            · cases h
      · cases h
def allV : List VI.Line → List VI.Stmt → List VI.Stmt × (Int × Int)
  | [], acc => (acc, (0, 0))
  | l :: r, acc => match parseV l.words with
    | none => ([], (l.at_, 2))
    | some s => allV r (acc ++ [s])
def okLn (l : VI.Line) : Prop := l.words.length ≤ 2000000 ∧ shortW l.words
theorem set_oneSt (a b : VI.Stmt) : List.set (List.replicate 1 a) 0 b = [b] := rfl
theorem read_all_go (ls : List VI.Line) (hls : ls.length ≤ 20000001) (ok : ∀ l ∈ ls, okLn l) : ∀ (d i : Nat) (acc : List VI.Stmt), i + d = ls.length → acc.length ≤ i →
    ∃ r, EvG (fun _ L => L ((i : Int), (acc, (ls, (ls.length : Int))))) Tf.read_All.s3 r ∧ sumE r (fun y => (y.1, (y.2.1, y.2.2))) (fun y => (y, ((0 : Int), (0 : Int)))) = allV (ls.drop i) acc := by
  intro d
  induction d with
  | zero =>
    intro i acc hi _
    rw [List.drop_eq_nil_of_le (by omega)]
    refine ⟨.inr acc, EvG.step (fun F L => ?_) (EvG.now _), rfl⟩
    dsimp only [Tf.read_All.s3]
    simp only [bif_if, decide_eq_true_eq]
    rw [if_neg (by omega)]
  | succ d ih =>
    intro i acc hi ha
    have hlt : i < ls.length := by omega
    have eg : ls.getD (i : Int).toNat (dflt 8) = ls[i] := by rw [Int.toNat_natCast]; simp [List.getD_eq_getElem?_getD, hlt]
    have hw : IntKind.i64.wrap ((i : Int) + 1) = ((i + 1 : Nat) : Int) := by rw [w64 (by omega) (by omega), succ_cast]
    have ho := ok _ (List.getElem_mem hlt)
    have ih := ih (i + 1)
    rw [List.drop_eq_getElem_cons hlt, allV]
    generalize ls[i] = l at *
    have hp := read_parse_ev l ho.1 ho.2
    have open_ : ∀ {r}, EvG (fun F L => (Tf.read_Parse.f F l).bind fun y20 => if y20.2 ≠ 0 then some (.inl ([], (l.at_, y20.2))) else if acc.length + 1 ≤ 1099511627776 then L (((i + 1 : Nat) : Int), (acc ++ [(⟨y20.1.name, y20.1.op, y20.1.args, y20.1.dims, y20.1.k, y20.1.n, y20.1.data⟩ : VI.Stmt)], (ls, (ls.length : Int)))) else none) Tf.read_All.s3 r → EvG (fun _ L => L ((i : Int), (acc, (ls, (ls.length : Int))))) Tf.read_All.s3 r := by
      intro r h
      refine EvG.loop ?_
      simp only [Tf.read_All.s3, bif_if, decide_eq_true_eq, inR_iff, eg, hw, bne_iff_ne, Nat.ble_eq, set_oneSt]
      exact EvG.pos (by omega) (EvG.pos (by omega) h)
    cases hv : parseV l.words with
    | none =>
      rw [hv] at hp
      exact ⟨_, open_ (EvG.bind hp (EvG.pos (by decide) (EvG.now _))), rfl⟩
    | some s =>
      rw [hv] at hp
      obtain ⟨r, h1, h2⟩ := ih (acc ++ [s]) (by omega) (by simp; omega)
      exact ⟨r, open_ (EvG.bind hp (EvG.neg (by simp) (EvG.pos (by omega) h1))), h2⟩
theorem read_all_ev (s : ByteArray) (hs : s.data.toList.length ≤ 20000000) (ok : ∀ l ∈ linesV s, okLn l) (hn : (linesV s).length ≤ 20000001) : Ev (fun F => Tf.read_All.f F s) (allV (linesV s) []) := by
  obtain ⟨r, h1, h2⟩ := read_all_go (linesV s) hn ok (linesV s).length 0 [] (by omega) (by simp)
  rw [List.drop_zero] at h2
  simp only [Tf.read_All.f]
  refine Ev.bind (lines_ev s hs) (Ev.bind (Ev.iter h1) ?_)
  rw [← h2]
  cases r with
  | inl y => exact Ev.now _
  | inr y => exact Ev.now _
theorem linesGo_len : ∀ (ps : List (List UInt8)) (i : Nat), (linesGo i ps).length ≤ ps.length
  | [], _ => by simp [linesGo]
  | p :: r, i => by
    have h := linesGo_len r (i + 1)
    rw [linesGo, List.length_append]
    have := mkL_len ((i + 1 : Nat) : Int) (wordsL p)
    rw [List.length_cons]; omega
theorem wordsL_ok (p : List UInt8) : (wordsL p).length ≤ p.length + 1 ∧ ∀ w ∈ wordsL p, w.data.toList.length ≤ p.length := by
  have ht : (p.takeWhile (· ≠ 35)).length ≤ p.length := (List.takeWhile_sublist _).length_le
  unfold wordsL
  constructor
  · rw [List.length_map]
    refine Nat.le_trans (List.length_filter_le _ _) ?_
    rw [spl_count]
    have : (p.takeWhile (· ≠ 35)).count 32 ≤ (p.takeWhile (· ≠ 35)).length := List.count_le_length
    omega
  · intro w hw
    obtain ⟨q, hq, rfl⟩ := List.mem_map.1 hw
    have := spl_mem_len 32 _ q (List.mem_filter.1 hq).1
    rw [bL_list]; omega
theorem linesGo_ok {n : Nat} : ∀ (ps : List (List UInt8)) (i : Nat), (∀ p ∈ ps, p.length ≤ n) → ∀ l ∈ linesGo i ps, l.words.length ≤ n + 1 ∧ ∀ w ∈ l.words, w.data.toList.length ≤ n
  | [], _, _, l, h => by simp [linesGo] at h
  | p :: r, i, hp, l, h => by
    rw [linesGo] at h
    rcases List.mem_append.1 h with h | h
    · unfold mkL at h
      split at h
      · simp at h
      · simp at h
        subst h
        obtain ⟨h1, h2⟩ := wordsL_ok p
        have := hp p (by simp)
        exact ⟨by simp only; omega, fun w hw => by have := h2 w hw; omega⟩
    · exact linesGo_ok r (i + 1) (fun q hq => hp q (by simp [hq])) l h
theorem short_text {s : ByteArray} (h : s.data.toList.length ≤ 1900000) : (∀ l ∈ linesV s, okLn l) ∧ (linesV s).length ≤ 20000001 := by
  constructor
  · intro l hl
    obtain ⟨h1, h2⟩ := linesGo_ok (n := s.data.toList.length) _ 0 (spl_mem_len 10 s.data.toList) l hl
    exact ⟨by omega, fun w hw => by have := h2 w hw; omega⟩
  · refine Nat.le_trans (linesGo_len _ _) ?_
    rw [spl_count]
    have : s.data.toList.count 10 ≤ s.data.toList.length := List.count_le_length
    omega
theorem readS_ev (s : ByteArray) (h : s.data.toList.length ≤ 1900000) : Ev (fun F => Tf.read_All.f F s) (allV (linesV s) []) := read_all_ev s (by omega) (short_text h).1 (short_text h).2
/-- The fixed answer of the stage. -/
theorem readAwake_ev : Ev (fun F => Tf.tapewrightlaw09_awake.f F ()) true := by
  have h1 := readS_ev ⟨#[121, 32, 61, 32, 115, 99, 97, 108, 101, 32, 119, 32, 49, 47, 50]⟩ (by decide)
  have h2 := readS_ev ⟨#[108, 111, 115, 115, 32, 121, 10, 10, 119, 104, 97, 116]⟩ (by decide)
  simp only [Tf.tapewrightlaw09_awake.f, bif_if, beq_iff_eq]
  refine Ev.bind h1 (Ev.bind h2 ?_)
  exact Ev_pos (by decide +kernel) (Ev_pos (by decide +kernel) (Ev_pos (by decide +kernel) (Ev_pos (by decide +kernel) (Ev_pos (by decide +kernel) (Ev_pos (by decide +kernel) (Ev_pos (by decide +kernel) (Ev.eq (by decide +kernel))))))))
end Go.PL
namespace Go.VI
open Go Go.Proofs Go.Proofs.YtffpponklejidaaGreatDoor Go.ChangeShapes Go.WideShapes Go.RowKit
theorem bulk_mem {H : Type} : ∀ {l : List (DataW H)} {d : DataW H}, d ∈ l → Rows.uptoBulk d ≤ Rows.uptoBulkAll l
  | x :: r, d, h => by
    rw [Rows.uptoBulkAll]
    rcases List.mem_cons.1 h with rfl | h
    · omega
    · have := bulk_mem (l := r) h; omega
theorem argStrsUpG {P : Program} {t e : TypeId} (hu : P.underlying t = some (.slice e)) (hs : P.underlying e = some .string) (hc : P.cellsOf e = 1) {H : Type} {enc' : TypeId × Value → H} {w : World} {base : Nat} {sp : Nat → Bool} {held : Bool} {rc : Reach} {b0 : Nat} {v : Value} {d : DataW H} {p : List MemPlace} {N : Nat}
    (hv : Value.okWide P w rc b0 t v) (hx : DataW.Trod enc' P w base sp held t v d p) (hN : Rows.uptoBulk d ≤ N) :
    ∃ y : List ByteArray, (∀ x ∈ y, x.size ≤ N) ∧ Rp w (encK (.sl 4) y) v := by
  obtain ⟨A, n, c, rfl⟩ := okWide_slice hu hv
  obtain ⟨fuel, hf⟩ := hx
  rcases DataW.trod_slice hu hf with ⟨h1, _⟩ | ⟨a, len, cap, elems, rest, n', _, h1, hd, hb, hl, hm, hlen, hel, _, _⟩
  · cases h1
    exact ⟨[], fun x hx => (List.not_mem_nil hx).elim, fun F hF => .sl rfl (Nat.le_refl _) (fun _ _ => .nilIface) (fun h => absurd rfl h) (fun i j y x h => by simp at h)⟩
  · obtain ⟨rfl, rfl, rfl⟩ : A = some a ∧ n = len ∧ c = cap := by injection h1 with h1 _; injection h1 with e1 e2 e3; exact ⟨e1, e2, e3⟩
    obtain ⟨rfl, _⟩ := Prod.mk.inj hd
    have each : ∀ i, i < n → ∃ y : ByteArray, y.size ≤ N ∧ w.cell? (a.add i) = some (.string y) := by
      intro i hi
      have hE := hel i hi
      have hlt : i < elems.length := by omega
      rw [List.getElem?_eq_getElem hlt, Option.bind_eq_some_iff] at hE
      obtain ⟨cs', hcs, ht'⟩ := hE
      obtain ⟨s, rfl, he, _⟩ := DataW.trod_string hs ht'
      obtain ⟨_, hl', hcell⟩ := World.cells?_some hcs
      have hq := hcell 0 (by rw [hc]; exact Nat.zero_lt_one)
      have hmem : (elems[i]).1 ∈ elems.map (·.1) := List.mem_map.2 ⟨elems[i], List.getElem_mem hlt, rfl⟩
      have hb1 := bulk_mem hmem
      rw [he, Rows.uptoBulk] at hb1
      rw [Rows.uptoBulk] at hN
      have hsz : s.size = s.data.toList.length := by rw [Array.length_toList]; rfl
      refine ⟨s, by rw [hsz]; omega, ?_⟩
      have eq1 : a.add i = (a.add (i * P.cellsOf e)).add 0 := by rw [Addr.add_add, hc, Nat.mul_one, Nat.add_zero]
      rw [eq1]
      simpa using hq
    obtain ⟨ys, hy1, hy2⟩ := choose_row n each
    refine ⟨ys, fun x hx => ?_, fun F hF => .sl hy1.symm hl (fun i j => (w.cell? (a.add (i * sz 4 + j))).getD .nilIface) (fun _ => ⟨a, rfl, fun i j y v hy hv => ⟨?_, hF _⟩⟩) fun i j y v hy hv => ?_⟩
    · obtain ⟨i, hi⟩ := List.mem_iff_getElem?.1 hx
      exact (hy2 i x hi).1
    all_goals
      obtain ⟨_, h1⟩ := hy2 i y hy
      have hj : j = 0 := by
        have := (List.getElem?_eq_some_iff.1 hv).1
        have hz : (enc 4 y).length = 1 := enc_length 4 y
        omega
      subst hj
      have eq1 : a.add (i * sz 4 + 0) = a.add i := by rw [show sz 4 = 1 from rfl, Nat.mul_one, Nat.add_zero]
      rw [eq1, h1]
    · rfl
    · cases hv
      exact .str y
set_option maxRecDepth 100000 in
theorem argStrsUp {H : Type} {enc' : TypeId × Value → H} {w : World} {base : Nat} {sp : Nat → Bool} {held : Bool} {rc : Reach} {b0 : Nat} {v : Value} {d : DataW H} {p : List MemPlace} {N : Nat}
    (hv : Value.okWide Tryz.prog w rc b0 22 v) (hx : DataW.Trod enc' Tryz.prog w base sp held 22 v d p) (hN : Rows.uptoBulk d ≤ N) :
    ∃ y : List ByteArray, (∀ x ∈ y, x.size ≤ N) ∧ Rp w (encK (.sl 4) y) v := argStrsUpG Tryz.underlying22 Tryz.underlying9 (by kernel_rfl) hv hx hN
end Go.VI
