import Derived.Test.YtffpponklejidaaGreatDoorZRGraphBuilds4
import Derived.KernelRfl
import Derived.Test.YtffpponklejidaaGreatDoorProg
import Derived.WalkKit
import Derived.WalkSpells
import Derived.Shelf.Strings.BuilderK
import Derived.Below
import Derived.Shelf.GgClosure.StringsIndexFuncTop
import Derived.Ground.GgwProg
import Derived.Shelf.Strings.SlTrimAscii
import Derived.Lib.IndexBytes
import Derived.Shelf.Strings.Search2
import Derived.Lib.SplitLaws
import Derived.Laws.RangeString
import Derived.Laws.RangeAny
import Derived.Lib.SliceRun
import Derived.Shelf.Strconv.AtoiAll
import Derived.Shelf.Strconv.Itoa3
import Derived.Shelf.Strings.Count
import Derived.Shelf.Strings.OnBuilder
import Derived.MapKept
import Derived.ChangeMaps3
import Derived.Carry
import Derived.Laws.CopyRow
import Derived.Laws.MakeOwn
import Derived.Laws.Tables
import Derived.Great.BuildSlice
import Derived.DataElems
import Derived.Laws.AppendOwn
import Derived.Laws.Entries
import Derived.Laws.Cells
import Derived.Laws.Append
import Derived.Laws.BytesString
import Derived.Calls
import Derived.Orders
import Derived.RowKit
import Derived.Laws.World
import GoSem.Core.Region
import GoSem.Core.View
import GoSem.Op.String
import GoSem.Core.Code
set_option linter.unusedVariables false
set_option linter.unusedSimpArgs false
namespace Go.PL
open Go Go.VI
def twoL : List ByteArray := [⟨#[97, 100, 100]⟩, ⟨#[115, 117, 98]⟩, ⟨#[109, 117, 108]⟩, ⟨#[109, 97, 120]⟩, ⟨#[97, 98, 111, 118, 101]⟩, ⟨#[109, 97, 116, 109, 117, 108]⟩]
def oneL : List ByteArray := [⟨#[114, 101, 108, 117]⟩, ⟨#[97, 98, 115]⟩, ⟨#[115, 116, 101, 112]⟩, ⟨#[115, 105, 103, 110]⟩, ⟨#[116, 114, 97, 110, 115, 112, 111, 115, 101]⟩, ⟨#[115, 117, 109]⟩]
def resL : List ByteArray := [⟨#[114, 101, 115, 104, 97, 112, 101]⟩, ⟨#[115, 112, 114, 101, 97, 100]⟩]
abbrev emB : ByteArray := ByteArray.empty
def nmB (s : ByteArray) : Bool := nameS s.data.toList
def madeV (w0 op a : ByteArray) (rest : List ByteArray) : Option VI.Stmt :=
  if (nmB w0 && nmB a) = true then
    if inL op twoL = true then (if rest.length = 1 ∧ rest.all nmB = true then some ⟨w0, op, a :: rest, [], emB, 0, []⟩ else none)
    else if inL op oneL = true then (if rest.length = 0 then some ⟨w0, op, [a], [], emB, 0, []⟩ else none)
    else if seqB op oScale = true then (if rest.length = 1 ∧ ratB (rest.getD 0 (dflt 4)) = true then some ⟨w0, op, [a], [], rest.getD 0 (dflt 4), 0, []⟩ else none)
    else if seqB op oPower = true then (if rest.length = 1 then (numS (rest.getD 0 (dflt 4))).bind fun n => if n ≤ 6 then some ⟨w0, op, [a], [], emB, n, []⟩ else none else none)
    else if inL op resL = true then (numsS rest).bind fun d => if rightS d = true then some ⟨w0, op, [a], d, emB, 0, []⟩ else none
    else none
  else none
def constV (nm : ByteArray) (rest : List ByteArray) : Option VI.Stmt :=
  (idxE rest).bind fun k => (numsS (rest.take k)).bind fun d =>
    if rightS d = true ∧ ((rest.drop (k + 1)).length : Int) = prodI d ∧ (rest.drop (k + 1)).all ratB = true then some ⟨nm, oConst, [], d, emB, 0, rest.drop (k + 1)⟩ else none
abbrev oLoss' : ByteArray := ⟨#[108, 111, 115, 115]⟩
def parseV : List ByteArray → Option VI.Stmt
  | w0 :: w1 :: r =>
    if seqB w1 eqB = true then (match r with | op :: a :: rest => madeV w0 op a rest | _ => none)
    else if nmB w1 = true then
      if seqB w0 oParam = true ∨ seqB w0 oInput = true then (numsS r).bind fun d => if rightS d = true then some ⟨w1, w0, [], d, emB, 0, []⟩ else none
      else if seqB w0 oConst = true then constV w1 r
      else if seqB w0 oLoss' = true ∧ r.length = 0 then some ⟨emB, oLoss', [w1], [], emB, 0, []⟩
      else none
    else none
  | _ => none
theorem parseV_cons (w0 w1 : ByteArray) (r : List ByteArray) : parseV (w0 :: w1 :: r) = if seqB w1 eqB = true then (match r with | op :: a :: rest => madeV w0 op a rest | _ => none)
    else if nmB w1 = true then
      if seqB w0 oParam = true ∨ seqB w0 oInput = true then (numsS r).bind fun d => if rightS d = true then some ⟨w1, w0, [], d, emB, 0, []⟩ else none
      else if seqB w0 oConst = true then constV w1 r
      else if seqB w0 oLoss' = true ∧ r.length = 0 then some ⟨emB, oLoss', [w1], [], emB, 0, []⟩
      else none
    else none := rfl
theorem set_oneB (x : ByteArray) : (List.replicate 1 ByteArray.empty).set 0 x = [x] := rfl
theorem set_twoB (x y : ByteArray) : ((List.replicate 2 ByteArray.empty).set 0 x).set 1 y = [x, y] := rfl
theorem take_len {α : Type} (l : List α) : l.take l.length = l := List.take_length
theorem drop4 (a b c d : ByteArray) (l : List ByteArray) : (a :: b :: c :: d :: l).drop 4 = l := rfl
theorem inL_of {op o : ByteArray} {l : List ByteArray} (h : seqB op o = true) (hl : inL o l = true) : inL op l = true := by rw [seqB_iff.1 h]; exact hl
theorem inL_not {op o : ByteArray} {l : List ByteArray} (h : seqB op o = true) (hl : inL o l = false) : ¬ inL op l = true := by rw [seqB_iff.1 h, hl]; simp
theorem seqB_not {op o q : ByteArray} (h : seqB op o = true) (hl : seqB o q = false) : ¬ seqB op q = true := by rw [seqB_iff.1 h, hl]; simp
section
variable {w0 op a : ByteArray} {rest : List ByteArray}
theorem made_two (h : inL op twoL = true) (hb : (nmB w0 && nmB a) = true) : madeV w0 op a rest = (if rest.length = 1 ∧ rest.all nmB = true then some ⟨w0, op, a :: rest, [], emB, 0, []⟩ else none) := by unfold madeV; rw [if_pos hb, if_pos h]
theorem made_one (h : inL op oneL = true) (hb : (nmB w0 && nmB a) = true) : madeV w0 op a rest = (if rest.length = 0 then some ⟨w0, op, [a], [], emB, 0, []⟩ else none) := by
  have h2 : ¬ inL op twoL = true := by
    obtain ⟨o, h1, h2⟩ : ∃ o ∈ oneL, op = o := by
      simp only [inL, List.any_eq_true] at h
      obtain ⟨o, h1, h2⟩ := h
      exact ⟨o, h1, seqB_iff.1 h2⟩
    rw [h2]; clear h h2; revert o; decide +kernel
  unfold madeV; rw [if_pos hb, if_neg h2, if_pos h]
theorem made_no (hb : ¬ (nmB w0 && nmB a) = true) : madeV w0 op a rest = none := by unfold madeV; rw [if_neg hb]
theorem made_sc (h : seqB op oScale = true) (hb : (nmB w0 && nmB a) = true) : madeV w0 op a rest = (if rest.length = 1 ∧ ratB (rest.getD 0 (dflt 4)) = true then some ⟨w0, op, [a], [], rest.getD 0 (dflt 4), 0, []⟩ else none) := by
  unfold madeV; rw [if_pos hb, if_neg (inL_not h (by decide +kernel)), if_neg (inL_not h (by decide +kernel)), if_pos h]
theorem made_pw (h : seqB op oPower = true) (hb : (nmB w0 && nmB a) = true) : madeV w0 op a rest = (if rest.length = 1 then (numS (rest.getD 0 (dflt 4))).bind fun n => if n ≤ 6 then some ⟨w0, op, [a], [], emB, n, []⟩ else none else none) := by
  unfold madeV; rw [if_pos hb, if_neg (inL_not h (by decide +kernel)), if_neg (inL_not h (by decide +kernel)), if_neg (seqB_not h (by decide +kernel)), if_pos h]
theorem made_rs (h : inL op resL = true) (hb : (nmB w0 && nmB a) = true) : madeV w0 op a rest = (numsS rest).bind fun d => if rightS d = true then some ⟨w0, op, [a], d, emB, 0, []⟩ else none := by
  have h2 : ¬ inL op twoL = true ∧ ¬ inL op oneL = true ∧ ¬ seqB op oScale = true ∧ ¬ seqB op oPower = true := by
    obtain ⟨o, h1, h2⟩ : ∃ o ∈ resL, op = o := by
      simp only [inL, List.any_eq_true] at h
      obtain ⟨o, h1, h2⟩ := h
      exact ⟨o, h1, seqB_iff.1 h2⟩
    rw [h2]; clear h h2; revert o; decide +kernel
  unfold madeV; rw [if_pos hb, if_neg h2.1, if_neg h2.2.1, if_neg h2.2.2.1, if_neg h2.2.2.2, if_pos h]
end
theorem read_made_ev (w0 w1 op a : ByteArray) (rest : List ByteArray) (hl : rest.length ≤ 2000000) (hs : shortW (w0 :: w1 :: op :: a :: rest)) : Yes (fun F => Tf.read_made.f F (w0 :: w1 :: op :: a :: rest)) (madeV w0 op a rest) := by
  have hsr : shortW rest := fun s h => hs s (by simp [h])
  have hlen : (w0 :: w1 :: op :: a :: rest).length = rest.length + 4 := rfl
  have hn1 := names_ev [w0, a] (by simp)
  have hn2 := names_ev rest (by omega)
  have e1 : ([w0, a].all fun s => nameS s.data.toList) = (nmB w0 && nmB a) := by simp [nmB]
  have e2 : (rest.all fun s => nameS s.data.toList) = rest.all nmB := rfl
  rw [e1] at hn1
  rw [e2] at hn2
  have hd := read_dims_ev rest (by omega) hsr
  simp only [Tf.read_made.f, bif_if, decide_eq_true_eq, beq_iff_eq, bne_iff_ne, inR_iff, Nat.ble_eq, Bool.true_and, Bool.not_eq_true', set_oneB, set_twoB, take_len, drop4, List.getD_cons_zero, List.getD_cons_succ, List.singleton_append]
  refine Yes.pos (by omega) (Yes.pos (by omega) (Yes.pos (by omega) (Yes.pos (by omega) (Yes.pos (by omega) (Yes.pos (by omega) (Yes.bind hn1 ?_))))))
  have two : ∀ o, inL o twoL = true → seqB op o = true → Yes (fun F => if 1 + rest.length ≤ 1099511627776 then if (nmB w0 && nmB a) = true then if (rest.length : Int) = 1 then (Tf.read_names.f F rest).bind fun y51 => some ((⟨w0, op, a :: rest, [], emB, 0, []⟩ : VI.Stmt), y51) else some (⟨w0, op, a :: rest, [], emB, 0, []⟩, false) else some (⟨w0, op, a :: rest, [], emB, 0, []⟩, false) else none) (madeV w0 op a rest) := by
    intro o ho h
    have hop := inL_of h ho
    refine Yes.pos (by omega) (Yes.if (fun hb => ?_) (fun hb => Yes.no (made_no hb)))
    rw [made_two hop hb]
    refine Yes.if (fun h1 => Yes.ret hn2 ?_) (fun h1 => Yes.no (if_neg (fun q => by omega)))
    by_cases c : rest.all nmB = true
    · rw [if_pos c, if_pos ⟨by omega, c⟩]
    · rw [if_neg c, if_neg (fun q => c q.2)]
  have one : ∀ o, inL o oneL = true → seqB op o = true → Yes (fun F => if (nmB w0 && nmB a) = true then some ((⟨w0, op, [a], [], emB, 0, []⟩ : VI.Stmt), (rest.length : Int) == 0) else some (⟨w0, op, [a], [], emB, 0, []⟩, false)) (madeV w0 op a rest) := by
    intro o ho h
    have hop := inL_of h ho
    refine Yes.if (fun hb => Yes.val ?_) (fun hb => Yes.no (made_no hb))
    rw [made_one hop hb]
    by_cases c : rest.length = 0
    · rw [if_pos c, if_pos (by rw [beq_iff_eq]; omega)]
    · rw [if_neg c, if_neg (by rw [beq_iff_eq]; omega)]
  have res : ∀ o, inL o resL = true → seqB op o = true → Yes (fun F => (Tf.read_dims.f F rest).bind fun y65 => if (nmB w0 && nmB a) = true then some ((⟨w0, op, [a], y65.1, emB, 0, []⟩ : VI.Stmt), y65.2) else some (⟨w0, op, [a], y65.1, emB, 0, []⟩, false)) (madeV w0 op a rest) := by
    intro o ho h
    have hop := inL_of h ho
    refine Yes.bind hd (Yes.if (fun hb => Yes.val ?_) (fun hb => Yes.no (made_no hb)))
    rw [made_rs hop hb]
    cases numsS rest with
    | none => rfl
    | some d => rfl
  refine Yes.if (two _ (by decide +kernel)) (fun n1 => Yes.if (two _ (by decide +kernel)) (fun n2 => Yes.if (two _ (by decide +kernel)) (fun n3 => Yes.if (two _ (by decide +kernel)) (fun n4 => Yes.if (two _ (by decide +kernel)) (fun n5 => Yes.if (two _ (by decide +kernel)) (fun n6 => ?_))))))
  refine Yes.if (one _ (by decide +kernel)) (fun n7 => Yes.if (one _ (by decide +kernel)) (fun n8 => Yes.if (one _ (by decide +kernel)) (fun n9 => Yes.if (one _ (by decide +kernel)) (fun n10 => Yes.if (one _ (by decide +kernel)) (fun n11 => Yes.if (one _ (by decide +kernel)) (fun n12 => ?_))))))
  refine Yes.if (fun h => ?_) (fun n13 => ?_)
  · by_cases hb : (nmB w0 && nmB a) = true
    · rw [made_sc h hb]
      refine Yes.if (fun h1 => Yes.no (if_neg (fun q => by omega))) (fun h1 => Yes.pos (by omega) ?_)
      have hm : (rest.getD 0 (dflt 4)).data.toList.length ≤ 2000000 := by
        cases rest with
        | nil => simp at h1
        | cons x r => exact hsr x (by simp)
      refine Yes.bind (rat_ev _ hm) (Yes.if (fun h2 => Yes.no (if_neg (fun q => by rw [q.2] at h2; cases h2))) (fun h2 => Yes.pos (by omega) (Yes.val ?_)))
      have h2 : ratB (rest.getD 0 (dflt 4)) = true := by simpa using h2
      rw [if_pos ⟨by omega, h2⟩, if_pos hb]
    · rw [made_no hb]
      refine Yes.if (fun h1 => Yes.no rfl) (fun h1 => Yes.pos (by omega) ?_)
      have hm : (rest.getD 0 (dflt 4)).data.toList.length ≤ 2000000 := by
        cases rest with
        | nil => simp at h1
        | cons x r => exact hsr x (by simp)
      refine Yes.bind (rat_ev _ hm) (Yes.if (fun h2 => Yes.no rfl) (fun h2 => Yes.pos (by omega) (Yes.val (by rw [if_neg hb]))))
  refine Yes.if (fun h => ?_) (fun n14 => ?_)
  · refine Yes.if (fun h1 => Yes.no ?_) (fun h1 => Yes.pos (by omega) ?_)
    · by_cases hb : (nmB w0 && nmB a) = true
      · rw [made_pw h hb, if_neg (by omega)]
      · exact made_no hb
    have hm : (rest.getD 0 (dflt 4)).data.toList.length ≤ 2000000 := by
      cases rest with
      | nil => simp at h1
      | cons x r => exact hsr x (by simp)
    obtain ⟨v, hv, hq⟩ := read_number_ev (rest.getD 0 (dflt 4)) (by omega)
    refine Yes.bind hv (Yes.if (fun hb => ?_) (fun hb => Yes.no (made_no hb)))
    have e1 : rest.length = 1 := by omega
    rw [made_pw h hb, if_pos e1]
    cases hn : numS (rest.getD 0 (dflt 4)) with
    | none => exact Yes.neg (by simp) (Yes.no rfl)
    | some n =>
      have := hq n hn
      subst this
      refine Yes.pos rfl (Yes.val ?_)
      simp only [Option.bind_some, decide_eq_true_eq]
  refine Yes.if (res _ (by decide +kernel)) (fun n15 => Yes.if (res _ (by decide +kernel)) (fun n16 => Yes.no ?_))
  by_cases hb : (nmB w0 && nmB a) = true
  · unfold madeV
    rw [if_pos hb, if_neg (by simp only [inL, twoL, List.any_cons, List.any_nil]; simp [n1, n2, n3, n4, n5, n6]), if_neg (by simp only [inL, oneL, List.any_cons, List.any_nil]; simp [n7, n8, n9, n10, n11, n12]), if_neg n13, if_neg n14, if_neg (by simp only [inL, resL, List.any_cons, List.any_nil]; simp [n15, n16])]
  · exact made_no hb
theorem idxE_spec : ∀ {l : List ByteArray} {k : Nat}, idxE l = some k → k < l.length
  | [], k, h => by cases h
  | w :: r, k, h => by
    unfold idxE at h
    split at h
    · cases h; simp
    · obtain ⟨j, hj, rfl⟩ := Option.map_eq_some_iff.1 h
      have := idxE_spec hj
      simp; omega
theorem read_constant_ev (w0 w1 : ByteArray) (r : List ByteArray) (h0 : ¬ seqB w0 eqB = true) (hl : r.length ≤ 2000000) (hs : shortW (w0 :: w1 :: r)) : Yes (fun F => Tf.read_constant.f F (w0 :: w1 :: r)) (if seqB w1 eqB = true then none else if nmB w1 = true then constV w1 r else none) := by
  have hsr : shortW r := fun s h => hs s (by simp [h])
  have hlen : (w0 :: w1 :: r).length = r.length + 2 := rfl
  have hix := index_ev (w0 :: w1 :: r) (by omega)
  have e0 : ∀ l : List ByteArray, idxE (w0 :: l) = (idxE l).map (· + 1) := fun l => by rw [idxE, if_neg h0]
  have hnm := names_ev [w1] (by simp)
  have en : ([w1].all fun s => nameS s.data.toList) = nmB w1 := by simp [nmB]
  rw [en] at hnm
  simp only [Tf.read_constant.f, bif_if, decide_eq_true_eq, bne_iff_ne, inR_iff, Bool.true_and, Bool.not_eq_true', Bool.and_eq_true, set_oneB, take_len, List.getD_cons_zero, List.getD_cons_succ]
  by_cases c1 : seqB w1 eqB = true
  · rw [if_pos c1]
    have hi : idxE (w0 :: w1 :: r) = some 1 := by rw [e0, idxE, if_pos c1]; rfl
    rw [hi] at hix
    refine Yes.bind (a := (1 : Int)) hix ?_
    have em : mxI 1 2 = 2 := by decide
    have ew : IntKind.i64.wrap ((1 : Int) + 1) = 2 := by decide
    rw [em, ew]
    have ht : ((w0 :: w1 :: r).take (2 : Int).toNat).drop 2 = [] := rfl
    have hdr : (w0 :: w1 :: r).drop (2 : Int).toNat = r := rfl
    rw [ht, hdr]
    have hd := read_dims_ev [] (by simp) (fun s h => by simp at h)
    refine Yes.neg (by omega) (Yes.pos (by omega) (Yes.pos (by decide) (Yes.bind hd (Yes.pos (by omega) (Yes.bind (clone_strings r (by omega)) (Yes.if (fun _ => Yes.no rfl) (fun _ => Yes.pos (by omega) (Yes.no rfl))))))))
  · rw [if_neg c1]
    have hi : idxE (w0 :: w1 :: r) = ((idxE r).map (· + 1)).map (· + 1) := by rw [e0, idxE, if_neg c1]
    rw [hi] at hix
    unfold constV
    cases hk : idxE r with
    | none =>
      rw [hk] at hix
      refine Yes.bind (a := (-1 : Int)) hix ?_
      refine Yes.pos (by omega) (Yes.no ?_)
      split <;> rfl
    | some k =>
      have hkl := idxE_spec hk
      rw [hk] at hix
      refine Yes.bind (a := ((k + 1 + 1 : Nat) : Int)) hix ?_
      have em : mxI ((k + 1 + 1 : Nat) : Int) 2 = ((k + 2 : Nat) : Int) := by unfold mxI; split <;> omega
      have ew : IntKind.i64.wrap (((k + 1 + 1 : Nat) : Int) + 1) = ((k + 3 : Nat) : Int) := by rw [w64 (by omega) (by omega)]; omega
      rw [em, ew, Int.toNat_natCast, Int.toNat_natCast]
      have ht : ((w0 :: w1 :: r).take (k + 2)).drop 2 = r.take k := rfl
      have hdr : (w0 :: w1 :: r).drop (k + 3) = r.drop (k + 1) := rfl
      rw [ht, hdr]
      have hd := read_dims_ev (r.take k) (by rw [List.length_take]; omega) (fun s h => hsr s (List.mem_of_mem_take h))
      have hdl : (r.drop (k + 1)).length ≤ 2000000 := by rw [List.length_drop]; omega
      refine Yes.neg (by omega) (Yes.pos (by omega) (Yes.pos (by omega) (Yes.bind hd (Yes.pos (by omega) (Yes.bind (clone_strings _ (by omega)) ?_)))))
      cases hn : numsS (r.take k) with
      | none =>
        refine Yes.pos rfl (Yes.no ?_)
        rw [Option.bind_some, hn]
        split <;> rfl
      | some d =>
        rw [Option.bind_some, hn, Option.bind_some]
        refine Yes.if (fun h => Yes.no ?_) (fun h => ?_)
        · have h : rightS d = false := h
          split
          · exact if_neg (fun q => by rw [q.1] at h; cases h)
          · rfl
        have hr : rightS d = true := by simpa using h
        have es : sizeS d = prodI d := by unfold sizeS; rw [if_pos hr]
        refine Yes.neg (by omega) (Yes.bind (size_ev d) (Yes.if (fun h2 => Yes.no ?_) (fun h2 => ?_)))
        · split
          · exact if_neg (fun q => by omega)
          · rfl
        refine Yes.bind (cbad_ev _ (by omega) (fun s h => hsr s (List.mem_of_mem_drop h))) (Yes.if (fun h3 => Yes.no ?_) (fun h3 => ?_))
        · split
          · exact if_neg (fun q => by rw [q.2.2] at h3; simp at h3)
          · rfl
        have h3 : (r.drop (k + 1)).all ratB = true := by simpa using h3
        refine Yes.pos (by omega) (Yes.pos (by omega) (Yes.ret hnm ?_))
        split
        · exact if_pos ⟨hr, by omega, h3⟩
        · rfl
theorem names1 (w : ByteArray) : Ev (fun F => Tf.read_names.f F [w]) (nmB w) := by
  have hnm := names_ev [w] (by simp)
  have en : ([w].all fun s => nameS s.data.toList) = nmB w := by simp [nmB]
  rw [en] at hnm
  exact hnm
theorem eq_noname {w : ByteArray} (h : seqB w eqB = true) : nmB w = false := by rw [seqB_iff.1 h]; decide +kernel
theorem Yes.copy {g : Nat → Option (VI.Stmt × Bool)} {p : Option VI.Stmt} (h : Yes g p) : Yes (fun F => (g F).bind fun y => some ((⟨y.1.name, y.1.op, y.1.args, y.1.dims, y.1.k, y.1.n, y.1.data⟩ : VI.Stmt), y.2)) p := by
  obtain ⟨t, e, q⟩ := h
  exact ⟨t, Ev.bind e (Ev.now _), q⟩
theorem drop2 {α : Type} (a b : α) (l : List α) : (a :: b :: l).drop 2 = l := rfl
theorem read_statement_ev (w : List ByteArray) (hl : w.length ≤ 2000000) (hs : shortW w) : Yes (fun F => Tf.read_statement.f F w) (parseV w) := by
  match w, hl, hs with
  | [], _, _ =>
    simp only [Tf.read_statement.f, bif_if, decide_eq_true_eq, beq_iff_eq]
    exact Yes.neg (by decide) (Yes.neg (by decide) (Yes.neg (by decide) (Yes.neg (by decide) (Yes.no rfl))))
  | [w0], _, _ =>
    simp only [Tf.read_statement.f, bif_if, decide_eq_true_eq, beq_iff_eq]
    exact Yes.neg (by simp) (Yes.neg (by simp) (Yes.neg (by simp) (Yes.neg (by simp) (Yes.no rfl))))
  | w0 :: w1 :: r, hl, hs =>
    have hsr : shortW r := fun s h => hs s (by simp [h])
    have hlen : (w0 :: w1 :: r).length = r.length + 2 := rfl
    have hd := read_dims_ev r (by omega) hsr
    have hnm := names1 w1
    have par : ∀ o, (o = oParam ∨ o = oInput) → seqB w0 o = true → ¬ (2 ≤ r.length ∧ seqB w1 eqB = true) → Yes (fun F => if (2 : Int) ≤ ((w0 :: w1 :: r).length : Int) then (Tf.read_dims.f F r).bind fun y30 => if (0 : Int) ≤ 1 ∧ (1 : Int) < ((w0 :: w1 :: r).length : Int) then if (0 : Int) ≤ 0 ∧ (0 : Int) < ((w0 :: w1 :: r).length : Int) then if y30.2 = true then if (0 : Int) ≤ 1 ∧ (1 : Int) < ((w0 :: w1 :: r).length : Int) then (Tf.read_names.f F [w1]).bind fun y51 => some ((⟨w1, w0, [], y30.1, emB, 0, []⟩ : VI.Stmt), y51) else none else some (⟨w1, w0, [], y30.1, emB, 0, []⟩, false) else none else none else none) (parseV (w0 :: w1 :: r)) := by
      intro o ho h0 hne
      have hp : parseV (w0 :: w1 :: r) = if nmB w1 = true then (numsS r).bind fun d => if rightS d = true then some ⟨w1, w0, [], d, emB, 0, []⟩ else none else none := by
        rw [parseV_cons]
        by_cases c : seqB w1 eqB = true
        · rw [if_pos c, eq_noname c, if_neg (by simp)]
          match r, hne with
          | [], _ => rfl
          | [_], _ => rfl
          | _ :: _ :: _, hne => exact absurd ⟨by simp, c⟩ hne
        · rw [if_neg c]
          have : seqB w0 oParam = true ∨ seqB w0 oInput = true := by rcases ho with rfl | rfl <;> simp [h0]
          rw [if_pos this]
      rw [hp]
      refine Yes.pos (by omega) (Yes.bind hd (Yes.pos (by omega) (Yes.pos (by omega) ?_)))
      cases numsS r with
      | none => exact Yes.neg (by simp) (Yes.no (by split <;> rfl))
      | some d => exact Yes.if (fun (h : rightS d = true) => Yes.pos (by omega) (Yes.ret hnm (by rw [Option.bind_some, if_pos h]))) (fun (h : ¬ rightS d = true) => Yes.no (by rw [Option.bind_some, if_neg h]; split <;> rfl))
    have con : seqB w0 oConst = true → ¬ (2 ≤ r.length ∧ seqB w1 eqB = true) → Yes (fun F => Tf.read_constant.f F (w0 :: w1 :: r)) (parseV (w0 :: w1 :: r)) := by
      intro h0 hne
      have hp : parseV (w0 :: w1 :: r) = if seqB w1 eqB = true then none else if nmB w1 = true then constV w1 r else none := by
        rw [parseV_cons]
        by_cases c : seqB w1 eqB = true
        · rw [if_pos c, if_pos c]
          match r, hne with
          | [], _ => rfl
          | [_], _ => rfl
          | _ :: _ :: _, hne => exact absurd ⟨by simp, c⟩ hne
        · have z : ¬ (seqB w0 oParam = true ∨ seqB w0 oInput = true) := by rw [seqB_iff.1 h0]; decide +kernel
          rw [if_neg c, if_neg c, if_neg z, if_pos h0]
      rw [hp]
      exact read_constant_ev w0 w1 r (by rw [seqB_iff.1 h0]; decide +kernel) (by omega) hs
    have los : ¬ seqB w0 oParam = true → ¬ seqB w0 oInput = true → ¬ seqB w0 oConst = true → ¬ (2 ≤ r.length ∧ seqB w1 eqB = true) → parseV (w0 :: w1 :: r) = if seqB w0 oLoss' = true ∧ r.length = 0 ∧ nmB w1 = true then some ⟨emB, oLoss', [w1], [], emB, 0, []⟩ else none := by
      intro n1 n2 n3 hne
      rw [parseV_cons]
      by_cases c : seqB w1 eqB = true
      · rw [if_pos c, if_neg (fun q => by rw [eq_noname c] at q; simp at q)]
        match r, hne with
        | [], _ => rfl
        | [_], _ => rfl
        | _ :: _ :: _, hne => exact absurd ⟨by simp, c⟩ hne
      · have z : ¬ (seqB w0 oParam = true ∨ seqB w0 oInput = true) := fun q => q.elim n1 n2
        rw [if_neg c, if_neg z, if_neg n3]
        by_cases cn : nmB w1 = true
        · rw [if_pos cn]
          by_cases cl : seqB w0 oLoss' = true ∧ r.length = 0
          · rw [if_pos cl, if_pos ⟨cl.1, cl.2, cn⟩]
          · rw [if_neg cl, if_neg (fun q => cl ⟨q.1, q.2.1⟩)]
        · rw [if_neg cn, if_neg (fun q => cn q.2.2)]
    have fin : ¬ seqB w0 oParam = true → ¬ seqB w0 oInput = true → ¬ (2 ≤ r.length ∧ seqB w1 eqB = true) → Yes (fun F => if ((w0 :: w1 :: r).length : Int) ≥ 2 then if (0 : Int) ≤ 0 ∧ (0 : Int) < ((w0 :: w1 :: r).length : Int) then if seqB w0 oConst = true then (Tf.read_constant.f F (w0 :: w1 :: r)).bind fun y43 => some ((⟨y43.1.name, y43.1.op, y43.1.args, y43.1.dims, y43.1.k, y43.1.n, y43.1.data⟩ : VI.Stmt), y43.2) else
        (if ((w0 :: w1 :: r).length : Int) = 2 then if (0 : Int) ≤ 0 ∧ (0 : Int) < ((w0 :: w1 :: r).length : Int) then if seqB w0 oLoss' = true then if (0 : Int) ≤ 1 ∧ (1 : Int) < ((w0 :: w1 :: r).length : Int) then if (0 : Int) ≤ 1 ∧ (1 : Int) < ((w0 :: w1 :: r).length : Int) then (Tf.read_names.f F [w1]).bind fun y61 => some ((⟨emB, oLoss', [w1], [], emB, 0, []⟩ : VI.Stmt), y61) else none else none
          else some (⟨emB, emB, [], [], emB, 0, []⟩, false) else none else some (⟨emB, emB, [], [], emB, 0, []⟩, false)) else none else
        (if ((w0 :: w1 :: r).length : Int) = 2 then if (0 : Int) ≤ 0 ∧ (0 : Int) < ((w0 :: w1 :: r).length : Int) then if seqB w0 oLoss' = true then if (0 : Int) ≤ 1 ∧ (1 : Int) < ((w0 :: w1 :: r).length : Int) then if (0 : Int) ≤ 1 ∧ (1 : Int) < ((w0 :: w1 :: r).length : Int) then (Tf.read_names.f F [w1]).bind fun y61 => some ((⟨emB, oLoss', [w1], [], emB, 0, []⟩ : VI.Stmt), y61) else none else none
          else some (⟨emB, emB, [], [], emB, 0, []⟩, false) else none else some (⟨emB, emB, [], [], emB, 0, []⟩, false))) (parseV (w0 :: w1 :: r)) := by
      intro n1 n2 hne
      refine Yes.pos (by omega) (Yes.pos (by omega) (Yes.if (fun h => Yes.copy (con h hne)) (fun n3 => ?_)))
      rw [los n1 n2 n3 hne]
      refine Yes.if (fun h2 => Yes.pos (by omega) (Yes.if (fun h3 => Yes.pos (by omega) (Yes.pos (by omega) (Yes.ret hnm ?_))) (fun h3 => Yes.no (if_neg (fun q => h3 q.1))))) (fun h2 => Yes.no (if_neg (fun q => by omega)))
      by_cases cn : nmB w1 = true
      · rw [if_pos ⟨h3, by omega, cn⟩, if_pos cn]
      · rw [if_neg (fun q => cn q.2.2), if_neg cn]
    simp only [Tf.read_statement.f, bif_if, decide_eq_true_eq, beq_iff_eq, inR_iff, Bool.true_and, set_oneB, take_len, drop2, List.getD_cons_zero, List.getD_cons_succ]
    by_cases hm : 2 ≤ r.length ∧ seqB w1 eqB = true
    · refine Yes.pos (by omega) (Yes.pos (by omega) (Yes.pos hm.2 (Yes.copy ?_)))
      match r, hm, hl, hs with
      | op :: a :: rest, hm, hl, hs =>
        have hp : parseV (w0 :: w1 :: op :: a :: rest) = madeV w0 op a rest := by
          rw [parseV_cons]
          rw [if_pos hm.2]
        rw [hp]
        exact read_made_ev w0 w1 op a rest (by simp at hl; omega) hs
    · refine Yes.if (fun h4 => Yes.pos (by omega) (Yes.neg (fun q => hm ⟨by omega, q⟩) ?_)) (fun h4 => ?_)
      all_goals
        refine Yes.pos (by omega) (Yes.pos (by omega) (Yes.if (fun h => ?_) (fun n1 => Yes.pos (by omega) (Yes.if (fun h => ?_) (fun n2 => ?_)))))
        · exact par _ (.inl rfl) h hm
        · exact par _ (.inr rfl) h hm
        · exact fin n1 n2 hm
def stmtZ : VI.Stmt := ⟨emB, emB, [], [], emB, 0, []⟩
theorem read_parse_ev (l : VI.Line) (hl : l.words.length ≤ 2000000) (hs : shortW l.words) : Ev (fun F => Tf.read_Parse.f F l) (match parseV l.words with | some s => (s, 0) | none => (stmtZ, 2)) := by
  obtain ⟨s, h1, h2⟩ := read_statement_ev l.words hl hs
  simp only [Tf.read_Parse.f, bif_if, Bool.not_eq_true']
  refine Ev.bind h1 ?_
  cases hp : parseV l.words with
  | none => exact Ev_pos rfl (Ev.now _)
  | some t =>
    have := h2 t hp
    subst this
    exact Ev_neg (by simp) (Ev.now _)
end Go.PL
namespace Go.PL
open Go Go.VI
theorem parts_cases {op : ByteArray} (h : (partsV op).2 = true) : ((op = oParam ∨ op = oInput ∨ op = oConst) ∧ (partsV op).1 = 0) ∨ (inL op opsO = true ∧ (partsV op).1 = 1) ∨ (inL op opsT = true ∧ (partsV op).1 = 2) := by
  unfold partsV at h ⊢
  by_cases h1 : inL op opsZ = true
  · left
    rw [if_pos h1]
    obtain ⟨o, h3, h4⟩ := inL_cases h1
    simp only [opsZ, List.mem_cons, List.not_mem_nil, or_false] at h3
    exact ⟨by rw [h4]; exact h3, rfl⟩
  · rw [if_neg h1] at h ⊢
    by_cases h2 : inL op opsO = true
    · rw [if_pos h2]; exact .inr (.inl ⟨h2, rfl⟩)
    · rw [if_neg h2] at h ⊢
      by_cases h3 : inL op opsT = true
      · rw [if_pos h3]; exact .inr (.inr ⟨h3, rfl⟩)
      · rw [if_neg h3] at h; cases h
end Go.PL
namespace Go.PL
open Go Go.VI
theorem mkL_len (n : Int) (ws : List ByteArray) : (mkL n ws).length ≤ 1 := by unfold mkL; split <;> simp
end Go.PL
namespace Go.PL
open Go Go.VI
def allV : List VI.Line → List VI.Stmt → List VI.Stmt × (Int × Int)
  | [], acc => (acc, (0, 0))
  | l :: r, acc => match parseV l.words with
    | none => ([], (l.at_, 2))
    | some s => allV r (acc ++ [s])
def okLn (l : VI.Line) : Prop := l.words.length ≤ 2000000 ∧ shortW l.words
theorem set_oneSt (a b : VI.Stmt) : List.set (List.replicate 1 a) 0 b = [b] := rfl
theorem read_all_go (ls : List VI.Line) (hls : ls.length ≤ 20000001) (ok : ∀ l ∈ ls, okLn l) : ∀ (d i : Nat) (acc : List VI.Stmt), i + d = ls.length → acc.length ≤ i →
    ∃ r, EvG (fun _ L => L ((i : Int), (acc, (ls, (ls.length : Int))))) Tf.read_All.s3 r ∧ sumE r (fun y => (y.1, (y.2.1, y.2.2))) (fun y => (y, ((0 : Int), (0 : Int)))) = allV (ls.drop i) acc := by
  intro d
  induction d with
  | zero =>
    intro i acc hi _
    rw [List.drop_eq_nil_of_le (by omega)]
    refine ⟨.inr acc, EvG.step (fun F L => ?_) (EvG.now _), rfl⟩
    dsimp only [Tf.read_All.s3]
    simp only [bif_if, decide_eq_true_eq]
    rw [if_neg (by omega)]
  | succ d ih =>
    intro i acc hi ha
    have hlt : i < ls.length := by omega
    have eg : ls.getD (i : Int).toNat (dflt 8) = ls[i] := by rw [Int.toNat_natCast]; simp [List.getD_eq_getElem?_getD, hlt]
    have hw : IntKind.i64.wrap ((i : Int) + 1) = ((i + 1 : Nat) : Int) := by rw [w64 (by omega) (by omega), succ_cast]
    have ho := ok _ (List.getElem_mem hlt)
    have ih := ih (i + 1)
    rw [List.drop_eq_getElem_cons hlt, allV]
    generalize ls[i] = l at *
    have hp := read_parse_ev l ho.1 ho.2
    have open_ : ∀ {r}, EvG (fun F L => (Tf.read_Parse.f F l).bind fun y20 => if y20.2 ≠ 0 then some (.inl ([], (l.at_, y20.2))) else if acc.length + 1 ≤ 1099511627776 then L (((i + 1 : Nat) : Int), (acc ++ [(⟨y20.1.name, y20.1.op, y20.1.args, y20.1.dims, y20.1.k, y20.1.n, y20.1.data⟩ : VI.Stmt)], (ls, (ls.length : Int)))) else none) Tf.read_All.s3 r → EvG (fun _ L => L ((i : Int), (acc, (ls, (ls.length : Int))))) Tf.read_All.s3 r := by
      intro r h
      refine EvG.loop ?_
      simp only [Tf.read_All.s3, bif_if, decide_eq_true_eq, inR_iff, eg, hw, bne_iff_ne, Nat.ble_eq, set_oneSt]
      exact EvG.pos (by omega) (EvG.pos (by omega) h)
    cases hv : parseV l.words with
    | none =>
      rw [hv] at hp
      exact ⟨_, open_ (EvG.bind hp (EvG.pos (by decide) (EvG.now _))), rfl⟩
    | some s =>
      rw [hv] at hp
      obtain ⟨r, h1, h2⟩ := ih (acc ++ [s]) (by omega) (by simp; omega)
      exact ⟨r, open_ (EvG.bind hp (EvG.neg (by simp) (EvG.pos (by omega) h1))), h2⟩
theorem read_all_ev (s : ByteArray) (hs : s.data.toList.length ≤ 20000000) (ok : ∀ l ∈ linesV s, okLn l) (hn : (linesV s).length ≤ 20000001) : Ev (fun F => Tf.read_All.f F s) (allV (linesV s) []) := by
  obtain ⟨r, h1, h2⟩ := read_all_go (linesV s) hn ok (linesV s).length 0 [] (by omega) (by simp)
  rw [List.drop_zero] at h2
  simp only [Tf.read_All.f]
  refine Ev.bind (lines_ev s hs) (Ev.bind (Ev.iter h1) ?_)
  rw [← h2]
  cases r with
  | inl y => exact Ev.now _
  | inr y => exact Ev.now _
theorem linesGo_len : ∀ (ps : List (List UInt8)) (i : Nat), (linesGo i ps).length ≤ ps.length
  | [], _ => by simp [linesGo]
  | p :: r, i => by
    have h := linesGo_len r (i + 1)
    rw [linesGo, List.length_append]
    have := mkL_len ((i + 1 : Nat) : Int) (wordsL p)
    rw [List.length_cons]; omega
theorem wordsL_ok (p : List UInt8) : (wordsL p).length ≤ p.length + 1 ∧ ∀ w ∈ wordsL p, w.data.toList.length ≤ p.length := by
  have ht : (p.takeWhile (· ≠ 35)).length ≤ p.length := (List.takeWhile_sublist _).length_le
  unfold wordsL
  constructor
  · rw [List.length_map]
    refine Nat.le_trans (List.length_filter_le _ _) ?_
    rw [spl_count]
    have : (p.takeWhile (· ≠ 35)).count 32 ≤ (p.takeWhile (· ≠ 35)).length := List.count_le_length
    omega
  · intro w hw
    obtain ⟨q, hq, rfl⟩ := List.mem_map.1 hw
    have := spl_mem_len 32 _ q (List.mem_filter.1 hq).1
    rw [bL_list]; omega
theorem linesGo_ok {n : Nat} : ∀ (ps : List (List UInt8)) (i : Nat), (∀ p ∈ ps, p.length ≤ n) → ∀ l ∈ linesGo i ps, l.words.length ≤ n + 1 ∧ ∀ w ∈ l.words, w.data.toList.length ≤ n
  | [], _, _, l, h => by simp [linesGo] at h
  | p :: r, i, hp, l, h => by
    rw [linesGo] at h
    rcases List.mem_append.1 h with h | h
    · unfold mkL at h
      split at h
      · simp at h
      · simp at h
        subst h
        obtain ⟨h1, h2⟩ := wordsL_ok p
        have := hp p (by simp)
        exact ⟨by simp only; omega, fun w hw => by have := h2 w hw; omega⟩
    · exact linesGo_ok r (i + 1) (fun q hq => hp q (by simp [hq])) l h
theorem short_text {s : ByteArray} (h : s.data.toList.length ≤ 1900000) : (∀ l ∈ linesV s, okLn l) ∧ (linesV s).length ≤ 20000001 := by
  constructor
  · intro l hl
    obtain ⟨h1, h2⟩ := linesGo_ok (n := s.data.toList.length) _ 0 (spl_mem_len 10 s.data.toList) l hl
    exact ⟨by omega, fun w hw => by have := h2 w hw; omega⟩
  · refine Nat.le_trans (linesGo_len _ _) ?_
    rw [spl_count]
    have : s.data.toList.count 10 ≤ s.data.toList.length := List.count_le_length
    omega
theorem readS_ev (s : ByteArray) (h : s.data.toList.length ≤ 1900000) : Ev (fun F => Tf.read_All.f F s) (allV (linesV s) []) := read_all_ev s (by omega) (short_text h).1 (short_text h).2
end Go.PL
namespace Go.PL
open Go Go.VI
theorem bL_eq61 : bL [61] = eqB := rfl
section
variable {x : VI.Node} {nm nA nB : ByteArray} {A B : List Int}
end
end Go.PL
namespace Go.PL
open Go Go.VI
theorem ite_two {α : Type} {c : Prop} [Decidable c] {a b a' b' : α} (h1 : c → a = a') (h2 : ¬ c → b = b') : (if c then a else b) = (if c then a' else b') := by
  by_cases h : c
  · rw [if_pos h, if_pos h, h1 h]
  · rw [if_neg h, if_neg h, h2 h]
theorem ofV_shape {x : VI.Node} {A B : List Int} {t : List Int} (h : inL x.op opsO = true ∨ inL x.op opsT = true) (h1 : ¬ seqB x.op ⟨#[114, 101, 115, 104, 97, 112, 101]⟩ = true) (h2 : ¬ seqB x.op ⟨#[115, 112, 114, 101, 97, 100]⟩ = true) : ofV { x with shape := t } A B = ofV x A B := by
  have fin : ∀ {L : List ByteArray}, inL x.op L = true → (L.all fun o => !(seqB o oConst) && (inL o [⟨#[97, 100, 100]⟩, ⟨#[115, 117, 98]⟩, ⟨#[109, 117, 108]⟩, ⟨#[109, 97, 120]⟩, ⟨#[97, 98, 111, 118, 101]⟩] || seqB o ⟨#[109, 97, 116, 109, 117, 108]⟩ || inL o [⟨#[114, 101, 108, 117]⟩, ⟨#[97, 98, 115]⟩, ⟨#[115, 116, 101, 112]⟩, ⟨#[115, 105, 103, 110]⟩] || seqB o oScale || seqB o oPower || seqB o ⟨#[116, 114, 97, 110, 115, 112, 111, 115, 101]⟩ || seqB o ⟨#[115, 117, 109]⟩ || seqB o ⟨#[114, 101, 115, 104, 97, 112, 101]⟩ || seqB o ⟨#[115, 112, 114, 101, 97, 100]⟩)) = true → ofV { x with shape := t } A B = ofV x A B := fun {L} hL hall => by
    obtain ⟨o, h3, h4⟩ := inL_cases hL
    have := List.all_eq_true.1 hall o h3
    rw [← h4] at this
    simp only [Bool.and_eq_true, Bool.not_eq_true', Bool.or_eq_true] at this
    obtain ⟨c0, c⟩ := this
    unfold ofV
    dsimp only
    have hc : ¬ seqB x.op oConst = true := by rw [c0]; simp
    rw [if_neg hc, if_neg hc]
    refine ite_two (fun _ => rfl) (fun q1 => ite_two (fun _ => rfl) (fun q2 => ite_two (fun _ => rfl) (fun q3 => ite_two (fun _ => rfl) (fun q4 => ite_two (fun _ => rfl) (fun q5 => ite_two (fun _ => rfl) (fun q6 => ite_two (fun _ => rfl) (fun q7 => ?_)))))))
    rcases c with (((((((c | c) | c) | c) | c) | c) | c) | c) | c
    · exact absurd c q1
    · exact absurd c q2
    · exact absurd c q3
    · exact absurd c q4
    · exact absurd c q5
    · exact absurd c q6
    · exact absurd c q7
    · exact absurd c h1
    · exact absurd c h2
  rcases h with h | h
  · exact fin h (by decide +kernel)
  · exact fin h (by decide +kernel)
end Go.PL
namespace Go.PL
open Go Go.VI
theorem same_l4 (a b : VI.Node) (hd : a.data.length = b.data.length) (hl : a.data.length ≤ 1000000) : ∀ (d j : Nat), j + d = a.data.length →
    EvG (fun _ L => L ((j : Int), (b.op, (b.a, (b.b, (b.name, (b.shape, (b.k, (b.n, (b.data, (a.op, (a.a, (a.b, (a.name, (a.shape, (a.k, (a.n, a.data))))))))))))))))) Tf.wref10_Same.s4 (if a.data.drop j = b.data.drop j then .inr () else .inl false) := by
  intro d
  induction d with
  | zero =>
    intro j hj
    rw [List.drop_eq_nil_of_le (by omega), List.drop_eq_nil_of_le (by omega), if_pos rfl]
    refine EvG.step (fun F L => ?_) (EvG.now _)
    dsimp only [Tf.wref10_Same.s4]
    simp only [bif_if, decide_eq_true_eq]
    rw [if_neg (by omega)]
  | succ d ih =>
    intro j hj
    have ih := ih (j + 1) (by omega)
    have hja : j < a.data.length := by omega
    have hjb : j < b.data.length := by omega
    have ea : a.data.getD (j : Int).toNat (dflt 4) = a.data[j] := by rw [Int.toNat_natCast]; simp [List.getD_eq_getElem?_getD, hja]
    have eb : b.data.getD (j : Int).toNat (dflt 4) = b.data[j] := by rw [Int.toNat_natCast]; simp [List.getD_eq_getElem?_getD, hjb]
    have hw : IntKind.i64.wrap ((j : Int) + 1) = ((j + 1 : Nat) : Int) := by rw [w64 (by omega) (by omega), succ_cast]
    rw [List.drop_eq_getElem_cons hja, List.drop_eq_getElem_cons hjb]
    generalize a.data[j] = u at *
    generalize b.data[j] = v at *
    by_cases c : u = v
    · have e : (u :: a.data.drop (j + 1) = v :: b.data.drop (j + 1)) ↔ a.data.drop (j + 1) = b.data.drop (j + 1) := by simp [c]
      simp only [e]
      refine EvG.step (fun F L => ?_) ih
      dsimp only [Tf.wref10_Same.s4]
      simp only [bif_if, decide_eq_true_eq, inR_iff, ea, eb, hw, Bool.not_eq_true']
      rw [if_pos (by omega), if_pos (by omega), if_pos (by omega), if_neg (by rw [c, seqB_rfl]; simp)]
    · rw [if_neg (by simp [c])]
      refine EvG.step (fun F L => ?_) (EvG.now _)
      dsimp only [Tf.wref10_Same.s4]
      simp only [bif_if, decide_eq_true_eq, inR_iff, ea, eb, hw, Bool.not_eq_true']
      rw [if_pos (by omega), if_pos (by omega), if_pos (by omega), if_pos (by rw [← Bool.not_eq_true]; exact fun q => c (seqB_iff.1 q))]
instance : DecidableEq VI.Node := fun x y =>
  if h : x.op = y.op ∧ x.a = y.a ∧ x.b = y.b ∧ x.name = y.name ∧ x.shape = y.shape ∧ x.k = y.k ∧ x.n = y.n ∧ x.data = y.data then isTrue (by
    obtain ⟨h1, h2, h3, h4, h5, h6, h7, h8⟩ := h
    cases x; cases y; simp_all)
  else isFalse (fun e => h (by subst e; simp))
theorem same_node (a b : VI.Node) (ha : a.data.length ≤ 1000000) (hs : a.shape.length ≤ 1000000) : Ev (fun F => Tf.wref10_Same.f F (a, b)) (decide (a = b)) := by
  have no : ∀ {p : Prop}, (a = b → ¬ p) → p → Ev (fun _ => some false) (decide (a = b)) := fun h hp => Ev.eq (by rw [decide_eq_false (fun e => h e hp)])
  simp only [Tf.wref10_Same.f, bif_if, bne_iff_ne, Bool.not_eq_true']
  refine EvIf (fun h => no (fun e => by rw [e, seqB_rfl]; simp) h) (fun c1 => ?_)
  refine EvIf (fun h => no (fun e => by rw [e]; simp) h) (fun c2 => ?_)
  refine EvIf (fun h => no (fun e => by rw [e]; simp) h) (fun c3 => ?_)
  refine EvIf (fun h => no (fun e => by rw [e, seqB_rfl]; simp) h) (fun c4 => ?_)
  refine EvIf (fun h => no (fun e => by rw [e, seqB_rfl]; simp) h) (fun c5 => ?_)
  refine EvIf (fun h => no (fun e => by rw [e]; simp) h) (fun c6 => ?_)
  refine Ev.bind (rsame_ev a.shape b.shape (by omega)) ?_
  refine EvIf (fun h => no (fun e => by rw [e]; simp) h) (fun c7 => ?_)
  refine EvIf (fun h => no (fun e => by rw [e]; simp) h) (fun c8 => ?_)
  have hd : a.data.length = b.data.length := by simp at c8; omega
  have hg := same_l4 a b hd ha a.data.length 0 (by omega)
  rw [List.drop_zero, List.drop_zero] at hg
  refine Ev.bind (Ev.iter hg) ?_
  simp only [Bool.not_eq_false] at c1 c4 c5 c7
  by_cases e : a.data = b.data
  · rw [if_pos e]
    refine Ev.eq ?_
    rw [decide_eq_true]
    have h1 := seqB_iff.1 c1
    have h4 := seqB_iff.1 c4
    have h5 := seqB_iff.1 c5
    have h7 := of_decide_eq_true c7
    simp only [ne_eq, Decidable.not_not] at c2 c3 c6
    cases a; cases b; simp_all
  · rw [if_neg e]
    exact Ev.eq (by rw [decide_eq_false (fun q => e (by rw [q]))])
theorem equal_l4 (a b : List VI.Node) (p q : Int) (hd : a.length = b.length) (hl : a.length ≤ 1000) (hs : ∀ y ∈ a, smallN y) : ∀ (d j : Nat), j + d = a.length →
    EvG (fun _ L => L ((j : Int), (b, (q, (a, p))))) Tf.wref10_Equal.s4 (if a.drop j = b.drop j then .inr () else .inl false) := by
  intro d
  induction d with
  | zero =>
    intro j hj
    rw [List.drop_eq_nil_of_le (by omega), List.drop_eq_nil_of_le (by omega), if_pos rfl]
    refine EvG.step (fun F L => ?_) (EvG.now _)
    dsimp only [Tf.wref10_Equal.s4]
    simp only [bif_if, decide_eq_true_eq]
    rw [if_neg (by omega)]
  | succ d ih =>
    intro j hj
    have ih := ih (j + 1) (by omega)
    have hja : j < a.length := by omega
    have hjb : j < b.length := by omega
    have ea : a.getD (j : Int).toNat (dflt 6) = a[j] := by rw [Int.toNat_natCast]; simp [List.getD_eq_getElem?_getD, hja]
    have eb : b.getD (j : Int).toNat (dflt 6) = b[j] := by rw [Int.toNat_natCast]; simp [List.getD_eq_getElem?_getD, hjb]
    have hw : IntKind.i64.wrap ((j : Int) + 1) = ((j + 1 : Nat) : Int) := by rw [w64 (by omega) (by omega), succ_cast]
    have hm := hs _ (List.getElem_mem hja)
    rw [List.drop_eq_getElem_cons hja, List.drop_eq_getElem_cons hjb]
    generalize a[j] = x at *
    generalize b[j] = y at *
    have hsame := same_node x y (by have := hm.2.2.2.1; omega) (by have := hm.2.1; omega)
    refine EvG.loop ?_
    simp only [Tf.wref10_Equal.s4, bif_if, decide_eq_true_eq, inR_iff, ea, eb, hw, Bool.not_eq_true']
    refine EvG.pos (by omega) (EvG.pos (by omega) (EvG.pos (by omega) (EvG.bind hsame ?_)))
    by_cases c : x = y
    · have e : (x :: a.drop (j + 1) = y :: b.drop (j + 1)) ↔ a.drop (j + 1) = b.drop (j + 1) := by simp [c]
      simp only [e]
      exact EvG.neg (by rw [decide_eq_true c]; simp) ih
    · rw [if_neg (by simp [c])]
      exact EvG.pos (by rw [decide_eq_false c]) (EvG.now _)
theorem equalG_ev (a b : List VI.Node) (p q : Int) (hl : a.length ≤ 1000) (hs : ∀ y ∈ a, smallN y) : Ev (fun F => Tf.wref10_Equal.f F ((a, p), (b, q))) (decide ((a, p) = (b, q))) := by
  simp only [Tf.wref10_Equal.f, bif_if, bne_iff_ne]
  refine EvIf (fun h => Ev.eq (by rw [decide_eq_false]; intro e; cases e; exact h rfl)) (fun c1 => ?_)
  refine EvIf (fun h => Ev.eq (by rw [decide_eq_false]; intro e; cases e; exact h rfl)) (fun c2 => ?_)
  simp only [ne_eq, Decidable.not_not] at c1 c2
  have hg := equal_l4 a b p q (by omega) hl hs a.length 0 (by omega)
  rw [List.drop_zero, List.drop_zero] at hg
  refine Ev.bind (Ev.iter hg) ?_
  by_cases e : a = b
  · rw [if_pos e]; exact Ev.eq (by rw [decide_eq_true]; rw [e, c1])
  · rw [if_neg e]; exact Ev.eq (by rw [decide_eq_false]; intro q; cases q; exact e rfl)
end Go.PL
namespace Go.PL
open Go Go.VI
theorem ofV_again (x : VI.Node) (a b : List Int) (hp : (partsV x.op).2 = true) : (ofV x a b).1 = x.shape ∨ ∀ s, ofV { x with shape := s } a b = ofV x a b := by
  by_cases h0 : inL x.op opsO = true ∨ inL x.op opsT = true
  · by_cases h1 : seqB x.op ⟨#[114, 101, 115, 104, 97, 112, 101]⟩ = true
    · left
      have e := seqB_iff.1 h1
      unfold ofV
      rw [if_neg (by rw [e]; decide +kernel), if_neg (by rw [e]; decide +kernel), if_neg (by rw [e]; decide +kernel), if_neg (by rw [e]; decide +kernel), if_neg (by rw [e]; decide +kernel), if_neg (by rw [e]; decide +kernel), if_neg (by rw [e]; decide +kernel), if_neg (by rw [e]; decide +kernel), if_pos h1]
    · by_cases h2 : seqB x.op ⟨#[115, 112, 114, 101, 97, 100]⟩ = true
      · left
        have e := seqB_iff.1 h2
        unfold ofV
        rw [if_neg (by rw [e]; decide +kernel), if_neg (by rw [e]; decide +kernel), if_neg (by rw [e]; decide +kernel), if_neg (by rw [e]; decide +kernel), if_neg (by rw [e]; decide +kernel), if_neg (by rw [e]; decide +kernel), if_neg (by rw [e]; decide +kernel), if_neg (by rw [e]; decide +kernel), if_neg h1, if_pos h2]
      · exact .inr fun s => ofV_shape h0 h1 h2
  · left
    rcases parts_cases hp with ⟨h | h | h, _⟩ | ⟨h, _⟩ | ⟨h, _⟩
    · unfold ofV
      rw [if_neg (by rw [h]; decide +kernel), if_neg (by rw [h]; decide +kernel), if_neg (by rw [h]; decide +kernel), if_neg (by rw [h]; decide +kernel), if_neg (by rw [h]; decide +kernel), if_neg (by rw [h]; decide +kernel), if_neg (by rw [h]; decide +kernel), if_neg (by rw [h]; decide +kernel), if_neg (by rw [h]; decide +kernel), if_neg (by rw [h]; decide +kernel)]
    · unfold ofV
      rw [if_neg (by rw [h]; decide +kernel), if_neg (by rw [h]; decide +kernel), if_neg (by rw [h]; decide +kernel), if_neg (by rw [h]; decide +kernel), if_neg (by rw [h]; decide +kernel), if_neg (by rw [h]; decide +kernel), if_neg (by rw [h]; decide +kernel), if_neg (by rw [h]; decide +kernel), if_neg (by rw [h]; decide +kernel), if_neg (by rw [h]; decide +kernel)]
    · unfold ofV
      rw [if_pos (by rw [h]; decide +kernel)]
    · exact absurd (.inl h) h0
    · exact absurd (.inr h) h0
theorem inferV_again {l : List VI.Node} {x : VI.Node} (h : (inferV l x).2 = true) : inferV l { x with shape := (inferV l x).1 } = ((inferV l x).1, true) := by
  have hf := h
  unfold inferV at h
  split at h
  · rename_i hh
    generalize hA : (if (partsV x.op).1 > 0 then (nd l x.a).shape else []) = A at h
    generalize hB : (if (partsV x.op).1 > 1 then (nd l x.b).shape else []) = B at h
    have e0 : ∀ s, inferV l { x with shape := s } = endV { x with shape := s } A B := fun s => by
      show (if (partsV x.op).2 = true ∧ bareV x (partsV x.op).1 = true ∧ ((partsV x.op).1 > 0 → 0 ≤ x.a ∧ x.a < l.length) ∧ ((partsV x.op).1 > 1 → 0 ≤ x.b ∧ x.b < l.length) then endV { x with shape := s } (if (partsV x.op).1 > 0 then (nd l x.a).shape else []) (if (partsV x.op).1 > 1 then (nd l x.b).shape else []) else ([], false)) = _
      rw [if_pos hh, hA, hB]
    have e1 : inferV l x = endV x A B := e0 x.shape
    have e2 : (endV x A B).1 = (ofV x A B).1 := by
      unfold endV at h ⊢
      split at h
      · rename_i hh2; rw [if_pos hh2]
      · cases h
    rw [e0, e1]
    have e3 : endV { x with shape := (endV x A B).1 } A B = endV x A B := by
      rcases ofV_again x A B hh.1 with h1 | h1
      · rw [e2, h1]
      · unfold endV; rw [h1]
    rw [e3]
    exact Prod.ext rfl h
  · cases h
theorem eE : seqB ByteArray.empty (⟨#[]⟩ : ByteArray) = true := by decide +kernel
structure Built (l : List VI.Node) (m : List (ByteArray × Int)) : Prop where
  node : ∀ j, j < l.length → inferV (l.take j) (nd l (j : Int)) = ((nd l (j : Int)).shape, true)
  free : ∀ j, j < l.length → freeB l j 0 = true
  seen : ∀ j, j < l.length → ¬ seqB (nd l (j : Int)).name ⟨#[]⟩ = true → (getM m (nd l (j : Int)).name).isSome = true
  bnd : ∀ w v, getM m w = some v → 0 ≤ v ∧ v < (l.length : Int)
theorem nd_app1 {l r : List VI.Node} {j : Nat} (h : j < l.length) : nd (l ++ r) (j : Int) = nd l (j : Int) := nd_append (by omega)
theorem Built.step {l : List VI.Node} {m : List (ByteArray × Int)} (h : Built l m) {s : VI.Stmt} (h1 : getM m s.name = none) (h2 : (inferV l (nodeV s m).1).2 = true) :
    Built (l ++ [{ (nodeV s m).1 with shape := (inferV l (nodeV s m).1).1 }]) (putM m s.name (l.length : Int)) := by
  have hl : (l ++ [({ (nodeV s m).1 with shape := (inferV l (nodeV s m).1).1 } : VI.Node)]).length = l.length + 1 := by simp
  have hag := inferV_again h2
  have hnm : ∀ t, ({ (nodeV s m).1 with shape := t } : VI.Node).name = ByteArray.empty ∨ ({ (nodeV s m).1 with shape := t } : VI.Node).name = s.name := fun t => by
    show (if _ then s.name else ByteArray.empty) = _ ∨ (if _ then s.name else ByteArray.empty) = _
    split
    · exact .inr rfl
    · exact .inl rfl
  have hnm := hnm (inferV l (nodeV s m).1).1
  generalize hx : ({ (nodeV s m).1 with shape := (inferV l (nodeV s m).1).1 } : VI.Node) = x at *
  have hsh : x.shape = (inferV l (nodeV s m).1).1 := by rw [← hx]
  constructor
  · intro j hj
    rw [hl] at hj
    by_cases c : j < l.length
    · rw [nd_app1 c, List.take_append_of_le_length (by omega)]
      exact h.node j c
    · have e : j = l.length := by omega
      subst e
      rw [nd_last, List.take_left', hsh]
      · exact hag
      · rfl
  · intro j hj
    rw [hl] at hj
    unfold freeB
    by_cases c : j < l.length
    · rw [nd_app1 c, List.take_append_of_le_length (by omega)]
      exact h.free j c
    · have e : j = l.length := by omega
      subst e
      rw [nd_last, List.take_left' rfl, List.drop_zero, List.all_eq_true]
      intro y hy
      rcases hnm with e | e
      · rw [e, eE]; rfl
      · rw [Bool.or_eq_true]
        by_cases cn : seqB x.name ⟨#[]⟩ = true
        · exact .inl cn
        · right
          obtain ⟨k, hk, rfl⟩ := List.getElem_of_mem hy
          have ek : l[k] = nd l (k : Int) := by simp [nd, List.getD_eq_getElem?_getD, hk]
          rw [ek]
          cases hq : seqB (nd l (k : Int)).name x.name with
          | false => rfl
          | true =>
            have e2 := seqB_iff.1 hq
            have := h.seen k hk (by rw [e2]; exact cn)
            rw [e2, e, h1] at this
            cases this
  · intro j hj hne
    rw [hl] at hj
    rw [getM_putM]
    split
    · rfl
    · rename_i hns
      by_cases c : j < l.length
      · rw [nd_app1 c] at hne ⊢
        exact h.seen j c hne
      · have e : j = l.length := by omega
        subst e
        rw [nd_last] at hne hns
        rcases hnm with e | e
        · rw [e] at hne; exact absurd eE hne
        · rw [e] at hns; exact absurd (seqB_rfl _) hns
  · intro w v hv
    rw [hl]
    rw [getM_putM] at hv
    split at hv
    · cases hv; omega
    · have := h.bnd w v hv; omega
def lossOk (l : List VI.Node) (loss : Int) : Prop := loss = -1 ∨ (0 ≤ loss ∧ loss < (l.length : Int) ∧ (nd l loss).shape = [])
theorem built_go : ∀ (ss : List VI.Stmt) (i : Nat) (l : List VI.Node) (loss : Int) (m : List (ByteArray × Int)) (r : List VI.Node × Int), Built l m → lossOk l loss → (∀ s ∈ ss, okS s) → (∀ y ∈ l, smallN y) → l.length ≤ 200 → buildGo ss i l loss m = .inr r →
    (∃ m', Built r.1 m') ∧ lossOk r.1 r.2 ∧ (∀ y ∈ r.1, smallN y) ∧ r.1.length ≤ 200 ∧ r.1.length ≤ l.length + ss.length
  | [], i, l, loss, m, r, hb, hl, hs, hsm, hn, h => by
    cases h; exact ⟨⟨m, hb⟩, hl, hsm, hn, Nat.le_refl _⟩
  | s :: ss, i, l, loss, m, r, hb, hl, hs, hsm, hn, h => by
    have hok := hs s (by simp)
    have hs' : ∀ s ∈ ss, okS s := fun y hy => hs y (by simp [hy])
    rw [buildGo] at h
    split at h
    · cases h
    rename_i c1
    split at h
    · cases h
    rename_i c2
    split at h
    · rename_i c3
      split at h
      · cases h
      · split at h
        · cases h
        · rename_i c5
          have c2 : (nodeV s m).2 = true := by simpa using c2
          obtain ⟨w, hw⟩ := argsV_first m (hok.1 c3) 0 0 c2
          have := hb.bnd _ _ hw
          have h2 : lossOk l (nodeV s m).1.a := .inr ⟨this.1, this.2, List.eq_nil_of_length_eq_zero (by simpa using c5)⟩
          obtain ⟨a1, a2, a3, a4, a5⟩ := built_go ss (i + 1) l _ m r hb h2 hs' hsm hn h
          exact ⟨a1, a2, a3, a4, by rw [List.length_cons]; omega⟩
    · rename_i c3
      split at h
      · cases h
      · rename_i c6
        split at h
        · cases h
        · rename_i c7
          have c7 : (inferV l (nodeV s m).1).2 = true := by simpa using c7
          have hnone : getM m s.name = none := by
            cases hg : getM m s.name with
            | none => rfl
            | some v => exact absurd ⟨by rw [hg]; rfl, c3⟩ c1
          have hsx : smallN { (nodeV s m).1 with shape := (inferV l (nodeV s m).1).1 } := by
            have h1 := nodeV_small hok m
            have h2 := inferV_len l (nodeV s m).1
            exact ⟨h1.1, by show (inferV l (nodeV s m).1).1.length ≤ 10; omega, h1.2.2⟩
          have hl2 : lossOk (l ++ [{ (nodeV s m).1 with shape := (inferV l (nodeV s m).1).1 }]) loss := by
            rcases hl with hl | ⟨l1, l2, l3⟩
            · exact .inl hl
            · exact .inr ⟨l1, by simp; omega, by rw [nd_append ⟨l1, l2⟩]; exact l3⟩
          obtain ⟨a1, a2, a3, a4, a5⟩ := built_go ss (i + 1) _ loss _ r (hb.step hnone c7) hl2 hs' (small_app hsm hsx) (by simp; omega) h
          refine ⟨a1, a2, a3, a4, ?_⟩
          rw [List.length_append] at a5
          rw [List.length_cons]
          have : ([{ (nodeV s m).1 with shape := (inferV l (nodeV s m).1).1 }] : List VI.Node).length = 1 := rfl
          omega
theorem rightR_of (l : List VI.Node) (h1 : ∀ j, j < l.length → inferV (l.take j) (nd l (j : Int)) = ((nd l (j : Int)).shape, true)) (h2 : ∀ j, j < l.length → freeB l j 0 = true) : ∀ (n i : Nat), i + n = l.length → rightR l n i = true
  | 0, _, _ => rfl
  | n + 1, i, h => by
    have a := h1 i (by omega)
    rw [rightR, if_pos ⟨by rw [a], by rw [a], h2 i (by omega)⟩]
    exact rightR_of l h1 h2 n (i + 1) (by omega)
theorem build_right {ss : List VI.Stmt} (hs : ∀ s ∈ ss, okS s) : (buildV ss).2.2 = 0 → graphV (buildV ss).1.1 (buildV ss).1.2 = true ∧ (∀ y ∈ (buildV ss).1.1, smallN y) ∧ (buildV ss).1.1.length ≤ ss.length := by
  unfold buildV
  cases hb : buildGo ss 0 [] (-1) [] with
  | inl e =>
    intro h
    exfalso
    have no : ∀ (ss : List VI.Stmt) (i : Nat) (l : List VI.Node) (loss : Int) (m : List (ByteArray × Int)) (e : Int × Int), buildGo ss i l loss m = .inl e → e.2 ≠ 0 := by
      intro ss
      induction ss with
      | nil => intro i l loss m e h; cases h
      | cons s ss ih =>
        intro i l loss m e h
        rw [buildGo] at h
        repeat' split at h
        all_goals first | (cases h; simp; done) | exact ih _ _ _ _ _ h
    exact no _ _ _ _ _ _ hb h
  | inr g =>
    obtain ⟨⟨m', h1⟩, h2, h3, h4, h5⟩ := built_go ss 0 [] (-1) [] g ⟨fun j hj => by simp at hj, fun j hj => by simp at hj, fun j hj => by simp at hj, fun w v h => by simp [getM] at h⟩ (.inl rfl) hs (by simp) (by simp) hb
    by_cases c : g.2 < 0
    · simp only [if_pos c]
      intro h; cases h
    · simp only [if_neg c]
      intro _
      rcases h2 with h2 | ⟨l1, l2, l3⟩
      · omega
      · refine ⟨?_, h3, by simpa using h5⟩
        unfold graphV
        rw [if_pos ⟨by omega, h4, l1, l2, l3⟩, ← rightR_eq g.1 g.1.length 0 [] (by omega) (fun w _ => rfl)]
        exact rightR_of g.1 h1.node h1.free g.1.length 0 (by omega)
theorem build_bad (ss : List VI.Stmt) : (buildV ss).2.2 ≠ 0 → (buildV ss).1.1 = [] := by
  unfold buildV
  cases buildGo ss 0 [] (-1) [] with
  | inl e => intro _; rfl
  | inr g =>
    by_cases c : g.2 < 0
    · simp only [if_pos c]; intro _; trivial
    · simp only [if_neg c]; intro h; exact absurd rfl h
def bulk (l : List ByteArray) : Nat := (l.map fun w => w.data.toList.length + 1).sum
theorem bulk_cons (w : ByteArray) (l : List ByteArray) : bulk (w :: l) = w.data.toList.length + 1 + bulk l := by unfold bulk; rw [List.map_cons, List.sum_cons]
theorem nmB_len {w : ByteArray} (h : nmB w = true) : 1 ≤ w.data.toList.length ∧ w.data.toList.length ≤ 8 := by
  unfold nmB nameS at h
  split at h
  · cases h
  · rename_i b r e
    simp only [Bool.and_eq_true, decide_eq_true_eq] at h
    rw [e, List.length_cons]; omega
theorem rightS_len {d : List Int} (h : rightS d = true) : d.length ≤ 4 ∧ prodI d ≤ 64 := by
  unfold rightS at h
  simp only [Bool.and_eq_true, decide_eq_true_eq] at h
  exact ⟨h.1.1, h.2⟩
theorem parse_ok {w : List ByteArray} {s : VI.Stmt} (h : parseV w = some s) (hw : ∀ y ∈ w, y.data.toList.length ≤ 1100) : okS s ∧ 7 ≤ bulk w := by
  have e0 : emB.data.toList.length = 0 := rfl
  have noloss : ∀ {L : List ByteArray} {op : ByteArray}, (L.all fun o => !seqB o oLoss && decide (3 ≤ o.data.toList.length)) = true → inL op L = true → ¬ seqB op oLoss = true ∧ 3 ≤ op.data.toList.length := fun {L op} hL h => by
    obtain ⟨o, h3, h4⟩ := inL_cases h
    have := List.all_eq_true.1 hL o h3
    simp only [Bool.and_eq_true, Bool.not_eq_true', decide_eq_true_eq] at this
    rw [h4]; exact ⟨by rw [this.1]; simp, this.2⟩
  have made : ∀ {w0 w1 op a : ByteArray} {rest : List ByteArray}, seqB w1 eqB = true → (∀ y ∈ rest, y.data.toList.length ≤ 1100) → madeV w0 op a rest = some s → okS s ∧ 7 ≤ bulk (w0 :: w1 :: op :: a :: rest) := by
    intro w0 w1 op a rest h1 hr h
    have l1 : w1.data.toList.length = 1 := by rw [seqB_iff.1 h1]; rfl
    unfold madeV at h
    split at h
    · rename_i hn
      rw [Bool.and_eq_true] at hn
      have n0 := nmB_len hn.1
      have n1 := nmB_len hn.2
      have fin : 3 ≤ op.data.toList.length → 7 ≤ bulk (w0 :: w1 :: op :: a :: rest) := fun h => by
        rw [bulk_cons, bulk_cons, bulk_cons, bulk_cons]; omega
      split at h
      · rename_i c
        obtain ⟨q1, q2⟩ := noloss (L := twoL) (by decide +kernel) c
        split at h
        · rename_i hh
          cases h
          exact ⟨⟨fun q => absurd q q1, by simp; omega, by show w0.data.toList.length ≤ 30; omega, by simp, by simp, by simp, by simp⟩, fin q2⟩
        · cases h
      · split at h
        · rename_i c
          obtain ⟨q1, q2⟩ := noloss (L := oneL) (by decide +kernel) c
          split at h
          · cases h
            exact ⟨⟨fun q => absurd q q1, by simp, by show w0.data.toList.length ≤ 30; omega, by simp, by simp, by simp, by simp⟩, fin q2⟩
          · cases h
        · split at h
          · rename_i c
            have q1 : ¬ seqB op oLoss = true := by rw [seqB_iff.1 c]; decide +kernel
            have q2 : 3 ≤ op.data.toList.length := by rw [seqB_iff.1 c]; decide
            split at h
            · rename_i hh
              cases h
              refine ⟨⟨fun q => absurd q q1, by simp, by show w0.data.toList.length ≤ 30; omega, by simp, ?_, by simp, by simp⟩, fin q2⟩
              show (rest.getD 0 (dflt 4)).data.toList.length ≤ 1100
              match rest, hh.1, hr with
              | [y], _, hr => exact hr y (by simp)
            · cases h
          · split at h
            · rename_i c
              have q1 : ¬ seqB op oLoss = true := by rw [seqB_iff.1 c]; decide +kernel
              have q2 : 3 ≤ op.data.toList.length := by rw [seqB_iff.1 c]; decide
              split at h
              · obtain ⟨n, _, h⟩ := Option.bind_eq_some_iff.1 h
                split at h
                · cases h
                  exact ⟨⟨fun q => absurd q q1, by simp, by show w0.data.toList.length ≤ 30; omega, by simp, by simp, by simp, by simp⟩, fin q2⟩
                · cases h
              · cases h
            · split at h
              · rename_i c
                obtain ⟨q1, q2⟩ := noloss (L := resL) (by decide +kernel) c
                obtain ⟨d, hd, h⟩ := Option.bind_eq_some_iff.1 h
                split at h
                · rename_i hrs
                  have := rightS_len hrs
                  cases h
                  exact ⟨⟨fun q => absurd q q1, by simp, by show w0.data.toList.length ≤ 30; omega, by show d.length ≤ 10; omega, by simp, by simp, by simp⟩, fin q2⟩
                · cases h
              · cases h
    · cases h
  match w, hw, h with
  | [], hw, h => cases h
  | [_], hw, h => cases h
  | w0 :: w1 :: r, hw, h =>
    rw [parseV_cons] at h
    split at h
    · rename_i h1
      split at h
      · rename_i op a rest; exact made h1 (fun y hy => hw y (by simp [hy])) h
      · cases h
    · split at h
      · rename_i hn
        have n1 := nmB_len hn
        have fin : 4 ≤ w0.data.toList.length → 7 ≤ bulk (w0 :: w1 :: r) := fun h => by
          rw [bulk_cons, bulk_cons]; omega
        split at h
        · rename_i c
          have q : ¬ seqB w0 oLoss = true ∧ 4 ≤ w0.data.toList.length := by rcases c with c | c <;> rw [seqB_iff.1 c] <;> decide +kernel
          obtain ⟨d, hd, h⟩ := Option.bind_eq_some_iff.1 h
          split at h
          · rename_i hrs
            have := rightS_len hrs
            cases h
            exact ⟨⟨fun e => absurd e q.1, by simp, by show w1.data.toList.length ≤ 30; omega, by show d.length ≤ 10; omega, by simp, by simp, by simp⟩, fin q.2⟩
          · cases h
        · split at h
          · rename_i c
            have q2 : 4 ≤ w0.data.toList.length := by rw [seqB_iff.1 c]; decide
            unfold constV at h
            obtain ⟨k, _, h⟩ := Option.bind_eq_some_iff.1 h
            obtain ⟨d, hd, h⟩ := Option.bind_eq_some_iff.1 h
            split at h
            · rename_i hh
              have := rightS_len hh.1
              cases h
              refine ⟨⟨fun e => absurd e (show ¬ seqB oConst oLoss = true by decide +kernel), by simp, by show w1.data.toList.length ≤ 30; omega, by show d.length ≤ 10; omega, by simp, ?_, ?_⟩, fin q2⟩
              · show (r.drop (k + 1)).length ≤ 70
                have := hh.2.1; omega
              · intro t ht
                exact hw t (by simp [List.mem_of_mem_drop ht])
            · cases h
          · split at h
            · rename_i c
              have q2 : 4 ≤ w0.data.toList.length := by rw [seqB_iff.1 c.1]; decide
              cases h
              exact ⟨⟨fun _ => by simp, by simp, by simp, by simp, by simp, by simp, by simp⟩, fin q2⟩
            · cases h
      · cases h
theorem spl_bulk (c : UInt8) : ∀ l, ((spl c l).map fun p => p.length + 1).sum = l.length + 1
  | [] => rfl
  | x :: r => by
    by_cases h : x = c
    · subst h
      have e : spl x (x :: r) = [] :: spl x r := by simp [spl]
      rw [e, List.map_cons, List.sum_cons, spl_bulk x r, List.length_cons]
      simp; omega
    · obtain ⟨p, q, h1, h2⟩ := spl_cons c x r h
      have := spl_bulk c r
      rw [h1, List.map_cons, List.sum_cons] at this
      rw [h2, List.map_cons, List.sum_cons, List.length_cons, List.length_cons]
      omega
theorem words_bulk (p : List UInt8) : bulk (wordsL p) ≤ p.length + 1 := by
  have ht : (p.takeWhile (· ≠ 35)).length ≤ p.length := (List.takeWhile_sublist _).length_le
  have hb := spl_bulk 32 (p.takeWhile (· ≠ 35))
  have fl : ∀ (l : List (List UInt8)), bulk ((l.filter fun w => !w.isEmpty).map bL) ≤ (l.map fun p => p.length + 1).sum := by
    intro l
    induction l with
    | nil => exact Nat.le_refl _
    | cons w l ih =>
      rw [List.filter_cons]
      split
      · rw [List.map_cons, bulk_cons, bL_list, List.map_cons, List.sum_cons]; omega
      · rw [List.map_cons, List.sum_cons]; omega
  have := fl (spl 32 (p.takeWhile (· ≠ 35)))
  unfold wordsL
  omega
theorem lines_few : ∀ (ps : List (List UInt8)) (i : Nat) (S : List VI.Stmt), (∀ p ∈ ps, p.length ≤ 1100) → (linesGo i ps).map (fun l => parseV l.words) = S.map some → (∀ s ∈ S, okS s) ∧ 7 * S.length ≤ (ps.map fun p => p.length + 1).sum
  | [], i, S, _, h => by
    have : S = [] := by
      cases S with
      | nil => rfl
      | cons s S => simp [linesGo] at h
    subst this; exact ⟨by simp, by simp⟩
  | p :: ps, i, S, hp, h => by
    rw [linesGo] at h
    have hps : ∀ p ∈ ps, p.length ≤ 1100 := fun q hq => hp q (by simp [hq])
    have hpl := hp p (by simp)
    have hwb := words_bulk p
    obtain ⟨_, hwl⟩ := wordsL_ok p
    rw [List.map_cons, List.sum_cons]
    unfold mkL at h
    by_cases c : (wordsL p).isEmpty = true
    · rw [if_pos c, List.nil_append] at h
      obtain ⟨a, b⟩ := lines_few ps (i + 1) S hps h
      exact ⟨a, by omega⟩
    · rw [if_neg c] at h
      cases S with
      | nil => simp at h
      | cons s S =>
        rw [List.singleton_append, List.map_cons, List.map_cons, List.cons.injEq] at h
        obtain ⟨a, b⟩ := lines_few ps (i + 1) S hps h.2
        obtain ⟨q1, q2⟩ := parse_ok h.1 (fun y hy => by have := hwl y hy; omega)
        have q2 : 7 ≤ bulk (wordsL p) := q2
        refine ⟨fun t ht => ?_, by rw [List.length_cons]; omega⟩
        rcases List.mem_cons.1 ht with rfl | ht
        · exact q1
        · exact a t ht
theorem allV_cases : ∀ (L : List VI.Line) (acc : List VI.Stmt), ((allV L acc).2.2 ≠ 0 ∧ (allV L acc).1 = []) ∨ ((allV L acc).2.2 = 0 ∧ ∃ S, allV L acc = (acc ++ S, (0, 0)) ∧ L.map (fun l => parseV l.words) = S.map some)
  | [], acc => .inr ⟨rfl, [], by simp [allV], rfl⟩
  | l :: L, acc => by
    rw [allV]
    cases h : parseV l.words with
    | none => exact .inl ⟨by simp, rfl⟩
    | some s =>
      dsimp only
      rcases allV_cases L (acc ++ [s]) with h1 | ⟨h1, S, h2, h3⟩
      · exact .inl h1
      · exact .inr ⟨h1, s :: S, by rw [h2]; simp, by rw [List.map_cons, List.map_cons, h, h3]⟩
theorem short_read (s : ByteArray) (hs : s.data.toList.length ≤ 1100) : ((allV (linesV s) []).2.2 ≠ 0 ∧ (allV (linesV s) []).1 = []) ∨ ((allV (linesV s) []).2.2 = 0 ∧ (∀ t ∈ (allV (linesV s) []).1, okS t) ∧ 7 * (allV (linesV s) []).1.length ≤ s.data.toList.length + 1) := by
  rcases allV_cases (linesV s) [] with h | ⟨h1, S, h2, h3⟩
  · exact .inl h
  · right
    refine ⟨h1, ?_⟩
    rw [h2, List.nil_append]
    have := lines_few (spl 10 s.data.toList) 0 S (fun p hp => by have := spl_mem_len 10 _ p hp; omega) h3
    rw [spl_bulk] at this
    exact this
end Go.PL
namespace Go.PL.M
open Go Go.VI Go.PL
def Sh (l : List VI.Node) (g : Nat → Option (List Int × (Bool × List VI.Node))) (p : List Int × Bool) : Prop := ∃ t, Ev g (t, (p.2, l)) ∧ (p.2 = true → t = p.1)
section
variable {l : List VI.Node} {p : List Int × Bool} {f g : Nat → Option (List Int × (Bool × List VI.Node))}
theorem Sh.no (h : p.2 = false) : Sh l (fun _ => some ([], (false, l))) p := ⟨[], h ▸ Ev.now _, fun q => by rw [h] at q; cases q⟩
theorem Sh.if {c : Prop} [Decidable c] (h1 : c → Sh l f p) (h2 : ¬ c → Sh l g p) : Sh l (fun F => if c then f F else g F) p := by
  by_cases h : c
  · obtain ⟨t, e, q⟩ := h1 h; exact ⟨t, Ev_pos h e, q⟩
  · obtain ⟨t, e, q⟩ := h2 h; exact ⟨t, Ev_neg h e, q⟩
theorem Sh.pos {c : Prop} [Decidable c] (h : c) (h1 : Sh l f p) : Sh l (fun F => if c then f F else g F) p := Sh.if (fun _ => h1) (fun n => absurd h n)
theorem Sh.neg {c : Prop} [Decidable c] (h : ¬ c) (h1 : Sh l g p) : Sh l (fun F => if c then f F else g F) p := Sh.if (fun n => absurd n h) (fun _ => h1)
theorem Sh.bind {α : Type} {m : Nat → Option α} {a : α} {k : Nat → α → Option (List Int × (Bool × List VI.Node))} (h : Ev m a) (h1 : Sh l (fun F => k F a) p) : Sh l (fun F => (m F).bind (k F)) p := by
  obtain ⟨t, e, q⟩ := h1; exact ⟨t, Ev.bind h e, q⟩
theorem Sh.same (h1 : Sh l g p) : Sh l (fun F => (g F).bind fun y => some (y.1, (y.2.1, y.2.2))) p := by
  obtain ⟨t, e, q⟩ := h1; exact ⟨t, Ev.bind e (Ev.now _), q⟩
theorem Sh.ret (t : List Int) (h : p.2 = rightS t) (h1 : rightS t = true → t = p.1) : Sh l (fun F => (Tf.wref04_Right.f F t).bind fun y => some (t, (y, l))) p :=
  ⟨t, by rw [h]; exact Ev.bind (rright4_ev t) (Ev.now _), fun q => h1 (by rw [← h]; exact q)⟩
end
theorem Sh.fin {l : List VI.Node} {x : VI.Node} {a b t : List Int} (h : ofV x a b = (t, true)) : Sh l (fun F => (Tf.wref04_Right.f F t).bind fun y => some (t, (y, l))) (endV x a b) := by
  rw [endV_of h]
  refine Sh.ret t ?_ ?_
  · cases rightS t <;> rfl
  · intro q; rw [q]; rfl
theorem rdata_go (data : List ByteArray) (hd : data.length ≤ 70) (hs : ∀ s ∈ data, s.data.toList.length ≤ 1100) (sh : List Int) (l : List VI.Node) : ∀ (d i : Nat), i + d = data.length →
    EvG (fun _ L => L (l, ((i : Int), (data, (sh, (data.length : Int)))))) Tf.wref10_Shape_m.s28 (if (data.drop i).all ratB = true then .inr (l, sh) else .inl ([], (false, l))) := by
  intro d
  induction d with
  | zero =>
    intro i hi
    rw [List.drop_eq_nil_of_le (by omega), if_pos (show ([] : List ByteArray).all ratB = true from rfl)]
    refine EvG.step (fun F L => ?_) (EvG.now _)
    dsimp only [Tf.wref10_Shape_m.s28]
    simp only [bif_if, decide_eq_true_eq]
    rw [if_neg (by omega)]
  | succ d ih =>
    intro i hi
    have hn := ih (i + 1) (by omega)
    have hlt : i < data.length := by omega
    have eg : data.getD (i : Int).toNat (dflt 4) = data[i] := by rw [Int.toNat_natCast]; simp [List.getD_eq_getElem?_getD, hlt]
    have hm := hs _ (List.getElem_mem hlt)
    rw [List.drop_eq_getElem_cons hlt, List.all_cons]
    generalize data[i] = s at *
    obtain ⟨v, hv⟩ := rread_ev s (by omega)
    have hw : IntKind.i64.wrap ((i : Int) + 1) = ((i + 1 : Nat) : Int) := by rw [w64 (by omega) (by omega), succ_cast]
    refine EvG.loop ?_
    simp only [Tf.wref10_Shape_m.s28, bif_if, decide_eq_true_eq, inR_iff, eg, hw, Bool.not_eq_true']
    refine EvG.pos (by omega) (EvG.pos (by omega) (EvG.bind hv ?_))
    cases hr : ratB s with
    | true =>
      rw [Bool.true_and]
      exact EvG.neg (by simp) hn
    | false =>
      rw [Bool.false_and, if_neg (by simp)]
      exact EvG.pos rfl (EvG.now _)
section
variable {l : List VI.Node} {x : VI.Node} {a b : List Int} {m : Int}
@[reducible] def jArg (l : List VI.Node) (x : VI.Node) (a b : List Int) (m : Int) : (List VI.Node × (ByteArray × (Int × (Int × (ByteArray × ((List Int) × (ByteArray × (Int × ((List ByteArray) × ((List Int) × ((List Int) × Int))))))))))) := (l, (x.op, (x.a, (x.b, (x.name, (x.shape, (x.k, (x.n, (x.data, (b, (a, m)))))))))))
theorem rt_param (e : x.op = oParam ∨ x.op = oInput) : Sh l (fun F => Tf.wref10_Shape_m.j16 F (jArg l x a b m)) (endV x a b) := by
  have ho : ofV x a b = (x.shape, true) := by
    unfold ofV
    rcases e with e | e <;> rw [e] <;> repeat rw [if_neg (by decide +kernel)]
  simp only [Tf.wref10_Shape_m.j16, jArg, bif_if, decide_eq_true_eq, beq_iff_eq, bne_iff_ne, inR_iff]
  rcases e with e | e <;> rw [e]
  · exact Sh.pos (by decide +kernel) (Sh.fin ho)
  · exact Sh.neg (by decide +kernel) (Sh.pos (by decide +kernel) (Sh.fin ho))
theorem rt_const (hx : smallN x) (e : x.op = oConst) : Sh l (fun F => Tf.wref10_Shape_m.j16 F (jArg l x a b m)) (endV x a b) := by
  have ho : ofV x a b = (x.shape, decide ((x.data.length : Int) = sizeS x.shape) && x.data.all ratB) := by
    unfold ofV
    rw [e, if_pos (by decide +kernel)]
  simp only [Tf.wref10_Shape_m.j16, jArg, bif_if, decide_eq_true_eq, beq_iff_eq, bne_iff_ne, inR_iff, Bool.not_eq_true']
  rw [e]
  refine Sh.neg (by decide +kernel) (Sh.neg (by decide +kernel) (Sh.pos (by decide +kernel) (Sh.bind (rright4_ev _) (Sh.if (fun h => ?_) (fun h => ?_)))))
  · exact Sh.no (end_no ho (fun q => by rw [q.2] at h; cases h))
  have hr : rightS x.shape = true := by simpa using h
  obtain ⟨hs, _⟩ := sizeS_pos hr
  refine Sh.bind (rsize_ev _ hr) (Sh.if (fun h2 => ?_) (fun h2 => ?_))
  · exact Sh.no (end_no ho (fun q => by simp at q; omega))
  have hg := rdata_go x.data hx.2.2.2.1 hx.2.2.2.2 x.shape l x.data.length 0 (by omega)
  rw [List.drop_zero] at hg
  refine Sh.bind (Ev.iter hg) ?_
  cases hc : x.data.all ratB with
  | true =>
    rw [if_pos rfl]
    refine Sh.fin (t := x.shape) ?_
    rw [ho, hc, hs, decide_eq_true (by omega)]; rfl
  | false =>
    rw [if_neg (by simp)]
    exact Sh.no (end_no ho (fun q => by rw [hc] at q; simp at q))
theorem rt_matmul (e : x.op = ⟨#[109, 97, 116, 109, 117, 108]⟩) : Sh l (fun F => Tf.wref10_Shape_m.j16 F (jArg l x a b m)) (endV x a b) := by
  have ho : ofV x a b = (if a.length = 2 ∧ b.length = 2 ∧ rd a 1 = rd b 0 then ([rd a 0, rd b 1], true) else ([], false)) := by
    unfold ofV
    rw [e, if_neg (by decide +kernel), if_neg (by decide +kernel), if_pos (by decide +kernel)]
  simp only [Tf.wref10_Shape_m.j16, jArg, bif_if, decide_eq_true_eq, beq_iff_eq, bne_iff_ne, inR_iff, Bool.not_eq_true', two_set, hr0', hr1']
  rw [e]
  refine Sh.neg (by decide +kernel) (Sh.neg (by decide +kernel) (Sh.neg (by decide +kernel) (Sh.pos (by decide +kernel) ?_)))
  by_cases c : a.length = 2 ∧ b.length = 2 ∧ rd a 1 = rd b 0
  · rw [if_pos c] at ho
    exact Sh.neg (by omega) (Sh.neg (by omega) (Sh.pos (by omega) (Sh.pos (by omega) (Sh.neg (by omega) (Sh.pos (by omega) (Sh.pos (by omega) (Sh.fin ho)))))))
  · rw [if_neg c] at ho
    have no : (endV x a b).2 = false := end_no ho (fun q => by cases q.1)
    exact Sh.if (fun _ => Sh.no no) (fun h1 => Sh.if (fun _ => Sh.no no) (fun h2 => Sh.pos (by omega) (Sh.pos (by omega) (Sh.pos (fun q => c ⟨by omega, by omega, q⟩) (Sh.no no)))))
theorem rt_transpose (e : x.op = ⟨#[116, 114, 97, 110, 115, 112, 111, 115, 101]⟩) : Sh l (fun F => Tf.wref10_Shape_m.j16 F (jArg l x a b m)) (endV x a b) := by
  have ho : ofV x a b = (if a.length = 2 then ([rd a 1, rd a 0], true) else ([], false)) := by
    unfold ofV
    rw [e, if_neg (by decide +kernel), if_neg (by decide +kernel), if_neg (by decide +kernel), if_neg (by decide +kernel), if_neg (by decide +kernel), if_neg (by decide +kernel), if_pos (by decide +kernel)]
  simp only [Tf.wref10_Shape_m.j16, jArg, bif_if, decide_eq_true_eq, beq_iff_eq, bne_iff_ne, inR_iff, Bool.not_eq_true', two_set, hr0', hr1']
  rw [e]
  refine Sh.neg (by decide +kernel) (Sh.neg (by decide +kernel) (Sh.neg (by decide +kernel) (Sh.neg (by decide +kernel) (Sh.pos (by decide +kernel) (Sh.if (fun h => ?_) (fun h => ?_))))))
  · rw [if_neg (by omega)] at ho
    exact Sh.no (end_no ho (fun q => by cases q.1))
  · rw [if_pos (by omega)] at ho
    exact Sh.pos (by omega) (Sh.pos (by omega) (Sh.fin ho))
theorem rt_sum (e : x.op = ⟨#[115, 117, 109]⟩) : Sh l (fun F => Tf.wref10_Shape_m.j16 F (jArg l x a b m)) (endV x a b) := by
  have ho : ofV x a b = ([], true) := by
    unfold ofV
    rw [e, if_neg (by decide +kernel), if_neg (by decide +kernel), if_neg (by decide +kernel), if_neg (by decide +kernel), if_neg (by decide +kernel), if_neg (by decide +kernel), if_neg (by decide +kernel), if_pos (by decide +kernel)]
  simp only [Tf.wref10_Shape_m.j16, jArg, bif_if, decide_eq_true_eq, beq_iff_eq, bne_iff_ne, inR_iff, Bool.not_eq_true']
  rw [e]
  exact Sh.neg (by decide +kernel) (Sh.neg (by decide +kernel) (Sh.neg (by decide +kernel) (Sh.neg (by decide +kernel) (Sh.neg (by decide +kernel) (Sh.pos (by decide +kernel) (Sh.fin ho))))))
theorem rt_scale (hx : smallN x) (e : x.op = oScale) : Sh l (fun F => Tf.wref10_Shape_m.j16 F (jArg l x a b m)) (endV x a b) := by
  have ho : ofV x a b = (a, ratB x.k) := by
    unfold ofV
    rw [e, if_neg (by decide +kernel), if_neg (by decide +kernel), if_neg (by decide +kernel), if_neg (by decide +kernel), if_pos (by decide +kernel)]
  simp only [Tf.wref10_Shape_m.j16, jArg, bif_if, decide_eq_true_eq, beq_iff_eq, bne_iff_ne, inR_iff, Bool.not_eq_true']
  rw [e]
  obtain ⟨v, hv⟩ := rread_ev x.k (by have := hx.2.2.1; omega)
  refine Sh.neg (by decide +kernel) (Sh.neg (by decide +kernel) (Sh.neg (by decide +kernel) (Sh.neg (by decide +kernel) (Sh.neg (by decide +kernel) (Sh.neg (by decide +kernel) (Sh.pos (by decide +kernel) (Sh.bind hv (Sh.if (fun h => ?_) (fun h => ?_)))))))))
  · exact Sh.no (end_no ho (fun q => by rw [q.1] at h; cases h))
  · have hk : ratB x.k = true := by simpa using h
    rw [hk] at ho
    exact Sh.fin ho
theorem rt_power (e : x.op = oPower) : Sh l (fun F => Tf.wref10_Shape_m.j16 F (jArg l x a b m)) (endV x a b) := by
  have ho : ofV x a b = (a, decide (x.n ≥ 0) && decide (x.n ≤ 6)) := by
    unfold ofV
    rw [e, if_neg (by decide +kernel), if_neg (by decide +kernel), if_neg (by decide +kernel), if_neg (by decide +kernel), if_neg (by decide +kernel), if_pos (by decide +kernel)]
  simp only [Tf.wref10_Shape_m.j16, jArg, bif_if, decide_eq_true_eq, beq_iff_eq, bne_iff_ne, inR_iff, Bool.not_eq_true']
  rw [e]
  refine Sh.neg (by decide +kernel) (Sh.neg (by decide +kernel) (Sh.neg (by decide +kernel) (Sh.neg (by decide +kernel) (Sh.neg (by decide +kernel) (Sh.neg (by decide +kernel) (Sh.neg (by decide +kernel) (Sh.pos (by decide +kernel) (Sh.if (fun h => ?_) (fun h => Sh.if (fun h2 => ?_) (fun h2 => ?_))))))))))
  · exact Sh.no (end_no ho (fun q => by simp at q; omega))
  · exact Sh.no (end_no ho (fun q => by simp at q; omega))
  · rw [decide_eq_true (by omega), decide_eq_true (by omega)] at ho
    exact Sh.fin ho
theorem rt_reshape (e : x.op = ⟨#[114, 101, 115, 104, 97, 112, 101]⟩) : Sh l (fun F => Tf.wref10_Shape_m.j16 F (jArg l x a b m)) (endV x a b) := by
  have ho : ofV x a b = (x.shape, decide (sizeS x.shape = sizeS a)) := by
    unfold ofV
    rw [e, if_neg (by decide +kernel), if_neg (by decide +kernel), if_neg (by decide +kernel), if_neg (by decide +kernel), if_neg (by decide +kernel), if_neg (by decide +kernel), if_neg (by decide +kernel), if_neg (by decide +kernel), if_pos (by decide +kernel)]
  simp only [Tf.wref10_Shape_m.j16, jArg, bif_if, decide_eq_true_eq, beq_iff_eq, bne_iff_ne, inR_iff, Bool.not_eq_true']
  rw [e]
  refine Sh.neg (by decide +kernel) (Sh.neg (by decide +kernel) (Sh.neg (by decide +kernel) (Sh.neg (by decide +kernel) (Sh.neg (by decide +kernel) (Sh.neg (by decide +kernel) (Sh.neg (by decide +kernel) (Sh.neg (by decide +kernel) (Sh.pos (by decide +kernel) (Sh.bind (rright4_ev _) (Sh.if (fun h => ?_) (fun h => Sh.bind (rright4_ev _) (Sh.if (fun h2 => ?_) (fun h2 => ?_)))))))))))))
  · exact Sh.no (end_no ho (fun q => by rw [q.2] at h; cases h))
  · have hr : rightS x.shape = true := by simpa using h
    obtain ⟨s1, s2⟩ := sizeS_pos hr
    refine Sh.no (end_no ho (fun q => ?_))
    have q1 := of_decide_eq_true q.1
    have : sizeS a = 0 := by unfold sizeS; rw [h2]; rfl
    omega
  · have hr : rightS x.shape = true := by simpa using h
    have hr2 : rightS a = true := by simpa using h2
    obtain ⟨s1, _⟩ := sizeS_pos hr
    obtain ⟨s2, _⟩ := sizeS_pos hr2
    refine Sh.bind (rsize_ev _ hr) (Sh.bind (rsize_ev _ hr2) (Sh.if (fun h3 => ?_) (fun h3 => ?_)))
    · exact Sh.no (end_no ho (fun q => by have q1 := of_decide_eq_true q.1; omega))
    · rw [decide_eq_true (by omega)] at ho
      exact Sh.fin ho
theorem rt_spread (e : x.op = ⟨#[115, 112, 114, 101, 97, 100]⟩) : Sh l (fun F => Tf.wref10_Shape_m.j16 F (jArg l x a b m)) (endV x a b) := by
  have ho : ofV x a b = (x.shape, decide (a.length = 0)) := by
    unfold ofV
    rw [e, if_neg (by decide +kernel), if_neg (by decide +kernel), if_neg (by decide +kernel), if_neg (by decide +kernel), if_neg (by decide +kernel), if_neg (by decide +kernel), if_neg (by decide +kernel), if_neg (by decide +kernel), if_neg (by decide +kernel), if_pos (by decide +kernel)]
  simp only [Tf.wref10_Shape_m.j16, jArg, bif_if, decide_eq_true_eq, beq_iff_eq, bne_iff_ne, inR_iff, Bool.not_eq_true']
  rw [e]
  refine Sh.neg (by decide +kernel) (Sh.neg (by decide +kernel) (Sh.neg (by decide +kernel) (Sh.neg (by decide +kernel) (Sh.neg (by decide +kernel) (Sh.neg (by decide +kernel) (Sh.neg (by decide +kernel) (Sh.neg (by decide +kernel) (Sh.neg (by decide +kernel) (Sh.pos (by decide +kernel) (Sh.if (fun h => ?_) (fun h => ?_)))))))))))
  · exact Sh.no (end_no ho (fun q => by have q1 := of_decide_eq_true q.1; omega))
  · rw [decide_eq_true (by omega)] at ho
    exact Sh.fin ho
theorem rt_two (ha : a.length ≤ 10) (e : inL x.op [⟨#[97, 100, 100]⟩, ⟨#[115, 117, 98]⟩, ⟨#[109, 117, 108]⟩, ⟨#[109, 97, 120]⟩, ⟨#[97, 98, 111, 118, 101]⟩] = true) (hm : m = 2) : Sh l (fun F => Tf.wref10_Shape_m.j16 F (jArg l x a b m)) (endV x a b) := by
  have ho : ofV x a b = (a, decide (a = b)) := by
    have c0 : ¬ seqB x.op oConst = true := by
      obtain ⟨o, h1, h2⟩ := inL_cases e
      rw [h2]
      clear e h2
      revert o
      decide +kernel
    unfold ofV
    rw [if_neg c0, if_pos e]
  simp only [Tf.wref10_Shape_m.j16, jArg, bif_if, decide_eq_true_eq, beq_iff_eq, bne_iff_ne, inR_iff, Bool.not_eq_true']
  have nn : ∀ w, w ∈ [oParam, oInput, oConst, ⟨#[109, 97, 116, 109, 117, 108]⟩, ⟨#[116, 114, 97, 110, 115, 112, 111, 115, 101]⟩, ⟨#[115, 117, 109]⟩, oScale, oPower, ⟨#[114, 101, 115, 104, 97, 112, 101]⟩, ⟨#[115, 112, 114, 101, 97, 100]⟩] → ¬ seqB x.op w = true := by
    obtain ⟨o, h1, h2⟩ := inL_cases e
    rw [h2]
    clear e h2
    revert o
    decide +kernel
  refine Sh.neg (nn _ (by simp)) (Sh.neg (nn _ (by simp)) (Sh.neg (nn _ (by simp)) (Sh.neg (nn _ (by simp)) (Sh.neg (nn _ (by simp)) (Sh.neg (nn _ (by simp)) (Sh.neg (nn _ (by simp)) (Sh.neg (nn _ (by simp)) (Sh.neg (nn _ (by simp)) (Sh.neg (nn _ (by simp)) (Sh.pos hm (Sh.bind (rsame_ev a b (by omega)) (Sh.if (fun h => ?_) (fun h => ?_)))))))))))))
  · exact Sh.no (end_no ho (fun q => by rw [q.1] at h; cases h))
  · have : decide (a = b) = true := by simpa using h
    rw [this] at ho
    exact Sh.fin ho
theorem rt_one (e : inL x.op [⟨#[114, 101, 108, 117]⟩, ⟨#[97, 98, 115]⟩, ⟨#[115, 116, 101, 112]⟩, ⟨#[115, 105, 103, 110]⟩] = true) (hm : m = 1) : Sh l (fun F => Tf.wref10_Shape_m.j16 F (jArg l x a b m)) (endV x a b) := by
  have nn : ∀ w, w ∈ [oParam, oInput, oConst, ⟨#[109, 97, 116, 109, 117, 108]⟩, ⟨#[116, 114, 97, 110, 115, 112, 111, 115, 101]⟩, ⟨#[115, 117, 109]⟩, oScale, oPower, ⟨#[114, 101, 115, 104, 97, 112, 101]⟩, ⟨#[115, 112, 114, 101, 97, 100]⟩] → ¬ seqB x.op w = true := by
    obtain ⟨o, h1, h2⟩ := inL_cases e
    rw [h2]
    clear e h2
    revert o
    decide +kernel
  have ho : ofV x a b = (a, true) := by
    have c1 : ¬ inL x.op [⟨#[97, 100, 100]⟩, ⟨#[115, 117, 98]⟩, ⟨#[109, 117, 108]⟩, ⟨#[109, 97, 120]⟩, ⟨#[97, 98, 111, 118, 101]⟩] = true := by
      obtain ⟨o, h1, h2⟩ := inL_cases e
      rw [h2]
      clear e h2 nn
      revert o
      decide +kernel
    unfold ofV
    rw [if_neg (nn _ (by simp)), if_neg c1, if_neg (nn _ (by simp)), if_pos e]
  simp only [Tf.wref10_Shape_m.j16, jArg, bif_if, decide_eq_true_eq, beq_iff_eq, bne_iff_ne, inR_iff, Bool.not_eq_true']
  exact Sh.neg (nn _ (by simp)) (Sh.neg (nn _ (by simp)) (Sh.neg (nn _ (by simp)) (Sh.neg (nn _ (by simp)) (Sh.neg (nn _ (by simp)) (Sh.neg (nn _ (by simp)) (Sh.neg (nn _ (by simp)) (Sh.neg (nn _ (by simp)) (Sh.neg (nn _ (by simp)) (Sh.neg (nn _ (by simp)) (Sh.neg (by omega) (Sh.fin ho)))))))))))
end
theorem rtail (l : List VI.Node) (x : VI.Node) (a b : List Int) (hx : smallN x) (ha : a.length ≤ 10) (hp : (partsV x.op).2 = true) : Sh l (fun F => Tf.wref10_Shape_m.j16 F (jArg l x a b (partsV x.op).1)) (endV x a b) := by
  have h3 : inL x.op opsZ = true ∨ (inL x.op opsO = true ∧ (partsV x.op).1 = 1) ∨ (inL x.op opsT = true ∧ (partsV x.op).1 = 2) := by
    revert hp
    unfold partsV
    repeat' split
    all_goals simp_all
  rcases h3 with h | ⟨h, hm⟩ | ⟨h, hm⟩
  · obtain ⟨o, h1, h2⟩ := inL_cases h
    simp only [opsZ, List.mem_cons, List.not_mem_nil, or_false] at h1
    rcases h1 with h1 | h1 | h1
    · exact rt_param (.inl (h2.trans h1))
    · exact rt_param (.inr (h2.trans h1))
    · exact rt_const hx (h2.trans h1)
  · by_cases c : inL x.op [⟨#[114, 101, 108, 117]⟩, ⟨#[97, 98, 115]⟩, ⟨#[115, 116, 101, 112]⟩, ⟨#[115, 105, 103, 110]⟩] = true
    · exact rt_one c hm
    obtain ⟨o, h1, h2⟩ := inL_cases h
    rw [h2] at c
    simp only [opsO, List.mem_cons, List.not_mem_nil, or_false] at h1
    rcases h1 with h1 | h1 | h1 | h1 | h1 | h1 | h1 | h1 | h1 | h1
    · exact absurd (by rw [h1]; decide +kernel) c
    · exact absurd (by rw [h1]; decide +kernel) c
    · exact absurd (by rw [h1]; decide +kernel) c
    · exact absurd (by rw [h1]; decide +kernel) c
    · exact rt_scale hx (h2.trans h1)
    · exact rt_power (h2.trans h1)
    · exact rt_transpose (h2.trans h1)
    · exact rt_sum (h2.trans h1)
    · exact rt_reshape (h2.trans h1)
    · exact rt_spread (h2.trans h1)
  · by_cases c : inL x.op [⟨#[97, 100, 100]⟩, ⟨#[115, 117, 98]⟩, ⟨#[109, 117, 108]⟩, ⟨#[109, 97, 120]⟩, ⟨#[97, 98, 111, 118, 101]⟩] = true
    · exact rt_two ha c hm
    obtain ⟨o, h1, h2⟩ := inL_cases h
    rw [h2] at c
    simp only [opsT, List.mem_cons, List.not_mem_nil, or_false] at h1
    rcases h1 with h1 | h1 | h1 | h1 | h1 | h1
    · exact absurd (by rw [h1]; decide +kernel) c
    · exact absurd (by rw [h1]; decide +kernel) c
    · exact absurd (by rw [h1]; decide +kernel) c
    · exact absurd (by rw [h1]; decide +kernel) c
    · exact absurd (by rw [h1]; decide +kernel) c
    · exact rt_matmul (h2.trans h1)
section
variable {l : List VI.Node} {x : VI.Node}
theorem rj11 (hl : ∀ y ∈ l, smallN y) (hx : smallN x) (hC : infC l x) : Sh l (fun F => Tf.wref10_Shape_m.j11 F (l, (x.op, (x.a, (x.b, (x.name, (x.shape, (x.k, (x.n, (x.data, (partsV x.op).1)))))))))) (inferV l x) := by
  rw [inferV_yes hC]
  have e0 : ∀ i : Int, l.getD i.toNat (dflt 6) = nd l i := fun _ => rfl
  have hlen := nd_small hl
  have tl := fun a b ha => rtail l x a b hx ha hC.1
  have CA := hC.2.2.1
  have CB := hC.2.2.2
  simp only [Tf.wref10_Shape_m.j11, Tf.wref10_Shape_m.j14, bif_if, decide_eq_true_eq, inR_iff, e0]
  simp only [jArg] at tl
  by_cases c1 : (partsV x.op).1 > 0
  · have e1 : (if (partsV x.op).1 > 0 then (nd l x.a).shape else []) = (nd l x.a).shape := if_pos c1
    rw [e1]
    by_cases c2 : (partsV x.op).1 > 1
    · have e2 : (if (partsV x.op).1 > 1 then (nd l x.b).shape else []) = (nd l x.b).shape := if_pos c2
      rw [e2]
      exact Sh.pos c1 (Sh.pos (CA c1) (Sh.same (Sh.pos c2 (Sh.pos (CB c2) (Sh.same (tl _ _ (hlen _)))))))
    · have e2 : (if (partsV x.op).1 > 1 then (nd l x.b).shape else []) = [] := if_neg c2
      rw [e2]
      exact Sh.pos c1 (Sh.pos (CA c1) (Sh.same (Sh.neg c2 (Sh.same (tl _ _ (hlen _))))))
  · have c2 : ¬ (partsV x.op).1 > 1 := by omega
    have e1 : (if (partsV x.op).1 > 0 then (nd l x.a).shape else []) = [] := if_neg c1
    have e2 : (if (partsV x.op).1 > 1 then (nd l x.b).shape else []) = [] := if_neg c2
    rw [e1, e2]
    exact Sh.neg c1 (Sh.same (Sh.neg c2 (Sh.same (tl _ _ (by simp)))))
theorem rj9 (hl : ∀ y ∈ l, smallN y) (hx : smallN x) (hN : numC l x) (hM : nameC x) : Sh l (fun F => Tf.wref10_Shape_m.j9 F (l, (x.op, (x.a, (x.b, (x.name, (x.shape, (x.k, (x.n, (x.data, (partsV x.op).1)))))))))) (inferV l x) := by
  have no : ¬ moreC x → (inferV l x).2 = false := fun h => inferV_no (fun q => h (infC_iff.1 q).2.2)
  have yes := fun h : moreC x => rj11 hl hx (infC_iff.2 ⟨hN, hM, h⟩)
  unfold moreC at no yes
  have hz : ((x.data.length : Int) > 0) = ¬ (x.data.length = 0) := by rw [eq_iff_iff]; omega
  simp only [Tf.wref10_Shape_m.j9, bif_if, decide_eq_true_eq, bne_iff_ne, Bool.not_eq_true', hz]
  generalize seqB x.op oScale = u1 at *
  generalize seqB x.k ⟨#[]⟩ = u2 at *
  generalize seqB x.op oPower = u3 at *
  generalize seqB x.op oConst = u4 at *
  repeat' first
    | refine Sh.if (fun _ => ?_) (fun _ => ?_)
    | (refine Sh.no (no ?_); (simp_all <;> omega))
    | (refine Sh.same (yes ?_); (simp_all <;> omega))
theorem rj4 (hl : ∀ y ∈ l, smallN y) (hx : smallN x) (hN : numC l x) : Sh l (fun F => Tf.wref10_Shape_m.j4 F (l, (x.op, (x.a, (x.b, (x.name, (x.shape, (x.k, (x.n, (x.data, (partsV x.op).1)))))))))) (inferV l x) := by
  have no : ¬ nameC x → (inferV l x).2 = false := fun h => inferV_no (fun q => h (infC_iff.1 q).2.1)
  have yes := rj9 hl hx hN
  have hnm := rname_ev x.name (by have := hx.1; omega)
  have hnil : seqB x.name ⟨#[]⟩ = true → nameS x.name.data.toList = false := nameS_nil
  unfold nameC at no yes
  simp only [Tf.wref10_Shape_m.j4, bif_if, decide_eq_true_eq, bne_iff_ne, Bool.not_eq_true']
  generalize seqB x.op oParam = u1 at *
  generalize seqB x.op oInput = u2 at *
  generalize seqB x.name ⟨#[]⟩ = u3 at *
  generalize nameS x.name.data.toList = u4 at *
  repeat' first
    | refine Sh.if (fun _ => ?_) (fun _ => ?_)
    | refine Sh.bind hnm ?_
    | (refine Sh.no (no ?_); (simp_all <;> omega))
    | (refine Sh.same (yes ?_); (simp_all <;> omega))
end
theorem rshape_ev (l : List VI.Node) (x : VI.Node) (hl : ∀ y ∈ l, smallN y) (hx : smallN x) : Sh l (fun F => Tf.wref10_Shape_m.f F (l, x)) (inferV l x) := by
  have no : ¬ numC l x → (inferV l x).2 = false := fun h => inferV_no (fun q => h (infC_iff.1 q).1)
  have yes := fun h : numC l x => rj4 hl hx h
  unfold numC at no yes
  have h3 := partsV_three x.op
  simp only [Tf.wref10_Shape_m.f, bif_if, decide_eq_true_eq, bne_iff_ne, Bool.not_eq_true', beq_iff_eq]
  refine Sh.bind (rparts_ev x.op) ?_
  by_cases hp : (partsV x.op).2 = true
  · rw [if_pos hp]
    generalize (partsV x.op).1 = m at *
    repeat' first
      | refine Sh.if (fun _ => ?_) (fun _ => ?_)
      | exact Sh.no (no (fun q => by omega))
      | exact Sh.same (yes ⟨hp, by omega, by omega, by omega, by omega⟩)
      | (exfalso; omega)
  · rw [if_neg hp]
    exact Sh.pos (by decide) (Sh.no (no (fun q => hp q.1)))
end Go.PL.M
namespace Go.PL
open Go Go.VI
def findI : List ByteArray → ByteArray → Option Nat
  | [], _ => none
  | n :: r, w => if seqB n w = true then some 0 else (findI r w).map (· + 1)
def fInt : Option Nat → Int
  | some k => (k : Int)
  | none => -1
theorem find_go (ns : List ByteArray) (w : ByteArray) (hl : ns.length ≤ 1000000) : ∀ (d i : Nat), i + d = ns.length →
    EvG (fun _ L => L ((i : Int), (w, ns))) Tf.wref10_find.s2 (match findI (ns.drop i) w with | none => .inr () | some k => .inl ((i + k : Nat) : Int)) := by
  intro d
  induction d with
  | zero =>
    intro i hi
    rw [List.drop_eq_nil_of_le (by omega)]
    refine EvG.loop ?_
    simp only [Tf.wref10_find.s2, bif_if, decide_eq_true_eq, findI]
    exact EvG.neg (by omega) (EvG.now _)
  | succ d ih =>
    intro i hi
    have hlt : i < ns.length := by omega
    have eg : ns.getD (i : Int).toNat (dflt 4) = ns[i] := getD_at ns i hlt
    have hw : IntKind.i64.wrap ((i : Int) + 1) = ((i + 1 : Nat) : Int) := by rw [w64 (by omega) (by omega), succ_cast]
    have h2 := ih (i + 1) (by omega)
    rw [List.drop_eq_getElem_cons hlt, findI]
    generalize ns[i] = s at *
    refine EvG.loop ?_
    simp only [Tf.wref10_find.s2, bif_if, decide_eq_true_eq, inR_iff, eg, hw]
    refine EvG.pos (by omega) (EvG.pos (by omega) ?_)
    by_cases c : seqB s w = true
    · rw [if_pos c]
      exact EvG.pos c (EvG.now _)
    · rw [if_neg c]
      refine EvG.neg c ?_
      cases hr : findI (ns.drop (i + 1)) w with
      | none => rw [hr] at h2; exact h2
      | some k =>
        rw [hr] at h2
        have e : ((i + 1 + k : Nat) : Int) = ((i + (k + 1) : Nat) : Int) := by omega
        dsimp only at h2
        rw [e] at h2
        exact h2
theorem find_ev (ns : List ByteArray) (w : ByteArray) (hl : ns.length ≤ 1000000) : Ev (fun F => Tf.wref10_find.f F (ns, w)) (fInt (findI ns w)) := by
  have h := find_go ns w hl ns.length 0 (by omega)
  rw [List.drop_zero] at h
  simp only [Tf.wref10_find.f]
  refine Ev.bind (Ev.iter h) ?_
  cases findI ns w with
  | none => exact Ev.now _
  | some k => exact Ev.eq (by simp [fInt])
theorem findI_lt : ∀ {ns : List ByteArray} {w : ByteArray} {k : Nat}, findI ns w = some k → k < ns.length
  | n :: r, w, k, h => by
    rw [findI] at h
    split at h
    · cases h; simp
    · obtain ⟨j, hj, rfl⟩ := Option.map_eq_some_iff.1 h
      have := findI_lt hj
      simp; omega
theorem findI_app : ∀ (ns : List ByteArray) (n w : ByteArray), findI (ns ++ [n]) w = match findI ns w with | some k => some k | none => if seqB n w = true then some ns.length else none
  | [], n, w => by
    show (if seqB n w = true then some 0 else (findI [] w).map (· + 1)) = _
    rfl
  | a :: r, n, w => by
    rw [List.cons_append, findI, findI, findI_app r n w]
    split
    · rfl
    · cases findI r w with
      | some k => rfl
      | none =>
        simp only [Option.map_none]
        split
        · rfl
        · rfl
def RelM (m : List (ByteArray × Int)) (ns : List ByteArray) : Prop := ∀ w, getM m w = (findI ns w).map (fun (k : Nat) => (k : Int))
theorem RelM.put {m : List (ByteArray × Int)} {ns : List ByteArray} (h : RelM m ns) {n : ByteArray} (hn : getM m n = none) : RelM (putM m n (ns.length : Int)) (ns ++ [n]) := by
  intro w
  rw [getM_putM, findI_app]
  by_cases c : seqB w n = true
  · have e := seqB_iff.1 c
    subst e
    have h1 := h w
    rw [hn] at h1
    have h2 : findI ns w = none := by
      cases hf : findI ns w with
      | none => rfl
      | some k => rw [hf] at h1; cases h1
    rw [if_pos c, h2]
    simp only [seqB_rfl, if_true]
    rfl
  · rw [if_neg c, h w]
    cases findI ns w with
    | some k => rfl
    | none =>
      simp only
      rw [if_neg (fun q => c (by rw [seqB_sym]; exact q))]
theorem RelM.int {m : List (ByteArray × Int)} {ns : List ByteArray} (h : RelM m ns) (w : ByteArray) : fInt (findI ns w) = match getM m w with | some v => v | none => -1 := by
  rw [h w]
  cases findI ns w <;> rfl
theorem RelM.bnd {m : List (ByteArray × Int)} {ns : List ByteArray} (h : RelM m ns) {w : ByteArray} {v : Int} (hv : getM m w = some v) : 0 ≤ v ∧ v < (ns.length : Int) := by
  rw [h w] at hv
  obtain ⟨k, hk, rfl⟩ := Option.map_eq_some_iff.1 hv
  have := findI_lt hk
  omega
abbrev TailB := (List ByteArray) × ((List VI.Node) × (Int × (List VI.Stmt)))
def S11 (s : VI.Stmt) (i j a b : Int) (q : TailB) := ((), ((0 : Int), (i, (j, (s.op, (a, (b, (ByteArray.empty, (s.dims, (s.k, (s.n, (s.data, (s.name, (s.op, (s.args, (s.dims, (s.k, (s.n, (s.data, q)))))))))))))))))))
def R11 (s : VI.Stmt) (i a b : Int) (q : TailB) := ((), ((0 : Int), (i, (q.1, (q.2.1, (q.2.2.1, (q.2.2.2, (s.op, (a, (b, (ByteArray.empty, (s.dims, (s.k, (s.n, (s.data, (s.name, (s.op, (s.args, (s.dims, (s.k, (s.n, s.data)))))))))))))))))))))
theorem args_l11 (s : VI.Stmt) (hal : s.args.length ≤ 1000000) (i : Int) (ns : List ByteArray) (hns : ns.length ≤ 1000) (m : List (ByteArray × Int)) (hm : RelM m ns) (l : List VI.Node) (loss : Int) (ss : List VI.Stmt) : ∀ (d j : Nat) (a b : Int), j + d = s.args.length →
    EvG (fun _ L => L (S11 s i (j : Int) a b (ns, (l, (loss, ss))))) Tf.wref10_Build.s11 (if (argsV m (s.args.drop j) j a b).2 = true then .inr (R11 s i (argsV m (s.args.drop j) j a b).1.1 (argsV m (s.args.drop j) j a b).1.2 (ns, (l, (loss, ss)))) else .inl ((), (0, (i, 5)))) := by
  intro d
  induction d with
  | zero =>
    intro j a b hj
    rw [List.drop_eq_nil_of_le (by omega)]
    unfold S11
    refine EvG.loop ?_
    simp only [Tf.wref10_Build.s11, bif_if, decide_eq_true_eq, argsV, if_true]
    exact EvG.neg (by omega) (EvG.now _)
  | succ d ih =>
    intro j a b hj
    have hlt : j < s.args.length := by omega
    have eg : s.args.getD (j : Int).toNat (dflt 4) = s.args[j] := getD_at s.args j hlt
    have hw : IntKind.i64.wrap ((j : Int) + 1) = ((j + 1 : Nat) : Int) := by rw [w64 (by omega) (by omega), succ_cast]
    have ih := ih (j + 1)
    rw [List.drop_eq_getElem_cons hlt, argsV]
    have hf := find_ev ns s.args[j] (by omega)
    have hi := hm.int s.args[j]
    have hbd := fun v (h : getM m s.args[j] = some v) => hm.bnd h
    rw [hi] at hf
    generalize s.args[j] = w at *
    unfold S11
    refine EvG.loop ?_
    simp only [Tf.wref10_Build.s11, bif_if, decide_eq_true_eq, inR_iff, eg, hw, beq_iff_eq]
    refine EvG.pos (by omega) (EvG.pos (by omega) (EvG.bind hf ?_))
    cases hg : getM m w with
    | none =>
      simp only [Bool.false_eq_true, if_false]
      exact EvG.pos (by decide) (EvG.now _)
    | some v =>
      have hv := hbd v hg
      dsimp only
      refine EvG.neg (by omega) ?_
      by_cases c : j = 0
      · simp only [if_pos c]
        exact EvG.pos (by omega) (ih v b (by omega))
      · simp only [if_neg c]
        exact EvG.neg (by omega) (ih a v (by omega))
def resR (ss : List VI.Stmt) : (Int × Int) ⊕ (List VI.Node × Int) → (Unit × (Int × (Int × Int))) ⊕ (Unit × (Int × ((List VI.Stmt) × ((List VI.Node) × Int))))
  | .inl e => .inl ((), (0, e))
  | .inr g => .inr ((), (0, (ss, g)))
theorem set_oneBn (a b : ByteArray) : List.set (List.replicate 1 a) 0 b = [b] := rfl
theorem rbuild_l4 (ss : List VI.Stmt) (hs : ∀ s ∈ ss, okS s) (hsl : ss.length ≤ 1000000) : ∀ (d i : Nat) (ns : List ByteArray) (l : List VI.Node) (loss : Int) (m : List (ByteArray × Int)), i + d = ss.length → RelM m ns → ns.length = l.length → (∀ y ∈ l, smallN y) → l.length ≤ 200 →
    EvG (fun _ L => L ((), ((0 : Int), ((i : Int), (ns, (l, (loss, ss))))))) Tf.wref10_Build.s4 (resR ss (buildGo (ss.drop i) i l loss m)) := by
  intro d
  induction d with
  | zero =>
    intro i ns l loss m hi hm hnl hl hn
    rw [List.drop_eq_nil_of_le (by omega)]
    refine EvG.loop ?_
    simp only [Tf.wref10_Build.s4, bif_if, decide_eq_true_eq]
    exact EvG.neg (by omega) (EvG.now _)
  | succ d ih =>
    intro i ns l loss m hi hm hnl hl hn
    have e0 : ss.getD (i : Int).toNat (dflt 7) = ss.getD i (dflt 7) := by rw [Int.toNat_natCast]
    have hw : IntKind.i64.wrap ((i : Int) + 1) = ((i + 1 : Nat) : Int) := by rw [w64 (by omega) (by omega), succ_cast]
    have hok : okS (ss.getD i (dflt 7)) := hs _ (by rw [List.getD_eq_getElem?_getD, List.getElem?_eq_getElem (by omega)]; exact List.getElem_mem _)
    rw [rdS_drop ss i (dflt 7) (by omega)]
    refine EvG.loop ?_
    simp only [Tf.wref10_Build.s4, bif_if, decide_eq_true_eq, inR_iff, e0, Nat.ble_eq, Bool.not_eq_true', beq_iff_eq]
    refine EvG.pos (by omega) (EvG.pos (by omega) ?_)
    generalize hgs : ss.getD i (dflt 7) = s at hok ⊢
    have hsm := nodeV_small hok m
    have hilen := inferV_len l (nodeV s m).1
    have hargs := args_l11 s hok.2.1 (i : Int) ns (by omega) m hm l loss ss s.args.length 0 0 0 (by omega)
    rw [List.drop_zero] at hargs
    have hargs := Ev.iter hargs
    have hloss : seqB s.op oLoss = true → (nodeV s m).2 = true → 0 ≤ (nodeV s m).1.a ∧ (nodeV s m).1.a < (l.length : Int) := fun h1 h2 => by
      obtain ⟨w, hw⟩ := argsV_first m (hok.1 h1) 0 0 h2
      have := hm.bnd hw
      rw [← hnl]; exact this
    have hfind := find_ev ns s.name (by omega)
    rw [hm.int] at hfind
    obtain ⟨t, hsh, hsht⟩ := M.rshape_ev l (nodeV s m).1 hl hsm
    have smallOk : ∀ y ∈ l ++ [{ (nodeV s m).1 with shape := (inferV l (nodeV s m).1).1 }], smallN y := fun y hy => by
      rcases List.mem_append.1 hy with h | h
      · exact hl y h
      · rw [List.mem_singleton] at h
        subst h
        exact ⟨hsm.1, by show (inferV l (nodeV s m).1).1.length ≤ 10; omega, hsm.2.2.1, hsm.2.2.2.1, hsm.2.2.2.2⟩
    rw [buildGo]
    by_cases c2 : seqB s.op oLoss = true
    · refine EvG.neg (by rw [c2]; simp) ?_
      rw [if_neg (fun h => h.2 c2)]
      refine EvG.bind hargs ?_
      by_cases c3 : (nodeV s m).2 = false
      · rw [if_pos c3, if_neg (show ¬ (argsV m s.args 0 0 0).2 = true by have : (argsV m s.args 0 0 0).2 = false := c3; rw [this]; simp)]
        exact EvG.now _
      · have c3' : (argsV m s.args 0 0 0).2 = true := by have : ¬ (argsV m s.args 0 0 0).2 = false := c3; simpa using this
        rw [if_neg c3, if_pos c3', if_pos c2]
        have ha := hloss c2 c3'
        simp only [R11, sumE]
        refine EvG.pos c2 ?_
        by_cases c4 : 0 ≤ loss
        · rw [if_pos c4]; exact EvG.pos c4 (EvG.now _)
        · rw [if_neg c4]
          refine EvG.neg c4 (EvG.pos ha ?_)
          by_cases c5 : (nd l (nodeV s m).1.a).shape.length ≠ 0
          · rw [if_pos c5]; exact EvG.pos (by show ((nd l (nodeV s m).1.a).shape.length : Int) > 0; omega) (EvG.now _)
          · rw [if_neg c5, hw]
            exact EvG.neg (by show ¬ ((nd l (nodeV s m).1.a).shape.length : Int) > 0; omega) (ih (i + 1) ns l (nodeV s m).1.a m (by omega) hm hnl hl hn)
    · refine EvG.pos (by simpa using c2) (EvG.bind hfind ?_)
      cases hg : getM m s.name with
      | some v =>
        have hv := hm.bnd hg
        rw [if_pos ⟨rfl, c2⟩]
        exact EvG.pos hv.1 (EvG.now _)
      | none =>
        rw [if_neg (fun h => by simp at h)]
        refine EvG.neg (by decide) (EvG.bind hargs ?_)
        by_cases c3 : (nodeV s m).2 = false
        · rw [if_pos c3, if_neg (show ¬ (argsV m s.args 0 0 0).2 = true by have : (argsV m s.args 0 0 0).2 = false := c3; rw [this]; simp)]
          exact EvG.now _
        · have c3' : (argsV m s.args 0 0 0).2 = true := by have : ¬ (argsV m s.args 0 0 0).2 = false := c3; simpa using this
          rw [if_neg c3, if_pos c3', if_neg c2]
          simp only [R11, sumE]
          refine EvG.neg c2 ?_
          have body : ∀ (nm : ByteArray), (⟨s.op, (argsV m s.args 0 0 0).1.1, (argsV m s.args 0 0 0).1.2, nm, s.dims, s.k, s.n, s.data⟩ : VI.Node) = (nodeV s m).1 →
              EvG (fun F L => if (l.length : Int) = 200 then some (.inl ((), (0, ((i : Int), (8 : Int))))) else
                (Tf.wref10_Shape_m.f F (l, (⟨s.op, (argsV m s.args 0 0 0).1.1, (argsV m s.args 0 0 0).1.2, nm, s.dims, s.k, s.n, s.data⟩ : VI.Node))).bind fun y69 => if y69.2.1 = false then some (.inl ((), (0, ((i : Int), (4 : Int))))) else
                  if ns.length + 1 ≤ 1099511627776 then if y69.2.2.length + 1 ≤ 1099511627776 then L ((), ((0 : Int), (IntKind.i64.wrap ((i : Int) + 1), (ns ++ (List.replicate 1 ByteArray.empty).set 0 s.name, (y69.2.2 ++ (List.replicate 1 (⟨ByteArray.empty, 0, 0, ByteArray.empty, [], ByteArray.empty, 0, []⟩ : VI.Node)).set 0 ⟨s.op, (argsV m s.args 0 0 0).1.1, (argsV m s.args 0 0 0).1.2, nm, y69.1, s.k, s.n, s.data⟩, (loss, ss)))))) else none else none)
                Tf.wref10_Build.s4 (resR ss (if l.length = 200 then .inl ((i : Int), 8) else if (inferV l (nodeV s m).1).2 = false then .inl ((i : Int), 4) else buildGo (ss.drop (i + 1)) (i + 1) (l ++ [{ (nodeV s m).1 with shape := (inferV l (nodeV s m).1).1 }]) loss (putM m s.name (l.length : Int)))) := by
            intro nm hnm
            by_cases c6 : l.length = 200
            · rw [if_pos c6]; exact EvG.pos (by omega) (EvG.now _)
            rw [if_neg c6]
            refine EvG.neg (by omega) ?_
            rw [hnm]
            refine EvG.bind hsh ?_
            by_cases c7 : (inferV l (nodeV s m).1).2 = false
            · rw [if_pos c7]; exact EvG.pos c7 (EvG.now _)
            rw [if_neg c7]
            have ht := hsht (by simpa using c7)
            refine EvG.neg c7 (EvG.pos (by omega) (EvG.pos (by show l.length + 1 ≤ 1099511627776; omega) ?_))
            have en : (⟨s.op, (argsV m s.args 0 0 0).1.1, (argsV m s.args 0 0 0).1.2, nm, t, s.k, s.n, s.data⟩ : VI.Node) = { (nodeV s m).1 with shape := (inferV l (nodeV s m).1).1 } := by
              rw [ht, ← hnm]
            rw [set_oneBn, set_oneN, hw]
            dsimp only
            rw [en, ← hnl]
            exact ih (i + 1) _ _ loss _ (by omega) (hm.put hg) (by simp [hnl]) smallOk (by simp; omega)
          by_cases p1 : seqB s.op oParam = true
          · exact EvG.pos p1 (body s.name (by show _ = (⟨_, _, _, if _ then _ else _, _, _, _, _⟩ : VI.Node); rw [if_pos (.inl p1)]))
          · refine EvG.neg p1 ?_
            by_cases p2 : seqB s.op oInput = true
            · exact EvG.pos p2 (body s.name (by show _ = (⟨_, _, _, if _ then _ else _, _, _, _, _⟩ : VI.Node); rw [if_pos (.inr p2)]))
            · exact EvG.neg p2 (body ByteArray.empty (by show _ = (⟨_, _, _, if _ then _ else _, _, _, _, _⟩ : VI.Node); rw [if_neg (fun q => q.elim p1 p2)]))
theorem rbuild_ev (ss : List VI.Stmt) (hs : ∀ s ∈ ss, okS s) (hsl : ss.length ≤ 1000000) : Ev (fun F => Tf.wref10_Build.f F ss) (buildV ss) := by
  have h := rbuild_l4 ss hs hsl ss.length 0 [] [] (-1) [] (by omega) (fun w => rfl) rfl (by simp) (by simp)
  rw [List.drop_zero] at h
  simp only [Tf.wref10_Build.f, bif_if, decide_eq_true_eq]
  unfold buildV
  refine Ev.bind (Ev.iter h) ?_
  cases buildGo ss 0 [] (-1) [] with
  | inl e => exact Ev.now _
  | inr g => exact EvIf (fun c => Ev.eq (if_pos c)) (fun c => Ev.eq (if_neg c))
end Go.PL
