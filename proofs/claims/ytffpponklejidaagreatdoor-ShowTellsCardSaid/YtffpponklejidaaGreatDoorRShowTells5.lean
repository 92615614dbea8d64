import Derived.Test.YtffpponklejidaaGreatDoorRShowTells4
import Derived.KernelRfl
import Derived.Test.YtffpponklejidaaGreatDoorProg
import Derived.WalkKit
import Derived.WalkSpells
import Derived.Below
import Derived.Shelf.GgClosure.StringsIndexFuncTop
import Derived.Ground.GgwProg
import Derived.Shelf.Strings.SlTrimAscii
import Derived.Lib.IndexBytes
import Derived.Shelf.Strings.Search2
import Derived.Lib.SplitLaws
import Derived.Laws.RangeString
import Derived.Laws.RangeAny
import Derived.Lib.SliceRun
import Derived.Shelf.Strconv.AtoiAll
import Derived.Shelf.Strconv.Itoa3
import Derived.Shelf.Strings.Count
import Derived.Shelf.Strings.OnBuilder
import Derived.Shelf.Strings.BuilderK
import Derived.MapKept
import Derived.ChangeMaps3
import Derived.Carry
import Derived.Laws.CopyRow
import Derived.Laws.MakeOwn
import Derived.Laws.Tables
import Derived.Great.BuildSlice
import Derived.DataElems
import Derived.Laws.AppendOwn
import Derived.Laws.Entries
import Derived.Laws.Cells
import Derived.Laws.Append
import Derived.Laws.BytesString
import Derived.Calls
import Derived.Orders
import Derived.RowKit
import Derived.Laws.World
import GoSem.Core.Region
import GoSem.Core.View
import GoSem.Op.String
import GoSem.Core.Code
set_option linter.unusedVariables false
set_option linter.unusedSimpArgs false
namespace Go.PL
open Go Go.VI
def digB (n : Int) : ByteArray := bL (dig2 n.toNat)
theorem itoa_ev (n : Int) (h0 : 0 ≤ n) (h1 : n < 100) : Ev (fun F => Tf.strconv_Itoa.f F n) (digB n) := ⟨0, fun _ _ => by
  unfold Tf.strconv_Itoa.f
  rw [show ((decide (0 ≤ n)) && decide (n < 100)) = true by simp; omega, cond_true, dec_digs (by omega)]
  rfl⟩
theorem atoi_is (s : ByteArray) (hs : s.data.toList.length ≤ 1000000) : ∃ v ok, (∀ F, Tf.strconv_Atoi.f F s = some (v, ok)) ∧ ∀ n, numS s = some n → v = n ∧ ok = true := by
  have hz := ba_size s
  have hb : Nat.ble s.size 281474976710656 = true := Nat.ble_eq_true_of_le (by omega)
  simp only [Tf.strconv_Atoi.f, atoiT, hb, cond_true]
  cases hn : numS s with
  | some n =>
    obtain ⟨k, hk, rfl, hl⟩ := num_digs hn
    rw [hl, digs_atoi hk]
    exact ⟨_, _, fun _ => rfl, fun n h => by cases h; exact ⟨rfl, rfl⟩⟩
  | none =>
    exact ⟨_, _, fun _ => rfl, fun n h => by cases h⟩
theorem num_back {s : ByteArray} {v : Int} (h0 : 0 ≤ v) (h1 : v < 100) (h : seqB (digB v) s = true) : numS s = some v := by
  rw [← seqB_iff.1 h]
  unfold numS digB
  rw [bL_list, digs_num (by omega)]
  congr 1; omega
theorem num_same {s : ByteArray} {v : Int} (h : numS s = some v) : (0 ≤ v ∧ v < 100) ∧ seqB (digB v) s = true := by
  obtain ⟨k, hk, rfl, hl⟩ := num_digs h
  refine ⟨by omega, ?_⟩
  unfold digB
  rw [Int.toNat_natCast, ← hl, bL_of, seqB_rfl]
def preL (st nm : List UInt8) : Option (List UInt8) := if nm.take st.length = st then some (nm.drop st.length) else none
theorem cut_pre (a b : ByteArray) : Ev (fun F => Tf.strings_CutPrefix.f F (a, b)) (match preL b.data.toList a.data.toList with | some r => (bL r, true) | none => (a, false)) := by
  have ha := ba_size a
  have hb := ba_size b
  simp only [Tf.strings_CutPrefix.f, Tf.internal_stringslite_CutPrefix.f, Tf.internal_stringslite_HasPrefix.f, bif_if, decide_eq_true_eq, Bool.and_eq_true, Bool.not_eq_true', Int.toNat_natCast]
  unfold preL
  have he : (a.extract 0 b.size).data.toList = a.data.toList.take b.data.toList.length := by rw [ba_extract, hb]; rfl
  by_cases c : (a.size : Int) ≥ (b.size : Int)
  · refine Ev.bind (a := match (if a.data.toList.take b.data.toList.length = b.data.toList then some (a.data.toList.drop b.data.toList.length) else none) with | some r => (bL r, true) | none => (a, false)) ?_ (Ev.now _)
    refine Ev.bind (a := seqB (a.extract 0 b.size) b) (Ev_pos c (Ev_pos (by omega) (Ev.now _))) ?_
    by_cases h : a.data.toList.take b.data.toList.length = b.data.toList
    · rw [if_pos h]
      have : seqB (a.extract 0 b.size) b = true := by rw [seqB_iff]; apply ba_ext; rw [he, h]
      rw [this]
      have e : a.extract b.size a.size = bL (a.data.toList.drop b.data.toList.length) := by
        apply ba_ext
        rw [ba_extract, bL_list, hb, ha, List.take_length]
      refine Ev_neg (by simp) (Ev_pos (by omega) (Ev.eq ?_))
      rw [e]
    · rw [if_neg h]
      have : seqB (a.extract 0 b.size) b = false := by
        cases hq : seqB (a.extract 0 b.size) b with
        | false => rfl
        | true => exact absurd (by rw [← he, seqB_iff.1 hq]) h
      rw [this]
      exact Ev_pos rfl (Ev.now _)
  · have hn : ¬ a.data.toList.take b.data.toList.length = b.data.toList := fun q => by
      have := congrArg List.length q
      rw [List.length_take] at this
      omega
    rw [if_neg hn]
    exact Ev.bind (a := (a, false)) (Ev.bind (a := false) (Ev_neg c (Ev.now _)) (Ev_pos rfl (Ev.now _))) (Ev.now _)
def clashAt (l : List VI.Node) (st : ByteArray) (x : VI.Node) : Bool := match preL st.data.toList x.name.data.toList with
  | some r => (match numL r with
    | some n => decide (n < l.length) && seqB (nd l n).name ⟨#[]⟩
    | none => false)
  | none => false
def clashV (l : List VI.Node) (st : ByteArray) : Bool := l.any (clashAt l st)
theorem clash_go (l : List VI.Node) (loss : Int) (st : ByteArray) (hl : l.length ≤ 99) (hs : ∀ y ∈ l, smallN y) : ∀ (d i : Nat), i + d = l.length →
    EvG (fun _ L => L ((i : Int), (l, (loss, (st, (l, (l.length : Int))))))) Tf.show_clash.s2 (if (l.drop i).any (clashAt l st) = true then .inl true else .inr ()) := by
  intro d
  induction d with
  | zero =>
    intro i hi
    rw [List.drop_eq_nil_of_le (by omega)]
    refine EvG.step (fun F L => ?_) (EvG.now _)
    dsimp only [Tf.show_clash.s2]
    simp only [bif_if, decide_eq_true_eq]
    rw [if_neg (by omega)]
    rfl
  | succ d ih =>
    intro i hi
    have hlt : i < l.length := by omega
    have eg : l.getD (i : Int).toNat (dflt 6) = l[i] := by rw [Int.toNat_natCast]; simp [List.getD_eq_getElem?_getD, hlt]
    have hw : IntKind.i64.wrap ((i : Int) + 1) = ((i + 1 : Nat) : Int) := by rw [w64 (by omega) (by omega), succ_cast]
    have e0 : ∀ j : Int, l.getD j.toNat (dflt 6) = nd l j := fun _ => rfl
    have hm := hs _ (List.getElem_mem hlt)
    have ih := ih (i + 1) (by omega)
    rw [List.drop_eq_getElem_cons hlt, List.any_cons]
    generalize l[i] = x at *
    have hc := cut_pre x.name st
    have open_ : ∀ {r}, EvG (fun F L => (Tf.strings_CutPrefix.f F (x.name, st)).bind fun y19 => (Tf.strconv_Atoi.f F y19.1).bind fun y27 => if y19.2 = true then if y27.2 = true then if y27.1 ≥ 0 then if y27.1 < (l.length : Int) then
        (Tf.strconv_Itoa.f F y27.1).bind fun y52 => if seqB y52 y19.1 = true then if 0 ≤ y27.1 ∧ y27.1 < (l.length : Int) then if seqB (nd l y27.1).name ⟨#[]⟩ = true then some (.inl true) else L (((i + 1 : Nat) : Int), (l, (loss, (st, (l, (l.length : Int)))))) else none
        else L (((i + 1 : Nat) : Int), (l, (loss, (st, (l, (l.length : Int)))))) else L (((i + 1 : Nat) : Int), (l, (loss, (st, (l, (l.length : Int)))))) else L (((i + 1 : Nat) : Int), (l, (loss, (st, (l, (l.length : Int))))))
        else L (((i + 1 : Nat) : Int), (l, (loss, (st, (l, (l.length : Int)))))) else L (((i + 1 : Nat) : Int), (l, (loss, (st, (l, (l.length : Int))))))) Tf.show_clash.s2 r → EvG (fun _ L => L ((i : Int), (l, (loss, (st, (l, (l.length : Int))))))) Tf.show_clash.s2 r := by
      intro r h
      refine EvG.loop ?_
      simp only [Tf.show_clash.s2, bif_if, decide_eq_true_eq, inR_iff, eg, e0, hw]
      exact EvG.pos (by omega) (EvG.pos (by omega) h)
    refine open_ (EvG.bind hc ?_)
    obtain ⟨q, hq⟩ : ∃ q, (l.drop (i + 1)).any (clashAt l st) = q := ⟨_, rfl⟩
    rw [hq] at ih ⊢
    obtain ⟨b, hb⟩ : ∃ b, clashAt l st x = b := ⟨_, rfl⟩
    rw [hb]
    unfold clashAt at hb
    have cont : b = false → EvG (fun _ L => L (((i + 1 : Nat) : Int), (l, (loss, (st, (l, (l.length : Int))))))) Tf.show_clash.s2 (if (b || q) = true then .inl true else .inr ()) := fun e => by
      rw [e, Bool.false_or]; exact ih
    cases hp : preL st.data.toList x.name.data.toList with
    | none =>
      obtain ⟨v, ok, h1, _⟩ := atoi_is x.name (by have := hm.1; omega)
      rw [hp] at hb
      exact EvG.bind ⟨0, fun _ _ => h1 _⟩ (EvG.neg (by simp) (cont hb.symm))
    | some r =>
      have hr : r.length ≤ 30 := by
        unfold preL at hp
        split at hp
        · cases hp; rw [List.length_drop]; have := hm.1; omega
        · cases hp
      rw [hp] at hb
      dsimp only at hb
      obtain ⟨v, ok, h1, h2⟩ := atoi_is (bL r) (by rw [bL_list]; omega)
      have h2 : ∀ n, numL r = some n → v = n ∧ ok = true := fun n hn => h2 n (by unfold numS; rw [bL_list]; exact hn)
      refine EvG.bind ⟨0, fun _ _ => h1 _⟩ (EvG.pos rfl ?_)
      dsimp only
      have no : (¬ (ok = true ∧ v ≥ 0 ∧ v < (l.length : Int))) → b = false := fun h => by
        cases hn : numL r with
        | none => rw [hn] at hb; exact hb.symm
        | some n =>
          obtain ⟨e1, e2⟩ := h2 n hn
          obtain ⟨k, hk, e3, _⟩ := num_digs hn
          rw [hn] at hb
          by_cases c : n < (l.length : Int)
          · exact absurd ⟨e2, by omega, by omega⟩ h
          · rw [← hb]; simp [c]
      by_cases c1 : ok = true
      · by_cases c2 : v ≥ 0
        · by_cases c3 : v < (l.length : Int)
          · refine EvG.pos c1 (EvG.pos c2 (EvG.pos c3 (EvG.bind (itoa_ev v c2 (by omega)) ?_)))
            by_cases c4 : seqB (digB v) (bL r) = true
            · have hn : numL r = some v := by
                have := num_back c2 (by omega) c4
                unfold numS at this
                rwa [bL_list] at this
              rw [hn] at hb
              dsimp only at hb
              rw [decide_eq_true c3, Bool.true_and] at hb
              refine EvG.pos c4 (EvG.pos ⟨c2, c3⟩ ?_)
              cases b with
              | true => exact EvG.pos hb (EvG.now _)
              | false => exact EvG.neg (by rw [hb]; simp) (cont rfl)
            · have hn : numL r = none := by
                cases hn : numL r with
                | none => rfl
                | some n =>
                  obtain ⟨e1, _⟩ := h2 n hn
                  subst e1
                  exact absurd (num_same (s := bL r) (by unfold numS; rw [bL_list]; exact hn)).2 c4
              rw [hn] at hb
              exact EvG.neg c4 (cont hb.symm)
          · exact EvG.pos c1 (EvG.pos c2 (EvG.neg c3 (cont (no (fun q => c3 q.2.2)))))
        · exact EvG.pos c1 (EvG.neg c2 (cont (no (fun q => c2 q.2.1))))
      · exact EvG.neg c1 (cont (no (fun q => c1 q.1)))
theorem clash_ev (l : List VI.Node) (loss : Int) (st : ByteArray) (hl : l.length ≤ 99) (hs : ∀ y ∈ l, smallN y) : Ev (fun F => Tf.show_clash.f F ((l, loss), st)) (clashV l st) := by
  have h := clash_go l loss st hl hs l.length 0 (by omega)
  rw [List.drop_zero] at h
  simp only [Tf.show_clash.f]
  refine Ev.bind (Ev.iter h) ?_
  unfold clashV
  cases l.any (clashAt l st) with
  | true => exact Ev.now _
  | false => exact Ev.now _
def stm (k : Nat) : ByteArray := bL (110 :: List.replicate k 122)
theorem stm_list (k : Nat) : (stm k).data.toList = 110 :: List.replicate k 122 := bL_list _
theorem stm_size (k : Nat) : (stm k).size = k + 1 := by rw [ba_size, stm_list]; simp
theorem stm_succ (k : Nat) : stm k ++ (⟨#[122]⟩ : ByteArray) = stm (k + 1) := by
  apply ba_ext
  rw [ba_append, stm_list, stm_list, List.replicate_succ', List.cons_append]
def stemK (l : List VI.Node) : Nat → Nat → Nat
  | 0, k => k
  | d + 1, k => if clashV l (stm k) = true then stemK l d (k + 1) else k
def stemV (l : List VI.Node) : ByteArray := stm (stemK l 31 0)
theorem stemK_le (l : List VI.Node) : ∀ (d k : Nat), stemK l d k ≤ k + d
  | 0, k => Nat.le_refl _
  | d + 1, k => by
    unfold stemK
    split
    · have := stemK_le l d (k + 1); omega
    · omega
theorem clash_long {l : List VI.Node} (hs : ∀ y ∈ l, smallN y) {k : Nat} (hk : 30 ≤ k) : clashV l (stm k) = false := by
  unfold clashV
  rw [List.any_eq_false]
  intro x hx
  have hm := (hs x hx).1
  unfold clashAt preL
  rw [stm_list, if_neg (fun q => by
    have := congrArg List.length q
    rw [List.length_take, List.length_cons, List.length_replicate] at this
    omega)]
  simp
theorem stem_go (l : List VI.Node) (loss : Int) (hl : l.length ≤ 99) (hs : ∀ y ∈ l, smallN y) : ∀ (d k : Nat), k + d = 31 → EvG (fun _ L => L (stm k, (l, loss))) Tf.show_stem.s2 (stm (stemK l d k)) := by
  intro d
  induction d with
  | zero =>
    intro k hk
    have hc := clash_ev l loss (stm k) hl hs
    rw [clash_long hs (by omega)] at hc
    refine EvG.loop ?_
    simp only [Tf.show_stem.s2, bif_if]
    exact EvG.bind hc (EvG.neg (by simp) (EvG.now _))
  | succ d ih =>
    intro k hk
    have hc := clash_ev l loss (stm k) hl hs
    have hz := stm_size k
    refine EvG.loop ?_
    simp only [Tf.show_stem.s2, bif_if, Nat.ble_eq, stm_succ]
    refine EvG.bind hc ?_
    unfold stemK
    cases h : clashV l (stm k) with
    | true => rw [if_pos rfl]; exact EvG.pos rfl (EvG.pos (by omega) (ih (k + 1) (by omega)))
    | false => rw [if_neg (by simp)]; exact EvG.neg (by simp) (EvG.now _)
theorem stem_ev (l : List VI.Node) (loss : Int) (hl : l.length ≤ 99) (hs : ∀ y ∈ l, smallN y) : Ev (fun F => Tf.show_stem.f F (l, loss)) (stemV l) := by
  simp only [Tf.show_stem.f]
  exact Ev_ret (Ev.iter (stem_go l loss hl hs 31 0 (by omega)))
theorem stemV_size (l : List VI.Node) : (stemV l).size ≤ 32 := by unfold stemV; rw [stm_size]; have := stemK_le l 31 0; omega
def numsL (l : List Int) : List UInt8 := l.flatMap fun n => 32 :: dig2 n.toNat
theorem dig2_len (n : Nat) : 1 ≤ (dig2 n).length ∧ (dig2 n).length ≤ 2 := by unfold dig2; split <;> simp
theorem digB_size (n : Int) : 1 ≤ (digB n).size ∧ (digB n).size ≤ 2 := by rw [ba_size]; unfold digB; rw [bL_list]; exact dig2_len _
theorem numsL_len (l : List Int) : (numsL l).length ≤ 3 * l.length := by
  unfold numsL
  induction l with
  | nil => simp
  | cons n r ih =>
    rw [List.flatMap_cons, List.length_append, List.length_cons, List.length_cons]
    have := (dig2_len n.toNat).2
    omega
theorem numbers_go (l : List Int) (hl : l.length ≤ 1000) (h : ∀ n ∈ l, 0 ≤ n ∧ n < 100) : ∀ (d i : Nat) (o : ByteArray), i + d = l.length → o.data.toList = numsL (l.take i) →
    EvG (fun _ L => L ((i : Int), (o, (l, (l.length : Int))))) Tf.show_numbers.s3 (bL (numsL l)) := by
  intro d
  induction d with
  | zero =>
    intro i o hi ho
    rw [List.take_of_length_le (by omega)] at ho
    refine EvG.step (fun F L => ?_) (EvG.now _)
    dsimp only [Tf.show_numbers.s3]
    simp only [bif_if, decide_eq_true_eq]
    rw [if_neg (by omega), ← ho, bL_of]
  | succ d ih =>
    intro i o hi ho
    have hlt : i < l.length := by omega
    have eg : l.getD (i : Int).toNat 0 = l[i] := by rw [Int.toNat_natCast]; simp [List.getD_eq_getElem?_getD, hlt]
    have hw : IntKind.i64.wrap ((i : Int) + 1) = ((i + 1 : Nat) : Int) := by rw [w64 (by omega) (by omega), succ_cast]
    have hn := h _ (List.getElem_mem hlt)
    have et : l.take (i + 1) = l.take i ++ [l[i]] := by rw [List.take_succ_eq_append_getElem hlt]
    have ho' := numsL_len (l.take i)
    have htl : (l.take i).length ≤ 1000 := by rw [List.length_take]; omega
    have hoz := ba_size o
    have ih := ih (i + 1)
    rw [et] at ih
    generalize l[i] = n at *
    have hd := digB_size n
    have hd1 : ((⟨#[32]⟩ : ByteArray) ++ digB n).size = 1 + (digB n).size := by rw [ByteArray.size_append]; rfl
    refine EvG.loop ?_
    simp only [Tf.show_numbers.s3, bif_if, decide_eq_true_eq, inR_iff, eg, hw, Nat.ble_eq]
    refine EvG.pos (by omega) (EvG.pos (by omega) (EvG.bind (itoa_ev n hn.1 hn.2) (EvG.pos (by omega) (EvG.pos (by rw [hd1, hoz, ho]; omega) ?_))))
    refine ih (o ++ ((⟨#[32]⟩ : ByteArray) ++ digB n)) (by omega) ?_
    rw [ba_append, ba_append, ho]
    unfold numsL digB
    rw [bL_list, List.flatMap_append]
    simp
theorem numbers_ev (l : List Int) (hl : l.length ≤ 1000) (h : ∀ n ∈ l, 0 ≤ n ∧ n < 100) : Ev (fun F => Tf.show_numbers.f F l) (bL (numsL l)) := by
  simp only [Tf.show_numbers.f]
  exact Ev_ret (Ev.iter (numbers_go l hl h l.length 0 ⟨#[]⟩ (by omega) (by simp [numsL])))
end Go.PL

namespace Go.PL
open Go Go.VI
structure OkN (l : List VI.Node) (i : Nat) : Prop where
  parts : (partsV (nd l (i : Int)).op).2 = true
  bare : bareV (nd l (i : Int)) (partsV (nd l (i : Int)).op).1 = true
  a : (partsV (nd l (i : Int)).op).1 > 0 → 0 ≤ (nd l (i : Int)).a ∧ (nd l (i : Int)).a < (i : Int)
  b : (partsV (nd l (i : Int)).op).1 > 1 → 0 ≤ (nd l (i : Int)).b ∧ (nd l (i : Int)).b < (i : Int)
  of : ∃ A B, (ofV (nd l (i : Int)) A B).2 = true
  shape : rightS (nd l (i : Int)).shape = true
  free : freeB l i 0 = true
  infer : inferV (l.take i) (nd l (i : Int)) = ((nd l (i : Int)).shape, true)
theorem okN_of {l : List VI.Node} {i : Nat} (hi : i < l.length) (h1 : (inferV (l.take i) (nd l (i : Int))).2 = true) (h2 : (inferV (l.take i) (nd l (i : Int))).1 = (nd l (i : Int)).shape) (h3 : freeB l i 0 = true) : OkN l i := by
  have hif : inferV (l.take i) (nd l (i : Int)) = ((nd l (i : Int)).shape, true) := Prod.ext h2 h1
  have hlt : (l.take i).length = i := by rw [List.length_take]; omega
  have hif0 := hif
  unfold inferV at hif
  by_cases hh : (partsV (nd l (i : Int)).op).2 = true ∧ bareV (nd l (i : Int)) (partsV (nd l (i : Int)).op).1 = true ∧ ((partsV (nd l (i : Int)).op).1 > 0 → 0 ≤ (nd l (i : Int)).a ∧ (nd l (i : Int)).a < (l.take i).length) ∧ ((partsV (nd l (i : Int)).op).1 > 1 → 0 ≤ (nd l (i : Int)).b ∧ (nd l (i : Int)).b < (l.take i).length)
  · rw [if_pos hh] at hif
    generalize (if (partsV (nd l (i : Int)).op).1 > 0 then (nd (l.take i) (nd l (i : Int)).a).shape else []) = A at hif
    generalize (if (partsV (nd l (i : Int)).op).1 > 1 then (nd (l.take i) (nd l (i : Int)).b).shape else []) = B at hif
    obtain ⟨c1, c2, c3, c4⟩ := hh
    rw [hlt] at c3 c4
    unfold endV at hif
    by_cases hq : (ofV (nd l (i : Int)) A B).2 = true ∧ rightS (ofV (nd l (i : Int)) A B).1 = true
    · rw [if_pos hq] at hif
      exact ⟨c1, c2, c3, c4, ⟨A, B, hq.1⟩, by rw [← (Prod.mk.inj hif).1]; exact hq.2, h3, hif0⟩
    · rw [if_neg hq] at hif
      cases (Prod.mk.inj hif).2
  · rw [if_neg hh] at hif
    cases (Prod.mk.inj hif).2
theorem rightR_all (l : List VI.Node) : ∀ (n i : Nat), i + n = l.length → rightR l n i = true → ∀ j, i ≤ j → j < l.length → OkN l j := by
  intro n
  induction n with
  | zero => intro i hi _ j h1 h2; omega
  | succ n ih =>
    intro i hi h j h1 h2
    rw [rightR] at h
    split at h
    · rename_i hh
      by_cases e : j = i
      · subst e; exact okN_of h2 hh.1 hh.2.1 hh.2.2
      · exact ih (i + 1) (by omega) h j (by omega) h2
    · cases h
theorem graph_facts {l : List VI.Node} {loss : Int} (h : graphV l loss = true) : (1 ≤ l.length ∧ 0 ≤ loss ∧ loss < l.length ∧ (nd l loss).shape = []) ∧ ∀ i, i < l.length → OkN l i := by
  unfold graphV at h
  split at h
  · rename_i hh
    rw [← rightR_eq l l.length 0 [] (by omega) (fun w _ => rfl)] at h
    exact ⟨⟨hh.1, hh.2.2.1, hh.2.2.2.1, hh.2.2.2.2⟩, fun i hi => rightR_all l l.length 0 (by omega) h i (by omega) hi⟩
  · cases h
theorem okd_mem : ∀ {l : List Int}, okd l = true → ∀ n ∈ l, 1 ≤ n ∧ n ≤ 64
  | [], _, n, h => by simp at h
  | d :: r, h, n, hn => by
    obtain ⟨h1, h2⟩ := (okd_cons d r).1 h
    rcases List.mem_cons.1 hn with rfl | hn
    · exact h1
    · exact okd_mem h2 n hn
theorem shape_dims {s : List Int} (h : rightS s = true) : s.length ≤ 4 ∧ ∀ n ∈ s, 0 ≤ n ∧ n < 100 := by
  obtain ⟨h1, h2, _⟩ := (rightS_iff s).1 h
  exact ⟨h1, fun n hn => by have := okd_mem h2 n hn; omega⟩
def jn : List (List UInt8) → List UInt8
  | [] => []
  | w :: r => w ++ r.flatMap (32 :: ·)
def dwL : List Int → List (List UInt8) := List.map fun n => dig2 n.toNat
theorem numsL_dw (l : List Int) : numsL l = (dwL l).flatMap (32 :: ·) := by unfold numsL dwL; rw [List.flatMap_map]
def extraW (x : VI.Node) (nB : List UInt8) : List (List UInt8) :=
  if inL x.op opsT = true then [nB]
  else if seqB x.op oScale = true then [x.k.data.toList]
  else if seqB x.op oPower = true then [dig2 x.n.toNat]
  else if seqB x.op ⟨#[114, 101, 115, 104, 97, 112, 101]⟩ = true ∨ seqB x.op ⟨#[115, 112, 114, 101, 97, 100]⟩ = true then dwL x.shape
  else []
def lineW (x : VI.Node) (nm nA nB : List UInt8) : List (List UInt8) :=
  if seqB x.op oParam = true ∨ seqB x.op oInput = true then x.op.data.toList :: nm :: dwL x.shape
  else if seqB x.op oConst = true then oConst.data.toList :: nm :: (dwL x.shape ++ [61] :: x.data.map (·.data.toList))
  else nm :: [61] :: x.op.data.toList :: nA :: extraW x nB
theorem sz_app (a b : ByteArray) : (a ++ b).size = a.size + b.size := ByteArray.size_append
section
variable {x : VI.Node} {nm : ByteArray} {names : List ByteArray}
theorem join_list (d : ByteArray) (r : List ByteArray) : (joinV (d :: r) ⟨#[32]⟩).data.toList = d.data.toList ++ (r.map (·.data.toList)).flatMap (32 :: ·) := by
  unfold joinV
  rw [List.map_cons, Go.Lib.join_cons]
  simp [Go.Lib.joinTail, List.flatMap]
theorem join_ev (d : List ByteArray) (hd : d.length ≤ 70) (hs : ∀ s ∈ d, s.data.toList.length ≤ 1000) (hl : (joinV d ⟨#[32]⟩).data.toList.length ≤ 100000) : Ev (fun F => Tf.strings_Join.f F (d, ⟨#[32]⟩)) (joinV d ⟨#[32]⟩) := ⟨0, fun F _ => by
  unfold Tf.strings_Join.f
  have h2 : (Go.Lib.join (d.map (·.data.toList)) (⟨#[32]⟩ : ByteArray).data.toList).length ≤ 140737488355328 := by
    have : (joinV d ⟨#[32]⟩).data.toList.length = (Go.Lib.join (d.map (·.data.toList)) (⟨#[32]⟩ : ByteArray).data.toList).length := by unfold joinV; rfl
    omega
  have h1 : Nat.ble d.length 140737488355328 = true := Nat.ble_eq_true_of_le (by omega)
  dsimp only
  rw [h1, Nat.ble_eq_true_of_le h2]; rfl⟩
theorem flat_len : ∀ (l : List ByteArray), (∀ s ∈ l, s.data.toList.length ≤ 1000) → ((l.map (·.data.toList)).flatMap (32 :: ·)).length ≤ 1001 * l.length
  | [], _ => by simp
  | s :: r, h => by
    have := flat_len r (fun y hy => h y (by simp [hy]))
    have h1 := h s (by simp)
    rw [List.map_cons, List.flatMap_cons, List.length_append, List.length_cons, List.length_cons]
    omega
theorem line_pi (hx : smallN x) (hsh : rightS x.shape = true) (hn : nm.size ≤ 40) (ho : x.op = oParam ∨ x.op = oInput) (nA nB : List UInt8) : Ev (fun F => Tf.show_line.f F (x, (nm, names))) (bL (jn (lineW x nm.data.toList nA nB))) := by
  obtain ⟨h1, h2⟩ := shape_dims hsh
  have hnum := numbers_ev x.shape (by omega) h2
  have hnl := numsL_len x.shape
  have hns : (bL (numsL x.shape)).size ≤ 12 := by rw [ba_size, bL_list]; omega
  have c1 : (⟨#[32]⟩ : ByteArray).size = 1 := rfl
  have hop : x.op.size = 5 := by rcases ho with e | e <;> rw [e] <;> rfl
  have fin : ((x.op ++ (⟨#[32]⟩ : ByteArray)) ++ nm) ++ bL (numsL x.shape) = bL (jn (lineW x nm.data.toList nA nB)) := by
    apply ba_ext
    unfold lineW
    rw [if_pos (by rcases ho with e | e <;> rw [e] <;> decide +kernel), ba_append, ba_append, ba_append, bL_list, bL_list, numsL_dw]
    simp [jn]
  simp only [Tf.show_line.f, bif_if, Nat.ble_eq]
  rcases ho with e | e
  · refine Ev_pos (by rw [e]; decide +kernel) (Ev_pos (by omega) (Ev_pos (by rw [sz_app, c1]; omega) (Ev.bind hnum (Ev_pos (by rw [sz_app, sz_app, c1]; omega) (Ev.eq fin.symm)))))
  · refine Ev_neg (by rw [e]; decide +kernel) (Ev_pos (by rw [e]; decide +kernel) (Ev_pos (by omega) (Ev_pos (by rw [sz_app, c1]; omega) (Ev.bind hnum (Ev_pos (by rw [sz_app, sz_app, c1]; omega) (Ev.eq fin.symm))))))
theorem line_const (hx : smallN x) (hsh : rightS x.shape = true) (hn : nm.size ≤ 40) (ho : x.op = oConst) (hd : x.data ≠ []) (nA nB : List UInt8) : Ev (fun F => Tf.show_line.f F (x, (nm, names))) (bL (jn (lineW x nm.data.toList nA nB))) := by
  obtain ⟨h1, h2⟩ := shape_dims hsh
  have hnum := numbers_ev x.shape (by omega) h2
  have hnl := numsL_len x.shape
  have hns : (bL (numsL x.shape)).size ≤ 12 := by rw [ba_size, bL_list]; omega
  obtain ⟨d, r, hdr⟩ : ∃ d r, x.data = d :: r := by
    cases hq : x.data with
    | nil => exact absurd hq hd
    | cons d r => exact ⟨d, r, rfl⟩
  obtain ⟨_, _, _, hdl, hds⟩ := hx
  have hjl : (joinV x.data ⟨#[32]⟩).data.toList.length ≤ 80000 := by
    rw [hdr, join_list, List.length_append]
    have f1 := flat_len r (fun s hs => hds s (by rw [hdr]; simp [hs]))
    have f2 := hds d (by rw [hdr]; simp)
    have f3 : r.length ≤ 70 := by rw [hdr] at hdl; simp at hdl; omega
    omega
  have hjs : (joinV x.data ⟨#[32]⟩).size ≤ 80000 := by rw [ba_size]; exact hjl
  have hj := join_ev x.data hdl hds (by omega)
  have c1 : (⟨#[99, 111, 110, 115, 116, 32]⟩ : ByteArray).size = 6 := rfl
  have c2 : (⟨#[32, 61, 32]⟩ : ByteArray).size = 3 := rfl
  have fin : ((((⟨#[99, 111, 110, 115, 116, 32]⟩ : ByteArray) ++ nm) ++ bL (numsL x.shape)) ++ (⟨#[32, 61, 32]⟩ : ByteArray)) ++ joinV x.data ⟨#[32]⟩ = bL (jn (lineW x nm.data.toList nA nB)) := by
    apply ba_ext
    unfold lineW
    rw [if_neg (by rw [ho]; decide +kernel), if_pos (by rw [ho]; decide +kernel), ba_append, ba_append, ba_append, ba_append, bL_list, bL_list, numsL_dw, hdr, join_list]
    simp [jn]
  simp only [Tf.show_line.f, bif_if, Nat.ble_eq]
  refine Ev_neg (by rw [ho]; decide +kernel) (Ev_neg (by rw [ho]; decide +kernel) (Ev_pos (by rw [ho]; decide +kernel) (Ev_pos (by omega) (Ev.bind hnum (Ev_pos (by rw [sz_app, c1]; omega) (Ev_pos (by rw [sz_app, sz_app, c1]; omega) (Ev.bind hj (Ev_pos (by rw [sz_app, sz_app, sz_app, c1, c2]; omega) (Ev.eq fin.symm)))))))))
theorem line_op (hx : smallN x) (hsh : rightS x.shape = true) (hn : nm.size ≤ 40) (hns : ∀ s ∈ names, s.size ≤ 40) (ho : inL x.op opsO = true ∨ inL x.op opsT = true) (ha : 0 ≤ x.a ∧ x.a < (names.length : Int)) (hb : inL x.op opsT = true → 0 ≤ x.b ∧ x.b < (names.length : Int)) (hp : x.op = oPower → 0 ≤ x.n ∧ x.n ≤ 6) :
    Ev (fun F => Tf.show_line.f F (x, (nm, names))) (bL (jn (lineW x nm.data.toList (names.getD x.a.toNat (dflt 4)).data.toList (names.getD x.b.toNat (dflt 4)).data.toList))) := by
  obtain ⟨h1, h2⟩ := shape_dims hsh
  have hnum := numbers_ev x.shape (by omega) h2
  have hnl := numsL_len x.shape
  have hnz : (bL (numsL x.shape)).size ≤ 12 := by rw [ba_size, bL_list]; omega
  have hk : x.k.size ≤ 1000 := by rw [ba_size]; exact hx.2.2.1
  have get : ∀ i : Int, 0 ≤ i ∧ i < (names.length : Int) → (names.getD i.toNat (dflt 4)).size ≤ 40 := fun i hi => by
    have : i.toNat < names.length := by omega
    rw [List.getD_eq_getElem?_getD, List.getElem?_eq_getElem this]
    exact hns _ (List.getElem_mem this)
  have hA := get x.a ha
  have hB := fun h => get x.b (hb h)
  obtain ⟨nA, enA⟩ : ∃ nA, names.getD x.a.toNat (dflt 4) = nA := ⟨_, rfl⟩
  obtain ⟨nB, enB⟩ : ∃ nB, names.getD x.b.toNat (dflt 4) = nB := ⟨_, rfl⟩
  simp only [Tf.show_line.f, bif_if, Nat.ble_eq, inR_iff, enA, enB] at hA hB ⊢
  have c1 : (⟨#[32]⟩ : ByteArray).size = 1 := rfl
  have c2 : (⟨#[32, 61, 32]⟩ : ByteArray).size = 3 := rfl
  have hop : x.op.size ≤ 9 := by
    rcases ho with ho | ho <;> obtain ⟨o, h3, h4⟩ := inL_cases ho <;> rw [h4] <;> clear h4 <;> revert o <;> decide +kernel
  have base : ∀ (e : ByteArray), lineW x nm.data.toList nA.data.toList nB.data.toList = nm.data.toList :: [61] :: x.op.data.toList :: nA.data.toList :: extraW x nB.data.toList →
      e.data.toList = (extraW x nB.data.toList).flatMap (32 :: ·) → ((((nm ++ (⟨#[32, 61, 32]⟩ : ByteArray)) ++ x.op) ++ (⟨#[32]⟩ : ByteArray)) ++ nA) ++ e = bL (jn (lineW x nm.data.toList nA.data.toList nB.data.toList)) := fun e h3 h4 => by
    apply ba_ext
    rw [h3, bL_list]
    simp only [ba_append, h4]
    simp [jn]
  have two : inL x.op opsT = true → ((((nm ++ (⟨#[32, 61, 32]⟩ : ByteArray)) ++ x.op) ++ (⟨#[32]⟩ : ByteArray)) ++ nA) ++ ((⟨#[32]⟩ : ByteArray) ++ nB) = bL (jn (lineW x nm.data.toList nA.data.toList nB.data.toList)) := fun h => by
    refine base _ ?_ ?_
    · obtain ⟨o, h3, h4⟩ := inL_cases h
      unfold lineW
      rw [if_neg (by rw [h4]; clear h4; revert o; decide +kernel), if_neg (by rw [h4]; clear h4; revert o; decide +kernel)]
    · unfold extraW; rw [if_pos h, ba_append]; simp
  have pfx : ∀ {g : Nat → Option ByteArray} {r : ByteArray}, (¬ seqB x.op oParam = true) → (¬ seqB x.op oInput = true) → (¬ seqB x.op oConst = true) → Ev g r →
      ∀ {f1 f2 f3 : Nat → Option ByteArray}, Ev (fun F => if seqB x.op oParam = true then f1 F else if seqB x.op oInput = true then f2 F else if seqB x.op oConst = true then f3 F else
        if nm.size + 3 ≤ 4611686018427387904 then if (nm ++ (⟨#[32, 61, 32]⟩ : ByteArray)).size + x.op.size ≤ 4611686018427387904 then if ((nm ++ (⟨#[32, 61, 32]⟩ : ByteArray)) ++ x.op).size + 1 ≤ 4611686018427387904 then if 0 ≤ x.a ∧ x.a < (names.length : Int) then if (((nm ++ (⟨#[32, 61, 32]⟩ : ByteArray)) ++ x.op) ++ (⟨#[32]⟩ : ByteArray)).size + nA.size ≤ 4611686018427387904 then g F else none else none else none else none else none) r := fun {_ _} n1 n2 n3 hg {_ _ _} =>
    Ev_neg n1 (Ev_neg n2 (Ev_neg n3 (Ev_pos (by omega) (Ev_pos (by simp only [sz_app, c1, c2]; omega) (Ev_pos (by simp only [sz_app, c1, c2]; omega) (Ev_pos ha (Ev_pos (by simp only [sz_app, c1, c2]; omega) hg)))))))
  rcases ho with ho | ho
  · obtain ⟨o, h3, h4⟩ := inL_cases ho
    have lw : lineW x nm.data.toList nA.data.toList nB.data.toList = nm.data.toList :: [61] :: x.op.data.toList :: nA.data.toList :: extraW x nB.data.toList := by
      unfold lineW
      rw [if_neg (by rw [h4]; clear h4; revert o; decide +kernel), if_neg (by rw [h4]; clear h4; revert o; decide +kernel)]
    simp only [opsO, List.mem_cons, List.not_mem_nil, or_false] at h3
    have plain : extraW x nB.data.toList = [] → (((nm ++ (⟨#[32, 61, 32]⟩ : ByteArray)) ++ x.op) ++ (⟨#[32]⟩ : ByteArray)) ++ nA = bL (jn (lineW x nm.data.toList nA.data.toList nB.data.toList)) := fun h => by
      have := base ⟨#[]⟩ lw (by rw [h]; rfl)
      rw [← this]
      apply ba_ext
      simp [ba_append]
    refine pfx (by rcases h3 with rfl | rfl | rfl | rfl | rfl | rfl | rfl | rfl | rfl | rfl <;> rw [h4] <;> decide +kernel) (by rcases h3 with rfl | rfl | rfl | rfl | rfl | rfl | rfl | rfl | rfl | rfl <;> rw [h4] <;> decide +kernel) (by rcases h3 with rfl | rfl | rfl | rfl | rfl | rfl | rfl | rfl | rfl | rfl <;> rw [h4] <;> decide +kernel) ?_
    rcases h3 with rfl | rfl | rfl | rfl | rfl | rfl | rfl | rfl | rfl | rfl
    all_goals repeat refine Ev_neg (by rw [h4]; decide +kernel) ?_
    · exact Ev.eq (plain (by unfold extraW; rw [if_neg (by rw [h4]; decide +kernel), if_neg (by rw [h4]; decide +kernel), if_neg (by rw [h4]; decide +kernel), if_neg (by rw [h4]; decide +kernel)])).symm
    · exact Ev.eq (plain (by unfold extraW; rw [if_neg (by rw [h4]; decide +kernel), if_neg (by rw [h4]; decide +kernel), if_neg (by rw [h4]; decide +kernel), if_neg (by rw [h4]; decide +kernel)])).symm
    · exact Ev.eq (plain (by unfold extraW; rw [if_neg (by rw [h4]; decide +kernel), if_neg (by rw [h4]; decide +kernel), if_neg (by rw [h4]; decide +kernel), if_neg (by rw [h4]; decide +kernel)])).symm
    · exact Ev.eq (plain (by unfold extraW; rw [if_neg (by rw [h4]; decide +kernel), if_neg (by rw [h4]; decide +kernel), if_neg (by rw [h4]; decide +kernel), if_neg (by rw [h4]; decide +kernel)])).symm
    · refine Ev_pos (by rw [h4]; decide +kernel) (Ev_pos (by omega) (Ev_pos (by simp only [sz_app, c1, c2]; omega) (Ev.eq (base _ lw ?_).symm)))
      unfold extraW
      rw [if_neg (by rw [h4]; decide +kernel), if_pos (by rw [h4]; decide +kernel), ba_append]; simp
    · obtain ⟨p1, p2⟩ := hp h4
      have hds := digB_size x.n
      refine Ev_pos (by rw [h4]; decide +kernel) (Ev.bind (itoa_ev x.n p1 (by omega)) (Ev_pos (by omega) (Ev_pos (by simp only [sz_app, c1, c2]; omega) (Ev.eq (base _ lw ?_).symm))))
      unfold extraW digB
      rw [if_neg (by rw [h4]; decide +kernel), if_neg (by rw [h4]; decide +kernel), if_pos (by rw [h4]; decide +kernel), ba_append, bL_list]; simp
    · exact Ev.eq (plain (by unfold extraW; rw [if_neg (by rw [h4]; decide +kernel), if_neg (by rw [h4]; decide +kernel), if_neg (by rw [h4]; decide +kernel), if_neg (by rw [h4]; decide +kernel)])).symm
    · exact Ev.eq (plain (by unfold extraW; rw [if_neg (by rw [h4]; decide +kernel), if_neg (by rw [h4]; decide +kernel), if_neg (by rw [h4]; decide +kernel), if_neg (by rw [h4]; decide +kernel)])).symm
    · refine Ev_pos (by rw [h4]; decide +kernel) (Ev.bind hnum (Ev_pos (by simp only [sz_app, c1, c2]; omega) (Ev.eq (base _ lw ?_).symm)))
      unfold extraW
      rw [if_neg (by rw [h4]; decide +kernel), if_neg (by rw [h4]; decide +kernel), if_neg (by rw [h4]; decide +kernel), if_pos (by rw [h4]; decide +kernel), bL_list, numsL_dw]
    · refine Ev_pos (by rw [h4]; decide +kernel) (Ev.bind hnum (Ev_pos (by simp only [sz_app, c1, c2]; omega) (Ev.eq (base _ lw ?_).symm)))
      unfold extraW
      rw [if_neg (by rw [h4]; decide +kernel), if_neg (by rw [h4]; decide +kernel), if_neg (by rw [h4]; decide +kernel), if_pos (by rw [h4]; decide +kernel), bL_list, numsL_dw]
  · obtain ⟨o, h3, h4⟩ := inL_cases ho
    have hbb := hb ho
    have hBz := hB ho
    have ht := two ho
    simp only [opsT, List.mem_cons, List.not_mem_nil, or_false] at h3
    refine pfx (by rcases h3 with rfl | rfl | rfl | rfl | rfl | rfl <;> rw [h4] <;> decide +kernel) (by rcases h3 with rfl | rfl | rfl | rfl | rfl | rfl <;> rw [h4] <;> decide +kernel) (by rcases h3 with rfl | rfl | rfl | rfl | rfl | rfl <;> rw [h4] <;> decide +kernel) ?_
    rcases h3 with rfl | rfl | rfl | rfl | rfl | rfl
    all_goals
      repeat refine Ev_neg (by rw [h4]; decide +kernel) ?_
      exact Ev_pos (by rw [h4]; decide +kernel) (Ev_pos hbb (Ev_pos (by omega) (Ev_pos (by simp only [sz_app, c1, c2]; omega) (Ev.eq ht.symm))))
end
end Go.PL

namespace Go.PL
open Go Go.VI
abbrev oLoss' : ByteArray := ⟨#[108, 111, 115, 115]⟩
theorem set_oneB (x : ByteArray) : (List.replicate 1 ByteArray.empty).set 0 x = [x] := rfl
theorem set_twoB (x y : ByteArray) : ((List.replicate 2 ByteArray.empty).set 0 x).set 1 y = [x, y] := rfl
theorem drop4 (a b c d : ByteArray) (l : List ByteArray) : (a :: b :: c :: d :: l).drop 4 = l := rfl
section
variable {w0 op a : ByteArray} {rest : List ByteArray}
end
theorem drop2 {α : Type} (a b : α) (l : List α) : (a :: b :: l).drop 2 = l := rfl
end Go.PL

namespace Go.PL
open Go Go.VI
def nmV (l : List VI.Node) (st : ByteArray) (i : Int) : ByteArray := if seqB (nd l i).name ⟨#[]⟩ = true then st ++ digB i else (nd l i).name
def namesV (l : List VI.Node) (st : ByteArray) : List ByteArray := (List.range l.length).map fun i => nmV l st ((i : Nat) : Int)
def fitS (s : ByteArray) : Bool := decide (s.size ≤ 8)
theorem namesV_len (l : List VI.Node) (st : ByteArray) : (namesV l st).length = l.length := by simp [namesV]
theorem namesV_get {l : List VI.Node} {st : ByteArray} {i : Int} (h : 0 ≤ i ∧ i < (l.length : Int)) : (namesV l st).getD i.toNat (dflt 4) = nmV l st i := by
  have hlt : i.toNat < l.length := by omega
  unfold namesV
  rw [List.getD_eq_getElem?_getD, List.getElem?_map, List.getElem?_range hlt]
  simp only [Option.map_some, Option.getD_some]
  congr 1; omega
theorem namesV_take (l : List VI.Node) (st : ByteArray) (i : Nat) (hi : i < l.length) : (namesV l st).take (i + 1) = (namesV l st).take i ++ [nmV l st (i : Int)] := by
  have hlt : i < (namesV l st).length := by rw [namesV_len]; exact hi
  rw [List.take_succ_eq_append_getElem hlt]
  simp [namesV]
theorem namesV_drop (l : List VI.Node) (st : ByteArray) (i : Nat) (hi : i < l.length) : (namesV l st).drop i = nmV l st (i : Int) :: (namesV l st).drop (i + 1) := by
  have hlt : i < (namesV l st).length := by rw [namesV_len]; exact hi
  rw [List.drop_eq_getElem_cons hlt]
  simp [namesV]
theorem text_l6 (l : List VI.Node) (loss : Int) (st : ByteArray) (hl : l.length ≤ 99) (hs : ∀ y ∈ l, smallN y) (hst : st.size ≤ 32) : ∀ (d i : Nat), i + d = l.length →
    EvG (fun _ L => L ((i : Int), ((namesV l st).take i, (st, (l, (l, (loss, (l.length : Int)))))))) Tf.show_Text.s6 (if ((namesV l st).drop i).all fitS = true then .inr (namesV l st, (l, loss)) else .inl (⟨#[]⟩, 1)) := by
  intro d
  induction d with
  | zero =>
    intro i hi
    have hn := namesV_len l st
    rw [List.take_of_length_le (by omega), List.drop_eq_nil_of_le (by omega), if_pos (show ([] : List ByteArray).all fitS = true from rfl)]
    refine EvG.step (fun F L => ?_) (EvG.now _)
    dsimp only [Tf.show_Text.s6]
    simp only [bif_if, decide_eq_true_eq]
    rw [if_neg (by omega)]
  | succ d ih =>
    intro i hi
    have hlt : i < l.length := by omega
    have e0 : ∀ j : Int, l.getD j.toNat (dflt 6) = nd l j := fun _ => rfl
    have hw : IntKind.i64.wrap ((i : Int) + 1) = ((i + 1 : Nat) : Int) := by rw [w64 (by omega) (by omega), succ_cast]
    have hm : smallN (nd l (i : Int)) := hs _ (nd_mem (by omega))
    have ih := ih (i + 1) (by omega)
    rw [namesV_take l st i hlt] at ih
    rw [namesV_drop l st i hlt, List.all_cons]
    have htl : ((namesV l st).take i).length ≤ 99 := by rw [List.length_take, namesV_len]; omega
    obtain ⟨q, hq⟩ : ∃ q, ((namesV l st).drop (i + 1)).all fitS = q := ⟨_, rfl⟩
    rw [hq] at ih ⊢
    have hnz := ba_size (nd l (i : Int)).name
    have hds := digB_size (i : Int)
    refine EvG.loop ?_
    simp only [Tf.show_Text.s6, bif_if, decide_eq_true_eq, inR_iff, e0, hw, Nat.ble_eq, set_oneB]
    refine EvG.pos (by omega) (EvG.pos (by omega) ?_)
    unfold nmV at ih ⊢
    by_cases c : seqB (nd l (i : Int)).name ⟨#[]⟩ = true
    · rw [if_pos c] at ih ⊢
      refine EvG.pos c (EvG.bind (itoa_ev (i : Int) (by omega) (by omega)) (EvG.pos (by omega) ?_))
      by_cases c2 : (((st ++ digB (i : Int)).size : Nat) : Int) > 8
      · have : fitS (st ++ digB (i : Int)) = false := decide_eq_false (by omega)
        rw [this, Bool.false_and, if_neg (by simp)]
        exact EvG.pos c2 (EvG.now _)
      · have : fitS (st ++ digB (i : Int)) = true := decide_eq_true (by omega)
        rw [this, Bool.true_and]
        exact EvG.neg c2 (EvG.pos (by omega) ih)
    · rw [if_neg c] at ih ⊢
      refine EvG.neg c ?_
      by_cases c2 : (((nd l (i : Int)).name.size : Nat) : Int) > 8
      · have : fitS (nd l (i : Int)).name = false := decide_eq_false (by omega)
        rw [this, Bool.false_and, if_neg (by simp)]
        exact EvG.pos c2 (EvG.now _)
      · have : fitS (nd l (i : Int)).name = true := decide_eq_true (by omega)
        rw [this, Bool.true_and]
        exact EvG.neg c2 (EvG.pos (by omega) ih)
def rowL (l : List VI.Node) (st : ByteArray) (i : Nat) : List UInt8 := jn (lineW (nd l (i : Int)) (nmV l st (i : Int)).data.toList (nmV l st (nd l (i : Int)).a).data.toList (nmV l st (nd l (i : Int)).b).data.toList)
def rowsL (l : List VI.Node) (st : ByteArray) (i : Nat) : List UInt8 := (List.range i).flatMap fun j => rowL l st j ++ [10]
theorem rowsL_succ (l : List VI.Node) (st : ByteArray) (i : Nat) : rowsL l st (i + 1) = rowsL l st i ++ (rowL l st i ++ [10]) := by
  unfold rowsL; rw [List.range_succ, List.flatMap_append]; simp
def wl (ws : List (List UInt8)) : Nat := (ws.map fun w => w.length + 1).sum
theorem jn_len (ws : List (List UInt8)) : (jn ws).length ≤ wl ws := by
  cases ws with
  | nil => simp [jn]
  | cons w r =>
    have h : (r.flatMap (32 :: ·)).length = wl r := by
      unfold wl
      induction r with
      | nil => rfl
      | cons x r ih => rw [List.flatMap_cons, List.length_append, List.length_cons, ih, List.map_cons, List.sum_cons]
    unfold jn
    rw [List.length_append, h]
    unfold wl
    rw [List.map_cons, List.sum_cons]
    omega
theorem wl_cons (w : List UInt8) (r : List (List UInt8)) : wl (w :: r) = w.length + 1 + wl r := by unfold wl; rw [List.map_cons, List.sum_cons]
theorem wl_app (a b : List (List UInt8)) : wl (a ++ b) = wl a + wl b := by unfold wl; rw [List.map_append, List.sum_append]
theorem wl_le {k : Nat} : ∀ (r : List (List UInt8)), (∀ w ∈ r, w.length ≤ k) → wl r ≤ (k + 1) * r.length
  | [], _ => by simp [wl]
  | w :: r, h => by
    have := wl_le r (fun y hy => h y (by simp [hy]))
    have h1 := h w (by simp)
    rw [wl_cons, List.length_cons, Nat.mul_add]; omega
theorem wl_dw (s : List Int) : wl (dwL s) ≤ 3 * s.length := by
  have := wl_le (k := 2) (dwL s) (fun w hw => by
    obtain ⟨n, _, rfl⟩ := List.mem_map.1 hw
    exact (dig2_len _).2)
  unfold dwL at this ⊢
  rwa [List.length_map] at this
theorem op_len {op : ByteArray} (h : (partsV op).2 = true) : op.data.toList.length ≤ 9 := by
  have : inL op opsZ = true ∨ inL op opsO = true ∨ inL op opsT = true := by
    unfold partsV at h
    split at h
    · exact .inl ‹_›
    · split at h
      · exact .inr (.inl ‹_›)
      · split at h
        · exact .inr (.inr ‹_›)
        · cases h
  rcases this with h | h | h <;> obtain ⟨o, h3, h4⟩ := inL_cases h <;> rw [h4] <;> clear h4 <;> revert o <;> decide +kernel
theorem line_wl {x : VI.Node} {nm nA nB : List UInt8} (hx : smallN x) (hp : (partsV x.op).2 = true) (h1 : nm.length ≤ 40) (h2 : nA.length ≤ 40) (h3 : nB.length ≤ 40) : wl (lineW x nm nA nB) ≤ 80000 := by
  obtain ⟨_, hsh, hk, hdl, hds⟩ := hx
  have hop := op_len hp
  have hw := wl_dw x.shape
  have hd := wl_le (k := 1000) (x.data.map (·.data.toList)) (fun w hw => by
    obtain ⟨s, hs, rfl⟩ := List.mem_map.1 hw
    exact hds s hs)
  rw [List.length_map] at hd
  unfold lineW
  split
  · rw [wl_cons, wl_cons]; omega
  · split
    · have e5 : oConst.data.toList.length = 5 := rfl
      have e1 : ([61] : List UInt8).length = 1 := rfl
      rw [wl_cons, wl_cons, wl_app, wl_cons]; omega
    · have e1 : ([61] : List UInt8).length = 1 := rfl
      have ex : wl (extraW x nB) ≤ 1100 := by
        have n0 : wl [] = 0 := rfl
        have hdn := (dig2_len x.n.toNat).2
        unfold extraW
        split
        · rw [wl_cons, n0]; omega
        · split
          · rw [wl_cons, n0]; omega
          · split
            · rw [wl_cons, n0]; omega
            · split
              · omega
              · rw [n0]; omega
      rw [wl_cons, wl_cons, wl_cons, wl_cons]; omega
theorem line_len {x : VI.Node} {nm nA nB : List UInt8} (hx : smallN x) (hp : (partsV x.op).2 = true) (h1 : nm.length ≤ 40) (h2 : nA.length ≤ 40) (h3 : nB.length ≤ 40) : (jn (lineW x nm nA nB)).length ≤ 80000 := Nat.le_trans (jn_len _) (line_wl hx hp h1 h2 h3)
theorem nmV_size {l : List VI.Node} {st : ByteArray} (hs : ∀ y ∈ l, smallN y) (hst : st.size ≤ 32) (i : Int) : (nmV l st i).size ≤ 40 := by
  unfold nmV
  split
  · have := digB_size i; rw [sz_app]; omega
  · rw [ba_size]
    by_cases h : 0 ≤ i ∧ i < (l.length : Int)
    · have := (hs _ (nd_mem h)).1; omega
    · by_cases h2 : i.toNat < l.length
      · have hm : nd l i ∈ l := by
          unfold nd
          rw [List.getD_eq_getElem?_getD, List.getElem?_eq_getElem h2]
          exact List.getElem_mem h2
        have := (hs _ hm).1; omega
      · unfold nd
        rw [List.getD_eq_getElem?_getD, List.getElem?_eq_none (by omega)]
        exact Nat.zero_le _
theorem of_const {x : VI.Node} {A B : List Int} (h : (ofV x A B).2 = true) (e : x.op = oConst) (hr : rightS x.shape = true) : x.data ≠ [] := by
  unfold ofV at h
  rw [if_pos (by rw [e]; decide +kernel)] at h
  simp only [Bool.and_eq_true, decide_eq_true_eq] at h
  have := sizeS_pos hr
  intro q
  rw [q] at h
  have h1 := h.1
  simp at h1
  omega
theorem of_power {x : VI.Node} {A B : List Int} (h : (ofV x A B).2 = true) (e : x.op = oPower) : 0 ≤ x.n ∧ x.n ≤ 6 := by
  unfold ofV at h
  rw [if_neg (by rw [e]; decide +kernel), if_neg (by rw [e]; decide +kernel), if_neg (by rw [e]; decide +kernel), if_neg (by rw [e]; decide +kernel), if_neg (by rw [e]; decide +kernel), if_pos (by rw [e]; decide +kernel)] at h
  simp only [Bool.and_eq_true, decide_eq_true_eq] at h
  exact h
theorem parts_cases {op : ByteArray} (h : (partsV op).2 = true) : ((op = oParam ∨ op = oInput ∨ op = oConst) ∧ (partsV op).1 = 0) ∨ (inL op opsO = true ∧ (partsV op).1 = 1) ∨ (inL op opsT = true ∧ (partsV op).1 = 2) := by
  unfold partsV at h ⊢
  by_cases h1 : inL op opsZ = true
  · left
    rw [if_pos h1]
    obtain ⟨o, h3, h4⟩ := inL_cases h1
    simp only [opsZ, List.mem_cons, List.not_mem_nil, or_false] at h3
    exact ⟨by rw [h4]; exact h3, rfl⟩
  · rw [if_neg h1] at h ⊢
    by_cases h2 : inL op opsO = true
    · rw [if_pos h2]; exact .inr (.inl ⟨h2, rfl⟩)
    · rw [if_neg h2] at h ⊢
      by_cases h3 : inL op opsT = true
      · rw [if_pos h3]; exact .inr (.inr ⟨h3, rfl⟩)
      · rw [if_neg h3] at h; cases h
theorem one_not_two {op : ByteArray} (h : inL op opsO = true) : ¬ inL op opsT = true := by
  obtain ⟨o, h3, h4⟩ := inL_cases h
  have : ∀ o ∈ opsO, ¬ inL o opsT = true := by decide +kernel
  rw [h4]; exact this o h3
theorem row_ev {l : List VI.Node} {st : ByteArray} {i : Nat} (hi : i < l.length) (hl : l.length ≤ 99) (hs : ∀ y ∈ l, smallN y) (hst : st.size ≤ 32) (ok : OkN l i) :
    Ev (fun F => Tf.show_line.f F (nd l (i : Int), ((namesV l st).getD ((i : Nat) : Int).toNat (dflt 4), namesV l st))) (bL (rowL l st i)) := by
  have hm : smallN (nd l (i : Int)) := hs _ (nd_mem (by omega))
  have hn := nmV_size hs hst
  have hns : ∀ s ∈ namesV l st, s.size ≤ 40 := fun s h => by
    obtain ⟨j, _, rfl⟩ := List.mem_map.1 h
    exact hn _
  obtain ⟨A, B, hof⟩ := ok.of
  rw [namesV_get (by omega)]
  unfold rowL
  rcases parts_cases ok.parts with ⟨h | h | h, h1⟩ | ⟨h, h1⟩ | ⟨h, h1⟩
  · exact line_pi hm ok.shape (hn _) (.inl h) _ _
  · exact line_pi hm ok.shape (hn _) (.inr h) _ _
  · exact line_const hm ok.shape (hn _) h (of_const hof h ok.shape) _ _
  · have ha := ok.a (by omega)
    have := line_op (nm := nmV l st (i : Int)) (names := namesV l st) hm ok.shape (hn _) hns (.inl h) (by rw [namesV_len]; omega) (fun q => absurd q (one_not_two h)) (of_power hof)
    rw [namesV_get (by omega)] at this
    have e : lineW (nd l (i : Int)) (nmV l st (i : Int)).data.toList (nmV l st (nd l (i : Int)).a).data.toList ((namesV l st).getD (nd l (i : Int)).b.toNat (dflt 4)).data.toList = lineW (nd l (i : Int)) (nmV l st (i : Int)).data.toList (nmV l st (nd l (i : Int)).a).data.toList (nmV l st (nd l (i : Int)).b).data.toList := by
      have hT := one_not_two h
      unfold lineW extraW
      rw [if_neg hT, if_neg hT]
    rw [e] at this
    exact this
  · have ha := ok.a (by omega)
    have hb := ok.b (by omega)
    have := line_op (nm := nmV l st (i : Int)) (names := namesV l st) hm ok.shape (hn _) hns (.inr h) (by rw [namesV_len]; omega) (fun _ => by rw [namesV_len]; omega) (of_power hof)
    rw [namesV_get (by omega), namesV_get (by omega)] at this
    exact this
theorem row_len {l : List VI.Node} {st : ByteArray} {i : Nat} (hi : i < l.length) (hs : ∀ y ∈ l, smallN y) (hst : st.size ≤ 32) (ok : OkN l i) : (rowL l st i).length ≤ 80000 := by
  have hn := nmV_size hs hst
  have h1 := hn (i : Int)
  have h2 := hn (nd l (i : Int)).a
  have h3 := hn (nd l (i : Int)).b
  rw [ba_size] at h1 h2 h3
  exact line_len (hs _ (nd_mem (by omega))) ok.parts h1 h2 h3
def ints (l : List UInt8) : List Int := l.map fun c => (c.toNat : Int)
theorem bytesOf_ints (s : ByteArray) : bytesOf s = ints s.data.toList := rfl
theorem strOf_ints (l : List UInt8) : strOf (ints l) = bL l := by
  unfold strOf ints bL
  rw [List.map_map]
  congr 2
  apply List.ext_getElem?
  intro i
  rw [List.getElem?_map]
  cases l[i]? with
  | none => rfl
  | some c => simp
theorem allByte_ints (l : List UInt8) : allByte (ints l) = true := by
  unfold allByte ints
  rw [List.all_eq_true]
  intro n hn
  obtain ⟨c, _, rfl⟩ := List.mem_map.1 hn
  have := c.toNat_lt
  simp only [isByte, Bool.and_eq_true, decide_eq_true_eq]
  omega
theorem text_l17 (l : List VI.Node) (loss : Int) (st : ByteArray) (hl : l.length ≤ 99) (hs : ∀ y ∈ l, smallN y) (hst : st.size ≤ 32) (ok : ∀ i, i < l.length → OkN l i) : ∀ (d i : Nat), i + d = l.length → (rowsL l st i).length ≤ 80001 * i →
    EvG (fun _ L => L ((i : Int), (ints (rowsL l st i), (namesV l st, (l, (l, (loss, (l.length : Int)))))))) Tf.show_Text.s17 (l, (loss, (namesV l st, ints (rowsL l st l.length)))) ∧ (rowsL l st l.length).length ≤ 80001 * l.length := by
  intro d
  induction d with
  | zero =>
    intro i hi hb
    have e : i = l.length := by omega
    subst e
    refine ⟨EvG.step (fun F L => ?_) (EvG.now _), hb⟩
    dsimp only [Tf.show_Text.s17]
    simp only [bif_if, decide_eq_true_eq]
    rw [if_neg (by omega)]
  | succ d ih =>
    intro i hi hb
    have hlt : i < l.length := by omega
    have e0 : ∀ j : Int, l.getD j.toNat (dflt 6) = nd l j := fun _ => rfl
    have hw : IntKind.i64.wrap ((i : Int) + 1) = ((i + 1 : Nat) : Int) := by rw [w64 (by omega) (by omega), succ_cast]
    have hrow := row_ev hlt hl hs hst (ok i hlt)
    have hrl := row_len hlt hs hst (ok i hlt)
    have hnl := namesV_len l st
    have hsz : (bL (rowL l st i)).size = (rowL l st i).length := by rw [ba_size, bL_list]
    have hsz2 : (bL (rowL l st i) ++ (⟨#[10]⟩ : ByteArray)).size = (rowL l st i).length + 1 := by rw [sz_app, hsz]; rfl
    have eb : bytesOf (bL (rowL l st i) ++ (⟨#[10]⟩ : ByteArray)) = ints (rowL l st i ++ [10]) := by rw [bytesOf_ints, ba_append, bL_list]
    have hlen : (ints (rowL l st i ++ [10])).length = (rowL l st i).length + 1 := by simp [ints]
    have hli : (ints (rowsL l st i)).length = (rowsL l st i).length := by simp [ints]
    obtain ⟨g1, g2⟩ := ih (i + 1) (by omega) (by rw [rowsL_succ, List.length_append, List.length_append]; simp; omega)
    rw [rowsL_succ] at g1
    have ei : ints (rowsL l st i ++ (rowL l st i ++ [10])) = ints (rowsL l st i) ++ ints (rowL l st i ++ [10]) := by simp [ints]
    rw [ei] at g1
    refine ⟨EvG.loop ?_, g2⟩
    simp only [Tf.show_Text.s17, bif_if, decide_eq_true_eq, inR_iff, e0, hw, Nat.ble_eq, Bool.true_and, Bool.and_true]
    refine EvG.pos (by omega) (EvG.pos (by omega) (EvG.pos (by omega) (EvG.bind hrow (EvG.pos (by omega) (EvG.pos (by omega) (EvG.pos ?_ ?_))))))
    · rw [eb, hlen, hli]; omega
    · rw [eb]; exact g1
def textL (l : List VI.Node) (loss : Int) (st : ByteArray) : List UInt8 := rowsL l st l.length ++ (oLoss'.data.toList ++ 32 :: (nmV l st loss).data.toList) ++ [10]
def textV (l : List VI.Node) (loss : Int) : Option ByteArray := if graphV l loss = true ∧ (namesV l (stemV l)).all fitS = true then some (bL (textL l loss (stemV l))) else none
theorem showText_ev (l : List VI.Node) (loss : Int) (hl : l.length ≤ 99) (hs : ∀ y ∈ l, smallN y) : Ev (fun F => Tf.show_Text.f F (l, loss)) (match textV l loss with | some s => (s, 0) | none => (⟨#[]⟩, 1)) := by
  have hst := stemV_size l
  unfold textV
  simp only [Tf.show_Text.f, bif_if, Nat.ble_eq, inR_iff, Bool.not_eq_true', Bool.true_and]
  refine Ev.bind (graph_ev l loss hs (by omega)) ?_
  by_cases hg : graphV l loss = true
  · obtain ⟨⟨g1, g2, g3, _⟩, ok⟩ := graph_facts hg
    refine Ev_neg (by rw [hg]; simp) (Ev.bind (stem_ev l loss hl hs) ?_)
    have h6 := text_l6 l loss (stemV l) hl hs hst l.length 0 (by omega)
    rw [List.take_zero, List.drop_zero] at h6
    refine Ev.bind (Ev.iter h6) ?_
    by_cases hf : (namesV l (stemV l)).all fitS = true
    · rw [if_pos hf, if_pos ⟨hg, hf⟩]
      obtain ⟨h17, hb⟩ := text_l17 l loss (stemV l) hl hs hst ok l.length 0 (by omega) (by simp [rowsL])
      have h17 : EvG (fun _ L => L ((0 : Int), (([] : List Int), (namesV l (stemV l), (l, (l, (loss, (l.length : Int)))))))) Tf.show_Text.s17 (l, (loss, (namesV l (stemV l), ints (rowsL l (stemV l) l.length)))) := h17
      refine Ev.bind (Ev.iter h17) ?_
      have hli : (ints (rowsL l (stemV l) l.length)).length = (rowsL l (stemV l) l.length).length := by simp [ints]
      have hpos : 1 ≤ (rowsL l (stemV l) l.length).length := by
        have e : rowsL l (stemV l) l.length = rowsL l (stemV l) (l.length - 1) ++ (rowL l (stemV l) (l.length - 1) ++ [10]) := by
          rw [← rowsL_succ]; congr 1; omega
        rw [e]; simp; omega
      have hn := nmV_size hs hst loss
      have hsz : (bL (rowsL l (stemV l) l.length)).size = (rowsL l (stemV l) l.length).length := by rw [ba_size, bL_list]
      have c5 : (⟨#[108, 111, 115, 115, 32]⟩ : ByteArray).size = 5 := rfl
      dsimp only
      rw [strOf_ints, namesV_get (by omega)]
      refine Ev_pos (by rw [allByte_ints]; simp only [Bool.and_true, Bool.and_eq_true, Nat.ble_eq]; omega) (Ev_pos (by rw [hsz]; omega) (Ev_pos (by rw [namesV_len]; omega) (Ev_pos (by rw [sz_app, hsz, c5]; omega) (Ev_pos (by rw [sz_app, sz_app, hsz, c5]; omega) (Ev.eq ?_)))))
      congr 1
      apply ba_ext
      unfold textL
      simp only [bL_list, ba_append]
      simp
    · rw [if_neg hf, if_neg (fun q => hf q.2)]
      exact Ev.now _
  · rw [if_neg (fun q => hg q.1)]
    exact Ev_pos (by simpa using hg) (Ev.now _)
theorem showAwake_ev : Ev (fun F => Tf.tapewrightlaw11_awake.f F ()) true := by
  have h1 := showText_ev [⟨oParam, 0, 0, ⟨#[119]⟩, [], ByteArray.empty, 0, []⟩] 0 (by simp) (fun y hy => by
    simp at hy; subst hy; exact ⟨by decide, by decide, by decide, by decide, fun s hs => by simp at hs⟩)
  have h2 := showText_ev [] 0 (by simp) (fun y hy => by simp at hy)
  simp only [Tf.tapewrightlaw11_awake.f, bif_if, beq_iff_eq, set_oneN]
  refine Ev.bind h1 (Ev.bind h2 ?_)
  exact Ev_pos (by decide +kernel) (Ev_pos (by decide +kernel) (Ev.eq (by decide +kernel)))
end Go.PL

namespace Go.PL
open Go Go.VI
theorem name_of_bare {x : VI.Node} {m : Int} (h : bareV x m = true) : (seqB x.op oParam = true ∨ seqB x.op oInput = true → nameS x.name.data.toList = true) ∧ (¬ (seqB x.op oParam = true ∨ seqB x.op oInput = true) → x.name = ⟨#[]⟩) := by
  unfold bareV at h
  simp only [Bool.and_eq_true, beq_iff_eq, Bool.or_eq_true] at h
  obtain ⟨⟨⟨⟨⟨⟨_, _⟩, h3⟩, h4⟩, _⟩, _⟩, _⟩ := h
  constructor
  · intro q
    rw [h3, Bool.or_eq_true]; exact q
  · intro q
    rcases h4 with h4 | h4
    · exact absurd h4 q
    · exact seqB_iff.1 h4
theorem nmV_cases {l : List VI.Node} {i : Nat} (ok : OkN l i) (st : ByteArray) : ((nd l (i : Int)).name = ⟨#[]⟩ ∧ nmV l st (i : Int) = st ++ digB (i : Int)) ∨ (nameS (nd l (i : Int)).name.data.toList = true ∧ nmV l st (i : Int) = (nd l (i : Int)).name ∧ (nd l (i : Int)).name ≠ ⟨#[]⟩) := by
  obtain ⟨h1, h2⟩ := name_of_bare ok.bare
  unfold nmV
  by_cases c : seqB (nd l (i : Int)).name ⟨#[]⟩ = true
  · rw [if_pos c]; exact .inl ⟨seqB_iff.1 c, rfl⟩
  · rw [if_neg c]
    right
    by_cases q : seqB (nd l (i : Int)).op oParam = true ∨ seqB (nd l (i : Int)).op oInput = true
    · exact ⟨h1 q, rfl, fun e => c (by rw [e]; decide +kernel)⟩
    · exact absurd (by rw [h2 q]; decide +kernel) c
end Go.PL

namespace Go.PL
open Go Go.VI
theorem set_oneSt (a b : VI.Stmt) : List.set (List.replicate 1 a) 0 b = [b] := rfl
end Go.PL

namespace Go.PL
open Go Go.VI
theorem bL_eq61 : bL [61] = eqB := rfl
section
variable {x : VI.Node} {nm nA nB : ByteArray} {A B : List Int}
theorem lineW_made (h : inL x.op opsO = true ∨ inL x.op opsT = true) (m a b : List UInt8) : lineW x m a b = m :: [61] :: x.op.data.toList :: a :: extraW x b := by
  have n : ∀ {L : List ByteArray}, (L.all fun o => !seqB o oParam && !seqB o oInput && !seqB o oConst) = true → inL x.op L = true → lineW x m a b = m :: [61] :: x.op.data.toList :: a :: extraW x b := fun {L} hL h => by
    obtain ⟨o, h3, h4⟩ := inL_cases h
    have := List.all_eq_true.1 hL o h3
    simp only [Bool.and_eq_true, Bool.not_eq_true'] at this
    unfold lineW
    rw [if_neg (by rw [h4]; intro q; rcases q with q | q <;> simp_all), if_neg (by rw [h4]; simp_all)]
  rcases h with h | h
  · exact n (by decide +kernel) h
  · exact n (by decide +kernel) h
end
end Go.PL

namespace Go.PL
open Go Go.VI
theorem digB_inj {j k : Nat} (hj : j < 100) (hk : k < 100) (h : digB (j : Int) = digB (k : Int)) : j = k := by
  have e : dig2 j = dig2 k := by
    have := congrArg (fun s : ByteArray => s.data.toList) h
    unfold digB at this
    simpa [bL_list] using this
  have a := digs_num hj
  have b := digs_num hk
  rw [e] at a
  have := Option.some.inj (a.symm.trans b)
  omega
theorem app_cancel {a b c : ByteArray} (h : a ++ b = a ++ c) : b = c := by
  apply ba_ext
  have := congrArg (fun s : ByteArray => s.data.toList) h
  simp only [ba_append] at this
  exact List.append_cancel_left this
theorem clash_of {l : List VI.Node} {st : ByteArray} {j k : Nat} (hj : j < l.length) (hk : k < l.length) (hl : l.length ≤ 99) (h1 : (nd l (j : Int)).name = st ++ digB (k : Int)) (h2 : (nd l (k : Int)).name = ⟨#[]⟩) : clashV l st = true := by
  unfold clashV
  rw [List.any_eq_true]
  refine ⟨_, nd_mem (l := l) (i := (j : Int)) (by omega), ?_⟩
  have e : preL st.data.toList (nd l (j : Int)).name.data.toList = some (digB (k : Int)).data.toList := by
    unfold preL
    rw [h1, ba_append, if_pos (by simp)]
    simp
  have e2 : numL (digB (k : Int)).data.toList = some (k : Int) := by
    unfold digB
    rw [bL_list, Int.toNat_natCast, digs_num (by omega)]
  unfold clashAt
  simp only [e, e2]
  rw [h2, decide_eq_true (by omega)]; decide +kernel
theorem names_apart {l : List VI.Node} {loss : Int} {st : ByteArray} (hl : l.length ≤ 99) (hg : graphV l loss = true) (hc : clashV l st = false) {j k : Nat} (hjk : j < k) (hk : k < l.length) : nmV l st (j : Int) ≠ nmV l st (k : Int) := by
  obtain ⟨_, ok⟩ := graph_facts hg
  have no : ∀ {a b : Nat}, a < l.length → b < l.length → (nd l (a : Int)).name = st ++ digB (b : Int) → (nd l (b : Int)).name = ⟨#[]⟩ → False := fun ha hb h1 h2 => by
    rw [clash_of ha hb hl h1 h2] at hc; cases hc
  intro e
  rcases nmV_cases (ok j (by omega)) st with ⟨a1, a2⟩ | ⟨a1, a2, a3⟩ <;> rcases nmV_cases (ok k hk) st with ⟨b1, b2⟩ | ⟨b1, b2, b3⟩
  · rw [a2, b2] at e
    have := digB_inj (by omega) (by omega) (app_cancel e)
    omega
  · rw [a2, b2] at e
    exact no hk (by omega) e.symm a1
  · rw [a2, b2] at e
    exact no (by omega) hk e b1
  · rw [a2, b2] at e
    refine graph_apart hg j k hjk hk (fun q => a3 (seqB_iff.1 q)) ?_
    rw [e, seqB_rfl]
end Go.PL

namespace Go.PL
open Go Go.VI
instance : DecidableEq VI.Node := fun x y =>
  if h : x.op = y.op ∧ x.a = y.a ∧ x.b = y.b ∧ x.name = y.name ∧ x.shape = y.shape ∧ x.k = y.k ∧ x.n = y.n ∧ x.data = y.data then isTrue (by
    obtain ⟨h1, h2, h3, h4, h5, h6, h7, h8⟩ := h
    cases x; cases y; simp_all)
  else isFalse (fun e => h (by subst e; simp))
theorem textL_len {l : List VI.Node} {loss : Int} {st : ByteArray} (hl : l.length ≤ 99) (hs : ∀ y ∈ l, smallN y) (hst : st.size ≤ 32) (ok : ∀ i, i < l.length → OkN l i) : (textL l loss st).length ≤ 19000000 := by
  have go : ∀ i, i ≤ l.length → (rowsL l st i).length ≤ 80001 * i := by
    intro i
    induction i with
    | zero => intro _; simp [rowsL]
    | succ i ih =>
      intro h
      have := ih (by omega)
      have h2 := row_len (show i < l.length by omega) hs hst (ok i (by omega))
      rw [rowsL_succ, List.length_append, List.length_append]
      have h1 : ([10] : List UInt8).length = 1 := rfl
      omega
  have h1 := go l.length (Nat.le_refl _)
  have h2 := nmV_size hs hst loss
  rw [ba_size] at h2
  have e : (textL l loss st).length = (rowsL l st l.length).length + (4 + ((nmV l st loss).data.toList.length + 1)) + 1 := by
    unfold textL
    rw [List.length_append, List.length_append, List.length_append, List.length_cons]
    rfl
  omega
end Go.PL

namespace Go.PL
open Go Go.VI
theorem strOf_dig : ∀ n : Fin 100, (strOf (List.set (List.replicate 1 0) 0 (IntKind.u8.wrap (IntKind.i64.wrap ((48 : Int) + (Int.tmod (n.val : Int) 10)))))).data.toList = [UInt8.ofNat (48 + n.val % 10)] := by decide +kernel
theorem dig_one {n : Nat} (h : n < 100) : strOf (List.set (List.replicate 1 0) 0 (IntKind.u8.wrap (IntKind.i64.wrap ((48 : Int) + (Int.tmod (n : Int) 10))))) = bL [UInt8.ofNat (48 + n % 10)] := by
  apply ba_ext
  rw [bL_list]
  exact strOf_dig ⟨n, h⟩
theorem div_ten : ∀ n : Fin 100, IntKind.i64.wrap (Int.tdiv (n.val : Int) 10) = ((n.val / 10 : Nat) : Int) := by decide +kernel
theorem digits_ev (n : Int) (h0 : 0 ≤ n) (h1 : n < 100) : Ev (fun F => Tf.tapewrightref11_Digits.f F n) (digB n) := by
  obtain ⟨m, rfl⟩ : ∃ m : Nat, n = (m : Int) := ⟨n.toNat, by omega⟩
  have hm : m < 100 := by omega
  have hd := dig_one hm
  have hv := div_ten ⟨m, hm⟩
  dsimp only at hv
  have hd2 := dig_one (show m / 10 < 100 by omega)
  simp only [Tf.tapewrightref11_Digits.f]
  rw [hd]
  unfold digB
  rw [Int.toNat_natCast]
  refine Ev_ret (Ev.iter ?_)
  have stop : ∀ (s : ByteArray) (q : Nat), q ≤ 9 → EvG (fun _ L => L (s, (q : Int))) Tf.tapewrightref11_Digits.s2 s := fun s q hq => by
    refine EvG.loop ?_
    simp only [Tf.tapewrightref11_Digits.s2, bif_if, decide_eq_true_eq]
    exact EvG.neg (by omega) (EvG.now _)
  by_cases c : m < 10
  · have e : bL (dig2 m) = bL [UInt8.ofNat (48 + m % 10)] := by
      unfold dig2; rw [if_pos c, Nat.mod_eq_of_lt c]
    rw [e]
    exact stop _ m (by omega)
  · have e : bL (dig2 m) = bL [UInt8.ofNat (48 + m / 10 % 10)] ++ bL [UInt8.ofNat (48 + m % 10)] := by
      apply ba_ext
      unfold dig2
      rw [if_neg c, ba_append, bL_list, bL_list, bL_list, Nat.mod_eq_of_lt (show m / 10 < 10 by omega)]; rfl
    rw [e]
    refine EvG.loop ?_
    simp only [Tf.tapewrightref11_Digits.s2, bif_if, decide_eq_true_eq, Nat.ble_eq, hv, hd2]
    exact EvG.pos (by omega) (EvG.pos (by rw [ba_size, ba_size, bL_list, bL_list]; simp) (stop _ (m / 10) (by omega)))
theorem rname11_ev (l : List VI.Node) (loss : Int) (st : ByteArray) (hst : st.size ≤ 40) (hl : l.length ≤ 99) (i : Int) (hi : 0 ≤ i ∧ i < (l.length : Int)) : Ev (fun F => Tf.tapewrightref11_Name.f F ((l, loss), (st, i))) (nmV l st i) := by
  have e0 : ∀ j : Int, l.getD j.toNat (dflt 6) = nd l j := fun _ => rfl
  have hds := digB_size i
  simp only [Tf.tapewrightref11_Name.f, bif_if, inR_iff, e0, Bool.not_eq_true', Nat.ble_eq]
  refine Ev_pos hi ?_
  unfold nmV
  by_cases c : seqB (nd l i).name ⟨#[]⟩ = true
  · rw [if_pos c]
    exact Ev_neg (by rw [c]; simp) (Ev.bind (digits_ev i (by omega) (by omega)) (Ev_pos (by omega) (Ev.now _)))
  · rw [if_neg c]
    exact Ev_pos (by simpa using c) (Ev_pos hi (Ev.now _))
def dupAt (l : List VI.Node) (st : ByteArray) (i k : Nat) : Bool := ((List.range i).drop k).any fun k => seqB (nmV l st (i : Int)) (nmV l st (k : Int))
theorem range_drop {n i : Nat} (h : i < n) : (List.range n).drop i = i :: (List.range n).drop (i + 1) := by
  rw [List.drop_eq_getElem_cons (by simpa using h)]; simp
theorem unlike_l5 (l : List VI.Node) (loss : Int) (st : ByteArray) (hst : st.size ≤ 40) (hl : l.length ≤ 99) (i : Nat) (hi : i < l.length) : ∀ (d k : Nat), k + d = i →
    EvG (fun _ L => L ((k : Int), (st, (l, (loss, (i : Int)))))) Tf.tapewrightref11_unlike.s5 (if dupAt l st i k = true then .inl false else .inr (st, (l, (loss, (i : Int))))) := by
  intro d
  induction d with
  | zero =>
    intro k hk
    unfold dupAt
    rw [List.drop_eq_nil_of_le (by simp; omega)]
    refine EvG.loop ?_
    simp only [Tf.tapewrightref11_unlike.s5, bif_if, decide_eq_true_eq]
    exact EvG.neg (by omega) (EvG.now _)
  | succ d ih =>
    intro k hk
    have ih := ih (k + 1) (by omega)
    have hw : IntKind.i64.wrap ((k : Int) + 1) = ((k + 1 : Nat) : Int) := by rw [w64 (by omega) (by omega), succ_cast]
    have e : dupAt l st i k = (seqB (nmV l st (i : Int)) (nmV l st (k : Int)) || dupAt l st i (k + 1)) := by
      unfold dupAt; rw [range_drop (by omega), List.any_cons]
    rw [e]
    refine EvG.loop ?_
    simp only [Tf.tapewrightref11_unlike.s5, bif_if, decide_eq_true_eq, hw]
    refine EvG.pos (by omega) (EvG.bind (rname11_ev l loss st hst hl _ (by omega)) (EvG.bind (rname11_ev l loss st hst hl _ (by omega)) ?_))
    cases c : seqB (nmV l st (i : Int)) (nmV l st (k : Int)) with
    | true => exact EvG.pos rfl (EvG.now _)
    | false => exact EvG.neg (by simp) ih
def dupB (l : List VI.Node) (st : ByteArray) (i : Nat) : Bool := ((List.range l.length).drop i).any fun i => dupAt l st i 0
theorem unlike_l2 (l : List VI.Node) (loss : Int) (st : ByteArray) (hst : st.size ≤ 40) (hl : l.length ≤ 99) : ∀ (d i : Nat), i + d = l.length →
    EvG (fun _ L => L (st, (l, (loss, (i : Int))))) Tf.tapewrightref11_unlike.s2 (if dupB l st i = true then .inl false else .inr ()) := by
  intro d
  induction d with
  | zero =>
    intro i hi
    unfold dupB
    rw [List.drop_eq_nil_of_le (by simp; omega)]
    refine EvG.loop ?_
    simp only [Tf.tapewrightref11_unlike.s2, bif_if, decide_eq_true_eq]
    exact EvG.neg (by omega) (EvG.now _)
  | succ d ih =>
    intro i hi
    have ih := ih (i + 1) (by omega)
    have hw : IntKind.i64.wrap ((i : Int) + 1) = ((i + 1 : Nat) : Int) := by rw [w64 (by omega) (by omega), succ_cast]
    have e : dupB l st i = (dupAt l st i 0 || dupB l st (i + 1)) := by
      unfold dupB; rw [range_drop (by omega), List.any_cons]
    have h5 := unlike_l5 l loss st hst hl i (by omega) i 0 (by omega)
    rw [e]
    refine EvG.loop ?_
    simp only [Tf.tapewrightref11_unlike.s2, bif_if, decide_eq_true_eq]
    refine EvG.pos (by omega) (EvG.bind (Ev.iter h5) ?_)
    cases c : dupAt l st i 0 with
    | true => exact EvG.now _
    | false =>
      simp only [Bool.false_or, Bool.false_eq_true, if_false]
      show EvG (fun F L => L (st, (l, (loss, IntKind.i64.wrap ((i : Int) + 1))))) _ _
      rw [hw]; exact ih
theorem stm_ne {st : ByteArray} {k : Nat} (h : st = stm k) (w : ByteArray) : st ++ w ≠ ⟨#[]⟩ := fun e => by
  have := congrArg (fun s : ByteArray => s.data.toList) e
  rw [h] at this
  simp only [ba_append, stm_list] at this
  simp at this
theorem dup_clash {l : List VI.Node} {loss : Int} {k : Nat} (hl : l.length ≤ 99) (hg : graphV l loss = true) : dupB l (stm k) 0 = clashV l (stm k) := by
  obtain ⟨_, ok⟩ := graph_facts hg
  have dup : ∀ {i j : Nat}, j < i → i < l.length → nmV l (stm k) (i : Int) = nmV l (stm k) (j : Int) → dupB l (stm k) 0 = true := fun {i j} h1 h2 e => by
    unfold dupB dupAt
    rw [List.drop_zero, List.any_eq_true]
    refine ⟨i, by simpa using h2, ?_⟩
    rw [List.drop_zero, List.any_eq_true]
    exact ⟨j, by simpa using h1, by rw [e, seqB_rfl]⟩
  cases hc : clashV l (stm k) with
  | false =>
    unfold dupB dupAt
    rw [List.drop_zero, List.any_eq_false]
    intro i hi
    rw [List.drop_zero, Bool.not_eq_true, List.any_eq_false]
    intro j hj
    have hi : i < l.length := by simpa using hi
    have hj : j < i := by simpa using hj
    exact fun q => names_apart hl hg hc hj hi (seqB_iff.1 q).symm
  | true =>
    unfold clashV at hc
    rw [List.any_eq_true] at hc
    obtain ⟨x, hx, hq⟩ := hc
    obtain ⟨j, hj, rfl⟩ := List.getElem_of_mem hx
    have ej : l[j] = nd l (j : Int) := by simp [nd, List.getD_eq_getElem?_getD, hj]
    rw [ej] at hq
    unfold clashAt at hq
    cases hp : preL (stm k).data.toList (nd l (j : Int)).name.data.toList with
    | none => rw [hp] at hq; cases hq
    | some r =>
      rw [hp] at hq
      dsimp only at hq
      cases hn : numL r with
      | none => rw [hn] at hq; cases hq
      | some n =>
        rw [hn] at hq
        simp only [Bool.and_eq_true, decide_eq_true_eq] at hq
        obtain ⟨m, hm, rfl, hr⟩ := num_digs hn
        have hml : m < l.length := by omega
        have hnm : (nd l (j : Int)).name = stm k ++ digB (m : Int) := by
          apply ba_ext
          unfold preL at hp
          split at hp
          · rename_i ht
            cases hp
            rw [ba_append]
            unfold digB
            rw [bL_list, Int.toNat_natCast, ← hr]
            conv => lhs; rw [← List.take_append_drop (stm k).data.toList.length (nd l (j : Int)).name.data.toList, ht]
          · cases hp
        have em := seqB_iff.1 hq.2
        have e1 : nmV l (stm k) (m : Int) = stm k ++ digB (m : Int) := by unfold nmV; rw [if_pos hq.2]
        have e2 : nmV l (stm k) (j : Int) = stm k ++ digB (m : Int) := by
          unfold nmV
          rw [hnm, if_neg (fun q => stm_ne rfl _ (seqB_iff.1 q))]
        have hne : j ≠ m := fun e => by
          subst e
          rw [em] at hnm
          exact stm_ne rfl _ hnm.symm
        rcases Nat.lt_or_gt_of_ne hne with h | h
        · exact dup h hml (e1.trans e2.symm)
        · exact dup h hj (e2.trans e1.symm)
theorem unlike_ev {l : List VI.Node} {loss : Int} {k : Nat} (hk : k ≤ 38) (hl : l.length ≤ 99) (hg : graphV l loss = true) : Ev (fun F => Tf.tapewrightref11_unlike.f F ((l, loss), stm k)) (!(clashV l (stm k))) := by
  have h := unlike_l2 l loss (stm k) (by rw [stm_size]; omega) hl l.length 0 (by omega)
  rw [dup_clash hl hg] at h
  simp only [Tf.tapewrightref11_unlike.f]
  refine Ev.bind (Ev.iter h) ?_
  cases clashV l (stm k) with
  | true => exact Ev.now _
  | false => exact Ev.now _
theorem rstem_go (l : List VI.Node) (loss : Int) (hl : l.length ≤ 99) (hg : graphV l loss = true) (hs : ∀ y ∈ l, smallN y) : ∀ (d k : Nat), k + d = 31 → EvG (fun _ L => L (stm k, (l, loss))) Tf.tapewrightref11_Text.s2 (stm (stemK l d k), (l, loss)) := by
  intro d
  induction d with
  | zero =>
    intro k hk
    have hc := unlike_ev (k := k) (by omega) hl hg
    rw [clash_long hs (by omega)] at hc
    refine EvG.loop ?_
    simp only [Tf.tapewrightref11_Text.s2, bif_if, Bool.not_eq_true']
    exact EvG.bind hc (EvG.neg (by simp) (EvG.now _))
  | succ d ih =>
    intro k hk
    have hc := unlike_ev (k := k) (by omega) hl hg
    have hz := stm_size k
    refine EvG.loop ?_
    simp only [Tf.tapewrightref11_Text.s2, bif_if, Nat.ble_eq, stm_succ, Bool.not_eq_true']
    refine EvG.bind hc ?_
    unfold stemK
    cases h : clashV l (stm k) with
    | true => rw [if_pos rfl]; exact EvG.pos rfl (EvG.pos (by omega) (ih (k + 1) (by omega)))
    | false => rw [if_neg (by simp)]; exact EvG.neg (by simp) (EvG.now _)
theorem rnumbers_go (l : List Int) (hl : l.length ≤ 1000) (h : ∀ n ∈ l, 0 ≤ n ∧ n < 100) : ∀ (d i : Nat) (o : ByteArray), i + d = l.length → o.data.toList = numsL (l.take i) →
    EvG (fun _ L => L ((i : Int), (l, o))) Tf.tapewrightref11_numbers.s3 (bL (numsL l)) := by
  intro d
  induction d with
  | zero =>
    intro i o hi ho
    rw [List.take_of_length_le (by omega)] at ho
    refine EvG.loop ?_
    simp only [Tf.tapewrightref11_numbers.s3, bif_if, decide_eq_true_eq]
    exact EvG.neg (by omega) (by rw [← ho, bL_of]; exact EvG.now _)
  | succ d ih =>
    intro i o hi ho
    have hlt : i < l.length := by omega
    have eg : l.getD (i : Int).toNat 0 = l[i] := by rw [Int.toNat_natCast]; simp [List.getD_eq_getElem?_getD, hlt]
    have hw : IntKind.i64.wrap ((i : Int) + 1) = ((i + 1 : Nat) : Int) := by rw [w64 (by omega) (by omega), succ_cast]
    have hn := h _ (List.getElem_mem hlt)
    have et : l.take (i + 1) = l.take i ++ [l[i]] := by rw [List.take_succ_eq_append_getElem hlt]
    have ho' := numsL_len (l.take i)
    have htl : (l.take i).length ≤ 1000 := by rw [List.length_take]; omega
    have hoz := ba_size o
    have ih := ih (i + 1)
    rw [et] at ih
    generalize l[i] = n at *
    have hd := digB_size n
    have c1 : (o ++ (⟨#[32]⟩ : ByteArray)).size = o.size + 1 := by rw [sz_app]; rfl
    refine EvG.loop ?_
    simp only [Tf.tapewrightref11_numbers.s3, bif_if, decide_eq_true_eq, inR_iff, eg, hw, Nat.ble_eq]
    refine EvG.pos (by omega) (EvG.pos (by rw [hoz, ho]; omega) (EvG.pos (by omega) (EvG.bind (digits_ev n hn.1 hn.2) (EvG.pos (by rw [c1, hoz, ho]; omega) ?_))))
    refine ih ((o ++ (⟨#[32]⟩ : ByteArray)) ++ digB n) (by omega) ?_
    rw [ba_append, ba_append, ho]
    unfold numsL digB
    rw [bL_list, List.flatMap_append]
    simp
theorem rnumbers_ev (l : List Int) (hl : l.length ≤ 1000) (h : ∀ n ∈ l, 0 ≤ n ∧ n < 100) : Ev (fun F => Tf.tapewrightref11_numbers.f F l) (bL (numsL l)) := by
  simp only [Tf.tapewrightref11_numbers.f]
  exact Ev_ret (Ev.iter (rnumbers_go l hl h l.length 0 ⟨#[]⟩ (by omega) rfl))
end Go.PL

namespace Go.PL
open Go Go.VI
theorem cat_l17 (ds : List ByteArray) (hd : ds.length ≤ 70) (hs : ∀ s ∈ ds, s.data.toList.length ≤ 1000) (o0 : ByteArray) (ho : o0.size ≤ 20000000) (st : ByteArray) (l : List VI.Node) (loss i : Int) : ∀ (d j : Nat) (o : ByteArray), j + d = ds.length → o.data.toList = o0.data.toList ++ ((ds.take j).map (·.data.toList)).flatMap (32 :: ·) →
    EvG (fun _ L => L ((j : Int), (o, (ds, (st, (l, (loss, (i, (ds.length : Int))))))))) Tf.tapewrightref11_Text.s17 (st, (l, (loss, (i, bL (o0.data.toList ++ (ds.map (·.data.toList)).flatMap (32 :: ·)))))) := by
  have hoz := ba_size o0
  intro d
  induction d with
  | zero =>
    intro j o hj h
    rw [List.take_of_length_le (by omega)] at h
    refine EvG.loop ?_
    simp only [Tf.tapewrightref11_Text.s17, bif_if, decide_eq_true_eq]
    exact EvG.neg (by omega) (by rw [← h, bL_of]; exact EvG.now _)
  | succ d ih =>
    intro j o hj h
    have hlt : j < ds.length := by omega
    have eg : ds.getD (j : Int).toNat (dflt 4) = ds[j] := by rw [Int.toNat_natCast]; simp [List.getD_eq_getElem?_getD, hlt]
    have hw : IntKind.i64.wrap ((j : Int) + 1) = ((j + 1 : Nat) : Int) := by rw [w64 (by omega) (by omega), succ_cast]
    have et : ds.take (j + 1) = ds.take j ++ [ds[j]] := by rw [List.take_succ_eq_append_getElem hlt]
    have hz := ba_size o
    have hm := hs _ (List.getElem_mem hlt)
    have hf := flat_len (ds.take j) (fun s h => hs s (List.mem_of_mem_take h))
    rw [List.length_take] at hf
    rw [h, List.length_append] at hz
    have ih := ih (j + 1)
    rw [et] at ih
    generalize ds[j] = x at *
    have hxz := ba_size x
    have c1 : (o ++ (⟨#[32]⟩ : ByteArray)).size = o.size + 1 := by rw [sz_app]; rfl
    have hmin : min j ds.length ≤ 70 := by omega
    refine EvG.loop ?_
    simp only [Tf.tapewrightref11_Text.s17, bif_if, decide_eq_true_eq, inR_iff, eg, hw, Nat.ble_eq]
    refine EvG.pos (by omega) (EvG.pos (by omega) (EvG.pos (by omega) (EvG.pos (by rw [c1]; omega) ?_)))
    refine ih ((o ++ (⟨#[32]⟩ : ByteArray)) ++ x) (by omega) ?_
    rw [ba_append, ba_append, h, List.map_append, List.flatMap_append]
    simp
def two23 (x : VI.Node) (st : ByteArray) (l : List VI.Node) (loss i : Int) (o : ByteArray) := (st, (l, (loss, (i, (x.op, (x.a, (x.b, (x.name, (x.shape, (x.k, (x.n, (x.data, o))))))))))))
theorem two_l23 (x : VI.Node) (st : ByteArray) (hst : st.size ≤ 40) (l : List VI.Node) (hl : l.length ≤ 99) (loss i : Int) (nB : ByteArray) (hB : nB.size ≤ 100) (hnB : ∀ q ∈ opsT, x.op = q → Ev (fun F => Tf.tapewrightref11_Name.f F ((l, loss), (st, x.b))) nB) (o0 : ByteArray) (ho : o0.size ≤ 20000000) : ∀ (d j : Nat) (o : ByteArray), j + d = 6 → (o = if inL x.op (opsT.take j) = true then o0 ++ (⟨#[32]⟩ : ByteArray) ++ nB else o0) →
    EvG (fun _ L => L ((j : Int), (x.op, (x.a, (x.b, (x.name, (x.shape, (x.k, (x.n, (x.data, (st, (l, (loss, (o, (opsT, (i, (6 : Int))))))))))))))))) Tf.tapewrightref11_Text.s23 (two23 x st l loss i (if inL x.op opsT = true then o0 ++ (⟨#[32]⟩ : ByteArray) ++ nB else o0)) := by
  have c1 : (⟨#[32]⟩ : ByteArray).size = 1 := rfl
  intro d
  induction d with
  | zero =>
    intro j o hj h
    have e : j = 6 := by omega
    subst e
    rw [show opsT.take 6 = opsT from rfl] at h
    refine EvG.loop ?_
    simp only [Tf.tapewrightref11_Text.s23, bif_if, decide_eq_true_eq]
    rw [← h]
    exact EvG.neg (by omega) (EvG.now _)
  | succ d ih =>
    intro j o hj h
    have hlt : j < opsT.length := by show j < 6; omega
    have eg : opsT.getD (j : Int).toNat (dflt 4) = opsT[j] := by rw [Int.toNat_natCast]; simp [List.getD_eq_getElem?_getD, hlt]
    have hw : IntKind.i64.wrap ((j : Int) + 1) = ((j + 1 : Nat) : Int) := by rw [w64 (by omega) (by omega), succ_cast]
    have et : opsT.take (j + 1) = opsT.take j ++ [opsT[j]] := by rw [List.take_succ_eq_append_getElem hlt]
    have hapart : ∀ j : Fin 6, ¬ inL (opsT.getD j.val ⟨#[]⟩) (opsT.take j.val) = true := by decide +kernel
    have hap := hapart ⟨j, by omega⟩
    dsimp only at hap
    rw [show opsT.getD j ⟨#[]⟩ = opsT[j] by simp [List.getD_eq_getElem?_getD, hlt]] at hap
    have hmem : opsT[j] ∈ opsT := List.getElem_mem hlt
    have ih := ih (j + 1)
    rw [et] at ih
    have hi6 : (j : Int) < 6 := by omega
    have hln : (opsT.length : Int) = 6 := rfl
    generalize opsT[j] = q at *
    refine EvG.loop ?_
    simp only [Tf.tapewrightref11_Text.s23, bif_if, decide_eq_true_eq, inR_iff, eg, hw, Nat.ble_eq]
    refine EvG.pos hi6 (EvG.pos (by omega) ?_)
    by_cases c : x.op = q
    · have h0 : o = o0 := by rw [h, if_neg (by rw [c]; exact hap)]
      subst h0
      refine EvG.pos (by rw [c, seqB_rfl]) (EvG.pos (by omega) (EvG.bind (hnB q hmem c) (EvG.pos (by rw [sz_app, c1]; omega) ?_)))
      refine ih _ (by omega) ?_
      rw [if_pos]
      unfold inL
      rw [List.any_append, c]
      simp [seqB_rfl]
    · have hne : ¬ seqB x.op q = true := fun e => c (seqB_iff.1 e)
      refine EvG.neg hne (ih o (by omega) ?_)
      rw [h]
      have : inL x.op (opsT.take j ++ [q]) = inL x.op (opsT.take j) := by
        unfold inL
        rw [List.any_append]
        simp [show seqB x.op q = false by simpa using hne]
      rw [this]
section
variable {l : List VI.Node} {loss : Int} {st : ByteArray} {i : Nat} {o : ByteArray} {r : (ByteArray × Bool) ⊕ ((List VI.Node) × (Int × (ByteArray × ByteArray)))}
theorem rrow_ev (hl : l.length ≤ 99) (hs : ∀ y ∈ l, smallN y) (hst : st.size ≤ 32) (hi : i < l.length) (ok : OkN l i) (ho : o.size ≤ 19000000) (hf : fitS (nmV l st (i : Int)) = true)
    (next : EvG (fun _ L => L (((i + 1 : Nat) : Int), (bL (o.data.toList ++ (rowL l st i ++ [10])), (st, (l, loss))))) Tf.tapewrightref11_Text.s6 r) :
    EvG (fun _ L => L ((i : Int), (o, (st, (l, loss))))) Tf.tapewrightref11_Text.s6 r := by
  have e0 : ∀ j : Int, l.getD j.toNat (dflt 6) = nd l j := fun _ => rfl
  have hw : IntKind.i64.wrap ((i : Int) + 1) = ((i + 1 : Nat) : Int) := by rw [w64 (by omega) (by omega), succ_cast]
  have hm : smallN (nd l (i : Int)) := hs _ (nd_mem (by omega))
  have hnmz := nmV_size hs hst
  have hfz := of_decide_eq_true hf
  have hname := rname11_ev l loss st (by omega) hl (i : Int) (by omega)
  have hA := fun (h : (partsV (nd l (i : Int)).op).1 > 0) => rname11_ev l loss st (by omega) hl (nd l (i : Int)).a (by have := ok.a h; omega)
  have hB := fun (h : (partsV (nd l (i : Int)).op).1 > 1) => rname11_ev l loss st (by omega) hl (nd l (i : Int)).b (by have := ok.b h; omega)
  have hnA := hnmz (nd l (i : Int)).a
  have hnB := hnmz (nd l (i : Int)).b
  obtain ⟨nA, enA⟩ : ∃ y, nmV l st (nd l (i : Int)).a = y := ⟨_, rfl⟩
  obtain ⟨nB, enB⟩ : ∃ y, nmV l st (nd l (i : Int)).b = y := ⟨_, rfl⟩
  obtain ⟨nm, enm⟩ : ∃ y, nmV l st (i : Int) = y := ⟨_, rfl⟩
  have hrow : rowL l st i = jn (lineW (nd l (i : Int)) nm.data.toList nA.data.toList nB.data.toList) := by unfold rowL; rw [enm, enA, enB]
  rw [enA] at hA hnA
  rw [enB] at hB hnB
  rw [enm] at hname hfz
  rw [hrow] at next
  have okp := ok.parts
  have oks := ok.shape
  obtain ⟨A, B, hof⟩ := ok.of
  clear hrow hf enA enB enm hnmz ok
  generalize hx : nd l (i : Int) = x at hm hA hB next okp oks hof
  obtain ⟨d1, d2⟩ := shape_dims oks
  have hnum := rnumbers_ev x.shape (by omega) d2
  have hnl := numsL_len x.shape
  have hnz : (bL (numsL x.shape)).size ≤ 12 := by rw [ba_size, bL_list]; omega
  have hk : x.k.size ≤ 1000 := by rw [ba_size]; exact hm.2.2.1
  have hopz : x.op.size ≤ 9 := by rw [ba_size]; exact op_len okp
  have c1 : (⟨#[32]⟩ : ByteArray).size = 1 := rfl
  have c2 : (⟨#[32, 61]⟩ : ByteArray).size = 2 := rfl
  have c3 : (⟨#[32, 61, 32]⟩ : ByteArray).size = 3 := rfl
  have c4 : (⟨#[10]⟩ : ByteArray).size = 1 := rfl
  refine EvG.loop ?_
  simp only [Tf.tapewrightref11_Text.s6, bif_if, decide_eq_true_eq, inR_iff, e0, hx, hw, Nat.ble_eq]
  refine EvG.pos (by omega) (EvG.pos (by omega) (EvG.bind hname (EvG.neg (by omega) ?_)))
  have cont : ∀ (s : ByteArray), s.data.toList = o.data.toList ++ (jn (lineW x nm.data.toList nA.data.toList nB.data.toList) ++ [10]) → EvG (fun _ L => L (((i + 1 : Nat) : Int), (s, (st, (l, loss))))) Tf.tapewrightref11_Text.s6 r := fun s h => by
    rw [← h, bL_of] at next; exact next
  have pi : seqB x.op oParam = true ∨ seqB x.op oInput = true → (((((o ++ x.op) ++ (⟨#[32]⟩ : ByteArray)) ++ nm) ++ bL (numsL x.shape)) ++ (⟨#[10]⟩ : ByteArray)).data.toList = o.data.toList ++ (jn (lineW x nm.data.toList nA.data.toList nB.data.toList) ++ [10]) := fun h => by
    unfold lineW
    rw [if_pos h]
    simp only [ba_append, bL_list, numsL_dw]
    simp [jn]
  rcases parts_cases okp with ⟨h | h | h, _⟩ | ⟨h, h0⟩ | ⟨h, h0⟩
  · exact EvG.pos (by rw [h]; decide +kernel) (EvG.pos (by omega) (EvG.pos (by simp only [sz_app, c1]; omega) (EvG.pos (by simp only [sz_app, c1]; omega) (EvG.bind hnum (EvG.pos (by simp only [sz_app, c1]; omega) (EvG.neg (by rw [h]; decide +kernel) (EvG.pos (by simp only [sz_app, c1]; omega) (cont _ (pi (.inl (by rw [h]; decide +kernel)))))))))))
  · exact EvG.neg (by rw [h]; decide +kernel) (EvG.pos (by rw [h]; decide +kernel) (EvG.pos (by omega) (EvG.pos (by simp only [sz_app, c1]; omega) (EvG.pos (by simp only [sz_app, c1]; omega) (EvG.bind hnum (EvG.pos (by simp only [sz_app, c1]; omega) (EvG.neg (by rw [h]; decide +kernel) (EvG.pos (by simp only [sz_app, c1]; omega) (cont _ (pi (.inr (by rw [h]; decide +kernel))))))))))))
  · have hcat := cat_l17 x.data hm.2.2.2.1 hm.2.2.2.2 (((((o ++ x.op) ++ (⟨#[32]⟩ : ByteArray)) ++ nm) ++ bL (numsL x.shape)) ++ (⟨#[32, 61]⟩ : ByteArray)) (by simp only [sz_app, c1, c2]; omega) st l loss (i : Int) x.data.length 0 (((((o ++ x.op) ++ (⟨#[32]⟩ : ByteArray)) ++ nm) ++ bL (numsL x.shape)) ++ (⟨#[32, 61]⟩ : ByteArray)) (by omega) (by simp)
    have hfl := flat_len x.data hm.2.2.2.2
    have hdl := hm.2.2.2.1
    refine EvG.neg (by rw [h]; decide +kernel) (EvG.neg (by rw [h]; decide +kernel) (EvG.pos (by rw [h]; decide +kernel) (EvG.pos (by omega) (EvG.pos (by simp only [sz_app, c1]; omega) (EvG.pos (by simp only [sz_app, c1]; omega) (EvG.bind hnum (EvG.pos (by simp only [sz_app, c1]; omega) (EvG.pos (by rw [h]; decide +kernel) (EvG.pos (by simp only [sz_app, c1]; omega) (EvG.bind (Ev.iter hcat) ?_))))))))))
    have hz : (bL ((((((o ++ x.op) ++ (⟨#[32]⟩ : ByteArray)) ++ nm) ++ bL (numsL x.shape)) ++ (⟨#[32, 61]⟩ : ByteArray)).data.toList ++ (x.data.map (·.data.toList)).flatMap (32 :: ·))).size ≤ 20000000 := by
      rw [ba_size, bL_list, List.length_append, ← ba_size]
      simp only [sz_app, c1, c2]; omega
    dsimp only
    rw [hw]
    refine EvG.pos (by omega) (cont _ ?_)
    unfold lineW
    rw [if_neg (by rw [h]; decide +kernel), if_pos (by rw [h]; decide +kernel)]
    simp only [ba_append, bL_list, numsL_dw, h]
    simp [jn]
  · have nT := one_not_two h
    have h23 := two_l23 x st (by omega) l hl loss (i : Int) nB (by omega) (fun q hq e => absurd (by rw [e]; exact List.any_eq_true.2 ⟨q, hq, seqB_rfl q⟩) nT) (((((o ++ nm) ++ (⟨#[32, 61, 32]⟩ : ByteArray)) ++ x.op) ++ (⟨#[32]⟩ : ByteArray)) ++ nA) (by simp only [sz_app, c1, c3]; omega) 6 0 _ (by omega) (if_neg (by simp [inL])).symm
    rw [if_neg nT] at h23
    have lw := lineW_made (x := x) (.inl h) nm.data.toList nA.data.toList nB.data.toList
    have ex : extraW x nB.data.toList = if seqB x.op oScale = true then [x.k.data.toList]
        else if seqB x.op oPower = true then [dig2 x.n.toNat]
        else if seqB x.op ⟨#[114, 101, 115, 104, 97, 112, 101]⟩ = true ∨ seqB x.op ⟨#[115, 112, 114, 101, 97, 100]⟩ = true then dwL x.shape
        else [] := by unfold extraW; rw [if_neg nT]
    have npi : ∀ q ∈ opsO, ¬ seqB q oParam = true ∧ ¬ seqB q oInput = true ∧ ¬ seqB q oConst = true := by decide +kernel
    have hpow := of_power hof
    obtain ⟨q, h5, h4⟩ := inL_cases h
    obtain ⟨n1, n2, n3⟩ := npi q h5
    refine EvG.neg (by rw [h4]; exact n1) (EvG.neg (by rw [h4]; exact n2) (EvG.neg (by rw [h4]; exact n3) (EvG.pos (by omega) (EvG.pos (by simp only [sz_app, c1]; omega) (EvG.pos (by simp only [sz_app, c3]; omega) (EvG.pos (by simp only [sz_app, c1, c3]; omega) (EvG.bind (hA (by omega)) (EvG.pos (by simp only [sz_app, c1, c3]; omega) (EvG.bind (Ev.iter h23) ?_)))))))))
    simp only [two23, hw]
    have plain : extraW x nB.data.toList = [] → ((((((o ++ nm) ++ (⟨#[32, 61, 32]⟩ : ByteArray)) ++ x.op) ++ (⟨#[32]⟩ : ByteArray)) ++ nA) ++ (⟨#[10]⟩ : ByteArray)).data.toList = o.data.toList ++ (jn (lineW x nm.data.toList nA.data.toList nB.data.toList) ++ [10]) := fun g => by
      rw [lw, g]; simp only [ba_append]; simp [jn]
    have more : ∀ (e : ByteArray), e.data.toList = (extraW x nB.data.toList).flatMap (32 :: ·) → (((((((o ++ nm) ++ (⟨#[32, 61, 32]⟩ : ByteArray)) ++ x.op) ++ (⟨#[32]⟩ : ByteArray)) ++ nA) ++ e) ++ (⟨#[10]⟩ : ByteArray)).data.toList = o.data.toList ++ (jn (lineW x nm.data.toList nA.data.toList nB.data.toList) ++ [10]) := fun e g => by
      rw [lw]; simp only [ba_append, g]; simp [jn]
    simp only [opsO, List.mem_cons, List.not_mem_nil, or_false] at h5
    rcases h5 with rfl | rfl | rfl | rfl | rfl | rfl | rfl | rfl | rfl | rfl
    · exact EvG.neg (by rw [h4]; decide +kernel) (EvG.neg (by rw [h4]; decide +kernel) (EvG.neg (by rw [h4]; decide +kernel) (EvG.neg (by rw [h4]; decide +kernel) (EvG.pos (by simp only [sz_app, c1, c3]; omega) (cont _ (plain (by rw [ex, if_neg (by rw [h4]; decide +kernel), if_neg (by rw [h4]; decide +kernel), if_neg (by rw [h4]; decide +kernel)])))))))
    · exact EvG.neg (by rw [h4]; decide +kernel) (EvG.neg (by rw [h4]; decide +kernel) (EvG.neg (by rw [h4]; decide +kernel) (EvG.neg (by rw [h4]; decide +kernel) (EvG.pos (by simp only [sz_app, c1, c3]; omega) (cont _ (plain (by rw [ex, if_neg (by rw [h4]; decide +kernel), if_neg (by rw [h4]; decide +kernel), if_neg (by rw [h4]; decide +kernel)])))))))
    · exact EvG.neg (by rw [h4]; decide +kernel) (EvG.neg (by rw [h4]; decide +kernel) (EvG.neg (by rw [h4]; decide +kernel) (EvG.neg (by rw [h4]; decide +kernel) (EvG.pos (by simp only [sz_app, c1, c3]; omega) (cont _ (plain (by rw [ex, if_neg (by rw [h4]; decide +kernel), if_neg (by rw [h4]; decide +kernel), if_neg (by rw [h4]; decide +kernel)])))))))
    · exact EvG.neg (by rw [h4]; decide +kernel) (EvG.neg (by rw [h4]; decide +kernel) (EvG.neg (by rw [h4]; decide +kernel) (EvG.neg (by rw [h4]; decide +kernel) (EvG.pos (by simp only [sz_app, c1, c3]; omega) (cont _ (plain (by rw [ex, if_neg (by rw [h4]; decide +kernel), if_neg (by rw [h4]; decide +kernel), if_neg (by rw [h4]; decide +kernel)])))))))
    · refine EvG.pos (by rw [h4]; decide +kernel) (EvG.pos (by simp only [sz_app, c1, c3]; omega) (EvG.pos (by simp only [sz_app, c1, c3]; omega) (EvG.neg (by rw [h4]; decide +kernel) (EvG.neg (by rw [h4]; decide +kernel) (EvG.neg (by rw [h4]; decide +kernel) (EvG.pos (by simp only [sz_app, c1, c3]; omega) (cont _ ?_)))))))
      have := more ((⟨#[32]⟩ : ByteArray) ++ x.k) (by rw [ex, if_pos (by rw [h4]; decide +kernel), ba_append]; simp)
      rw [← this]; simp only [ba_append]; simp
    · obtain ⟨p1, p2⟩ := hpow h4
      have hdz := digB_size x.n
      refine EvG.neg (by rw [h4]; decide +kernel) (EvG.pos (by rw [h4]; decide +kernel) (EvG.pos (by simp only [sz_app, c1, c3]; omega) (EvG.bind (digits_ev x.n p1 (by omega)) (EvG.pos (by simp only [sz_app, c1, c3]; omega) (EvG.neg (by rw [h4]; decide +kernel) (EvG.neg (by rw [h4]; decide +kernel) (EvG.pos (by simp only [sz_app, c1, c3]; omega) (cont _ ?_))))))))
      have := more ((⟨#[32]⟩ : ByteArray) ++ digB x.n) (by rw [ex, if_neg (by rw [h4]; decide +kernel), if_pos (by rw [h4]; decide +kernel), ba_append]; unfold digB; rw [bL_list]; simp)
      rw [← this]; simp only [ba_append]; simp
    · exact EvG.neg (by rw [h4]; decide +kernel) (EvG.neg (by rw [h4]; decide +kernel) (EvG.neg (by rw [h4]; decide +kernel) (EvG.neg (by rw [h4]; decide +kernel) (EvG.pos (by simp only [sz_app, c1, c3]; omega) (cont _ (plain (by rw [ex, if_neg (by rw [h4]; decide +kernel), if_neg (by rw [h4]; decide +kernel), if_neg (by rw [h4]; decide +kernel)])))))))
    · exact EvG.neg (by rw [h4]; decide +kernel) (EvG.neg (by rw [h4]; decide +kernel) (EvG.neg (by rw [h4]; decide +kernel) (EvG.neg (by rw [h4]; decide +kernel) (EvG.pos (by simp only [sz_app, c1, c3]; omega) (cont _ (plain (by rw [ex, if_neg (by rw [h4]; decide +kernel), if_neg (by rw [h4]; decide +kernel), if_neg (by rw [h4]; decide +kernel)])))))))
    · exact EvG.neg (by rw [h4]; decide +kernel) (EvG.neg (by rw [h4]; decide +kernel) (EvG.pos (by rw [h4]; decide +kernel) (EvG.bind hnum (EvG.pos (by simp only [sz_app, c1, c3]; omega) (EvG.pos (by simp only [sz_app, c1, c3]; omega) (cont _ (more _ (by rw [ex, if_neg (by rw [h4]; decide +kernel), if_neg (by rw [h4]; decide +kernel), if_pos (by rw [h4]; decide +kernel), bL_list, numsL_dw]))))))))
    · exact EvG.neg (by rw [h4]; decide +kernel) (EvG.neg (by rw [h4]; decide +kernel) (EvG.neg (by rw [h4]; decide +kernel) (EvG.pos (by rw [h4]; decide +kernel) (EvG.bind hnum (EvG.pos (by simp only [sz_app, c1, c3]; omega) (EvG.pos (by simp only [sz_app, c1, c3]; omega) (cont _ (more _ (by rw [ex, if_neg (by rw [h4]; decide +kernel), if_neg (by rw [h4]; decide +kernel), if_pos (by rw [h4]; decide +kernel), bL_list, numsL_dw])))))))))
  · have h23 := two_l23 x st (by omega) l hl loss (i : Int) nB (by omega) (fun _ _ _ => hB (by omega)) (((((o ++ nm) ++ (⟨#[32, 61, 32]⟩ : ByteArray)) ++ x.op) ++ (⟨#[32]⟩ : ByteArray)) ++ nA) (by simp only [sz_app, c1, c3]; omega) 6 0 _ (by omega) (if_neg (by simp [inL])).symm
    rw [if_pos h] at h23
    have lw := lineW_made (x := x) (.inr h) nm.data.toList nA.data.toList nB.data.toList
    have ex : extraW x nB.data.toList = [nB.data.toList] := by unfold extraW; rw [if_pos h]
    have npi : ∀ q ∈ opsT, ¬ seqB q oParam = true ∧ ¬ seqB q oInput = true ∧ ¬ seqB q oConst = true ∧ ¬ seqB q oScale = true ∧ ¬ seqB q oPower = true ∧ ¬ seqB q ⟨#[114, 101, 115, 104, 97, 112, 101]⟩ = true ∧ ¬ seqB q ⟨#[115, 112, 114, 101, 97, 100]⟩ = true := by decide +kernel
    obtain ⟨q, h5, h4⟩ := inL_cases h
    obtain ⟨n1, n2, n3, n4, n5, n6, n7⟩ := npi q h5
    refine EvG.neg (by rw [h4]; exact n1) (EvG.neg (by rw [h4]; exact n2) (EvG.neg (by rw [h4]; exact n3) (EvG.pos (by omega) (EvG.pos (by simp only [sz_app, c1]; omega) (EvG.pos (by simp only [sz_app, c3]; omega) (EvG.pos (by simp only [sz_app, c1, c3]; omega) (EvG.bind (hA (by omega)) (EvG.pos (by simp only [sz_app, c1, c3]; omega) (EvG.bind (Ev.iter h23) ?_)))))))))
    simp only [two23, hw]
    refine EvG.neg (by rw [h4]; exact n4) (EvG.neg (by rw [h4]; exact n5) (EvG.neg (by rw [h4]; exact n6) (EvG.neg (by rw [h4]; exact n7) (EvG.pos (by simp only [sz_app, c1, c3]; omega) (cont _ ?_)))))
    rw [lw, ex]; simp only [ba_append]; simp [jn]
theorem rtext_l6 (hl : l.length ≤ 99) (hs : ∀ y ∈ l, smallN y) (hst : st.size ≤ 32) (ok : ∀ i, i < l.length → OkN l i) : ∀ (d i : Nat), i + d = l.length → (rowsL l st i).length ≤ 80001 * i →
    EvG (fun _ L => L ((i : Int), (bL (rowsL l st i), (st, (l, loss))))) Tf.tapewrightref11_Text.s6 (if ((namesV l st).drop i).all fitS = true then .inr (l, (loss, (st, bL (rowsL l st l.length)))) else .inl (⟨#[]⟩, false)) := by
  intro d
  induction d with
  | zero =>
    intro i hi hb
    have hn := namesV_len l st
    rw [List.drop_eq_nil_of_le (by omega), if_pos (show ([] : List ByteArray).all fitS = true from rfl)]
    have e : i = l.length := by omega
    subst e
    refine EvG.loop ?_
    simp only [Tf.tapewrightref11_Text.s6, bif_if, decide_eq_true_eq]
    exact EvG.neg (by omega) (EvG.now _)
  | succ d ih =>
    intro i hi hb
    have hlt : i < l.length := by omega
    have hrl := row_len hlt hs hst (ok i hlt)
    have h1 : ([10] : List UInt8).length = 1 := rfl
    have ih := ih (i + 1) (by omega) (by rw [rowsL_succ, List.length_append, List.length_append]; omega)
    rw [namesV_drop l st i hlt, List.all_cons]
    rw [rowsL_succ] at ih
    cases hf : fitS (nmV l st (i : Int)) with
    | false =>
      have hfz := of_decide_eq_false hf
      refine EvG.loop ?_
      simp only [Tf.tapewrightref11_Text.s6, bif_if, decide_eq_true_eq, inR_iff]
      exact EvG.pos (by omega) (EvG.pos (by omega) (EvG.bind (rname11_ev l loss st (by omega) hl (i : Int) (by omega)) (EvG.pos (by omega) (EvG.now _))))
    | true =>
      rw [Bool.true_and]
      refine rrow_ev hl hs hst hlt (ok i hlt) (by rw [ba_size, bL_list]; omega) hf ?_
      rw [bL_list]; exact ih
end
theorem rgtext_ev {l : List VI.Node} {loss : Int} (hl : l.length ≤ 99) (hs : ∀ y ∈ l, smallN y) (hg : graphV l loss = true) : Ev (fun F => Tf.tapewrightref11_Text.f F (l, loss)) (match textV l loss with | some s => (s, true) | none => (⟨#[]⟩, false)) := by
  obtain ⟨⟨_, g2, g3, _⟩, ok⟩ := graph_facts hg
  have hst := stemV_size l
  have h2 := rstem_go l loss hl hg hs 31 0 (by omega)
  have h6 := rtext_l6 (loss := loss) hl hs hst ok l.length 0 (by omega) (by simp [rowsL])
  rw [List.drop_zero] at h6
  have h6 : EvG (fun _ L => L ((0 : Int), ((⟨#[]⟩ : ByteArray), (stemV l, (l, loss))))) Tf.tapewrightref11_Text.s6 (if (namesV l (stemV l)).all fitS = true then .inr (l, (loss, (stemV l, bL (rowsL l (stemV l) l.length)))) else .inl (⟨#[]⟩, false)) := h6
  simp only [Tf.tapewrightref11_Text.f, bif_if, Nat.ble_eq]
  refine Ev.bind (Ev.iter h2) (Ev.bind (Ev.iter h6) ?_)
  unfold textV
  by_cases hf : (namesV l (stemV l)).all fitS = true
  · rw [if_pos hf, if_pos ⟨hg, hf⟩]
    have hb : (rowsL l (stemV l) l.length).length ≤ 19000000 := by
      have := textL_len (loss := loss) hl hs hst ok
      unfold textL at this
      rw [List.length_append, List.length_append] at this
      omega
    have hsz : (bL (rowsL l (stemV l) l.length)).size = (rowsL l (stemV l) l.length).length := by rw [ba_size, bL_list]
    have c5 : (⟨#[108, 111, 115, 115, 32]⟩ : ByteArray).size = 5 := rfl
    have hn := nmV_size hs hst loss
    dsimp only [sumE]
    refine Ev_pos (by omega) (Ev.bind (rname11_ev l loss (stemV l) (by omega) hl loss ⟨g2, g3⟩) (Ev_pos (by rw [sz_app, c5]; omega) (Ev_pos (by simp only [sz_app, c5]; omega) (Ev.eq ?_))))
    congr 1
    apply ba_ext
    unfold textL
    simp only [bL_list, ba_append]
    simp
  · rw [if_neg hf, if_neg (fun q => hf q.2)]
    exact Ev.now _
end Go.PL

