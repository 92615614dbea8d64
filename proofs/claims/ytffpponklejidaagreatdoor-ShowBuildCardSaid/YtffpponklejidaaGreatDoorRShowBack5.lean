import Derived.Test.YtffpponklejidaaGreatDoorRShowBack4
import Derived.KernelRfl
import Derived.Test.YtffpponklejidaaGreatDoorProg
import Derived.WalkKit
import Derived.WalkSpells
import Derived.Shelf.Strings.BuilderK
import Derived.Below
import Derived.Shelf.GgClosure.StringsIndexFuncTop
import Derived.Ground.GgwProg
import Derived.Shelf.Strings.SlTrimAscii
import Derived.Lib.IndexBytes
import Derived.Shelf.Strings.Search2
import Derived.Lib.SplitLaws
import Derived.Laws.RangeString
import Derived.Laws.RangeAny
import Derived.Lib.SliceRun
import Derived.Shelf.Strconv.AtoiAll
import Derived.Shelf.Strconv.Itoa3
import Derived.Shelf.Strings.Count
import Derived.Shelf.Strings.OnBuilder
import Derived.MapKept
import Derived.ChangeMaps3
import Derived.Carry
import Derived.Laws.CopyRow
import Derived.Laws.MakeOwn
import Derived.Laws.Tables
import Derived.Great.BuildSlice
import Derived.DataElems
import Derived.Laws.AppendOwn
import Derived.Laws.Entries
import Derived.Laws.Cells
import Derived.Laws.Append
import Derived.Laws.BytesString
import Derived.Calls
import Derived.Orders
import Derived.RowKit
import Derived.Laws.World
import GoSem.Core.Region
import GoSem.Core.View
import GoSem.Op.String
import GoSem.Core.Code
set_option linter.unusedVariables false
set_option linter.unusedSimpArgs false
namespace Go.PL
open Go Go.VI
def nmV (l : List VI.Node) (st : ByteArray) (i : Int) : ByteArray := if seqB (nd l i).name ⟨#[]⟩ = true then st ++ digB i else (nd l i).name
def namesV (l : List VI.Node) (st : ByteArray) : List ByteArray := (List.range l.length).map fun i => nmV l st ((i : Nat) : Int)
def fitS (s : ByteArray) : Bool := decide (s.size ≤ 8)
theorem namesV_len (l : List VI.Node) (st : ByteArray) : (namesV l st).length = l.length := by simp [namesV]
theorem namesV_get {l : List VI.Node} {st : ByteArray} {i : Int} (h : 0 ≤ i ∧ i < (l.length : Int)) : (namesV l st).getD i.toNat (dflt 4) = nmV l st i := by
  have hlt : i.toNat < l.length := by omega
  unfold namesV
  rw [List.getD_eq_getElem?_getD, List.getElem?_map, List.getElem?_range hlt]
  simp only [Option.map_some, Option.getD_some]
  congr 1; omega
theorem namesV_take (l : List VI.Node) (st : ByteArray) (i : Nat) (hi : i < l.length) : (namesV l st).take (i + 1) = (namesV l st).take i ++ [nmV l st (i : Int)] := by
  have hlt : i < (namesV l st).length := by rw [namesV_len]; exact hi
  rw [List.take_succ_eq_append_getElem hlt]
  simp [namesV]
theorem namesV_drop (l : List VI.Node) (st : ByteArray) (i : Nat) (hi : i < l.length) : (namesV l st).drop i = nmV l st (i : Int) :: (namesV l st).drop (i + 1) := by
  have hlt : i < (namesV l st).length := by rw [namesV_len]; exact hi
  rw [List.drop_eq_getElem_cons hlt]
  simp [namesV]
theorem text_l6 (l : List VI.Node) (loss : Int) (st : ByteArray) (hl : l.length ≤ 99) (hs : ∀ y ∈ l, smallN y) (hst : st.size ≤ 32) : ∀ (d i : Nat), i + d = l.length →
    EvG (fun _ L => L ((i : Int), ((namesV l st).take i, (st, (l, (l, (loss, (l.length : Int)))))))) Tf.show_Text.s6 (if ((namesV l st).drop i).all fitS = true then .inr (namesV l st, (l, loss)) else .inl (⟨#[]⟩, 1)) := by
  intro d
  induction d with
  | zero =>
    intro i hi
    have hn := namesV_len l st
    rw [List.take_of_length_le (by omega), List.drop_eq_nil_of_le (by omega), if_pos (show ([] : List ByteArray).all fitS = true from rfl)]
    refine EvG.step (fun F L => ?_) (EvG.now _)
    dsimp only [Tf.show_Text.s6]
    simp only [bif_if, decide_eq_true_eq]
    rw [if_neg (by omega)]
  | succ d ih =>
    intro i hi
    have hlt : i < l.length := by omega
    have e0 : ∀ j : Int, l.getD j.toNat (dflt 6) = nd l j := fun _ => rfl
    have hw : IntKind.i64.wrap ((i : Int) + 1) = ((i + 1 : Nat) : Int) := by rw [w64 (by omega) (by omega), succ_cast]
    have hm : smallN (nd l (i : Int)) := hs _ (nd_mem (by omega))
    have ih := ih (i + 1) (by omega)
    rw [namesV_take l st i hlt] at ih
    rw [namesV_drop l st i hlt, List.all_cons]
    have htl : ((namesV l st).take i).length ≤ 99 := by rw [List.length_take, namesV_len]; omega
    obtain ⟨q, hq⟩ : ∃ q, ((namesV l st).drop (i + 1)).all fitS = q := ⟨_, rfl⟩
    rw [hq] at ih ⊢
    have hnz := ba_size (nd l (i : Int)).name
    have hds := digB_size (i : Int)
    refine EvG.loop ?_
    simp only [Tf.show_Text.s6, bif_if, decide_eq_true_eq, inR_iff, e0, hw, Nat.ble_eq, set_oneB]
    refine EvG.pos (by omega) (EvG.pos (by omega) ?_)
    unfold nmV at ih ⊢
    by_cases c : seqB (nd l (i : Int)).name ⟨#[]⟩ = true
    · rw [if_pos c] at ih ⊢
      refine EvG.pos c (EvG.bind (itoa_ev (i : Int) (by omega) (by omega)) (EvG.pos (by omega) ?_))
      by_cases c2 : (((st ++ digB (i : Int)).size : Nat) : Int) > 8
      · have : fitS (st ++ digB (i : Int)) = false := decide_eq_false (by omega)
        rw [this, Bool.false_and, if_neg (by simp)]
        exact EvG.pos c2 (EvG.now _)
      · have : fitS (st ++ digB (i : Int)) = true := decide_eq_true (by omega)
        rw [this, Bool.true_and]
        exact EvG.neg c2 (EvG.pos (by omega) ih)
    · rw [if_neg c] at ih ⊢
      refine EvG.neg c ?_
      by_cases c2 : (((nd l (i : Int)).name.size : Nat) : Int) > 8
      · have : fitS (nd l (i : Int)).name = false := decide_eq_false (by omega)
        rw [this, Bool.false_and, if_neg (by simp)]
        exact EvG.pos c2 (EvG.now _)
      · have : fitS (nd l (i : Int)).name = true := decide_eq_true (by omega)
        rw [this, Bool.true_and]
        exact EvG.neg c2 (EvG.pos (by omega) ih)
def rowL (l : List VI.Node) (st : ByteArray) (i : Nat) : List UInt8 := jn (lineW (nd l (i : Int)) (nmV l st (i : Int)).data.toList (nmV l st (nd l (i : Int)).a).data.toList (nmV l st (nd l (i : Int)).b).data.toList)
def rowsL (l : List VI.Node) (st : ByteArray) (i : Nat) : List UInt8 := (List.range i).flatMap fun j => rowL l st j ++ [10]
theorem rowsL_succ (l : List VI.Node) (st : ByteArray) (i : Nat) : rowsL l st (i + 1) = rowsL l st i ++ (rowL l st i ++ [10]) := by
  unfold rowsL; rw [List.range_succ, List.flatMap_append]; simp
def wl (ws : List (List UInt8)) : Nat := (ws.map fun w => w.length + 1).sum
theorem jn_len (ws : List (List UInt8)) : (jn ws).length ≤ wl ws := by
  cases ws with
  | nil => simp [jn]
  | cons w r =>
    have h : (r.flatMap (32 :: ·)).length = wl r := by
      unfold wl
      induction r with
      | nil => rfl
      | cons x r ih => rw [List.flatMap_cons, List.length_append, List.length_cons, ih, List.map_cons, List.sum_cons]
    unfold jn
    rw [List.length_append, h]
    unfold wl
    rw [List.map_cons, List.sum_cons]
    omega
theorem wl_cons (w : List UInt8) (r : List (List UInt8)) : wl (w :: r) = w.length + 1 + wl r := by unfold wl; rw [List.map_cons, List.sum_cons]
theorem wl_app (a b : List (List UInt8)) : wl (a ++ b) = wl a + wl b := by unfold wl; rw [List.map_append, List.sum_append]
theorem wl_le {k : Nat} : ∀ (r : List (List UInt8)), (∀ w ∈ r, w.length ≤ k) → wl r ≤ (k + 1) * r.length
  | [], _ => by simp [wl]
  | w :: r, h => by
    have := wl_le r (fun y hy => h y (by simp [hy]))
    have h1 := h w (by simp)
    rw [wl_cons, List.length_cons, Nat.mul_add]; omega
theorem wl_dw (s : List Int) : wl (dwL s) ≤ 3 * s.length := by
  have := wl_le (k := 2) (dwL s) (fun w hw => by
    obtain ⟨n, _, rfl⟩ := List.mem_map.1 hw
    exact (dig2_len _).2)
  unfold dwL at this ⊢
  rwa [List.length_map] at this
theorem op_len {op : ByteArray} (h : (partsV op).2 = true) : op.data.toList.length ≤ 9 := by
  have : inL op opsZ = true ∨ inL op opsO = true ∨ inL op opsT = true := by
    unfold partsV at h
    split at h
    · exact .inl ‹_›
    · split at h
      · exact .inr (.inl ‹_›)
      · split at h
        · exact .inr (.inr ‹_›)
        · cases h
  rcases this with h | h | h <;> obtain ⟨o, h3, h4⟩ := inL_cases h <;> rw [h4] <;> clear h4 <;> revert o <;> decide +kernel
theorem line_wl {x : VI.Node} {nm nA nB : List UInt8} (hx : smallN x) (hp : (partsV x.op).2 = true) (h1 : nm.length ≤ 40) (h2 : nA.length ≤ 40) (h3 : nB.length ≤ 40) : wl (lineW x nm nA nB) ≤ 80000 := by
  obtain ⟨_, hsh, hk, hdl, hds⟩ := hx
  have hop := op_len hp
  have hw := wl_dw x.shape
  have hd := wl_le (k := 1000) (x.data.map (·.data.toList)) (fun w hw => by
    obtain ⟨s, hs, rfl⟩ := List.mem_map.1 hw
    exact hds s hs)
  rw [List.length_map] at hd
  unfold lineW
  split
  · rw [wl_cons, wl_cons]; omega
  · split
    · have e5 : oConst.data.toList.length = 5 := rfl
      have e1 : ([61] : List UInt8).length = 1 := rfl
      rw [wl_cons, wl_cons, wl_app, wl_cons]; omega
    · have e1 : ([61] : List UInt8).length = 1 := rfl
      have ex : wl (extraW x nB) ≤ 1100 := by
        have n0 : wl [] = 0 := rfl
        have hdn := (dig2_len x.n.toNat).2
        unfold extraW
        split
        · rw [wl_cons, n0]; omega
        · split
          · rw [wl_cons, n0]; omega
          · split
            · rw [wl_cons, n0]; omega
            · split
              · omega
              · rw [n0]; omega
      rw [wl_cons, wl_cons, wl_cons, wl_cons]; omega
theorem line_len {x : VI.Node} {nm nA nB : List UInt8} (hx : smallN x) (hp : (partsV x.op).2 = true) (h1 : nm.length ≤ 40) (h2 : nA.length ≤ 40) (h3 : nB.length ≤ 40) : (jn (lineW x nm nA nB)).length ≤ 80000 := Nat.le_trans (jn_len _) (line_wl hx hp h1 h2 h3)
theorem nmV_size {l : List VI.Node} {st : ByteArray} (hs : ∀ y ∈ l, smallN y) (hst : st.size ≤ 32) (i : Int) : (nmV l st i).size ≤ 40 := by
  unfold nmV
  split
  · have := digB_size i; rw [sz_app]; omega
  · rw [ba_size]
    by_cases h : 0 ≤ i ∧ i < (l.length : Int)
    · have := (hs _ (nd_mem h)).1; omega
    · by_cases h2 : i.toNat < l.length
      · have hm : nd l i ∈ l := by
          unfold nd
          rw [List.getD_eq_getElem?_getD, List.getElem?_eq_getElem h2]
          exact List.getElem_mem h2
        have := (hs _ hm).1; omega
      · unfold nd
        rw [List.getD_eq_getElem?_getD, List.getElem?_eq_none (by omega)]
        exact Nat.zero_le _
theorem of_const {x : VI.Node} {A B : List Int} (h : (ofV x A B).2 = true) (e : x.op = oConst) (hr : rightS x.shape = true) : x.data ≠ [] := by
  unfold ofV at h
  rw [if_pos (by rw [e]; decide +kernel)] at h
  simp only [Bool.and_eq_true, decide_eq_true_eq] at h
  have := sizeS_pos hr
  intro q
  rw [q] at h
  have h1 := h.1
  simp at h1
  omega
theorem of_power {x : VI.Node} {A B : List Int} (h : (ofV x A B).2 = true) (e : x.op = oPower) : 0 ≤ x.n ∧ x.n ≤ 6 := by
  unfold ofV at h
  rw [if_neg (by rw [e]; decide +kernel), if_neg (by rw [e]; decide +kernel), if_neg (by rw [e]; decide +kernel), if_neg (by rw [e]; decide +kernel), if_neg (by rw [e]; decide +kernel), if_pos (by rw [e]; decide +kernel)] at h
  simp only [Bool.and_eq_true, decide_eq_true_eq] at h
  exact h
theorem parts_cases {op : ByteArray} (h : (partsV op).2 = true) : ((op = oParam ∨ op = oInput ∨ op = oConst) ∧ (partsV op).1 = 0) ∨ (inL op opsO = true ∧ (partsV op).1 = 1) ∨ (inL op opsT = true ∧ (partsV op).1 = 2) := by
  unfold partsV at h ⊢
  by_cases h1 : inL op opsZ = true
  · left
    rw [if_pos h1]
    obtain ⟨o, h3, h4⟩ := inL_cases h1
    simp only [opsZ, List.mem_cons, List.not_mem_nil, or_false] at h3
    exact ⟨by rw [h4]; exact h3, rfl⟩
  · rw [if_neg h1] at h ⊢
    by_cases h2 : inL op opsO = true
    · rw [if_pos h2]; exact .inr (.inl ⟨h2, rfl⟩)
    · rw [if_neg h2] at h ⊢
      by_cases h3 : inL op opsT = true
      · rw [if_pos h3]; exact .inr (.inr ⟨h3, rfl⟩)
      · rw [if_neg h3] at h; cases h
theorem one_not_two {op : ByteArray} (h : inL op opsO = true) : ¬ inL op opsT = true := by
  obtain ⟨o, h3, h4⟩ := inL_cases h
  have : ∀ o ∈ opsO, ¬ inL o opsT = true := by decide +kernel
  rw [h4]; exact this o h3
theorem row_ev {l : List VI.Node} {st : ByteArray} {i : Nat} (hi : i < l.length) (hl : l.length ≤ 99) (hs : ∀ y ∈ l, smallN y) (hst : st.size ≤ 32) (ok : OkN l i) :
    Ev (fun F => Tf.show_line.f F (nd l (i : Int), ((namesV l st).getD ((i : Nat) : Int).toNat (dflt 4), namesV l st))) (bL (rowL l st i)) := by
  have hm : smallN (nd l (i : Int)) := hs _ (nd_mem (by omega))
  have hn := nmV_size hs hst
  have hns : ∀ s ∈ namesV l st, s.size ≤ 40 := fun s h => by
    obtain ⟨j, _, rfl⟩ := List.mem_map.1 h
    exact hn _
  obtain ⟨A, B, hof⟩ := ok.of
  rw [namesV_get (by omega)]
  unfold rowL
  rcases parts_cases ok.parts with ⟨h | h | h, h1⟩ | ⟨h, h1⟩ | ⟨h, h1⟩
  · exact line_pi hm ok.shape (hn _) (.inl h) _ _
  · exact line_pi hm ok.shape (hn _) (.inr h) _ _
  · exact line_const hm ok.shape (hn _) h (of_const hof h ok.shape) _ _
  · have ha := ok.a (by omega)
    have := line_op (nm := nmV l st (i : Int)) (names := namesV l st) hm ok.shape (hn _) hns (.inl h) (by rw [namesV_len]; omega) (fun q => absurd q (one_not_two h)) (of_power hof)
    rw [namesV_get (by omega)] at this
    have e : lineW (nd l (i : Int)) (nmV l st (i : Int)).data.toList (nmV l st (nd l (i : Int)).a).data.toList ((namesV l st).getD (nd l (i : Int)).b.toNat (dflt 4)).data.toList = lineW (nd l (i : Int)) (nmV l st (i : Int)).data.toList (nmV l st (nd l (i : Int)).a).data.toList (nmV l st (nd l (i : Int)).b).data.toList := by
      have hT := one_not_two h
      unfold lineW extraW
      rw [if_neg hT, if_neg hT]
    rw [e] at this
    exact this
  · have ha := ok.a (by omega)
    have hb := ok.b (by omega)
    have := line_op (nm := nmV l st (i : Int)) (names := namesV l st) hm ok.shape (hn _) hns (.inr h) (by rw [namesV_len]; omega) (fun _ => by rw [namesV_len]; omega) (of_power hof)
    rw [namesV_get (by omega), namesV_get (by omega)] at this
    exact this
theorem row_len {l : List VI.Node} {st : ByteArray} {i : Nat} (hi : i < l.length) (hs : ∀ y ∈ l, smallN y) (hst : st.size ≤ 32) (ok : OkN l i) : (rowL l st i).length ≤ 80000 := by
  have hn := nmV_size hs hst
  have h1 := hn (i : Int)
  have h2 := hn (nd l (i : Int)).a
  have h3 := hn (nd l (i : Int)).b
  rw [ba_size] at h1 h2 h3
  exact line_len (hs _ (nd_mem (by omega))) ok.parts h1 h2 h3
def ints (l : List UInt8) : List Int := l.map fun c => (c.toNat : Int)
theorem bytesOf_ints (s : ByteArray) : bytesOf s = ints s.data.toList := rfl
theorem strOf_ints (l : List UInt8) : strOf (ints l) = bL l := by
  unfold strOf ints bL
  rw [List.map_map]
  congr 2
  apply List.ext_getElem?
  intro i
  rw [List.getElem?_map]
  cases l[i]? with
  | none => rfl
  | some c => simp
theorem allByte_ints (l : List UInt8) : allByte (ints l) = true := by
  unfold allByte ints
  rw [List.all_eq_true]
  intro n hn
  obtain ⟨c, _, rfl⟩ := List.mem_map.1 hn
  have := c.toNat_lt
  simp only [isByte, Bool.and_eq_true, decide_eq_true_eq]
  omega
theorem text_l17 (l : List VI.Node) (loss : Int) (st : ByteArray) (hl : l.length ≤ 99) (hs : ∀ y ∈ l, smallN y) (hst : st.size ≤ 32) (ok : ∀ i, i < l.length → OkN l i) : ∀ (d i : Nat), i + d = l.length → (rowsL l st i).length ≤ 80001 * i →
    EvG (fun _ L => L ((i : Int), (ints (rowsL l st i), (namesV l st, (l, (l, (loss, (l.length : Int)))))))) Tf.show_Text.s17 (l, (loss, (namesV l st, ints (rowsL l st l.length)))) ∧ (rowsL l st l.length).length ≤ 80001 * l.length := by
  intro d
  induction d with
  | zero =>
    intro i hi hb
    have e : i = l.length := by omega
    subst e
    refine ⟨EvG.step (fun F L => ?_) (EvG.now _), hb⟩
    dsimp only [Tf.show_Text.s17]
    simp only [bif_if, decide_eq_true_eq]
    rw [if_neg (by omega)]
  | succ d ih =>
    intro i hi hb
    have hlt : i < l.length := by omega
    have e0 : ∀ j : Int, l.getD j.toNat (dflt 6) = nd l j := fun _ => rfl
    have hw : IntKind.i64.wrap ((i : Int) + 1) = ((i + 1 : Nat) : Int) := by rw [w64 (by omega) (by omega), succ_cast]
    have hrow := row_ev hlt hl hs hst (ok i hlt)
    have hrl := row_len hlt hs hst (ok i hlt)
    have hnl := namesV_len l st
    have hsz : (bL (rowL l st i)).size = (rowL l st i).length := by rw [ba_size, bL_list]
    have hsz2 : (bL (rowL l st i) ++ (⟨#[10]⟩ : ByteArray)).size = (rowL l st i).length + 1 := by rw [sz_app, hsz]; rfl
    have eb : bytesOf (bL (rowL l st i) ++ (⟨#[10]⟩ : ByteArray)) = ints (rowL l st i ++ [10]) := by rw [bytesOf_ints, ba_append, bL_list]
    have hlen : (ints (rowL l st i ++ [10])).length = (rowL l st i).length + 1 := by simp [ints]
    have hli : (ints (rowsL l st i)).length = (rowsL l st i).length := by simp [ints]
    obtain ⟨g1, g2⟩ := ih (i + 1) (by omega) (by rw [rowsL_succ, List.length_append, List.length_append]; simp; omega)
    rw [rowsL_succ] at g1
    have ei : ints (rowsL l st i ++ (rowL l st i ++ [10])) = ints (rowsL l st i) ++ ints (rowL l st i ++ [10]) := by simp [ints]
    rw [ei] at g1
    refine ⟨EvG.loop ?_, g2⟩
    simp only [Tf.show_Text.s17, bif_if, decide_eq_true_eq, inR_iff, e0, hw, Nat.ble_eq, Bool.true_and, Bool.and_true]
    refine EvG.pos (by omega) (EvG.pos (by omega) (EvG.pos (by omega) (EvG.bind hrow (EvG.pos (by omega) (EvG.pos (by omega) (EvG.pos ?_ ?_))))))
    · rw [eb, hlen, hli]; omega
    · rw [eb]; exact g1
def textL (l : List VI.Node) (loss : Int) (st : ByteArray) : List UInt8 := rowsL l st l.length ++ (oLoss'.data.toList ++ 32 :: (nmV l st loss).data.toList) ++ [10]
def textV (l : List VI.Node) (loss : Int) : Option ByteArray := if graphV l loss = true ∧ (namesV l (stemV l)).all fitS = true then some (bL (textL l loss (stemV l))) else none
theorem showText_ev (l : List VI.Node) (loss : Int) (hl : l.length ≤ 99) (hs : ∀ y ∈ l, smallN y) : Ev (fun F => Tf.show_Text.f F (l, loss)) (match textV l loss with | some s => (s, 0) | none => (⟨#[]⟩, 1)) := by
  have hst := stemV_size l
  unfold textV
  simp only [Tf.show_Text.f, bif_if, Nat.ble_eq, inR_iff, Bool.not_eq_true', Bool.true_and]
  refine Ev.bind (graph_ev l loss hs (by omega)) ?_
  by_cases hg : graphV l loss = true
  · obtain ⟨⟨g1, g2, g3, _⟩, ok⟩ := graph_facts hg
    refine Ev_neg (by rw [hg]; simp) (Ev.bind (stem_ev l loss hl hs) ?_)
    have h6 := text_l6 l loss (stemV l) hl hs hst l.length 0 (by omega)
    rw [List.take_zero, List.drop_zero] at h6
    refine Ev.bind (Ev.iter h6) ?_
    by_cases hf : (namesV l (stemV l)).all fitS = true
    · rw [if_pos hf, if_pos ⟨hg, hf⟩]
      obtain ⟨h17, hb⟩ := text_l17 l loss (stemV l) hl hs hst ok l.length 0 (by omega) (by simp [rowsL])
      have h17 : EvG (fun _ L => L ((0 : Int), (([] : List Int), (namesV l (stemV l), (l, (l, (loss, (l.length : Int)))))))) Tf.show_Text.s17 (l, (loss, (namesV l (stemV l), ints (rowsL l (stemV l) l.length)))) := h17
      refine Ev.bind (Ev.iter h17) ?_
      have hli : (ints (rowsL l (stemV l) l.length)).length = (rowsL l (stemV l) l.length).length := by simp [ints]
      have hpos : 1 ≤ (rowsL l (stemV l) l.length).length := by
        have e : rowsL l (stemV l) l.length = rowsL l (stemV l) (l.length - 1) ++ (rowL l (stemV l) (l.length - 1) ++ [10]) := by
          rw [← rowsL_succ]; congr 1; omega
        rw [e]; simp; omega
      have hn := nmV_size hs hst loss
      have hsz : (bL (rowsL l (stemV l) l.length)).size = (rowsL l (stemV l) l.length).length := by rw [ba_size, bL_list]
      have c5 : (⟨#[108, 111, 115, 115, 32]⟩ : ByteArray).size = 5 := rfl
      dsimp only
      rw [strOf_ints, namesV_get (by omega)]
      refine Ev_pos (by rw [allByte_ints]; simp only [Bool.and_true, Bool.and_eq_true, Nat.ble_eq]; omega) (Ev_pos (by rw [hsz]; omega) (Ev_pos (by rw [namesV_len]; omega) (Ev_pos (by rw [sz_app, hsz, c5]; omega) (Ev_pos (by rw [sz_app, sz_app, hsz, c5]; omega) (Ev.eq ?_)))))
      congr 1
      apply ba_ext
      unfold textL
      simp only [bL_list, ba_append]
      simp
    · rw [if_neg hf, if_neg (fun q => hf q.2)]
      exact Ev.now _
  · rw [if_neg (fun q => hg q.1)]
    exact Ev_pos (by simpa using hg) (Ev.now _)
theorem showAwake_ev : Ev (fun F => Tf.tapewrightlaw11_awake.f F ()) true := by
  have h1 := showText_ev [⟨oParam, 0, 0, ⟨#[119]⟩, [], ByteArray.empty, 0, []⟩] 0 (by simp) (fun y hy => by
    simp at hy; subst hy; exact ⟨by decide, by decide, by decide, by decide, fun s hs => by simp at hs⟩)
  have h2 := showText_ev [] 0 (by simp) (fun y hy => by simp at hy)
  simp only [Tf.tapewrightlaw11_awake.f, bif_if, beq_iff_eq, set_oneN]
  refine Ev.bind h1 (Ev.bind h2 ?_)
  exact Ev_pos (by decide +kernel) (Ev_pos (by decide +kernel) (Ev.eq (by decide +kernel)))
theorem textV_some {l : List VI.Node} {loss : Int} {s : ByteArray} (h : textV l loss = some s) : graphV l loss = true ∧ (namesV l (stemV l)).all fitS = true ∧ s = bL (textL l loss (stemV l)) := by
  unfold textV at h
  split at h
  · rename_i hh; cases h; exact ⟨hh.1, hh.2, rfl⟩
  · cases h
end Go.PL

namespace Go.PL
open Go Go.VI
def okC (b : UInt8) : Prop := b ≠ 10 ∧ b ≠ 32 ∧ b ≠ 35
def okW (w : List UInt8) : Prop := w ≠ [] ∧ ∀ b ∈ w, okC b
theorem okC_of {b : UInt8} (h : 45 ≤ b.toNat) : okC b := by
  refine ⟨fun e => ?_, fun e => ?_, fun e => ?_⟩ <;> subst e <;> revert h <;> decide
theorem digs_ok {l : List UInt8} (h : digs l) : ∀ b ∈ l, okC b := fun b hb => okC_of (by have := (h b hb).1; omega)
theorem natRight_ok {s : ByteArray} (h : natRight s = true) : okW s.data.toList := by
  refine ⟨fun e => ?_, digs_ok (natRight_digs h)⟩
  unfold natRight at h
  rw [if_pos (by rw [ByteArray.toList_eq]; exact e)] at h
  cases h
theorem whole_ok {p : ByteArray} (h : wholeB p = true) : okW p.data.toList := by
  unfold wholeB at h
  rw [Bool.and_eq_true] at h
  have hn := natRight_ok h.1
  unfold trimM at hn
  by_cases hm : hasM p = true
  · rw [if_pos hm] at hn
    have hz := ba_size p
    unfold hasM at hm
    simp only [Bool.and_eq_true, decide_eq_true_eq] at hm
    have e1 : (p.extract 0 1).data.toList = [45] := by rw [seqB_iff.1 hm.2]
    rw [ba_extract, List.drop_zero] at e1
    rw [ba_extract, hz, List.take_length] at hn
    have e2 : p.data.toList = [45] ++ p.data.toList.drop 1 := by rw [← e1, List.take_append_drop]
    rw [e2]
    refine ⟨by simp, fun b hb => ?_⟩
    rcases List.mem_append.1 hb with hb | hb
    · simp at hb; subst hb; exact okC_of (by decide)
    · exact hn.2 b hb
  · rw [if_neg hm] at hn; exact hn
theorem rat_ok {s : ByteArray} (h : ratB s = true) : okW s.data.toList := by
  unfold ratB at h
  have hz := ba_size s
  dsimp only at h
  obtain ⟨q0, hq⟩ : ∃ q0, (if (cutV s).2.2 = true then (cutV s).2.1 else ⟨#[49]⟩) = q0 := ⟨_, rfl⟩
  rw [hq] at h
  by_cases h1 : wholeB (cutV s).1 = false
  · rw [if_pos h1] at h; cases h
  · rw [if_neg h1] at h
    by_cases h2 : natRight q0 = false
    · rw [if_pos h2] at h; cases h
    · have h1 : wholeB (cutV s).1 = true := by simpa using h1
      have h2 : natRight q0 = true := by simpa using h2
      rw [← hq] at h2
      clear h hq
      rcases idx_split s.data.toList 47 with ⟨e, _⟩ | ⟨w, q, e, hs, _⟩
      · have hc : cutV s = (s, ⟨#[]⟩, false) := by unfold cutV; rw [e, if_pos (by decide)]
        rw [hc] at h1
        exact whole_ok h1
      · obtain ⟨x1, x2⟩ := ext_pre s w q 47 hs
        have hc : cutV s = (bL w, bL q, true) := by
          unfold cutV
          rw [e, if_neg (show ¬ ((w.length : Int) < 0) by omega), Int.toNat_natCast, x1, x2]
        rw [hc] at h1 h2
        rw [if_pos rfl] at h2
        have a1 := whole_ok h1
        have a2 := natRight_ok h2
        rw [bL_list] at a1 a2
        rw [hs]
        refine ⟨by simp, fun b hb => ?_⟩
        rcases List.mem_append.1 hb with hb | hb
        · exact a1.2 b hb
        · rcases List.mem_cons.1 hb with rfl | hb
          · exact okC_of (by decide)
          · exact a2.2 b hb
theorem letter_ok {b : UInt8} (h : letter b = true ∨ digit b = true) : okC b := by
  refine okC_of ?_
  unfold letter digit at h
  simp only [Bool.and_eq_true, decide_eq_true_eq] at h
  omega
theorem name_ok {l : List UInt8} (h : nameS l = true) : okW l := by
  unfold nameS at h
  split at h
  · cases h
  · rename_i b r
    simp only [Bool.and_eq_true, List.all_eq_true, Bool.or_eq_true, decide_eq_true_eq] at h
    refine ⟨by simp, fun x hx => ?_⟩
    rcases List.mem_cons.1 hx with rfl | hx
    · exact letter_ok (.inl h.1.1)
    · exact letter_ok (h.1.2 x hx)
theorem dig2_digit (n : Nat) (h : n < 100) : ∀ b ∈ dig2 n, digit b = true := by
  have : ∀ n : Fin 100, ∀ b ∈ dig2 n.val, digit b = true := by decide +kernel
  exact this ⟨n, h⟩
theorem dig2_ok {n : Nat} (h : n < 100) : okW (dig2 n) := ⟨fun e => by have := (dig2_len n).1; rw [e] at this; simp at this, fun b hb => letter_ok (.inr (dig2_digit n h b hb))⟩
theorem name_of_bare {x : VI.Node} {m : Int} (h : bareV x m = true) : (seqB x.op oParam = true ∨ seqB x.op oInput = true → nameS x.name.data.toList = true) ∧ (¬ (seqB x.op oParam = true ∨ seqB x.op oInput = true) → x.name = ⟨#[]⟩) := by
  unfold bareV at h
  simp only [Bool.and_eq_true, beq_iff_eq, Bool.or_eq_true] at h
  obtain ⟨⟨⟨⟨⟨⟨_, _⟩, h3⟩, h4⟩, _⟩, _⟩, _⟩ := h
  constructor
  · intro q
    rw [h3, Bool.or_eq_true]; exact q
  · intro q
    rcases h4 with h4 | h4
    · exact absurd h4 q
    · exact seqB_iff.1 h4
theorem nmV_cases {l : List VI.Node} {i : Nat} (ok : OkN l i) (st : ByteArray) : ((nd l (i : Int)).name = ⟨#[]⟩ ∧ nmV l st (i : Int) = st ++ digB (i : Int)) ∨ (nameS (nd l (i : Int)).name.data.toList = true ∧ nmV l st (i : Int) = (nd l (i : Int)).name ∧ (nd l (i : Int)).name ≠ ⟨#[]⟩) := by
  obtain ⟨h1, h2⟩ := name_of_bare ok.bare
  unfold nmV
  by_cases c : seqB (nd l (i : Int)).name ⟨#[]⟩ = true
  · rw [if_pos c]; exact .inl ⟨seqB_iff.1 c, rfl⟩
  · rw [if_neg c]
    right
    by_cases q : seqB (nd l (i : Int)).op oParam = true ∨ seqB (nd l (i : Int)).op oInput = true
    · exact ⟨h1 q, rfl, fun e => c (by rw [e]; decide +kernel)⟩
    · exact absurd (by rw [h2 q]; decide +kernel) c
theorem stm_chars (k : Nat) : ∀ b ∈ (stm k).data.toList, letter b = true := by
  rw [stm_list]
  intro b hb
  rcases List.mem_cons.1 hb with rfl | hb
  · decide
  · have := (List.mem_replicate.1 hb).2; subst this; decide
theorem nmV_name {l : List VI.Node} {i : Nat} (hi : i < 100) (ok : OkN l i) (k : Nat) (hf : (nmV l (stm k) (i : Int)).size ≤ 8) : nameS (nmV l (stm k) (i : Int)).data.toList = true := by
  rcases nmV_cases ok (stm k) with ⟨_, h⟩ | ⟨h1, h2, _⟩
  · rw [h] at hf ⊢
    rw [ba_size] at hf
    rw [ba_append] at hf ⊢
    have hc := stm_chars k
    have hd := dig2_digit i hi
    unfold digB at hf ⊢
    rw [bL_list, Int.toNat_natCast] at hf ⊢
    rw [stm_list] at hf hc ⊢
    rw [List.cons_append] at hf ⊢
    rw [List.length_cons] at hf
    unfold nameS
    simp only [Bool.and_eq_true, List.all_eq_true, Bool.or_eq_true, decide_eq_true_eq]
    refine ⟨⟨by decide, fun b hb => ?_⟩, by omega⟩
    rcases List.mem_append.1 hb with hb | hb
    · exact .inl (hc b (by simp [hb]))
    · exact .inr (hd b hb)
  · rw [h2]; exact h1
theorem nmV_ok {l : List VI.Node} {i : Nat} (hi : i < 100) (ok : OkN l i) (k : Nat) : okW (nmV l (stm k) (i : Int)).data.toList := by
  rcases nmV_cases ok (stm k) with ⟨_, h⟩ | ⟨h1, h2, _⟩
  · rw [h, ba_append]
    have hd := dig2_ok hi
    unfold digB
    rw [bL_list, Int.toNat_natCast]
    refine ⟨by rw [stm_list]; simp, fun b hb => ?_⟩
    rcases List.mem_append.1 hb with hb | hb
    · exact letter_ok (.inl (stm_chars k b hb))
    · exact hd.2 b hb
  · rw [h2]; exact name_ok h1
theorem dw_ok {s : List Int} (h : rightS s = true) : ∀ w ∈ dwL s, okW w := fun w hw => by
  obtain ⟨n, hn, rfl⟩ := List.mem_map.1 hw
  have := (shape_dims h).2 n hn
  exact dig2_ok (by omega)
theorem of_data {x : VI.Node} {A B : List Int} (h : (ofV x A B).2 = true) (e : x.op = oConst) : x.data.all ratB = true := by
  unfold ofV at h
  rw [if_pos (by rw [e]; decide +kernel)] at h
  simp only [Bool.and_eq_true, decide_eq_true_eq] at h
  exact h.2
theorem of_scale {x : VI.Node} {A B : List Int} (h : (ofV x A B).2 = true) (e : x.op = oScale) : ratB x.k = true := by
  unfold ofV at h
  rw [if_neg (by rw [e]; decide +kernel), if_neg (by rw [e]; decide +kernel), if_neg (by rw [e]; decide +kernel), if_neg (by rw [e]; decide +kernel), if_pos (by rw [e]; decide +kernel)] at h
  exact h
theorem ops_ok {op : ByteArray} (h : (partsV op).2 = true) : okW op.data.toList := by
  have go : ∀ {L : List ByteArray}, (L.all fun o => !o.data.toList.isEmpty && o.data.toList.all letter) = true → inL op L = true → okW op.data.toList := fun {L} hL h => by
    obtain ⟨o, h3, h4⟩ := inL_cases h
    have := List.all_eq_true.1 hL o h3
    simp only [Bool.and_eq_true, List.all_eq_true, Bool.not_eq_true', List.isEmpty_eq_false_iff] at this
    rw [h4]
    exact ⟨this.1, fun b hb => letter_ok (.inl (this.2 b hb))⟩
  rcases parts_cases h with ⟨h, _⟩ | ⟨h, _⟩ | ⟨h, _⟩
  · refine go (L := opsZ) (by decide +kernel) ?_
    rcases h with e | e | e <;> rw [e] <;> decide +kernel
  · exact go (by decide +kernel) h
  · exact go (by decide +kernel) h
theorem line_words {x : VI.Node} {nm nA nB : List UInt8} {A B : List Int} (hp : (partsV x.op).2 = true) (hs : rightS x.shape = true) (hof : (ofV x A B).2 = true) (h1 : okW nm) (h2 : (partsV x.op).1 > 0 → okW nA) (h3 : (partsV x.op).1 > 1 → okW nB) : lineW x nm nA nB ≠ [] ∧ ∀ w ∈ lineW x nm nA nB, okW w := by
  have hop := ops_ok hp
  have hdw := dw_ok hs
  have heq : okW [61] := ⟨by simp, fun b hb => by simp at hb; subst hb; exact okC_of (by decide)⟩
  unfold lineW
  split
  · refine ⟨by simp, fun w hw => ?_⟩
    rcases List.mem_cons.1 hw with rfl | hw
    · exact hop
    · rcases List.mem_cons.1 hw with rfl | hw
      · exact h1
      · exact hdw w hw
  · rename_i np
    split
    · rename_i hc
      have e := seqB_iff.1 hc
      refine ⟨by simp, fun w hw => ?_⟩
      rcases List.mem_cons.1 hw with rfl | hw
      · rw [← e]; exact hop
      · rcases List.mem_cons.1 hw with rfl | hw
        · exact h1
        · rcases List.mem_append.1 hw with hw | hw
          · exact hdw w hw
          · rcases List.mem_cons.1 hw with rfl | hw
            · exact heq
            · obtain ⟨s, hs, rfl⟩ := List.mem_map.1 hw
              exact rat_ok (List.all_eq_true.1 (of_data hof e) s hs)
    · rename_i nc
      have hpos : (partsV x.op).1 > 0 := by
        rcases parts_cases hp with ⟨h, _⟩ | ⟨_, h⟩ | ⟨_, h⟩
        · exfalso
          rcases h with e | e | e
          · exact np (.inl (by rw [e]; decide +kernel))
          · exact np (.inr (by rw [e]; decide +kernel))
          · exact nc (by rw [e]; decide +kernel)
        · omega
        · omega
      refine ⟨by simp, fun w hw => ?_⟩
      rcases List.mem_cons.1 hw with rfl | hw
      · exact h1
      · rcases List.mem_cons.1 hw with rfl | hw
        · exact heq
        · rcases List.mem_cons.1 hw with rfl | hw
          · exact hop
          · rcases List.mem_cons.1 hw with rfl | hw
            · exact h2 hpos
            · unfold extraW at hw
              split at hw
              · rename_i ht
                simp at hw; subst hw
                refine h3 ?_
                rcases parts_cases hp with ⟨h, h'⟩ | ⟨h, h'⟩ | ⟨_, h⟩
                · exfalso
                  rcases h with e | e | e
                  · exact np (.inl (by rw [e]; decide +kernel))
                  · exact np (.inr (by rw [e]; decide +kernel))
                  · exact nc (by rw [e]; decide +kernel)
                · exact absurd ht (one_not_two h)
                · omega
              · split at hw
                · rename_i hsc
                  simp at hw; subst hw
                  exact rat_ok (of_scale hof (seqB_iff.1 hsc))
                · split at hw
                  · rename_i hpw
                    simp at hw; subst hw
                    have := of_power hof (seqB_iff.1 hpw)
                    exact dig2_ok (by omega)
                  · split at hw
                    · exact hdw w hw
                    · simp at hw
theorem jn_nl {ws : List (List UInt8)} (h : ∀ w ∈ ws, okW w) : ∀ b ∈ jn ws, b ≠ 10 ∧ b ≠ 35 := by
  cases ws with
  | nil => intro b hb; simp [jn] at hb
  | cons w r =>
    intro b hb
    unfold jn at hb
    rcases List.mem_append.1 hb with hb | hb
    · have := (h w (by simp)).2 b hb; exact ⟨this.1, this.2.2⟩
    · obtain ⟨v, hv, hb⟩ := List.mem_flatMap.1 hb
      rcases List.mem_cons.1 hb with rfl | hb
      · decide
      · have := (h v (by simp [hv])).2 b hb; exact ⟨this.1, this.2.2⟩
theorem row_words {l : List VI.Node} {k i : Nat} (hi : i < l.length) (hl : l.length ≤ 99) (ok : ∀ i, i < l.length → OkN l i) :
    lineW (nd l (i : Int)) (nmV l (stm k) (i : Int)).data.toList (nmV l (stm k) (nd l (i : Int)).a).data.toList (nmV l (stm k) (nd l (i : Int)).b).data.toList ≠ [] ∧
      ∀ w ∈ lineW (nd l (i : Int)) (nmV l (stm k) (i : Int)).data.toList (nmV l (stm k) (nd l (i : Int)).a).data.toList (nmV l (stm k) (nd l (i : Int)).b).data.toList, okW w := by
  obtain ⟨A, B, hof⟩ := (ok i hi).of
  have at_ : ∀ j : Int, 0 ≤ j ∧ j < (i : Int) → okW (nmV l (stm k) j).data.toList := fun j hj => by
    obtain ⟨n, rfl⟩ : ∃ n : Nat, j = (n : Int) := ⟨j.toNat, by omega⟩
    exact nmV_ok (by omega) (ok n (by omega)) k
  exact line_words (ok i hi).parts (ok i hi).shape hof (nmV_ok (by omega) (ok i hi) k) (fun h => at_ _ ((ok i hi).a h)) (fun h => at_ _ ((ok i hi).b h))
end Go.PL

namespace Go.PL
open Go Go.VI
theorem mkL_len (n : Int) (ws : List ByteArray) : (mkL n ws).length ≤ 1 := by unfold mkL; split <;> simp
end Go.PL

namespace Go.PL
open Go Go.VI
def allV : List VI.Line → List VI.Stmt → List VI.Stmt × (Int × Int)
  | [], acc => (acc, (0, 0))
  | l :: r, acc => match parseV l.words with
    | none => ([], (l.at_, 2))
    | some s => allV r (acc ++ [s])
def okLn (l : VI.Line) : Prop := l.words.length ≤ 2000000 ∧ shortW l.words
theorem set_oneSt (a b : VI.Stmt) : List.set (List.replicate 1 a) 0 b = [b] := rfl
theorem read_all_go (ls : List VI.Line) (hls : ls.length ≤ 20000001) (ok : ∀ l ∈ ls, okLn l) : ∀ (d i : Nat) (acc : List VI.Stmt), i + d = ls.length → acc.length ≤ i →
    ∃ r, EvG (fun _ L => L ((i : Int), (acc, (ls, (ls.length : Int))))) Tf.read_All.s3 r ∧ sumE r (fun y => (y.1, (y.2.1, y.2.2))) (fun y => (y, ((0 : Int), (0 : Int)))) = allV (ls.drop i) acc := by
  intro d
  induction d with
  | zero =>
    intro i acc hi _
    rw [List.drop_eq_nil_of_le (by omega)]
    refine ⟨.inr acc, EvG.step (fun F L => ?_) (EvG.now _), rfl⟩
    dsimp only [Tf.read_All.s3]
    simp only [bif_if, decide_eq_true_eq]
    rw [if_neg (by omega)]
  | succ d ih =>
    intro i acc hi ha
    have hlt : i < ls.length := by omega
    have eg : ls.getD (i : Int).toNat (dflt 8) = ls[i] := by rw [Int.toNat_natCast]; simp [List.getD_eq_getElem?_getD, hlt]
    have hw : IntKind.i64.wrap ((i : Int) + 1) = ((i + 1 : Nat) : Int) := by rw [w64 (by omega) (by omega), succ_cast]
    have ho := ok _ (List.getElem_mem hlt)
    have ih := ih (i + 1)
    rw [List.drop_eq_getElem_cons hlt, allV]
    generalize ls[i] = l at *
    have hp := read_parse_ev l ho.1 ho.2
    have open_ : ∀ {r}, EvG (fun F L => (Tf.read_Parse.f F l).bind fun y20 => if y20.2 ≠ 0 then some (.inl ([], (l.at_, y20.2))) else if acc.length + 1 ≤ 1099511627776 then L (((i + 1 : Nat) : Int), (acc ++ [(⟨y20.1.name, y20.1.op, y20.1.args, y20.1.dims, y20.1.k, y20.1.n, y20.1.data⟩ : VI.Stmt)], (ls, (ls.length : Int)))) else none) Tf.read_All.s3 r → EvG (fun _ L => L ((i : Int), (acc, (ls, (ls.length : Int))))) Tf.read_All.s3 r := by
      intro r h
      refine EvG.loop ?_
      simp only [Tf.read_All.s3, bif_if, decide_eq_true_eq, inR_iff, eg, hw, bne_iff_ne, Nat.ble_eq, set_oneSt]
      exact EvG.pos (by omega) (EvG.pos (by omega) h)
    cases hv : parseV l.words with
    | none =>
      rw [hv] at hp
      exact ⟨_, open_ (EvG.bind hp (EvG.pos (by decide) (EvG.now _))), rfl⟩
    | some s =>
      rw [hv] at hp
      obtain ⟨r, h1, h2⟩ := ih (acc ++ [s]) (by omega) (by simp; omega)
      exact ⟨r, open_ (EvG.bind hp (EvG.neg (by simp) (EvG.pos (by omega) h1))), h2⟩
theorem read_all_ev (s : ByteArray) (hs : s.data.toList.length ≤ 20000000) (ok : ∀ l ∈ linesV s, okLn l) (hn : (linesV s).length ≤ 20000001) : Ev (fun F => Tf.read_All.f F s) (allV (linesV s) []) := by
  obtain ⟨r, h1, h2⟩ := read_all_go (linesV s) hn ok (linesV s).length 0 [] (by omega) (by simp)
  rw [List.drop_zero] at h2
  simp only [Tf.read_All.f]
  refine Ev.bind (lines_ev s hs) (Ev.bind (Ev.iter h1) ?_)
  rw [← h2]
  cases r with
  | inl y => exact Ev.now _
  | inr y => exact Ev.now _
theorem linesGo_len : ∀ (ps : List (List UInt8)) (i : Nat), (linesGo i ps).length ≤ ps.length
  | [], _ => by simp [linesGo]
  | p :: r, i => by
    have h := linesGo_len r (i + 1)
    rw [linesGo, List.length_append]
    have := mkL_len ((i + 1 : Nat) : Int) (wordsL p)
    rw [List.length_cons]; omega
theorem wordsL_ok (p : List UInt8) : (wordsL p).length ≤ p.length + 1 ∧ ∀ w ∈ wordsL p, w.data.toList.length ≤ p.length := by
  have ht : (p.takeWhile (· ≠ 35)).length ≤ p.length := (List.takeWhile_sublist _).length_le
  unfold wordsL
  constructor
  · rw [List.length_map]
    refine Nat.le_trans (List.length_filter_le _ _) ?_
    rw [spl_count]
    have : (p.takeWhile (· ≠ 35)).count 32 ≤ (p.takeWhile (· ≠ 35)).length := List.count_le_length
    omega
  · intro w hw
    obtain ⟨q, hq, rfl⟩ := List.mem_map.1 hw
    have := spl_mem_len 32 _ q (List.mem_filter.1 hq).1
    rw [bL_list]; omega
theorem linesGo_ok {n : Nat} : ∀ (ps : List (List UInt8)) (i : Nat), (∀ p ∈ ps, p.length ≤ n) → ∀ l ∈ linesGo i ps, l.words.length ≤ n + 1 ∧ ∀ w ∈ l.words, w.data.toList.length ≤ n
  | [], _, _, l, h => by simp [linesGo] at h
  | p :: r, i, hp, l, h => by
    rw [linesGo] at h
    rcases List.mem_append.1 h with h | h
    · unfold mkL at h
      split at h
      · simp at h
      · simp at h
        subst h
        obtain ⟨h1, h2⟩ := wordsL_ok p
        have := hp p (by simp)
        exact ⟨by simp only; omega, fun w hw => by have := h2 w hw; omega⟩
    · exact linesGo_ok r (i + 1) (fun q hq => hp q (by simp [hq])) l h
theorem short_text {s : ByteArray} (h : s.data.toList.length ≤ 1900000) : (∀ l ∈ linesV s, okLn l) ∧ (linesV s).length ≤ 20000001 := by
  constructor
  · intro l hl
    obtain ⟨h1, h2⟩ := linesGo_ok (n := s.data.toList.length) _ 0 (spl_mem_len 10 s.data.toList) l hl
    exact ⟨by omega, fun w hw => by have := h2 w hw; omega⟩
  · refine Nat.le_trans (linesGo_len _ _) ?_
    rw [spl_count]
    have : s.data.toList.count 10 ≤ s.data.toList.length := List.count_le_length
    omega
theorem readS_ev (s : ByteArray) (h : s.data.toList.length ≤ 1900000) : Ev (fun F => Tf.read_All.f F s) (allV (linesV s) []) := read_all_ev s (by omega) (short_text h).1 (short_text h).2
end Go.PL

namespace Go.PL
open Go Go.VI
def bW (l : List (List UInt8)) : List ByteArray := l.map bL
theorem bW_data (l : List ByteArray) : bW (l.map (·.data.toList)) = l := by
  unfold bW
  rw [List.map_map]
  conv => rhs; rw [← List.map_id l]
  exact List.map_congr_left fun s _ => bL_of s
def dimsN (x : VI.Node) : List Int :=
  if seqB x.op oParam = true ∨ seqB x.op oInput = true ∨ seqB x.op oConst = true ∨ seqB x.op ⟨#[114, 101, 115, 104, 97, 112, 101]⟩ = true ∨ seqB x.op ⟨#[115, 112, 114, 101, 97, 100]⟩ = true then x.shape else []
def argsN (x : VI.Node) (nA nB : ByteArray) : List ByteArray := if (partsV x.op).1 = 0 then [] else if (partsV x.op).1 = 1 then [nA] else [nA, nB]
def stmtN (x : VI.Node) (nm nA nB : ByteArray) : VI.Stmt := ⟨nm, x.op, argsN x nA nB, dimsN x, x.k, x.n, x.data⟩
theorem bare_facts {x : VI.Node} {m : Int} (h : bareV x m = true) : (m > 0 ∨ x.a = 0) ∧ (m > 1 ∨ x.b = 0) ∧ (x.k = emB ∨ x.op = oScale) ∧ (x.n = 0 ∨ x.op = oPower) ∧ (x.data = [] ∨ x.op = oConst) := by
  unfold bareV at h
  simp only [Bool.and_eq_true, beq_iff_eq, Bool.or_eq_true, decide_eq_true_eq] at h
  obtain ⟨⟨⟨⟨⟨⟨h1, h2⟩, _⟩, _⟩, h5⟩, h6⟩, h7⟩ := h
  refine ⟨h1, h2, h5.imp (fun e => seqB_iff.1 e) (fun e => seqB_iff.1 e), h6.imp id (fun e => seqB_iff.1 e), h7.imp (fun e => List.eq_nil_of_length_eq_zero e) (fun e => seqB_iff.1 e)⟩
theorem nums_dw : ∀ {s : List Int}, (∀ n ∈ s, 0 ≤ n ∧ n < 100) → numsS (bW (dwL s)) = some s
  | [], _ => rfl
  | n :: s, h => by
    have hn := h n (by simp)
    have ih := nums_dw (s := s) (fun m hm => h m (by simp [hm]))
    have e : bW (dwL (n :: s)) = bL (dig2 n.toNat) :: bW (dwL s) := rfl
    have e2 : numS (bL (dig2 n.toNat)) = some n := by
      unfold numS
      rw [bL_list, digs_num (by omega)]
      congr 1; omega
    rw [e, numsS, e2, ih]; rfl
theorem eq_no_dig {n : Nat} (h : n < 100) : ¬ seqB (bL (dig2 n)) eqB = true := fun q => by
  have e := seqB_iff.1 q
  have e2 : dig2 n = [61] := by rw [← bL_list (dig2 n), e]
  have := dig2_digit n h 61 (by rw [e2]; simp)
  revert this; decide
theorem idxE_at : ∀ {p : List ByteArray}, (∀ w ∈ p, ¬ seqB w eqB = true) → ∀ q, idxE (p ++ eqB :: q) = some p.length
  | [], _, q => by rw [List.nil_append, idxE, if_pos (seqB_rfl _)]; rfl
  | w :: p, h, q => by
    rw [List.cons_append, idxE, if_neg (h w (by simp)), idxE_at (fun y hy => h y (by simp [hy]))]; rfl
theorem bL_eq61 : bL [61] = eqB := rfl
section
variable {x : VI.Node} {nm nA nB : ByteArray} {A B : List Int}
theorem lineW_made (h : inL x.op opsO = true ∨ inL x.op opsT = true) (m a b : List UInt8) : lineW x m a b = m :: [61] :: x.op.data.toList :: a :: extraW x b := by
  have n : ∀ {L : List ByteArray}, (L.all fun o => !seqB o oParam && !seqB o oInput && !seqB o oConst) = true → inL x.op L = true → lineW x m a b = m :: [61] :: x.op.data.toList :: a :: extraW x b := fun {L} hL h => by
    obtain ⟨o, h3, h4⟩ := inL_cases h
    have := List.all_eq_true.1 hL o h3
    simp only [Bool.and_eq_true, Bool.not_eq_true'] at this
    unfold lineW
    rw [if_neg (by rw [h4]; intro q; rcases q with q | q <;> simp_all), if_neg (by rw [h4]; simp_all)]
  rcases h with h | h
  · exact n (by decide +kernel) h
  · exact n (by decide +kernel) h
theorem parse_made (h0 : inL x.op opsO = true ∨ inL x.op opsT = true) : parseV (bW (lineW x nm.data.toList nA.data.toList nB.data.toList)) = madeV nm x.op nA (bW (extraW x nB.data.toList)) := by
  rw [lineW_made h0]
  have e : bW (nm.data.toList :: [61] :: x.op.data.toList :: nA.data.toList :: extraW x nB.data.toList) = nm :: eqB :: x.op :: nA :: bW (extraW x nB.data.toList) := by
    unfold bW
    simp only [List.map_cons, bL_of, bL_eq61]
  rw [e, parseV_cons, if_pos (seqB_rfl _)]
theorem parse_line (hp : (partsV x.op).2 = true) (hb : bareV x (partsV x.op).1 = true) (hof : (ofV x A B).2 = true) (hs : rightS x.shape = true) (h1 : nmB nm = true) (h2 : (partsV x.op).1 > 0 → nmB nA = true) (h3 : (partsV x.op).1 > 1 → nmB nB = true) :
    parseV (bW (lineW x nm.data.toList nA.data.toList nB.data.toList)) = some (stmtN x nm nA nB) := by
  obtain ⟨_, hdm⟩ := shape_dims hs
  have hnums := nums_dw hdm
  obtain ⟨_, _, f3, f4, f5⟩ := bare_facts hb
  have hne : ¬ seqB nm eqB = true := fun q => by rw [eq_noname q] at h1; cases h1
  have kk : x.op ≠ oScale → x.k = emB := fun n => f3.resolve_right n
  have kn : x.op ≠ oPower → x.n = 0 := fun n => f4.resolve_right n
  have kd : x.op ≠ oConst → x.data = [] := fun n => f5.resolve_right n
  rcases parts_cases hp with ⟨h, h0⟩ | ⟨h, h0⟩ | ⟨h, h0⟩
  · have ea : argsN x nA nB = [] := by unfold argsN; rw [if_pos h0]
    rcases h with e | e | e
    · have k1 := kk (by rw [e]; decide +kernel)
      have k2 := kn (by rw [e]; decide +kernel)
      have k3 := kd (by rw [e]; decide +kernel)
      have q : seqB x.op oParam = true := by rw [e]; decide +kernel
      have el : bW (lineW x nm.data.toList nA.data.toList nB.data.toList) = x.op :: nm :: bW (dwL x.shape) := by
        unfold lineW; rw [if_pos (.inl q)]; unfold bW; simp only [List.map_cons, bL_of]
      rw [el, parseV_cons, if_neg hne, if_pos h1, if_pos (.inl q), hnums]
      have ed : dimsN x = x.shape := by unfold dimsN; rw [if_pos (.inl q)]
      show (if rightS x.shape = true then _ else none) = _
      rw [if_pos hs]; unfold stmtN; rw [ea, ed, k1, k2, k3]
    · have k1 := kk (by rw [e]; decide +kernel)
      have k2 := kn (by rw [e]; decide +kernel)
      have k3 := kd (by rw [e]; decide +kernel)
      have q : seqB x.op oInput = true := by rw [e]; decide +kernel
      have el : bW (lineW x nm.data.toList nA.data.toList nB.data.toList) = x.op :: nm :: bW (dwL x.shape) := by
        unfold lineW; rw [if_pos (.inr q)]; unfold bW; simp only [List.map_cons, bL_of]
      rw [el, parseV_cons, if_neg hne, if_pos h1, if_pos (.inr q), hnums]
      have ed : dimsN x = x.shape := by unfold dimsN; rw [if_pos (.inr (.inl q))]
      show (if rightS x.shape = true then _ else none) = _
      rw [if_pos hs]; unfold stmtN; rw [ea, ed, k1, k2, k3]
    · have k1 := kk (by rw [e]; decide +kernel)
      have k2 := kn (by rw [e]; decide +kernel)
      have q : seqB x.op oConst = true := by rw [e]; decide +kernel
      have n1 : ¬ (seqB x.op oParam = true ∨ seqB x.op oInput = true) := by rw [e]; decide +kernel
      have n2 : ¬ (seqB oConst oParam = true ∨ seqB oConst oInput = true) := by decide +kernel
      have el : bW (lineW x nm.data.toList nA.data.toList nB.data.toList) = oConst :: nm :: (bW (dwL x.shape) ++ eqB :: x.data) := by
        unfold lineW; rw [if_neg n1, if_pos q]
        have := bW_data x.data
        unfold bW at this ⊢
        simp only [List.map_cons, List.map_append, bL_of, bL_eq61, this]
        rfl
      rw [el, parseV_cons, if_neg hne, if_pos h1, if_neg n2, if_pos (seqB_rfl _)]
      have hno : ∀ w ∈ bW (dwL x.shape), ¬ seqB w eqB = true := fun w hw => by
        obtain ⟨d, hd, rfl⟩ := List.mem_map.1 hw
        obtain ⟨n, hn, rfl⟩ := List.mem_map.1 hd
        have := hdm n hn
        exact eq_no_dig (by omega)
      have hd := of_data hof e
      have hc : (x.data.length : Int) = prodI x.shape := by
        unfold ofV at hof
        rw [if_pos q] at hof
        simp only [Bool.and_eq_true, decide_eq_true_eq] at hof
        rw [hof.1]; unfold sizeS; rw [if_pos hs]
      unfold constV
      rw [idxE_at hno]
      show ((numsS ((bW (dwL x.shape) ++ eqB :: x.data).take _)).bind _) = _
      have e1 : (bW (dwL x.shape) ++ eqB :: x.data).take (bW (dwL x.shape)).length = bW (dwL x.shape) := by simp
      have e2 : (bW (dwL x.shape) ++ eqB :: x.data).drop ((bW (dwL x.shape)).length + 1) = x.data := by
        rw [List.drop_append]; simp
      rw [e1, e2, hnums]
      show (if rightS x.shape = true ∧ _ then _ else none) = _
      have ed : dimsN x = x.shape := by unfold dimsN; rw [if_pos (.inr (.inr (.inl q)))]
      rw [if_pos ⟨hs, hc, hd⟩]; unfold stmtN; rw [ea, ed, k1, k2, ← e]
  · rw [parse_made (.inl h)]
    have hA := h2 (by omega)
    have hbb : (nmB nm && nmB nA) = true := by rw [h1, hA]; rfl
    have ea : argsN x nA nB = [nA] := by unfold argsN; rw [if_neg (by omega), if_pos h0]
    have nT := one_not_two h
    have k3 := kd (by intro e; rw [e] at h; revert h; decide +kernel)
    obtain ⟨o, h5, h4⟩ := inL_cases h
    unfold stmtN
    rw [ea, k3]
    simp only [opsO, List.mem_cons, List.not_mem_nil, or_false] at h5
    have plain : inL x.op oneL = true → x.op ≠ oScale → x.op ≠ oPower → dimsN x = [] → extraW x nB.data.toList = [] → madeV nm x.op nA (bW (extraW x nB.data.toList)) = some ⟨nm, x.op, [nA], dimsN x, x.k, x.n, []⟩ := fun g1 g2 g3 g4 g5 => by
      rw [g5, made_one g1 hbb, kk g2, kn g3, g4]; rfl
    have ex : extraW x nB.data.toList = if seqB x.op oScale = true then [x.k.data.toList]
        else if seqB x.op oPower = true then [dig2 x.n.toNat]
        else if seqB x.op ⟨#[114, 101, 115, 104, 97, 112, 101]⟩ = true ∨ seqB x.op ⟨#[115, 112, 114, 101, 97, 100]⟩ = true then dwL x.shape
        else [] := by unfold extraW; rw [if_neg nT]
    have shp : inL x.op resL = true → x.op ≠ oScale → x.op ≠ oPower → dimsN x = x.shape → extraW x nB.data.toList = dwL x.shape → madeV nm x.op nA (bW (extraW x nB.data.toList)) = some ⟨nm, x.op, [nA], dimsN x, x.k, x.n, []⟩ := fun g1 g2 g3 g4 g5 => by
      rw [g5, made_rs g1 hbb, hnums, kk g2, kn g3, g4]
      show (if rightS x.shape = true then _ else none) = _
      rw [if_pos hs]
    rcases h5 with e | e | e | e | e | e | e | e | e | e <;> subst e
    · exact plain (by rw [h4]; decide +kernel) (by rw [h4]; decide +kernel) (by rw [h4]; decide +kernel) (by unfold dimsN; rw [if_neg (by rw [h4]; decide +kernel)]) (by rw [ex, if_neg (by rw [h4]; decide +kernel), if_neg (by rw [h4]; decide +kernel), if_neg (by rw [h4]; decide +kernel)])
    · exact plain (by rw [h4]; decide +kernel) (by rw [h4]; decide +kernel) (by rw [h4]; decide +kernel) (by unfold dimsN; rw [if_neg (by rw [h4]; decide +kernel)]) (by rw [ex, if_neg (by rw [h4]; decide +kernel), if_neg (by rw [h4]; decide +kernel), if_neg (by rw [h4]; decide +kernel)])
    · exact plain (by rw [h4]; decide +kernel) (by rw [h4]; decide +kernel) (by rw [h4]; decide +kernel) (by unfold dimsN; rw [if_neg (by rw [h4]; decide +kernel)]) (by rw [ex, if_neg (by rw [h4]; decide +kernel), if_neg (by rw [h4]; decide +kernel), if_neg (by rw [h4]; decide +kernel)])
    · exact plain (by rw [h4]; decide +kernel) (by rw [h4]; decide +kernel) (by rw [h4]; decide +kernel) (by unfold dimsN; rw [if_neg (by rw [h4]; decide +kernel)]) (by rw [ex, if_neg (by rw [h4]; decide +kernel), if_neg (by rw [h4]; decide +kernel), if_neg (by rw [h4]; decide +kernel)])
    · have q : seqB x.op oScale = true := by rw [h4]; decide +kernel
      have kq := kn (by rw [h4]; decide +kernel)
      have hr := of_scale hof h4
      rw [ex, if_pos q, made_sc q hbb, kq]
      have e1 : bW [x.k.data.toList] = [x.k] := by unfold bW; simp only [List.map_cons, List.map_nil, bL_of]
      have e2 : ([x.k] : List ByteArray).getD 0 (dflt 4) = x.k := rfl
      rw [e1, e2, if_pos ⟨rfl, hr⟩]
      congr 2
      unfold dimsN; rw [if_neg (by rw [h4]; decide +kernel)]
    · have q : seqB x.op oPower = true := by rw [h4]; decide +kernel
      have kq := kk (by rw [h4]; decide +kernel)
      have hr := of_power hof h4
      rw [ex, if_neg (by rw [h4]; decide +kernel), if_pos q, made_pw q hbb, kq]
      have e2 : (bW [dig2 x.n.toNat]).getD 0 (dflt 4) = bL (dig2 x.n.toNat) := rfl
      have e3 : numS (bL (dig2 x.n.toNat)) = some x.n := by
        unfold numS
        rw [bL_list, digs_num (by omega)]
        congr 1; omega
      have e1 : (bW [dig2 x.n.toNat]).length = 1 := rfl
      rw [if_pos e1, e2, e3]
      show (if x.n ≤ 6 then _ else none) = _
      rw [if_pos hr.2]
      congr 2
      unfold dimsN; rw [if_neg (by rw [h4]; decide +kernel)]
    · exact plain (by rw [h4]; decide +kernel) (by rw [h4]; decide +kernel) (by rw [h4]; decide +kernel) (by unfold dimsN; rw [if_neg (by rw [h4]; decide +kernel)]) (by rw [ex, if_neg (by rw [h4]; decide +kernel), if_neg (by rw [h4]; decide +kernel), if_neg (by rw [h4]; decide +kernel)])
    · exact plain (by rw [h4]; decide +kernel) (by rw [h4]; decide +kernel) (by rw [h4]; decide +kernel) (by unfold dimsN; rw [if_neg (by rw [h4]; decide +kernel)]) (by rw [ex, if_neg (by rw [h4]; decide +kernel), if_neg (by rw [h4]; decide +kernel), if_neg (by rw [h4]; decide +kernel)])
    · exact shp (by rw [h4]; decide +kernel) (by rw [h4]; decide +kernel) (by rw [h4]; decide +kernel) (by unfold dimsN; rw [if_pos (by rw [h4]; decide +kernel)]) (by rw [ex, if_neg (by rw [h4]; decide +kernel), if_neg (by rw [h4]; decide +kernel), if_pos (by rw [h4]; decide +kernel)])
    · exact shp (by rw [h4]; decide +kernel) (by rw [h4]; decide +kernel) (by rw [h4]; decide +kernel) (by unfold dimsN; rw [if_pos (by rw [h4]; decide +kernel)]) (by rw [ex, if_neg (by rw [h4]; decide +kernel), if_neg (by rw [h4]; decide +kernel), if_pos (by rw [h4]; decide +kernel)])
  · rw [parse_made (.inr h)]
    have hA := h2 (by omega)
    have hB := h3 (by omega)
    have hbb : (nmB nm && nmB nA) = true := by rw [h1, hA]; rfl
    have ea : argsN x nA nB = [nA, nB] := by unfold argsN; rw [if_neg (by omega), if_neg (by omega)]
    have ex : extraW x nB.data.toList = [nB.data.toList] := by unfold extraW; rw [if_pos h]
    have e1 : bW [nB.data.toList] = [nB] := by unfold bW; simp only [List.map_cons, List.map_nil, bL_of]
    have nz : ∀ o ∈ opsT, o ≠ oScale ∧ o ≠ oPower ∧ o ≠ oConst ∧ ¬ (seqB o oParam = true ∨ seqB o oInput = true ∨ seqB o oConst = true ∨ seqB o ⟨#[114, 101, 115, 104, 97, 112, 101]⟩ = true ∨ seqB o ⟨#[115, 112, 114, 101, 97, 100]⟩ = true) := by decide +kernel
    obtain ⟨o, h5, h4⟩ := inL_cases h
    obtain ⟨z1, z2, z3, z4⟩ := nz o h5
    rw [← h4] at z1 z2 z3 z4
    have ed : dimsN x = [] := by unfold dimsN; rw [if_neg z4]
    rw [ex, e1, made_two (show inL x.op twoL = true from h) hbb]
    unfold stmtN
    rw [ea, ed, kk z1, kn z2, kd z3]
    rw [if_pos ⟨rfl, by simp [hB]⟩]
end
theorem spl_words : ∀ (w : List UInt8) (r : List (List UInt8)), (∀ v ∈ w :: r, okW v) → spl 32 (w ++ r.flatMap (32 :: ·)) = w :: r
  | w, [], h => by
    rw [List.flatMap_nil, List.append_nil]
    exact spl_one 32 w (fun b hb => ((h w (by simp)).2 b hb).2.1)
  | w, v :: r, h => by
    rw [List.flatMap_cons, List.cons_append, spl_word 32 w _ (fun b hb => ((h w (by simp)).2 b hb).2.1), spl_words v r (fun y hy => h y (by simp [hy]))]
theorem words_jn {ws : List (List UInt8)} (hne : ws ≠ []) (h : ∀ w ∈ ws, okW w) : wordsL (jn ws) = bW ws := by
  unfold wordsL
  have e : (jn ws).takeWhile (fun b => decide (b ≠ 35)) = jn ws := tw_self (fun b hb => by simpa using (jn_nl h b hb).2)
  rw [e]
  obtain ⟨w, r, rfl⟩ : ∃ w r, ws = w :: r := by
    cases ws with
    | nil => exact absurd rfl hne
    | cons w r => exact ⟨w, r, rfl⟩
  unfold jn bW
  rw [spl_words w r h]
  congr 1
  rw [List.filter_eq_self]
  intro v hv
  have := (h v hv).1
  simpa using this
end Go.PL

namespace Go.PL
open Go Go.VI
def linesOf : Nat → List (List ByteArray) → List VI.Line
  | _, [] => []
  | i, ws :: r => ⟨((i + 1 : Nat) : Int), ws⟩ :: linesOf (i + 1) r
theorem spl_rows : ∀ (R : List (List UInt8)), (∀ r ∈ R, ∀ b ∈ r, b ≠ 10) → spl 10 (R.flatMap (· ++ [10])) = R ++ [[]]
  | [], _ => rfl
  | r :: R, h => by
    rw [List.flatMap_cons, List.append_assoc, List.singleton_append, spl_word 10 r _ (h r (by simp)), spl_rows R (fun y hy => h y (by simp [hy]))]; rfl
theorem linesGo_rows : ∀ (W : List (List (List UInt8))) (i : Nat), (∀ ws ∈ W, ws ≠ [] ∧ ∀ w ∈ ws, okW w) → linesGo i (W.map jn ++ [[]]) = linesOf i (W.map bW)
  | [], i, _ => by
    show mkL _ (wordsL []) ++ [] = []
    rfl
  | ws :: W, i, h => by
    have hw := h ws (by simp)
    have hn : (bW ws).isEmpty = false := by
      cases ws with
      | nil => exact absurd rfl hw.1
      | cons w r => rfl
    rw [List.map_cons, List.cons_append, linesGo, words_jn hw.1 hw.2, linesGo_rows W (i + 1) (fun y hy => h y (by simp [hy])), List.map_cons, linesOf]
    unfold mkL
    rw [hn]; rfl
theorem lines_rows {W : List (List (List UInt8))} (h : ∀ ws ∈ W, ws ≠ [] ∧ ∀ w ∈ ws, okW w) : linesV (bL ((W.map jn).flatMap (· ++ [10]))) = linesOf 0 (W.map bW) := by
  unfold linesV
  rw [bL_list, spl_rows _ (fun r hr b hb => by
    obtain ⟨ws, hws, rfl⟩ := List.mem_map.1 hr
    exact (jn_nl (h ws hws).2 b hb).1), linesGo_rows W 0 h]
theorem linesOf_len : ∀ (L : List (List ByteArray)) (i : Nat), (linesOf i L).length = L.length
  | [], _ => rfl
  | ws :: L, i => by rw [linesOf, List.length_cons, linesOf_len L (i + 1), List.length_cons]
theorem linesOf_mem : ∀ {L : List (List ByteArray)} {i : Nat} {x : VI.Line}, x ∈ linesOf i L → x.words ∈ L
  | ws :: L, i, x, h => by
    rw [linesOf] at h
    rcases List.mem_cons.1 h with rfl | h
    · simp
    · have := linesOf_mem h; simp [this]
theorem all_rows : ∀ (L : List (List ByteArray)) (S acc : List VI.Stmt) (i : Nat), L.map parseV = S.map some → allV (linesOf i L) acc = (acc ++ S, (0, 0))
  | [], S, acc, i, h => by
    have : S = [] := by cases S with
      | nil => rfl
      | cons s S => simp at h
    subst this
    rw [List.append_nil]; rfl
  | ws :: L, S, acc, i, h => by
    cases S with
    | nil => simp at h
    | cons s S =>
      rw [List.map_cons, List.map_cons, List.cons.injEq] at h
      rw [linesOf, allV]
      simp only [h.1]
      rw [all_rows L S (acc ++ [s]) (i + 1) h.2, List.append_assoc]; rfl
theorem digB_inj {j k : Nat} (hj : j < 100) (hk : k < 100) (h : digB (j : Int) = digB (k : Int)) : j = k := by
  have e : dig2 j = dig2 k := by
    have := congrArg (fun s : ByteArray => s.data.toList) h
    unfold digB at this
    simpa [bL_list] using this
  have a := digs_num hj
  have b := digs_num hk
  rw [e] at a
  have := Option.some.inj (a.symm.trans b)
  omega
theorem app_cancel {a b c : ByteArray} (h : a ++ b = a ++ c) : b = c := by
  apply ba_ext
  have := congrArg (fun s : ByteArray => s.data.toList) h
  simp only [ba_append] at this
  exact List.append_cancel_left this
theorem clash_of {l : List VI.Node} {st : ByteArray} {j k : Nat} (hj : j < l.length) (hk : k < l.length) (hl : l.length ≤ 99) (h1 : (nd l (j : Int)).name = st ++ digB (k : Int)) (h2 : (nd l (k : Int)).name = ⟨#[]⟩) : clashV l st = true := by
  unfold clashV
  rw [List.any_eq_true]
  refine ⟨_, nd_mem (l := l) (i := (j : Int)) (by omega), ?_⟩
  have e : preL st.data.toList (nd l (j : Int)).name.data.toList = some (digB (k : Int)).data.toList := by
    unfold preL
    rw [h1, ba_append, if_pos (by simp)]
    simp
  have e2 : numL (digB (k : Int)).data.toList = some (k : Int) := by
    unfold digB
    rw [bL_list, Int.toNat_natCast, digs_num (by omega)]
  unfold clashAt
  simp only [e, e2]
  rw [h2, decide_eq_true (by omega)]; decide +kernel
theorem names_apart {l : List VI.Node} {loss : Int} {st : ByteArray} (hl : l.length ≤ 99) (hg : graphV l loss = true) (hc : clashV l st = false) {j k : Nat} (hjk : j < k) (hk : k < l.length) : nmV l st (j : Int) ≠ nmV l st (k : Int) := by
  obtain ⟨_, ok⟩ := graph_facts hg
  have no : ∀ {a b : Nat}, a < l.length → b < l.length → (nd l (a : Int)).name = st ++ digB (b : Int) → (nd l (b : Int)).name = ⟨#[]⟩ → False := fun ha hb h1 h2 => by
    rw [clash_of ha hb hl h1 h2] at hc; cases hc
  intro e
  rcases nmV_cases (ok j (by omega)) st with ⟨a1, a2⟩ | ⟨a1, a2, a3⟩ <;> rcases nmV_cases (ok k hk) st with ⟨b1, b2⟩ | ⟨b1, b2, b3⟩
  · rw [a2, b2] at e
    have := digB_inj (by omega) (by omega) (app_cancel e)
    omega
  · rw [a2, b2] at e
    exact no hk (by omega) e.symm a1
  · rw [a2, b2] at e
    exact no (by omega) hk e b1
  · rw [a2, b2] at e
    refine graph_apart hg j k hjk hk (fun q => a3 (seqB_iff.1 q)) ?_
    rw [e, seqB_rfl]
def stmtAt (l : List VI.Node) (st : ByteArray) (i : Nat) : VI.Stmt := stmtN (nd l (i : Int)) (nmV l st (i : Int)) (nmV l st (nd l (i : Int)).a) (nmV l st (nd l (i : Int)).b)
def lossSt (nm : ByteArray) : VI.Stmt := ⟨emB, oLoss', [nm], [], emB, 0, []⟩
structure Names (l : List VI.Node) (st : ByteArray) (i : Nat) (m : List (ByteArray × Int)) : Prop where
  yes : ∀ j, j < i → getM m (nmV l st (j : Int)) = some (j : Int)
  no : ∀ w, (∀ j : Nat, j < i → w ≠ nmV l st (j : Int)) → getM m w = none
theorem Names.put {l : List VI.Node} {st : ByteArray} {i : Nat} {m : List (ByteArray × Int)} (h : Names l st i m) (hu : ∀ j, j < i → nmV l st (j : Int) ≠ nmV l st (i : Int)) : Names l st (i + 1) (putM m (nmV l st (i : Int)) (i : Int)) := by
  constructor
  · intro j hj
    rw [getM_putM]
    by_cases e : j = i
    · subst e; rw [if_pos (seqB_rfl _)]
    · rw [if_neg (fun q => hu j (by omega) (seqB_iff.1 q))]
      exact h.yes j (by omega)
  · intro w hw
    rw [getM_putM, if_neg (fun q => hw i (by omega) (seqB_iff.1 q))]
    exact h.no w (fun j hj => hw j (by omega))
theorem ite_two {α : Type} {c : Prop} [Decidable c] {a b a' b' : α} (h1 : c → a = a') (h2 : ¬ c → b = b') : (if c then a else b) = (if c then a' else b') := by
  by_cases h : c
  · rw [if_pos h, if_pos h, h1 h]
  · rw [if_neg h, if_neg h, h2 h]
theorem ofV_shape {x : VI.Node} {A B : List Int} {t : List Int} (h : inL x.op opsO = true ∨ inL x.op opsT = true) (h1 : ¬ seqB x.op ⟨#[114, 101, 115, 104, 97, 112, 101]⟩ = true) (h2 : ¬ seqB x.op ⟨#[115, 112, 114, 101, 97, 100]⟩ = true) : ofV { x with shape := t } A B = ofV x A B := by
  have fin : ∀ {L : List ByteArray}, inL x.op L = true → (L.all fun o => !(seqB o oConst) && (inL o [⟨#[97, 100, 100]⟩, ⟨#[115, 117, 98]⟩, ⟨#[109, 117, 108]⟩, ⟨#[109, 97, 120]⟩, ⟨#[97, 98, 111, 118, 101]⟩] || seqB o ⟨#[109, 97, 116, 109, 117, 108]⟩ || inL o [⟨#[114, 101, 108, 117]⟩, ⟨#[97, 98, 115]⟩, ⟨#[115, 116, 101, 112]⟩, ⟨#[115, 105, 103, 110]⟩] || seqB o oScale || seqB o oPower || seqB o ⟨#[116, 114, 97, 110, 115, 112, 111, 115, 101]⟩ || seqB o ⟨#[115, 117, 109]⟩ || seqB o ⟨#[114, 101, 115, 104, 97, 112, 101]⟩ || seqB o ⟨#[115, 112, 114, 101, 97, 100]⟩)) = true → ofV { x with shape := t } A B = ofV x A B := fun {L} hL hall => by
    obtain ⟨o, h3, h4⟩ := inL_cases hL
    have := List.all_eq_true.1 hall o h3
    rw [← h4] at this
    simp only [Bool.and_eq_true, Bool.not_eq_true', Bool.or_eq_true] at this
    obtain ⟨c0, c⟩ := this
    unfold ofV
    dsimp only
    have hc : ¬ seqB x.op oConst = true := by rw [c0]; simp
    rw [if_neg hc, if_neg hc]
    refine ite_two (fun _ => rfl) (fun q1 => ite_two (fun _ => rfl) (fun q2 => ite_two (fun _ => rfl) (fun q3 => ite_two (fun _ => rfl) (fun q4 => ite_two (fun _ => rfl) (fun q5 => ite_two (fun _ => rfl) (fun q6 => ite_two (fun _ => rfl) (fun q7 => ?_)))))))
    rcases c with (((((((c | c) | c) | c) | c) | c) | c) | c) | c
    · exact absurd c q1
    · exact absurd c q2
    · exact absurd c q3
    · exact absurd c q4
    · exact absurd c q5
    · exact absurd c q6
    · exact absurd c q7
    · exact absurd c h1
    · exact absurd c h2
  rcases h with h | h
  · exact fin h (by decide +kernel)
  · exact fin h (by decide +kernel)
theorem inferV_dims {l : List VI.Node} {x : VI.Node} (hp : (partsV x.op).2 = true) : inferV l { x with shape := dimsN x } = inferV l x := by
  by_cases c : seqB x.op oParam = true ∨ seqB x.op oInput = true ∨ seqB x.op oConst = true ∨ seqB x.op ⟨#[114, 101, 115, 104, 97, 112, 101]⟩ = true ∨ seqB x.op ⟨#[115, 112, 114, 101, 97, 100]⟩ = true
  · have e : dimsN x = x.shape := by unfold dimsN; rw [if_pos c]
    rw [e]
  · have h0 : inL x.op opsO = true ∨ inL x.op opsT = true := by
      rcases parts_cases hp with ⟨h, _⟩ | ⟨h, _⟩ | ⟨h, _⟩
      · exfalso
        rcases h with h | h | h
        · exact c (.inl (by rw [h]; decide +kernel))
        · exact c (.inr (.inl (by rw [h]; decide +kernel)))
        · exact c (.inr (.inr (.inl (by rw [h]; decide +kernel))))
      · exact .inl h
      · exact .inr h
    have e : ∀ A B, ofV { x with shape := dimsN x } A B = ofV x A B := fun A B => ofV_shape h0 (fun q => c (.inr (.inr (.inr (.inl q))))) (fun q => c (.inr (.inr (.inr (.inr q)))))
    unfold inferV endV
    simp only [e]
    rfl
theorem args_ev {l : List VI.Node} {st : ByteArray} {i : Nat} {m : List (ByteArray × Int)} (hm : Names l st i m) (ok : OkN l i) :
    argsV m (argsN (nd l (i : Int)) (nmV l st (nd l (i : Int)).a) (nmV l st (nd l (i : Int)).b)) 0 0 0 = (((nd l (i : Int)).a, (nd l (i : Int)).b), true) := by
  obtain ⟨fa, fb, _⟩ := bare_facts ok.bare
  have get : ∀ j : Int, 0 ≤ j ∧ j < (i : Int) → getM m (nmV l st j) = some j := fun j hj => by
    obtain ⟨n, rfl⟩ : ∃ n : Nat, j = (n : Int) := ⟨j.toNat, by omega⟩
    exact hm.yes n (by omega)
  have ka := ok.a
  have kb := ok.b
  rcases parts_cases ok.parts with ⟨_, h0⟩ | ⟨_, h0⟩ | ⟨_, h0⟩
  · rw [h0] at fa fb
    have e1 : (nd l (i : Int)).a = 0 := fa.resolve_left (by decide)
    have e2 : (nd l (i : Int)).b = 0 := fb.resolve_left (by decide)
    unfold argsN
    rw [if_pos h0, argsV, e1, e2]
  · rw [h0] at fa fb ka
    have e2 : (nd l (i : Int)).b = 0 := fb.resolve_left (by decide)
    unfold argsN
    rw [if_neg (by omega), if_pos h0, argsV, get _ (ka (by decide))]
    simp only [if_true]
    rw [argsV, e2]
  · rw [h0] at ka kb
    unfold argsN
    rw [if_neg (by omega), if_neg (by omega), argsV, get _ (ka (by decide))]
    simp only [if_true]
    rw [argsV, get _ (kb (by decide))]
    simp only [if_neg (show ¬ (0 + 1 = 0) by omega)]
    rw [argsV]
theorem op_not_loss {op : ByteArray} (h : (partsV op).2 = true) : ¬ seqB op oLoss = true := fun q => by
  rw [seqB_iff.1 q] at h; revert h; decide +kernel
theorem node_at {l : List VI.Node} {st : ByteArray} {i : Nat} {m : List (ByteArray × Int)} (hm : Names l st i m) (ok : OkN l i) : nodeV (stmtAt l st i) m = ({ nd l (i : Int) with shape := dimsN (nd l (i : Int)) }, true) := by
  have ha := args_ev hm ok
  obtain ⟨n1, n2⟩ := name_of_bare ok.bare
  have hnm : (if seqB (nd l (i : Int)).op oParam = true ∨ seqB (nd l (i : Int)).op oInput = true then nmV l st (i : Int) else ByteArray.empty) = (nd l (i : Int)).name := by
    by_cases c : seqB (nd l (i : Int)).op oParam = true ∨ seqB (nd l (i : Int)).op oInput = true
    · rw [if_pos c]
      have := n1 c
      unfold nmV
      rw [if_neg (fun q => by rw [nameS_nil q] at this; cases this)]
    · rw [if_neg c, n2 c]; rfl
  unfold nodeV stmtAt stmtN
  dsimp only
  rw [ha, hnm]
theorem build_rows {l : List VI.Node} {loss : Int} {st : ByteArray} (hl : l.length ≤ 99) (hg : graphV l loss = true) (hc : clashV l st = false) : ∀ (d i : Nat) (m : List (ByteArray × Int)), i + d = l.length → Names l st i m →
    buildGo (((List.range l.length).drop i).map (stmtAt l st) ++ [lossSt (nmV l st loss)]) i (l.take i) (-1) m = .inr (l, loss) := by
  obtain ⟨⟨g1, g2, g3, g4⟩, ok⟩ := graph_facts hg
  intro d
  induction d with
  | zero =>
    intro i m hi hm
    have e : i = l.length := by omega
    subst e
    rw [List.drop_eq_nil_of_le (by simp), List.map_nil, List.nil_append, List.take_length]
    have hget : getM m (nmV l st loss) = some loss := by
      obtain ⟨n, rfl⟩ : ∃ n : Nat, loss = (n : Int) := ⟨loss.toNat, by omega⟩
      exact hm.yes n (by omega)
    have ha : argsV m [nmV l st loss] 0 0 0 = ((loss, 0), true) := by
      rw [argsV, hget]; simp only [if_true]; rw [argsV]
    have hn2 : (nodeV (lossSt (nmV l st loss)) m).2 = true := by unfold nodeV lossSt; dsimp only; rw [ha]
    have hn1 : (nodeV (lossSt (nmV l st loss)) m).1.a = loss := by unfold nodeV lossSt; dsimp only; rw [ha]
    have ho : seqB (lossSt (nmV l st loss)).op oLoss = true := seqB_rfl _
    rw [buildGo, if_neg (fun q => q.2 ho), if_neg (by rw [hn2]; simp), if_pos ho, if_neg (by omega), hn1, g4, if_neg (by simp)]
    rfl
  | succ d ih =>
    intro i m hi hm
    have hlt : i < l.length := by omega
    have hoki := ok i hlt
    have hsh : (List.range l.length).drop i = i :: (List.range l.length).drop (i + 1) := by
      rw [List.drop_eq_getElem_cons (by simpa using hlt)]; simp
    have hnode := node_at hm hoki
    have hnone : getM m (stmtAt l st i).name = none := hm.no _ (fun j hj e => names_apart hl hg hc hj hlt e.symm)
    have hop : ¬ seqB (stmtAt l st i).op oLoss = true := op_not_loss hoki.parts
    have hinf : inferV (l.take i) (nodeV (stmtAt l st i) m).1 = ((nd l (i : Int)).shape, true) := by
      rw [hnode]
      exact (inferV_dims hoki.parts).trans hoki.infer
    rw [hsh, List.map_cons, List.cons_append, buildGo, if_neg (fun q => by rw [hnone] at q; simp at q), if_neg (by rw [hnode]; simp), if_neg hop, if_neg (by rw [List.length_take]; omega), if_neg (by rw [hinf]; simp), hinf]
    have en : ({ (nodeV (stmtAt l st i) m).1 with shape := (nd l (i : Int)).shape } : VI.Node) = nd l (i : Int) := by rw [hnode]
    have el : ((l.take i).length : Int) = (i : Int) := by rw [List.length_take]; omega
    rw [show ({ (nodeV (stmtAt l st i) m).1 with shape := ((nd l (i : Int)).shape, true).1 } : VI.Node) = nd l (i : Int) from en, el, ← take_nd l i hlt]
    exact ih (i + 1) _ (by omega) (hm.put (fun j hj => names_apart hl hg hc hj hlt))
theorem build_back {l : List VI.Node} {loss : Int} {st : ByteArray} (hl : l.length ≤ 99) (hg : graphV l loss = true) (hc : clashV l st = false) : buildV ((List.range l.length).map (stmtAt l st) ++ [lossSt (nmV l st loss)]) = ((l, loss), (0, 0)) := by
  obtain ⟨⟨_, g2, _⟩, _⟩ := graph_facts hg
  have h := build_rows hl hg hc l.length 0 [] (by omega) ⟨fun j hj => by omega, fun w _ => rfl⟩
  rw [List.drop_zero, List.take_zero] at h
  unfold buildV
  rw [h]
  show (if loss < 0 then _ else _) = _
  rw [if_neg (by omega)]
def wordsAt (l : List VI.Node) (st : ByteArray) (i : Nat) : List (List UInt8) := lineW (nd l (i : Int)) (nmV l st (i : Int)).data.toList (nmV l st (nd l (i : Int)).a).data.toList (nmV l st (nd l (i : Int)).b).data.toList
def textW (l : List VI.Node) (loss : Int) (st : ByteArray) : List (List (List UInt8)) := (List.range l.length).map (wordsAt l st) ++ [[oLoss'.data.toList, (nmV l st loss).data.toList]]
theorem textL_rows (l : List VI.Node) (loss : Int) (st : ByteArray) : textL l loss st = ((textW l loss st).map jn).flatMap (· ++ [10]) := by
  unfold textL textW rowsL
  rw [List.map_append, List.flatMap_append, List.map_map, List.flatMap_map, List.append_assoc]
  congr 1
  simp [jn]
theorem fit_name {l : List VI.Node} {k : Nat} (hl : l.length ≤ 99) (ok : ∀ i, i < l.length → OkN l i) (hf : (namesV l (stm k)).all fitS = true) {j : Int} (hj : 0 ≤ j ∧ j < (l.length : Int)) : nmB (nmV l (stm k) j) = true := by
  obtain ⟨n, rfl⟩ : ∃ n : Nat, j = (n : Int) := ⟨j.toNat, by omega⟩
  refine nmV_name (by omega) (ok n (by omega)) k ?_
  have := List.all_eq_true.1 hf (nmV l (stm k) (n : Int)) (List.mem_map.2 ⟨n, by simp; omega, rfl⟩)
  exact of_decide_eq_true this
theorem textW_ok {l : List VI.Node} {loss : Int} {k : Nat} (hl : l.length ≤ 99) (hg : graphV l loss = true) : ∀ ws ∈ textW l loss (stm k), ws ≠ [] ∧ ∀ w ∈ ws, okW w := by
  obtain ⟨⟨_, g2, g3, _⟩, ok⟩ := graph_facts hg
  intro ws hws
  unfold textW at hws
  rcases List.mem_append.1 hws with h | h
  · obtain ⟨i, hi, rfl⟩ := List.mem_map.1 h
    exact row_words (by simpa using hi) hl ok
  · simp at h; subst h
    refine ⟨by simp, fun w hw => ?_⟩
    obtain ⟨n, rfl⟩ : ∃ n : Nat, loss = (n : Int) := ⟨loss.toNat, by omega⟩
    have hn := nmV_ok (show n < 100 by omega) (ok n (by omega)) k
    simp at hw
    rcases hw with rfl | rfl
    · exact ⟨by decide, fun b hb => okC_of (by revert b; decide)⟩
    · exact hn
theorem text_parse {l : List VI.Node} {loss : Int} {k : Nat} (hl : l.length ≤ 99) (hg : graphV l loss = true) (hf : (namesV l (stm k)).all fitS = true) :
    ((textW l loss (stm k)).map bW).map parseV = ((List.range l.length).map (stmtAt l (stm k)) ++ [lossSt (nmV l (stm k) loss)]).map some := by
  obtain ⟨⟨_, g2, g3, _⟩, ok⟩ := graph_facts hg
  have fit := fun {j : Int} (hj : 0 ≤ j ∧ j < (l.length : Int)) => fit_name hl ok hf hj
  unfold textW
  simp only [List.map_append, List.map_map]
  congr 1
  · apply List.map_congr_left
    intro i hi
    have hlt : i < l.length := by simpa using hi
    obtain ⟨A, B, hof⟩ := (ok i hlt).of
    exact parse_line (ok i hlt).parts (ok i hlt).bare hof (ok i hlt).shape (fit (by omega)) (fun h => fit (by have := (ok i hlt).a h; omega)) (fun h => fit (by have := (ok i hlt).b h; omega))
  · have hn := fit ⟨g2, g3⟩
    have hne : ¬ seqB (nmV l (stm k) loss) eqB = true := fun q => by rw [eq_noname q] at hn; cases hn
    have e : bW [oLoss'.data.toList, (nmV l (stm k) loss).data.toList] = [oLoss', nmV l (stm k) loss] := by unfold bW; simp only [List.map_cons, List.map_nil, bL_of]; rfl
    show [parseV (bW [oLoss'.data.toList, (nmV l (stm k) loss).data.toList])] = [some _]
    rw [e, parseV_cons, if_neg hne, if_pos hn, if_neg (by decide +kernel), if_neg (by decide +kernel), if_pos ⟨seqB_rfl _, rfl⟩]
    rfl
theorem read_back {l : List VI.Node} {loss : Int} {k : Nat} (hl : l.length ≤ 99) (hg : graphV l loss = true) (hf : (namesV l (stm k)).all fitS = true) : allV (linesV (bL (textL l loss (stm k)))) [] = ((List.range l.length).map (stmtAt l (stm k)) ++ [lossSt (nmV l (stm k) loss)], (0, 0)) := by
  rw [textL_rows, lines_rows (textW_ok hl hg), all_rows _ _ [] 0 (text_parse hl hg hf), List.nil_append]
end Go.PL

namespace Go.PL
open Go Go.VI
theorem same_l4 (a b : VI.Node) (hd : a.data.length = b.data.length) (hl : a.data.length ≤ 1000000) : ∀ (d j : Nat), j + d = a.data.length →
    EvG (fun _ L => L ((j : Int), (b.op, (b.a, (b.b, (b.name, (b.shape, (b.k, (b.n, (b.data, (a.op, (a.a, (a.b, (a.name, (a.shape, (a.k, (a.n, a.data))))))))))))))))) Tf.tapewrightref10_Same.s4 (if a.data.drop j = b.data.drop j then .inr () else .inl false) := by
  intro d
  induction d with
  | zero =>
    intro j hj
    rw [List.drop_eq_nil_of_le (by omega), List.drop_eq_nil_of_le (by omega), if_pos rfl]
    refine EvG.step (fun F L => ?_) (EvG.now _)
    dsimp only [Tf.tapewrightref10_Same.s4]
    simp only [bif_if, decide_eq_true_eq]
    rw [if_neg (by omega)]
  | succ d ih =>
    intro j hj
    have ih := ih (j + 1) (by omega)
    have hja : j < a.data.length := by omega
    have hjb : j < b.data.length := by omega
    have ea : a.data.getD (j : Int).toNat (dflt 4) = a.data[j] := by rw [Int.toNat_natCast]; simp [List.getD_eq_getElem?_getD, hja]
    have eb : b.data.getD (j : Int).toNat (dflt 4) = b.data[j] := by rw [Int.toNat_natCast]; simp [List.getD_eq_getElem?_getD, hjb]
    have hw : IntKind.i64.wrap ((j : Int) + 1) = ((j + 1 : Nat) : Int) := by rw [w64 (by omega) (by omega), succ_cast]
    rw [List.drop_eq_getElem_cons hja, List.drop_eq_getElem_cons hjb]
    generalize a.data[j] = u at *
    generalize b.data[j] = v at *
    by_cases c : u = v
    · have e : (u :: a.data.drop (j + 1) = v :: b.data.drop (j + 1)) ↔ a.data.drop (j + 1) = b.data.drop (j + 1) := by simp [c]
      simp only [e]
      refine EvG.step (fun F L => ?_) ih
      dsimp only [Tf.tapewrightref10_Same.s4]
      simp only [bif_if, decide_eq_true_eq, inR_iff, ea, eb, hw, Bool.not_eq_true']
      rw [if_pos (by omega), if_pos (by omega), if_pos (by omega), if_neg (by rw [c, seqB_rfl]; simp)]
    · rw [if_neg (by simp [c])]
      refine EvG.step (fun F L => ?_) (EvG.now _)
      dsimp only [Tf.tapewrightref10_Same.s4]
      simp only [bif_if, decide_eq_true_eq, inR_iff, ea, eb, hw, Bool.not_eq_true']
      rw [if_pos (by omega), if_pos (by omega), if_pos (by omega), if_pos (by rw [← Bool.not_eq_true]; exact fun q => c (seqB_iff.1 q))]
instance : DecidableEq VI.Node := fun x y =>
  if h : x.op = y.op ∧ x.a = y.a ∧ x.b = y.b ∧ x.name = y.name ∧ x.shape = y.shape ∧ x.k = y.k ∧ x.n = y.n ∧ x.data = y.data then isTrue (by
    obtain ⟨h1, h2, h3, h4, h5, h6, h7, h8⟩ := h
    cases x; cases y; simp_all)
  else isFalse (fun e => h (by subst e; simp))
theorem same_node (a b : VI.Node) (ha : a.data.length ≤ 1000000) (hs : a.shape.length ≤ 1000000) : Ev (fun F => Tf.tapewrightref10_Same.f F (a, b)) (decide (a = b)) := by
  have no : ∀ {p : Prop}, (a = b → ¬ p) → p → Ev (fun _ => some false) (decide (a = b)) := fun h hp => Ev.eq (by rw [decide_eq_false (fun e => h e hp)])
  simp only [Tf.tapewrightref10_Same.f, bif_if, bne_iff_ne, Bool.not_eq_true']
  refine EvIf (fun h => no (fun e => by rw [e, seqB_rfl]; simp) h) (fun c1 => ?_)
  refine EvIf (fun h => no (fun e => by rw [e]; simp) h) (fun c2 => ?_)
  refine EvIf (fun h => no (fun e => by rw [e]; simp) h) (fun c3 => ?_)
  refine EvIf (fun h => no (fun e => by rw [e, seqB_rfl]; simp) h) (fun c4 => ?_)
  refine EvIf (fun h => no (fun e => by rw [e, seqB_rfl]; simp) h) (fun c5 => ?_)
  refine EvIf (fun h => no (fun e => by rw [e]; simp) h) (fun c6 => ?_)
  refine Ev.bind (rsame_ev a.shape b.shape (by omega)) ?_
  refine EvIf (fun h => no (fun e => by rw [e]; simp) h) (fun c7 => ?_)
  refine EvIf (fun h => no (fun e => by rw [e]; simp) h) (fun c8 => ?_)
  have hd : a.data.length = b.data.length := by simp at c8; omega
  have hg := same_l4 a b hd ha a.data.length 0 (by omega)
  rw [List.drop_zero, List.drop_zero] at hg
  refine Ev.bind (Ev.iter hg) ?_
  simp only [Bool.not_eq_false] at c1 c4 c5 c7
  by_cases e : a.data = b.data
  · rw [if_pos e]
    refine Ev.eq ?_
    rw [decide_eq_true]
    have h1 := seqB_iff.1 c1
    have h4 := seqB_iff.1 c4
    have h5 := seqB_iff.1 c5
    have h7 := of_decide_eq_true c7
    simp only [ne_eq, Decidable.not_not] at c2 c3 c6
    cases a; cases b; simp_all
  · rw [if_neg e]
    exact Ev.eq (by rw [decide_eq_false (fun q => e (by rw [q]))])
theorem equal_l4 (a b : List VI.Node) (p q : Int) (hd : a.length = b.length) (hl : a.length ≤ 1000) (hs : ∀ y ∈ a, smallN y) : ∀ (d j : Nat), j + d = a.length →
    EvG (fun _ L => L ((j : Int), (b, (q, (a, p))))) Tf.tapewrightref10_Equal.s4 (if a.drop j = b.drop j then .inr () else .inl false) := by
  intro d
  induction d with
  | zero =>
    intro j hj
    rw [List.drop_eq_nil_of_le (by omega), List.drop_eq_nil_of_le (by omega), if_pos rfl]
    refine EvG.step (fun F L => ?_) (EvG.now _)
    dsimp only [Tf.tapewrightref10_Equal.s4]
    simp only [bif_if, decide_eq_true_eq]
    rw [if_neg (by omega)]
  | succ d ih =>
    intro j hj
    have ih := ih (j + 1) (by omega)
    have hja : j < a.length := by omega
    have hjb : j < b.length := by omega
    have ea : a.getD (j : Int).toNat (dflt 6) = a[j] := by rw [Int.toNat_natCast]; simp [List.getD_eq_getElem?_getD, hja]
    have eb : b.getD (j : Int).toNat (dflt 6) = b[j] := by rw [Int.toNat_natCast]; simp [List.getD_eq_getElem?_getD, hjb]
    have hw : IntKind.i64.wrap ((j : Int) + 1) = ((j + 1 : Nat) : Int) := by rw [w64 (by omega) (by omega), succ_cast]
    have hm := hs _ (List.getElem_mem hja)
    rw [List.drop_eq_getElem_cons hja, List.drop_eq_getElem_cons hjb]
    generalize a[j] = x at *
    generalize b[j] = y at *
    have hsame := same_node x y (by have := hm.2.2.2.1; omega) (by have := hm.2.1; omega)
    refine EvG.loop ?_
    simp only [Tf.tapewrightref10_Equal.s4, bif_if, decide_eq_true_eq, inR_iff, ea, eb, hw, Bool.not_eq_true']
    refine EvG.pos (by omega) (EvG.pos (by omega) (EvG.pos (by omega) (EvG.bind hsame ?_)))
    by_cases c : x = y
    · have e : (x :: a.drop (j + 1) = y :: b.drop (j + 1)) ↔ a.drop (j + 1) = b.drop (j + 1) := by simp [c]
      simp only [e]
      exact EvG.neg (by rw [decide_eq_true c]; simp) ih
    · rw [if_neg (by simp [c])]
      exact EvG.pos (by rw [decide_eq_false c]) (EvG.now _)
theorem equalG_ev (a b : List VI.Node) (p q : Int) (hl : a.length ≤ 1000) (hs : ∀ y ∈ a, smallN y) : Ev (fun F => Tf.tapewrightref10_Equal.f F ((a, p), (b, q))) (decide ((a, p) = (b, q))) := by
  simp only [Tf.tapewrightref10_Equal.f, bif_if, bne_iff_ne]
  refine EvIf (fun h => Ev.eq (by rw [decide_eq_false]; intro e; cases e; exact h rfl)) (fun c1 => ?_)
  refine EvIf (fun h => Ev.eq (by rw [decide_eq_false]; intro e; cases e; exact h rfl)) (fun c2 => ?_)
  simp only [ne_eq, Decidable.not_not] at c1 c2
  have hg := equal_l4 a b p q (by omega) hl hs a.length 0 (by omega)
  rw [List.drop_zero, List.drop_zero] at hg
  refine Ev.bind (Ev.iter hg) ?_
  by_cases e : a = b
  · rw [if_pos e]; exact Ev.eq (by rw [decide_eq_true]; rw [e, c1])
  · rw [if_neg e]; exact Ev.eq (by rw [decide_eq_false]; intro q; cases q; exact e rfl)
theorem stm_free {l : List VI.Node} (hs : ∀ y ∈ l, smallN y) : ∃ k, stemV l = stm k ∧ clashV l (stm k) = false := ⟨_, rfl, stemK_free hs 31 0 (by omega)⟩
theorem textL_len {l : List VI.Node} {loss : Int} {st : ByteArray} (hl : l.length ≤ 99) (hs : ∀ y ∈ l, smallN y) (hst : st.size ≤ 32) (ok : ∀ i, i < l.length → OkN l i) : (textL l loss st).length ≤ 19000000 := by
  have go : ∀ i, i ≤ l.length → (rowsL l st i).length ≤ 80001 * i := by
    intro i
    induction i with
    | zero => intro _; simp [rowsL]
    | succ i ih =>
      intro h
      have := ih (by omega)
      have h2 := row_len (show i < l.length by omega) hs hst (ok i (by omega))
      rw [rowsL_succ, List.length_append, List.length_append]
      have h1 : ([10] : List UInt8).length = 1 := rfl
      omega
  have h1 := go l.length (Nat.le_refl _)
  have h2 := nmV_size hs hst loss
  rw [ba_size] at h2
  have e : (textL l loss st).length = (rowsL l st l.length).length + (4 + ((nmV l st loss).data.toList.length + 1)) + 1 := by
    unfold textL
    rw [List.length_append, List.length_append, List.length_append, List.length_cons]
    rfl
  omega
theorem back_ev {l : List VI.Node} {loss : Int} {s : ByteArray} (hl : l.length ≤ 99) (hs : ∀ y ∈ l, smallN y) (h : textV l loss = some s) :
    ∃ ss, Ev (fun F => Tf.read_All.f F s) (ss, (0, 0)) ∧ Ev (fun F => Tf.graph_Build.f F ss) ((l, loss), (0, 0)) := by
  obtain ⟨hg, hf, rfl⟩ := textV_some h
  obtain ⟨⟨g1, g2, g3, g4⟩, ok⟩ := graph_facts hg
  obtain ⟨k, hk, hc⟩ := stm_free hs
  have hst := stemV_size l
  rw [hk] at hf hst ⊢
  have hlen := textL_len (loss := loss) hl hs hst ok
  have hb := read_back (loss := loss) hl hg hf
  have hp := text_parse (loss := loss) hl hg hf
  have hW := textW_ok (loss := loss) (k := k) hl hg
  have hlin : linesV (bL (textL l loss (stm k))) = linesOf 0 ((textW l loss (stm k)).map bW) := by rw [textL_rows, lines_rows hW]
  have hnz := nmV_size hs hst
  refine ⟨(List.range l.length).map (stmtAt l (stm k)) ++ [lossSt (nmV l (stm k) loss)], ?_, ?_⟩
  · rw [← hb]
    refine read_all_ev _ (by rw [bL_list]; omega) (fun x hx => ?_) ?_
    · rw [hlin] at hx
      obtain ⟨ws, hws, e⟩ := List.mem_map.1 (linesOf_mem hx)
      have hwl : wl ws ≤ 80000 := by
        unfold textW at hws
        rcases List.mem_append.1 hws with hw | hw
        · obtain ⟨i, hi, rfl⟩ := List.mem_map.1 hw
          have hi : i < l.length := by simpa using hi
          have n0 := hnz (i : Int)
          have n1 := hnz (nd l (i : Int)).a
          have n2 := hnz (nd l (i : Int)).b
          rw [ba_size] at n0 n1 n2
          exact line_wl (hs _ (nd_mem (by omega))) (ok i hi).parts n0 n1 n2
        · simp at hw; subst hw
          have n0 := hnz loss
          rw [ba_size] at n0
          have e4 : ([108, 111, 115, 115] : List UInt8).length = 4 := rfl
          have e0 : wl [] = 0 := rfl
          rw [wl_cons, wl_cons, e0, e4]; omega
      have hmem : ∀ (v : List (List UInt8)), v.length ≤ wl v ∧ ∀ w ∈ v, w.length ≤ wl v := by
        intro v
        induction v with
        | nil => exact ⟨Nat.le_refl _, fun w hw => by simp at hw⟩
        | cons w r ih =>
          rw [wl_cons, List.length_cons]
          refine ⟨by omega, fun y hy => ?_⟩
          rcases List.mem_cons.1 hy with rfl | hy
          · omega
          · have := ih.2 y hy; omega
      obtain ⟨m1, m2⟩ := hmem ws
      unfold okLn shortW
      rw [← e]
      refine ⟨by unfold bW; rw [List.length_map]; omega, fun w hw => ?_⟩
      obtain ⟨y, hy, rfl⟩ := List.mem_map.1 hw
      rw [bL_list]
      have := m2 y hy; omega
    · rw [hlin, linesOf_len, List.length_map]
      unfold textW
      simp; omega
  · have hb2 := build_back hl hg hc
    rw [← hb2]
    refine build_ev _ (fun s hs2 => ?_) (by simp; omega)
    rcases List.mem_append.1 hs2 with h2 | h2
    · obtain ⟨i, hi, rfl⟩ := List.mem_map.1 h2
      have hi : i < l.length := by simpa using hi
      have hm := hs _ (nd_mem (l := l) (i := (i : Int)) (by omega))
      have hnf := List.all_eq_true.1 hf (nmV l (stm k) (i : Int)) (List.mem_map.2 ⟨i, by simp; omega, rfl⟩)
      have hnf := of_decide_eq_true hnf
      rw [ba_size] at hnf
      refine ⟨fun q => absurd q (op_not_loss (ok i hi).parts), ?_, by show (nmV l (stm k) (i : Int)).data.toList.length ≤ 30; omega, ?_, hm.2.2.1, hm.2.2.2.1, hm.2.2.2.2⟩
      · show (argsN _ _ _).length ≤ _
        unfold argsN; split
        · simp
        · split <;> simp
      · show (dimsN _).length ≤ 10
        unfold dimsN; split
        · exact hm.2.1
        · simp
    · simp at h2; subst h2
      refine ⟨fun _ => by simp [lossSt], by simp [lossSt], by simp [lossSt], by simp [lossSt], by simp [lossSt], by simp [lossSt], fun t ht => by simp [lossSt] at ht⟩
end Go.PL

namespace Go.PL
open Go Go.VI
theorem ofV_again (x : VI.Node) (a b : List Int) (hp : (partsV x.op).2 = true) : (ofV x a b).1 = x.shape ∨ ∀ s, ofV { x with shape := s } a b = ofV x a b := by
  by_cases h0 : inL x.op opsO = true ∨ inL x.op opsT = true
  · by_cases h1 : seqB x.op ⟨#[114, 101, 115, 104, 97, 112, 101]⟩ = true
    · left
      have e := seqB_iff.1 h1
      unfold ofV
      rw [if_neg (by rw [e]; decide +kernel), if_neg (by rw [e]; decide +kernel), if_neg (by rw [e]; decide +kernel), if_neg (by rw [e]; decide +kernel), if_neg (by rw [e]; decide +kernel), if_neg (by rw [e]; decide +kernel), if_neg (by rw [e]; decide +kernel), if_neg (by rw [e]; decide +kernel), if_pos h1]
    · by_cases h2 : seqB x.op ⟨#[115, 112, 114, 101, 97, 100]⟩ = true
      · left
        have e := seqB_iff.1 h2
        unfold ofV
        rw [if_neg (by rw [e]; decide +kernel), if_neg (by rw [e]; decide +kernel), if_neg (by rw [e]; decide +kernel), if_neg (by rw [e]; decide +kernel), if_neg (by rw [e]; decide +kernel), if_neg (by rw [e]; decide +kernel), if_neg (by rw [e]; decide +kernel), if_neg (by rw [e]; decide +kernel), if_neg h1, if_pos h2]
      · exact .inr fun s => ofV_shape h0 h1 h2
  · left
    rcases parts_cases hp with ⟨h | h | h, _⟩ | ⟨h, _⟩ | ⟨h, _⟩
    · unfold ofV
      rw [if_neg (by rw [h]; decide +kernel), if_neg (by rw [h]; decide +kernel), if_neg (by rw [h]; decide +kernel), if_neg (by rw [h]; decide +kernel), if_neg (by rw [h]; decide +kernel), if_neg (by rw [h]; decide +kernel), if_neg (by rw [h]; decide +kernel), if_neg (by rw [h]; decide +kernel), if_neg (by rw [h]; decide +kernel), if_neg (by rw [h]; decide +kernel)]
    · unfold ofV
      rw [if_neg (by rw [h]; decide +kernel), if_neg (by rw [h]; decide +kernel), if_neg (by rw [h]; decide +kernel), if_neg (by rw [h]; decide +kernel), if_neg (by rw [h]; decide +kernel), if_neg (by rw [h]; decide +kernel), if_neg (by rw [h]; decide +kernel), if_neg (by rw [h]; decide +kernel), if_neg (by rw [h]; decide +kernel), if_neg (by rw [h]; decide +kernel)]
    · unfold ofV
      rw [if_pos (by rw [h]; decide +kernel)]
    · exact absurd (.inl h) h0
    · exact absurd (.inr h) h0
theorem inferV_again {l : List VI.Node} {x : VI.Node} (h : (inferV l x).2 = true) : inferV l { x with shape := (inferV l x).1 } = ((inferV l x).1, true) := by
  have hf := h
  unfold inferV at h
  split at h
  · rename_i hh
    generalize hA : (if (partsV x.op).1 > 0 then (nd l x.a).shape else []) = A at h
    generalize hB : (if (partsV x.op).1 > 1 then (nd l x.b).shape else []) = B at h
    have e0 : ∀ s, inferV l { x with shape := s } = endV { x with shape := s } A B := fun s => by
      show (if (partsV x.op).2 = true ∧ bareV x (partsV x.op).1 = true ∧ ((partsV x.op).1 > 0 → 0 ≤ x.a ∧ x.a < l.length) ∧ ((partsV x.op).1 > 1 → 0 ≤ x.b ∧ x.b < l.length) then endV { x with shape := s } (if (partsV x.op).1 > 0 then (nd l x.a).shape else []) (if (partsV x.op).1 > 1 then (nd l x.b).shape else []) else ([], false)) = _
      rw [if_pos hh, hA, hB]
    have e1 : inferV l x = endV x A B := e0 x.shape
    have e2 : (endV x A B).1 = (ofV x A B).1 := by
      unfold endV at h ⊢
      split at h
      · rename_i hh2; rw [if_pos hh2]
      · cases h
    rw [e0, e1]
    have e3 : endV { x with shape := (endV x A B).1 } A B = endV x A B := by
      rcases ofV_again x A B hh.1 with h1 | h1
      · rw [e2, h1]
      · unfold endV; rw [h1]
    rw [e3]
    exact Prod.ext rfl h
  · cases h
theorem eE : seqB ByteArray.empty (⟨#[]⟩ : ByteArray) = true := by decide +kernel
structure Built (l : List VI.Node) (m : List (ByteArray × Int)) : Prop where
  node : ∀ j, j < l.length → inferV (l.take j) (nd l (j : Int)) = ((nd l (j : Int)).shape, true)
  free : ∀ j, j < l.length → freeB l j 0 = true
  seen : ∀ j, j < l.length → ¬ seqB (nd l (j : Int)).name ⟨#[]⟩ = true → (getM m (nd l (j : Int)).name).isSome = true
  bnd : ∀ w v, getM m w = some v → 0 ≤ v ∧ v < (l.length : Int)
theorem nd_app1 {l r : List VI.Node} {j : Nat} (h : j < l.length) : nd (l ++ r) (j : Int) = nd l (j : Int) := nd_append (by omega)
theorem Built.step {l : List VI.Node} {m : List (ByteArray × Int)} (h : Built l m) {s : VI.Stmt} (h1 : getM m s.name = none) (h2 : (inferV l (nodeV s m).1).2 = true) :
    Built (l ++ [{ (nodeV s m).1 with shape := (inferV l (nodeV s m).1).1 }]) (putM m s.name (l.length : Int)) := by
  have hl : (l ++ [({ (nodeV s m).1 with shape := (inferV l (nodeV s m).1).1 } : VI.Node)]).length = l.length + 1 := by simp
  have hag := inferV_again h2
  have hnm : ∀ t, ({ (nodeV s m).1 with shape := t } : VI.Node).name = ByteArray.empty ∨ ({ (nodeV s m).1 with shape := t } : VI.Node).name = s.name := fun t => by
    show (if _ then s.name else ByteArray.empty) = _ ∨ (if _ then s.name else ByteArray.empty) = _
    split
    · exact .inr rfl
    · exact .inl rfl
  have hnm := hnm (inferV l (nodeV s m).1).1
  generalize hx : ({ (nodeV s m).1 with shape := (inferV l (nodeV s m).1).1 } : VI.Node) = x at *
  have hsh : x.shape = (inferV l (nodeV s m).1).1 := by rw [← hx]
  constructor
  · intro j hj
    rw [hl] at hj
    by_cases c : j < l.length
    · rw [nd_app1 c, List.take_append_of_le_length (by omega)]
      exact h.node j c
    · have e : j = l.length := by omega
      subst e
      rw [nd_last, List.take_left', hsh]
      · exact hag
      · rfl
  · intro j hj
    rw [hl] at hj
    unfold freeB
    by_cases c : j < l.length
    · rw [nd_app1 c, List.take_append_of_le_length (by omega)]
      exact h.free j c
    · have e : j = l.length := by omega
      subst e
      rw [nd_last, List.take_left' rfl, List.drop_zero, List.all_eq_true]
      intro y hy
      rcases hnm with e | e
      · rw [e, eE]; rfl
      · rw [Bool.or_eq_true]
        by_cases cn : seqB x.name ⟨#[]⟩ = true
        · exact .inl cn
        · right
          obtain ⟨k, hk, rfl⟩ := List.getElem_of_mem hy
          have ek : l[k] = nd l (k : Int) := by simp [nd, List.getD_eq_getElem?_getD, hk]
          rw [ek]
          cases hq : seqB (nd l (k : Int)).name x.name with
          | false => rfl
          | true =>
            have e2 := seqB_iff.1 hq
            have := h.seen k hk (by rw [e2]; exact cn)
            rw [e2, e, h1] at this
            cases this
  · intro j hj hne
    rw [hl] at hj
    rw [getM_putM]
    split
    · rfl
    · rename_i hns
      by_cases c : j < l.length
      · rw [nd_app1 c] at hne ⊢
        exact h.seen j c hne
      · have e : j = l.length := by omega
        subst e
        rw [nd_last] at hne hns
        rcases hnm with e | e
        · rw [e] at hne; exact absurd eE hne
        · rw [e] at hns; exact absurd (seqB_rfl _) hns
  · intro w v hv
    rw [hl]
    rw [getM_putM] at hv
    split at hv
    · cases hv; omega
    · have := h.bnd w v hv; omega
def lossOk (l : List VI.Node) (loss : Int) : Prop := loss = -1 ∨ (0 ≤ loss ∧ loss < (l.length : Int) ∧ (nd l loss).shape = [])
theorem built_go : ∀ (ss : List VI.Stmt) (i : Nat) (l : List VI.Node) (loss : Int) (m : List (ByteArray × Int)) (r : List VI.Node × Int), Built l m → lossOk l loss → (∀ s ∈ ss, okS s) → (∀ y ∈ l, smallN y) → l.length ≤ 200 → buildGo ss i l loss m = .inr r →
    (∃ m', Built r.1 m') ∧ lossOk r.1 r.2 ∧ (∀ y ∈ r.1, smallN y) ∧ r.1.length ≤ 200 ∧ r.1.length ≤ l.length + ss.length
  | [], i, l, loss, m, r, hb, hl, hs, hsm, hn, h => by
    cases h; exact ⟨⟨m, hb⟩, hl, hsm, hn, Nat.le_refl _⟩
  | s :: ss, i, l, loss, m, r, hb, hl, hs, hsm, hn, h => by
    have hok := hs s (by simp)
    have hs' : ∀ s ∈ ss, okS s := fun y hy => hs y (by simp [hy])
    rw [buildGo] at h
    split at h
    · cases h
    rename_i c1
    split at h
    · cases h
    rename_i c2
    split at h
    · rename_i c3
      split at h
      · cases h
      · split at h
        · cases h
        · rename_i c5
          have c2 : (nodeV s m).2 = true := by simpa using c2
          obtain ⟨w, hw⟩ := argsV_first m (hok.1 c3) 0 0 c2
          have := hb.bnd _ _ hw
          have h2 : lossOk l (nodeV s m).1.a := .inr ⟨this.1, this.2, List.eq_nil_of_length_eq_zero (by simpa using c5)⟩
          obtain ⟨a1, a2, a3, a4, a5⟩ := built_go ss (i + 1) l _ m r hb h2 hs' hsm hn h
          exact ⟨a1, a2, a3, a4, by rw [List.length_cons]; omega⟩
    · rename_i c3
      split at h
      · cases h
      · rename_i c6
        split at h
        · cases h
        · rename_i c7
          have c7 : (inferV l (nodeV s m).1).2 = true := by simpa using c7
          have hnone : getM m s.name = none := by
            cases hg : getM m s.name with
            | none => rfl
            | some v => exact absurd ⟨by rw [hg]; rfl, c3⟩ c1
          have hsx : smallN { (nodeV s m).1 with shape := (inferV l (nodeV s m).1).1 } := by
            have h1 := nodeV_small hok m
            have h2 := inferV_len l (nodeV s m).1
            exact ⟨h1.1, by show (inferV l (nodeV s m).1).1.length ≤ 10; omega, h1.2.2⟩
          have hl2 : lossOk (l ++ [{ (nodeV s m).1 with shape := (inferV l (nodeV s m).1).1 }]) loss := by
            rcases hl with hl | ⟨l1, l2, l3⟩
            · exact .inl hl
            · exact .inr ⟨l1, by simp; omega, by rw [nd_append ⟨l1, l2⟩]; exact l3⟩
          obtain ⟨a1, a2, a3, a4, a5⟩ := built_go ss (i + 1) _ loss _ r (hb.step hnone c7) hl2 hs' (small_app hsm hsx) (by simp; omega) h
          refine ⟨a1, a2, a3, a4, ?_⟩
          rw [List.length_append] at a5
          rw [List.length_cons]
          have : ([{ (nodeV s m).1 with shape := (inferV l (nodeV s m).1).1 }] : List VI.Node).length = 1 := rfl
          omega
theorem rightR_of (l : List VI.Node) (h1 : ∀ j, j < l.length → inferV (l.take j) (nd l (j : Int)) = ((nd l (j : Int)).shape, true)) (h2 : ∀ j, j < l.length → freeB l j 0 = true) : ∀ (n i : Nat), i + n = l.length → rightR l n i = true
  | 0, _, _ => rfl
  | n + 1, i, h => by
    have a := h1 i (by omega)
    rw [rightR, if_pos ⟨by rw [a], by rw [a], h2 i (by omega)⟩]
    exact rightR_of l h1 h2 n (i + 1) (by omega)
theorem build_right {ss : List VI.Stmt} (hs : ∀ s ∈ ss, okS s) : (buildV ss).2.2 = 0 → graphV (buildV ss).1.1 (buildV ss).1.2 = true ∧ (∀ y ∈ (buildV ss).1.1, smallN y) ∧ (buildV ss).1.1.length ≤ ss.length := by
  unfold buildV
  cases hb : buildGo ss 0 [] (-1) [] with
  | inl e =>
    intro h
    exfalso
    have no : ∀ (ss : List VI.Stmt) (i : Nat) (l : List VI.Node) (loss : Int) (m : List (ByteArray × Int)) (e : Int × Int), buildGo ss i l loss m = .inl e → e.2 ≠ 0 := by
      intro ss
      induction ss with
      | nil => intro i l loss m e h; cases h
      | cons s ss ih =>
        intro i l loss m e h
        rw [buildGo] at h
        repeat' split at h
        all_goals first | (cases h; simp; done) | exact ih _ _ _ _ _ h
    exact no _ _ _ _ _ _ hb h
  | inr g =>
    obtain ⟨⟨m', h1⟩, h2, h3, h4, h5⟩ := built_go ss 0 [] (-1) [] g ⟨fun j hj => by simp at hj, fun j hj => by simp at hj, fun j hj => by simp at hj, fun w v h => by simp [getM] at h⟩ (.inl rfl) hs (by simp) (by simp) hb
    by_cases c : g.2 < 0
    · simp only [if_pos c]
      intro h; cases h
    · simp only [if_neg c]
      intro _
      rcases h2 with h2 | ⟨l1, l2, l3⟩
      · omega
      · refine ⟨?_, h3, by simpa using h5⟩
        unfold graphV
        rw [if_pos ⟨by omega, h4, l1, l2, l3⟩, ← rightR_eq g.1 g.1.length 0 [] (by omega) (fun w _ => rfl)]
        exact rightR_of g.1 h1.node h1.free g.1.length 0 (by omega)
theorem build_bad (ss : List VI.Stmt) : (buildV ss).2.2 ≠ 0 → (buildV ss).1.1 = [] := by
  unfold buildV
  cases buildGo ss 0 [] (-1) [] with
  | inl e => intro _; rfl
  | inr g =>
    by_cases c : g.2 < 0
    · simp only [if_pos c]; intro _; trivial
    · simp only [if_neg c]; intro h; exact absurd rfl h
def bulk (l : List ByteArray) : Nat := (l.map fun w => w.data.toList.length + 1).sum
theorem bulk_cons (w : ByteArray) (l : List ByteArray) : bulk (w :: l) = w.data.toList.length + 1 + bulk l := by unfold bulk; rw [List.map_cons, List.sum_cons]
theorem nmB_len {w : ByteArray} (h : nmB w = true) : 1 ≤ w.data.toList.length ∧ w.data.toList.length ≤ 8 := by
  unfold nmB nameS at h
  split at h
  · cases h
  · rename_i b r e
    simp only [Bool.and_eq_true, decide_eq_true_eq] at h
    rw [e, List.length_cons]; omega
theorem rightS_len {d : List Int} (h : rightS d = true) : d.length ≤ 4 ∧ prodI d ≤ 64 := by
  unfold rightS at h
  simp only [Bool.and_eq_true, decide_eq_true_eq] at h
  exact ⟨h.1.1, h.2⟩
theorem parse_ok {w : List ByteArray} {s : VI.Stmt} (h : parseV w = some s) (hw : ∀ y ∈ w, y.data.toList.length ≤ 1000) : okS s ∧ 7 ≤ bulk w := by
  have e0 : emB.data.toList.length = 0 := rfl
  have noloss : ∀ {L : List ByteArray} {op : ByteArray}, (L.all fun o => !seqB o oLoss && decide (3 ≤ o.data.toList.length)) = true → inL op L = true → ¬ seqB op oLoss = true ∧ 3 ≤ op.data.toList.length := fun {L op} hL h => by
    obtain ⟨o, h3, h4⟩ := inL_cases h
    have := List.all_eq_true.1 hL o h3
    simp only [Bool.and_eq_true, Bool.not_eq_true', decide_eq_true_eq] at this
    rw [h4]; exact ⟨by rw [this.1]; simp, this.2⟩
  have made : ∀ {w0 w1 op a : ByteArray} {rest : List ByteArray}, seqB w1 eqB = true → (∀ y ∈ rest, y.data.toList.length ≤ 1000) → madeV w0 op a rest = some s → okS s ∧ 7 ≤ bulk (w0 :: w1 :: op :: a :: rest) := by
    intro w0 w1 op a rest h1 hr h
    have l1 : w1.data.toList.length = 1 := by rw [seqB_iff.1 h1]; rfl
    unfold madeV at h
    split at h
    · rename_i hn
      rw [Bool.and_eq_true] at hn
      have n0 := nmB_len hn.1
      have n1 := nmB_len hn.2
      have fin : 3 ≤ op.data.toList.length → 7 ≤ bulk (w0 :: w1 :: op :: a :: rest) := fun h => by
        rw [bulk_cons, bulk_cons, bulk_cons, bulk_cons]; omega
      split at h
      · rename_i c
        obtain ⟨q1, q2⟩ := noloss (L := twoL) (by decide +kernel) c
        split at h
        · rename_i hh
          cases h
          exact ⟨⟨fun q => absurd q q1, by simp; omega, by show w0.data.toList.length ≤ 30; omega, by simp, by simp, by simp, by simp⟩, fin q2⟩
        · cases h
      · split at h
        · rename_i c
          obtain ⟨q1, q2⟩ := noloss (L := oneL) (by decide +kernel) c
          split at h
          · cases h
            exact ⟨⟨fun q => absurd q q1, by simp, by show w0.data.toList.length ≤ 30; omega, by simp, by simp, by simp, by simp⟩, fin q2⟩
          · cases h
        · split at h
          · rename_i c
            have q1 : ¬ seqB op oLoss = true := by rw [seqB_iff.1 c]; decide +kernel
            have q2 : 3 ≤ op.data.toList.length := by rw [seqB_iff.1 c]; decide
            split at h
            · rename_i hh
              cases h
              refine ⟨⟨fun q => absurd q q1, by simp, by show w0.data.toList.length ≤ 30; omega, by simp, ?_, by simp, by simp⟩, fin q2⟩
              show (rest.getD 0 (dflt 4)).data.toList.length ≤ 1000
              match rest, hh.1, hr with
              | [y], _, hr => exact hr y (by simp)
            · cases h
          · split at h
            · rename_i c
              have q1 : ¬ seqB op oLoss = true := by rw [seqB_iff.1 c]; decide +kernel
              have q2 : 3 ≤ op.data.toList.length := by rw [seqB_iff.1 c]; decide
              split at h
              · obtain ⟨n, _, h⟩ := Option.bind_eq_some_iff.1 h
                split at h
                · cases h
                  exact ⟨⟨fun q => absurd q q1, by simp, by show w0.data.toList.length ≤ 30; omega, by simp, by simp, by simp, by simp⟩, fin q2⟩
                · cases h
              · cases h
            · split at h
              · rename_i c
                obtain ⟨q1, q2⟩ := noloss (L := resL) (by decide +kernel) c
                obtain ⟨d, hd, h⟩ := Option.bind_eq_some_iff.1 h
                split at h
                · rename_i hrs
                  have := rightS_len hrs
                  cases h
                  exact ⟨⟨fun q => absurd q q1, by simp, by show w0.data.toList.length ≤ 30; omega, by show d.length ≤ 10; omega, by simp, by simp, by simp⟩, fin q2⟩
                · cases h
              · cases h
    · cases h
  match w, hw, h with
  | [], hw, h => cases h
  | [_], hw, h => cases h
  | w0 :: w1 :: r, hw, h =>
    rw [parseV_cons] at h
    split at h
    · rename_i h1
      split at h
      · rename_i op a rest; exact made h1 (fun y hy => hw y (by simp [hy])) h
      · cases h
    · split at h
      · rename_i hn
        have n1 := nmB_len hn
        have fin : 4 ≤ w0.data.toList.length → 7 ≤ bulk (w0 :: w1 :: r) := fun h => by
          rw [bulk_cons, bulk_cons]; omega
        split at h
        · rename_i c
          have q : ¬ seqB w0 oLoss = true ∧ 4 ≤ w0.data.toList.length := by rcases c with c | c <;> rw [seqB_iff.1 c] <;> decide +kernel
          obtain ⟨d, hd, h⟩ := Option.bind_eq_some_iff.1 h
          split at h
          · rename_i hrs
            have := rightS_len hrs
            cases h
            exact ⟨⟨fun e => absurd e q.1, by simp, by show w1.data.toList.length ≤ 30; omega, by show d.length ≤ 10; omega, by simp, by simp, by simp⟩, fin q.2⟩
          · cases h
        · split at h
          · rename_i c
            have q2 : 4 ≤ w0.data.toList.length := by rw [seqB_iff.1 c]; decide
            unfold constV at h
            obtain ⟨k, _, h⟩ := Option.bind_eq_some_iff.1 h
            obtain ⟨d, hd, h⟩ := Option.bind_eq_some_iff.1 h
            split at h
            · rename_i hh
              have := rightS_len hh.1
              cases h
              refine ⟨⟨fun e => absurd e (show ¬ seqB oConst oLoss = true by decide +kernel), by simp, by show w1.data.toList.length ≤ 30; omega, by show d.length ≤ 10; omega, by simp, ?_, ?_⟩, fin q2⟩
              · show (r.drop (k + 1)).length ≤ 70
                have := hh.2.1; omega
              · intro t ht
                exact hw t (by simp [List.mem_of_mem_drop ht])
            · cases h
          · split at h
            · rename_i c
              have q2 : 4 ≤ w0.data.toList.length := by rw [seqB_iff.1 c.1]; decide
              cases h
              exact ⟨⟨fun _ => by simp, by simp, by simp, by simp, by simp, by simp, by simp⟩, fin q2⟩
            · cases h
      · cases h
theorem spl_bulk (c : UInt8) : ∀ l, ((spl c l).map fun p => p.length + 1).sum = l.length + 1
  | [] => rfl
  | x :: r => by
    by_cases h : x = c
    · subst h
      have e : spl x (x :: r) = [] :: spl x r := by simp [spl]
      rw [e, List.map_cons, List.sum_cons, spl_bulk x r, List.length_cons]
      simp; omega
    · obtain ⟨p, q, h1, h2⟩ := spl_cons c x r h
      have := spl_bulk c r
      rw [h1, List.map_cons, List.sum_cons] at this
      rw [h2, List.map_cons, List.sum_cons, List.length_cons, List.length_cons]
      omega
theorem words_bulk (p : List UInt8) : bulk (wordsL p) ≤ p.length + 1 := by
  have ht : (p.takeWhile (· ≠ 35)).length ≤ p.length := (List.takeWhile_sublist _).length_le
  have hb := spl_bulk 32 (p.takeWhile (· ≠ 35))
  have fl : ∀ (l : List (List UInt8)), bulk ((l.filter fun w => !w.isEmpty).map bL) ≤ (l.map fun p => p.length + 1).sum := by
    intro l
    induction l with
    | nil => exact Nat.le_refl _
    | cons w l ih =>
      rw [List.filter_cons]
      split
      · rw [List.map_cons, bulk_cons, bL_list, List.map_cons, List.sum_cons]; omega
      · rw [List.map_cons, List.sum_cons]; omega
  have := fl (spl 32 (p.takeWhile (· ≠ 35)))
  unfold wordsL
  omega
theorem lines_few : ∀ (ps : List (List UInt8)) (i : Nat) (S : List VI.Stmt), (∀ p ∈ ps, p.length ≤ 1000) → (linesGo i ps).map (fun l => parseV l.words) = S.map some → (∀ s ∈ S, okS s) ∧ 7 * S.length ≤ (ps.map fun p => p.length + 1).sum
  | [], i, S, _, h => by
    have : S = [] := by
      cases S with
      | nil => rfl
      | cons s S => simp [linesGo] at h
    subst this; exact ⟨by simp, by simp⟩
  | p :: ps, i, S, hp, h => by
    rw [linesGo] at h
    have hps : ∀ p ∈ ps, p.length ≤ 1000 := fun q hq => hp q (by simp [hq])
    have hpl := hp p (by simp)
    have hwb := words_bulk p
    obtain ⟨_, hwl⟩ := wordsL_ok p
    rw [List.map_cons, List.sum_cons]
    unfold mkL at h
    by_cases c : (wordsL p).isEmpty = true
    · rw [if_pos c, List.nil_append] at h
      obtain ⟨a, b⟩ := lines_few ps (i + 1) S hps h
      exact ⟨a, by omega⟩
    · rw [if_neg c] at h
      cases S with
      | nil => simp at h
      | cons s S =>
        rw [List.singleton_append, List.map_cons, List.map_cons, List.cons.injEq] at h
        obtain ⟨a, b⟩ := lines_few ps (i + 1) S hps h.2
        obtain ⟨q1, q2⟩ := parse_ok h.1 (fun y hy => by have := hwl y hy; omega)
        have q2 : 7 ≤ bulk (wordsL p) := q2
        refine ⟨fun t ht => ?_, by rw [List.length_cons]; omega⟩
        rcases List.mem_cons.1 ht with rfl | ht
        · exact q1
        · exact a t ht
theorem allV_cases : ∀ (L : List VI.Line) (acc : List VI.Stmt), ((allV L acc).2.2 ≠ 0 ∧ (allV L acc).1 = []) ∨ ((allV L acc).2.2 = 0 ∧ ∃ S, allV L acc = (acc ++ S, (0, 0)) ∧ L.map (fun l => parseV l.words) = S.map some)
  | [], acc => .inr ⟨rfl, [], by simp [allV], rfl⟩
  | l :: L, acc => by
    rw [allV]
    cases h : parseV l.words with
    | none => exact .inl ⟨by simp, rfl⟩
    | some s =>
      dsimp only
      rcases allV_cases L (acc ++ [s]) with h1 | ⟨h1, S, h2, h3⟩
      · exact .inl h1
      · exact .inr ⟨h1, s :: S, by rw [h2]; simp, by rw [List.map_cons, List.map_cons, h, h3]⟩
theorem short_read (s : ByteArray) (hs : s.data.toList.length ≤ 1000) : ((allV (linesV s) []).2.2 ≠ 0 ∧ (allV (linesV s) []).1 = []) ∨ ((allV (linesV s) []).2.2 = 0 ∧ (∀ t ∈ (allV (linesV s) []).1, okS t) ∧ 7 * (allV (linesV s) []).1.length ≤ s.data.toList.length + 1) := by
  rcases allV_cases (linesV s) [] with h | ⟨h1, S, h2, h3⟩
  · exact .inl h
  · right
    refine ⟨h1, ?_⟩
    rw [h2, List.nil_append]
    have := lines_few (spl 10 s.data.toList) 0 S (fun p hp => by have := spl_mem_len 10 _ p hp; omega) h3
    rw [spl_bulk] at this
    exact this
end Go.PL

