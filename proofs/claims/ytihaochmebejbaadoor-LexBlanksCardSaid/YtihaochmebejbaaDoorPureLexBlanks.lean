/- For every two texts: blanks more, or another kind of blank, change no line (tapewrightlaw08.LexBlanks answers true). Conditions: none beyond the statement's own. -/
import Derived.Test.YtihaochmebejbaaDoorPLexBlanksx3
import Derived.OpenShut
import Derived.Test.YtihaochmebejbaaDoorMathLex
namespace Go.Proofs.YtihaochmebejbaaDoor.Pure
open Go Go.RowKit Go.Proofs.YtihaochmebejbaaDoor.PLexBlanks Go.Proofs.YtihaochmebejbaaDoorW.PrintWords Go.Proofs.YtihaochmebejbaaDoorW.PrintLast
set_option linter.unusedVariables false
set_option linter.unusedSimpArgs false

theorem Ev_pos {α : Type} {c : Prop} [Decidable c] {f g : Nat → Option α} {r : α} (hc : c) (h : Ev f r) : Ev (fun k => if c then f k else g k) r := by
  simpa only [if_pos hc] using h
theorem Ev_neg {α : Type} {c : Prop} [Decidable c] {f g : Nat → Option α} {r : α} (hc : ¬ c) (h : Ev g r) : Ev (fun k => if c then f k else g k) r := by
  simpa only [if_neg hc] using h
theorem Ev_ret {α : Type} {f : Nat → Option α} {r : α} (h : Ev f r) : Ev (fun k => (f k).bind fun t => some t) r := Ev.bind h (Ev.now r)
theorem w64 {n : Int} (h0 : -9223372036854775808 ≤ n) (h1 : n < 9223372036854775808) : wrap64 n = n := by unfold wrap64; omega
theorem succ_cast (j : Nat) : ((j : Int) + 1) = ((j + 1 : Nat) : Int) := by omega
theorem drop_rd (xs : List Int) (j : Nat) (h : j < xs.length) : xs.drop j = rd xs (j : Int) :: xs.drop (j + 1) := by
  rw [List.drop_eq_getElem_cons h]; simp [rd, List.getD_eq_getElem?_getD, h]
theorem take_rd (xs : List Int) (j : Nat) (h : j < xs.length) : xs.take (j + 1) = xs.take j ++ [rd xs (j : Int)] := by
  rw [List.take_succ_eq_append_getElem h]; simp [rd, List.getD_eq_getElem?_getD, h]
theorem int_range {n : Int} (h : (Lit.int .i64 n).wf = true) : -9223372036854775808 ≤ n ∧ n < 9223372036854775808 := by
  have := bounds_i64 h
  omega

open Go.Proofs.YtihaochmebejbaaDoor.TwLex
theorem Ev_const {α : Type} {x : Option α} {r : α} (h : x = some r) : Ev (fun _ => x) r := ⟨0, fun _ _ => h⟩
theorem drop_rdOf {α : Type} (d : α) (xs : List α) (j : Nat) (h : j < xs.length) : xs.drop j = rdOf d xs (j : Int) :: xs.drop (j + 1) := by
  rw [List.drop_eq_getElem_cons h]; simp [rdOf, List.getD_eq_getElem?_getD, h]
theorem rdOf_map (xs : List (List UInt8)) (j : Nat) (h : j < xs.length) : rdOf ByteArray.empty (xs.map mkB) (j : Int) = mkB (xs.getD j []) := by
  simp [rdOf, List.getD_eq_getElem?_getD, h]
theorem toList_mkB (l : List UInt8) : (mkB l).toList = l := by rw [Go.Lib.toList_data]; rfl
theorem size_mkB (l : List UInt8) : (mkB l).size = l.length := by rw [ba_size]; rfl
theorem splitL_P (c : UInt8) : ∀ l, splitL c l = splitP c l
  | [] => rfl
  | b :: l => by
    obtain ⟨p, r, hp⟩ := splitP_cons c l
    rw [splitL, splitP, splitL_P c l, hp]
theorem split_eq (c : UInt8) (s : ByteArray) (h : s.size ≤ 1000000) : strings_Split.f s ⟨#[c]⟩ = some ((splitP c s.data.toList).map mkB) := by
  unfold strings_Split.f
  rw [if_pos ⟨rfl, by omega⟩, splitL_P]
  rfl
theorem indexByte_cut : ∀ l : List UInt8, (Go.Lib.indexByte l 35 = -1 ∧ cutP l = l) ∨ (0 ≤ Go.Lib.indexByte l 35 ∧ (Go.Lib.indexByte l 35).toNat < l.length ∧ cutP l = l.take (Go.Lib.indexByte l 35).toNat)
  | [] => .inl ⟨rfl, rfl⟩
  | b :: l => by
    by_cases hb : b = 35
    · subst hb
      right
      simp [Go.Lib.indexByte, cutP]
    · have hb' : (b == 35) = false := by simpa using hb
      rcases indexByte_cut l with ⟨h1, h2⟩ | ⟨h1, h2, h3⟩
      · left
        simp [Go.Lib.indexByte, hb', h1, cutP, hb, h2]
      · right
        have hm : (Go.Lib.indexByte l 35 == -1) = false := by simp; omega
        have e : Go.Lib.indexByte (b :: l) 35 = Go.Lib.indexByte l 35 + 1 := by simp [Go.Lib.indexByte, hb', hm]
        rw [e]
        have et : (Go.Lib.indexByte l 35 + 1).toNat = (Go.Lib.indexByte l 35).toNat + 1 := by omega
        rw [et]
        refine ⟨by omega, by simp; omega, ?_⟩
        simp [cutP, hb, h3]
theorem cut_eq (s : ByteArray) (h : s.size ≤ 1000000) : ∃ b c, strings_Cut.f s ⟨#[35]⟩ = some (mkB (cutP s.data.toList), b, c) := by
  unfold strings_Cut.f stringslite_Cut.f stringslite_Index.f
  have hsz := ba_size s
  rw [if_pos (show (⟨#[35]⟩ : ByteArray).size = 1 from rfl)]
  simp only [Option.bind_some]
  have e35 : (⟨#[35]⟩ : ByteArray).data.toList.getD 0 0 = 35 := rfl
  have e1 : ((⟨#[35]⟩ : ByteArray).size : Int) = 1 := rfl
  rw [e35, e1]
  rcases indexByte_cut s.data.toList with ⟨h1, h2⟩ | ⟨h1, h2, h3⟩
  · rw [h1, h2]
    exact ⟨_, _, rfl⟩
  · generalize Go.Lib.indexByte s.data.toList 35 = i at h1 h2 h3
    rw [if_pos h1, if_pos h1, if_pos (by omega), w64 (by omega) (by omega), if_pos (by omega), if_pos (by omega)]
    refine ⟨s.extract (i + 1).toNat s.size, true, ?_⟩
    simp only [Option.bind_some]
    congr 2
    refine ba_ext ?_
    rw [ba_extract, h3]
    rfl
/-- A line, as the program has it. -/
def toL (x : Nat × List (List UInt8)) : S33 := ⟨x.1, x.2.map mkB⟩
theorem words_loop (P : List ByteArray) (hP : P.length ≤ 1000001) (i : Nat) (hi : i ≤ 1000000) (out : List S33) (ho : out.length ≤ i) (ws : List (List UInt8)) (hw : ws.length ≤ 1000001) (R : List S33) : ∀ (d j : Nat) (acc : List (List UInt8)), j + d = ws.length → acc.length ≤ j →
    Ev (fun k => lex_Lines.l0 k (out ++ (if acc ++ (ws.drop j).filter (· ≠ []) = [] then [] else [toL (i + 1, acc ++ (ws.drop j).filter (· ≠ []))])) P (P.length : Int) ((i + 1 : Nat) : Int)) R →
    Ev (fun k => lex_Lines.l1 k out (i : Int) (acc.map mkB) P (P.length : Int) (i : Int) (ws.map mkB) (ws.length : Int) (j : Int)) R := by
  intro d
  induction d with
  | zero =>
    intro j acc hj ha h
    have hd : ws.drop j = [] := List.drop_eq_nil_of_le (by omega)
    rw [hd] at h
    simp only [List.filter_nil, List.append_nil] at h
    by_cases hacc : acc = []
    · subst hacc
      rw [if_pos rfl, List.append_nil] at h
      refine Ev.step (fun k => ?_) h
      rw [lex_Lines.l1, if_neg (by omega), if_neg (by simp), w64 (by omega) (by omega), succ_cast]
    · rw [if_neg hacc] at h
      refine Ev.step (fun k => ?_) h
      have hpos : 0 < acc.length := List.length_pos_iff.2 hacc
      rw [lex_Lines.l1, if_neg (by omega), if_pos (by simp; omega), if_pos (by omega), w64 (by omega) (by omega), succ_cast]
      rfl
  | succ d ih =>
    intro j acc hj ha h
    have hlt : j < ws.length := by omega
    have hdr : ws.drop j = ws.getD j [] :: ws.drop (j + 1) := by
      rw [List.drop_eq_getElem_cons hlt]; simp [List.getD_eq_getElem?_getD, hlt]
    rw [hdr] at h
    by_cases hne : ws.getD j [] = []
    · rw [hne] at h
      have e : (([] : List UInt8) :: ws.drop (j + 1)).filter (· ≠ []) = (ws.drop (j + 1)).filter (· ≠ []) := by simp
      rw [e] at h
      have hr := ih (j + 1) acc (by omega) (by omega) h
      refine Ev.step (fun k => ?_) hr
      rw [lex_Lines.l1, if_pos (by omega), if_pos (by omega), if_pos (by simp; omega), rdOf_map ws j hlt, toList_mkB, if_pos hne, w64 (by omega) (by omega), succ_cast]
    · have e : (ws.getD j [] :: ws.drop (j + 1)).filter (· ≠ []) = ws.getD j [] :: (ws.drop (j + 1)).filter (· ≠ []) := List.filter_cons_of_pos (decide_eq_true hne)
      rw [e] at h
      have e2 : acc ++ ws.getD j [] :: (ws.drop (j + 1)).filter (· ≠ []) = (acc ++ [ws.getD j []]) ++ (ws.drop (j + 1)).filter (· ≠ []) := by simp
      rw [e2] at h
      have hr := ih (j + 1) (acc ++ [ws.getD j []]) (by omega) (by simp; omega) h
      refine Ev.step (fun k => ?_) hr
      rw [lex_Lines.l1, if_pos (by omega), if_pos (by omega), if_pos (by simp; omega), rdOf_map ws j hlt, toList_mkB, if_neg hne, if_pos (by simp; omega), w64 (by omega) (by omega), succ_cast]
      simp
theorem lines_loop (P : List (List UInt8)) (hP : P.length ≤ 1000001) (hp : ∀ p ∈ P, p.length ≤ 1000000) : ∀ (d i : Nat) (out : List S33), i + d = P.length → out.length ≤ i →
    Ev (fun k => lex_Lines.l0 k out (P.map mkB) (P.length : Int) (i : Int)) (out ++ (linesP (i + 1) (P.drop i)).map toL) := by
  intro d
  induction d with
  | zero =>
    intro i out hi ho
    have hd : P.drop i = [] := List.drop_eq_nil_of_le (by omega)
    rw [hd]
    simp only [linesP, List.map_nil, List.append_nil]
    exact Ev.step (fun k => by rw [lex_Lines.l0, if_neg (by omega)]) (Ev.now _)
  | succ d ih =>
    intro i out hi ho
    have hlt : i < P.length := by omega
    have hdr : P.drop i = P.getD i [] :: P.drop (i + 1) := by
      rw [List.drop_eq_getElem_cons hlt]; simp [List.getD_eq_getElem?_getD, hlt]
    have hmem : P.getD i [] ∈ P := by simp [List.getD_eq_getElem?_getD, hlt]
    have hpl := hp _ hmem
    have hcl := cutP_len (P.getD i [])
    refine Ev.step (fun k => by rw [lex_Lines.l0, if_pos (by omega), if_pos (by omega), if_pos (by simp; omega), rdOf_map P i hlt]) ?_
    obtain ⟨b, c, hc⟩ := cut_eq (mkB (P.getD i [])) (by rw [size_mkB]; omega)
    rw [mkB_data] at hc
    refine Ev.bind (Ev_const hc) ?_
    have hsp := split_eq 32 (mkB (cutP (P.getD i []))) (by rw [size_mkB]; omega)
    rw [mkB_data] at hsp
    refine Ev.bind (Ev_const hsp) ?_
    have hlen := splitP_count 32 (cutP (P.getD i []))
    have hcnt : (cutP (P.getD i [])).count 32 ≤ (cutP (P.getD i [])).length := List.count_le_length
    have hr := ih (i + 1) (out ++ (if wordsP (P.getD i []) = [] then [] else [toL (i + 1, wordsP (P.getD i []))])) (by omega) (by split <;> simp <;> omega)
    have key := words_loop (P.map mkB) (by simp; omega) i (by omega) out ho (splitP 32 (cutP (P.getD i []))) (by omega) _ (splitP 32 (cutP (P.getD i []))).length 0 [] (by omega) (by simp) (by
      simp only [List.nil_append, List.drop_zero, List.length_map]
      rw [wordsP_split] at hr
      exact hr)
    simp only [List.map_nil, List.length_map, Int.natCast_zero] at key ⊢
    have efin : out ++ (linesP (i + 1) (P.drop i)).map toL = out ++ (if wordsP (P.getD i []) = [] then [] else [toL (i + 1, wordsP (P.getD i []))]) ++ (linesP (i + 1 + 1) (P.drop (i + 1))).map toL := by
      rw [hdr]
      simp only [linesP]
      split <;> simp
    rw [efin, wordsP_split]
    exact key
theorem lines_ev (s : ByteArray) (h : s.size ≤ 1000000) : Ev (fun k => lex_Lines.f k s) ((linesS s.data.toList).map toL) := by
  unfold lex_Lines.f
  have hsz := ba_size s
  refine Ev.bind (Ev_const (split_eq 10 s h)) ?_
  have hlen := splitP_count 10 s.data.toList
  have hcnt : s.data.toList.count 10 ≤ s.data.toList.length := List.count_le_length
  have := lines_loop (splitP 10 s.data.toList) (by omega) (fun p hp => by have := splitP_len 10 _ p hp; omega) (splitP 10 s.data.toList).length 0 [] (by omega) (by simp)
  simpa [linesS] using this
theorem bt_data (s : ByteArray) (i : Nat) (h : i < s.data.toList.length) : bt s (i : Int) = ((s.data.toList[i]).toNat : Int) := by
  have hs := ba_size s
  unfold bt
  rw [dif_pos (by simpa using (by omega : i < s.size))]
  rfl
theorem trim_set (l : List UInt8) : Go.Lib.trimS l setS = [] ↔ l.all (fun x => letter x || digit x) = true := trim_nil l
theorem name_eq (s : ByteArray) : lex_Name.f s = some (nameS s.data.toList) := by
  unfold lex_Name.f
  have hsz := ba_size s
  rw [Go.Lib.toList_data]
  cases hl : s.data.toList with
  | nil => rw [if_pos rfl]; rfl
  | cons b r =>
    rw [hl] at hsz
    simp only [List.length_cons] at hsz
    rw [if_neg (by simp)]
    simp only [nameS]
    by_cases h8 : r.length < 8
    · rw [if_neg (by omega), if_pos (by omega)]
      have hb : bt s 0 = (b.toNat : Int) := by
        have := bt_data s 0 (by rw [hl]; simp)
        show bt s ((0 : Nat) : Int) = _
        rw [this]
        simp [hl]
      rw [hb]
      by_cases c1 : (b.toNat : Int) < 97
      · rw [if_pos c1]
        have : letter b = false := by simp [letter]; omega
        rw [this]; rfl
      rw [if_neg c1]
      by_cases c2 : (b.toNat : Int) > 122
      · rw [if_pos c2]
        have : letter b = false := by simp [letter]; omega
        rw [this]; rfl
      rw [if_neg c2]
      have hlb : letter b = true := by simp [letter]; omega
      have key : strings_Trim.f s (⟨#[97, 98, 99, 100, 101, 102, 103, 104, 105, 106, 107, 108, 109, 110, 111, 112, 113, 114, 115, 116, 117, 118, 119, 120, 121, 122, 48, 49, 50, 51, 52, 53, 54, 55, 56, 57]⟩ : ByteArray) = some (mkB (Go.Lib.trimS s.data.toList setS)) := by
        unfold strings_Trim.f
        rw [if_pos ⟨by omega, by decide, by decide +kernel⟩]
        rfl
      rw [key]
      simp only [Option.bind_some, toList_mkB]
      rw [hl]
      congr 1
      have ht := trim_set (b :: r)
      rw [List.all_cons, hlb, Bool.true_or, Bool.true_and] at ht
      rw [hlb, Bool.true_and, decide_eq_true h8, Bool.and_true]
      cases ha : r.all (fun x => letter x || digit x) with
      | true => rw [ht.2 ha]; rfl
      | false =>
        have : ¬ Go.Lib.trimS (b :: r) setS = [] := fun e => by rw [ht.1 e] at ha; cases ha
        simpa using this
    · rw [if_pos (by omega)]
      simp [h8]
theorem awake_ev : Ev (fun k => tapewrightlaw08_awake.f k) true := by
  unfold tapewrightlaw08_awake.f
  refine Ev.bind (lines_ev _ (by decide)) ?_
  have e : linesS (⟨#[10, 97, 32, 32, 98, 32, 35, 32, 99]⟩ : ByteArray).data.toList = [(2, [[97], [98]])] := by decide +kernel
  rw [e]
  have n1 : lex_Name.f (⟨#[119, 49]⟩ : ByteArray) = some true := name_eq _
  have n2 : lex_Name.f (⟨#[49, 119]⟩ : ByteArray) = some false := name_eq _
  refine Ev_pos rfl (Ev_pos (by decide) (Ev_pos rfl (Ev_pos rfl (Ev_pos (by decide) (Ev_pos ?_ ?_)))))
  · show (mkB [98]).toList = _
    rw [toList_mkB]
  · refine Ev.bind (Ev_const n1) ?_
    refine Ev_pos rfl ?_
    refine Ev.bind (Ev_const n2) ?_
    exact Ev.now _
theorem awake_ret : Ev (fun k => (tapewrightlaw08_awake.f k).bind fun t => some t) true := Ev_ret awake_ev

theorem mkB_append (a b : List UInt8) : mkB a ++ mkB b = mkB (a ++ b) := ba_ext (by rw [ba_append]; rfl)
theorem extract_one (s : ByteArray) (i : Nat) (h : i < s.data.toList.length) : s.extract i (i + 1) = mkB [s.data.toList[i]] := by
  refine ba_ext ?_
  rw [ba_extract, mkB_data, List.take_succ_eq_append_getElem h, List.drop_append_of_le_length (by rw [List.length_take]; omega)]
  simp
theorem drop_get (l : List UInt8) (i : Nat) (h : i < l.length) : l.drop i = l[i] :: l.drop (i + 1) := List.drop_eq_getElem_cons h
theorem byte_eq (b : UInt8) (n : Nat) (hn : n < 256) : ((b.toNat : Int) = (n : Int)) ↔ b = UInt8.ofNat n := by
  constructor
  · intro h
    have h2 : b.toNat = n := by omega
    rw [← h2]; simp
  · rintro rfl
    simp; omega

/-- A line, as the reference has it. -/
def toR (x : Nat × List (List UInt8)) : S34 := ⟨x.1, x.2.map mkB⟩
def conv (x : S33) : S34 := ⟨x.f0, x.f1⟩
theorem conv_toL (l : List (Nat × List (List UInt8))) : (l.map toL).map conv = l.map toR := by
  rw [List.map_map]; rfl
theorem rd33 (xs : List S33) (j : Nat) (h : j < xs.length) : xs.drop j = rd_T33 xs (j : Int) :: xs.drop (j + 1) := by
  rw [List.drop_eq_getElem_cons h]; simp [rd_T33, List.getD_eq_getElem?_getD, h]
theorem ref_loop (xs : List S33) (hx : xs.length ≤ 10000000) : ∀ (d j : Nat) (out : List S34), j + d = xs.length → out.length ≤ j →
    Ev (fun k => tapewrightlaw08_ref.l0 k out xs (xs.length : Int) (j : Int)) (out ++ (xs.drop j).map conv) := by
  intro d
  induction d with
  | zero =>
    intro j out hj ho
    have hd : xs.drop j = [] := List.drop_eq_nil_of_le (by omega)
    rw [hd]
    simp only [List.map_nil, List.append_nil]
    exact Ev.step (fun k => by rw [tapewrightlaw08_ref.l0, if_neg (by omega)]) (Ev.now _)
  | succ d ih =>
    intro j out hj ho
    have hr := ih (j + 1) (out ++ [conv (rd_T33 xs (j : Int))]) (by omega) (by simp; omega)
    rw [rd33 xs j (by omega)]
    simp only [List.map_cons]
    rw [List.append_assoc, List.singleton_append] at hr
    refine Ev.step (fun k => ?_) hr
    rw [tapewrightlaw08_ref.l0, if_pos (by omega), if_pos (by omega), if_pos (by omega), if_pos (by omega), w64 (by omega) (by omega), succ_cast]
    rfl
theorem ref_ev (xs : List S33) (hx : xs.length ≤ 10000000) : Ev (fun k => tapewrightlaw08_ref.f k xs) (xs.map conv) := by
  unfold tapewrightlaw08_ref.f
  have := ref_loop xs hx xs.length 0 [] (by omega) (by simp)
  simpa using this
theorem equal_words (l : List S34) (hl : l.length ≤ 10000000) (i : Nat) (hi : i < l.length) (hw : (rd_T34 l (i : Int)).f1.length ≤ 10000000)
    (h : Ev (fun k => tapewrightref08_Equal.l0 k l l ((i + 1 : Nat) : Int)) true) : ∀ (d j : Nat), j + d = (rd_T34 l (i : Int)).f1.length →
    Ev (fun k => tapewrightref08_Equal.l1 k l l (i : Int) (j : Int)) true := by
  intro d
  induction d with
  | zero =>
    intro j hj
    refine Ev.step (fun k => ?_) h
    rw [tapewrightref08_Equal.l1, if_pos (by omega), if_pos (by omega), if_neg (by omega), w64 (by omega) (by omega), succ_cast]
  | succ d ih =>
    intro j hj
    have hr := ih (j + 1) (by omega)
    refine Ev.step (fun k => ?_) hr
    rw [tapewrightref08_Equal.l1, if_pos (by omega), if_pos (by omega), if_pos (by omega), if_pos (by omega), if_pos (by omega), if_pos (by omega), if_pos rfl, w64 (by omega) (by omega), succ_cast]
theorem equal_lines (l : List S34) (hl : l.length ≤ 10000000) (hw : ∀ x ∈ l, x.f1.length ≤ 10000000) : ∀ (d i : Nat), i + d = l.length →
    Ev (fun k => tapewrightref08_Equal.l0 k l l (i : Int)) true := by
  intro d
  induction d with
  | zero =>
    intro i hi
    exact Ev.step (f := fun _ => some true) (fun k => by rw [tapewrightref08_Equal.l0, if_neg (by omega)]) (Ev.now _)
  | succ d ih =>
    intro i hi
    have hr := ih (i + 1) (by omega)
    have hlt : i < l.length := by omega
    have hmem : rd_T34 l (i : Int) ∈ l := by simp [rd_T34, List.getD_eq_getElem?_getD, hlt]
    have hws := hw _ hmem
    have hr2 := equal_words l hl i hlt hws hr (rd_T34 l (i : Int)).f1.length 0 (by omega)
    refine Ev.step (fun k => by rw [tapewrightref08_Equal.l0, if_pos (by omega), if_pos (by omega), if_pos (by omega), if_pos rfl]) ?_
    refine Ev.step (fun k => ?_) hr2
    rw [tapewrightref08_Equal.j1, if_neg (by simp)]
    rfl
theorem equal_ev (l : List S34) (hl : l.length ≤ 10000000) (hw : ∀ x ∈ l, x.f1.length ≤ 10000000) : Ev (fun k => tapewrightref08_Equal.f k l l) true := by
  unfold tapewrightref08_Equal.f
  refine Ev_pos rfl ?_
  exact equal_lines l hl hw l.length 0 (by omega)
theorem toR_bounds (l : List UInt8) (h : l.length ≤ 1000000) : ((linesS l).map toR).length ≤ 10000000 ∧ ∀ x ∈ (linesS l).map toR, x.f1.length ≤ 10000000 := by
  obtain ⟨h1, h2⟩ := linesS_bounds l
  refine ⟨by simp; omega, fun x hx => ?_⟩
  rw [List.mem_map] at hx
  obtain ⟨y, hy, rfl⟩ := hx
  have := (h2 y hy).2
  simp [toR]
  omega
theorem toL_len (l : List UInt8) (h : l.length ≤ 1000000) : ((linesS l).map toL).length ≤ 10000000 := by
  obtain ⟨h1, _⟩ := linesS_bounds l
  simp
  omega

theorem wide_loop (s c : ByteArray) (hs : s.data.toList.length ≤ 1024) (hc : c.data.toList.length ≤ 100) (hc10 : ∀ b ∈ c.data.toList, b ≠ 10) : ∀ (d i : Nat) (acc : List UInt8), i + d = s.data.toList.length → acc = wide (s.data.toList.take i) →
    Ev (fun k => tapewrightlaw08_LexBlanks.l1 k s c (mkB acc) (s.size : Int) (i : Int)) true := by
  have hsz := ba_size s
  have hcz := ba_size c
  intro d
  induction d with
  | zero =>
    intro i acc hi ha
    have ht : s.data.toList.take i = s.data.toList := List.take_of_length_le (by omega)
    rw [ht] at ha
    have hal : acc.length ≤ 3072 := by have := wide_len s.data.toList; rw [ha]; omega
    refine Ev.step (fun k => by rw [tapewrightlaw08_LexBlanks.l1, if_neg (by omega)]) ?_
    refine Ev.bind (lines_ev s (by omega)) ?_
    refine Ev.bind (ref_ev _ (toL_len _ (by omega))) ?_
    rw [conv_toL]
    have e1 : (⟨#[32]⟩ : ByteArray) ++ mkB acc = mkB (32 :: acc) := mkB_append [32] acc
    have e2 : mkB (32 :: acc) ++ (⟨#[32, 35]⟩ : ByteArray) = mkB (32 :: acc ++ [32, 35]) := mkB_append (32 :: acc) [32, 35]
    have e3 : mkB (32 :: acc ++ [32, 35]) ++ c = mkB (32 :: acc ++ [32, 35] ++ c.data.toList) := mkB_append (32 :: acc ++ [32, 35]) c.data.toList
    have hm := size_mkB acc
    refine Ev_pos (by omega) ?_
    rw [e1]
    have hm1 := size_mkB (32 :: acc)
    simp only [List.length_cons] at hm1
    refine Ev_pos (by omega) ?_
    rw [e2]
    have hm2 := size_mkB (32 :: acc ++ [32, 35])
    simp only [List.length_cons, List.length_append, List.length_nil] at hm2
    refine Ev_pos (by omega) ?_
    rw [e3]
    have hm3 := size_mkB (32 :: acc ++ [32, 35] ++ c.data.toList)
    simp only [List.length_cons, List.length_append, List.length_nil] at hm3
    refine Ev.bind (lines_ev _ (by omega)) ?_
    rw [mkB_data]
    refine Ev.bind (ref_ev _ (toL_len _ (by simp; omega))) ?_
    rw [conv_toL]
    have el : linesS (32 :: acc ++ [32, 35] ++ c.data.toList) = linesS s.data.toList := by
      rw [List.append_assoc]
      show linesS ((32 :: acc) ++ 32 :: 35 :: c.data.toList) = _
      rw [linesS_comment _ _ hc10, linesS_blank, ha, linesS_wide]
    rw [el]
    obtain ⟨b1, b2⟩ := toR_bounds s.data.toList (by omega)
    refine Ev.bind (equal_ev _ b1 b2) ?_
    exact Ev_pos rfl awake_ret
  | succ d ih =>
    intro i acc hi ha
    have hlt : i < s.data.toList.length := by omega
    have hal : acc.length ≤ 3072 := by
      have := wide_len (s.data.toList.take i)
      rw [List.length_take] at this
      rw [ha]; omega
    have hb := bt_data s i hlt
    have ht : s.data.toList.take (i + 1) = s.data.toList.take i ++ [s.data.toList[i]] := List.take_succ_eq_append_getElem hlt
    have ex : s.extract (i : Int).toNat (((i + 1 : Nat) : Int)).toNat = mkB [s.data.toList[i]] := by
      rw [Int.toNat_natCast, Int.toNat_natCast, extract_one s i hlt]
    generalize s.data.toList[i] = b at hb ht ex
    have hm := size_mkB acc
    have hm1 : (mkB [b]).size = 1 := size_mkB [b]
    have hm2 : (mkB (acc ++ [b])).size = acc.length + 1 := by rw [size_mkB]; simp
    by_cases h32 : b = 32
    · subst h32
      have hr := ih (i + 1) (acc ++ [32, 32, 32]) (by omega) (by rw [ht, wide_append, ← ha]; rfl)
      refine Ev.step (fun k => ?_) hr
      have e2 : mkB (acc ++ [32]) ++ (⟨#[32, 32]⟩ : ByteArray) = mkB (acc ++ [32, 32, 32]) := by
        have := mkB_append (acc ++ [32]) [32, 32]
        rw [List.append_assoc] at this
        exact this
      rw [tapewrightlaw08_LexBlanks.l1, if_pos (by omega), if_pos (by omega), w64 (by omega) (by omega), succ_cast, if_pos (by omega), if_pos (by omega), ex, if_pos (by omega), if_pos (by omega), if_pos (by rw [hb]; rfl), mkB_append, if_pos (by omega), e2]
    · have hr := ih (i + 1) (acc ++ [b]) (by omega) (by rw [ht, wide_append, ← ha]; simp [wide, h32])
      refine Ev.step (fun k => ?_) hr
      rw [tapewrightlaw08_LexBlanks.l1, if_pos (by omega), if_pos (by omega), w64 (by omega) (by omega), succ_cast, if_pos (by omega), if_pos (by omega), ex, if_pos (by omega), if_pos (by omega), if_neg (by rw [hb]; intro h; exact h32 ((byte_eq b 32 (by decide)).1 h)), mkB_append]
theorem comment_loop (s c : ByteArray) (hs : s.data.toList.length ≤ 1024) (hc : c.data.toList.length ≤ 100) : ∀ (d i : Nat), i + d = c.data.toList.length → (∀ b ∈ c.data.toList.take i, b ≠ 10) →
    Ev (fun k => tapewrightlaw08_LexBlanks.l0 k s c (c.size : Int) (i : Int)) true := by
  have hcz := ba_size c
  intro d
  induction d with
  | zero =>
    intro i hi h
    have ht : c.data.toList.take i = c.data.toList := List.take_of_length_le (by omega)
    rw [ht] at h
    have := wide_loop s c hs hc h s.data.toList.length 0 [] (by omega) rfl
    refine Ev.step (fun k => ?_) this
    rw [tapewrightlaw08_LexBlanks.l0, if_neg (by omega)]
    rfl
  | succ d ih =>
    intro i hi h
    have hlt : i < c.data.toList.length := by omega
    have hb := bt_data c i hlt
    have ht : c.data.toList.take (i + 1) = c.data.toList.take i ++ [c.data.toList[i]] := List.take_succ_eq_append_getElem hlt
    generalize c.data.toList[i] = b at hb ht
    by_cases h10 : b = 10
    · subst h10
      refine Ev.step (fun k => by rw [tapewrightlaw08_LexBlanks.l0, if_pos (by omega), if_pos (by omega), if_pos (by omega), if_pos (by rw [hb]; rfl)]) awake_ret
    · have hr := ih (i + 1) (by omega) (by
        intro x hx
        rw [ht, List.mem_append, List.mem_singleton] at hx
        rcases hx with hx | rfl
        · exact h x hx
        · exact h10)
      refine Ev.step (fun k => ?_) hr
      rw [tapewrightlaw08_LexBlanks.l0, if_pos (by omega), if_pos (by omega), if_pos (by omega), if_neg (by rw [hb]; intro h; exact h10 ((byte_eq b 10 (by decide)).1 h)), w64 (by omega) (by omega), succ_cast]
theorem LexBlanks : tapewrightlaw08_LexBlanks.Pure := by
  intro s c hs hc
  refine Ev.rounds ?_
  unfold tapewrightlaw08_LexBlanks.f
  have hsz := ba_size s
  have hcz := ba_size c
  have hT : Ev (fun k => tapewrightlaw08_LexBlanks.j0 k s c true) true := Ev.step (fun k => by rw [tapewrightlaw08_LexBlanks.j0, if_pos rfl]) awake_ret
  by_cases c1 : (s.size : Int) > 1024
  · exact Ev_pos c1 hT
  refine Ev_neg c1 ?_
  by_cases c2 : 100 < (c.size : Int)
  · rw [decide_eq_true c2]; exact hT
  rw [decide_eq_false c2]
  refine Ev.step (fun k => by rw [tapewrightlaw08_LexBlanks.j0, if_neg (by simp)]) ?_
  exact comment_loop s c (by omega) (by omega) c.data.toList.length 0 (by omega) (by simp)

end Go.Proofs.YtihaochmebejbaaDoor.Pure
