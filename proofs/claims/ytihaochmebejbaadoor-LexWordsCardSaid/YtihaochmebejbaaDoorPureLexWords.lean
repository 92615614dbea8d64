/- For every list of words: names joined by blanks are read back as one line of these names, joined by line ends as a line each (tapewrightlaw08.LexWords answers true). Conditions: none beyond the statement's own. -/
import Derived.Test.YtihaochmebejbaaDoorPLexWordsx2
import Derived.OpenShut
import Derived.Test.YtihaochmebejbaaDoorMathLex
namespace Go.Proofs.YtihaochmebejbaaDoor.Pure
open Go Go.RowKit Go.Proofs.YtihaochmebejbaaDoor.PLexWords Go.Proofs.YtihaochmebejbaaDoorW.PrintWords Go.Proofs.YtihaochmebejbaaDoorW.PrintLast
set_option linter.unusedVariables false
set_option linter.unusedSimpArgs false

theorem Ev_pos {α : Type} {c : Prop} [Decidable c] {f g : Nat → Option α} {r : α} (hc : c) (h : Ev f r) : Ev (fun k => if c then f k else g k) r := by
  simpa only [if_pos hc] using h
theorem Ev_neg {α : Type} {c : Prop} [Decidable c] {f g : Nat → Option α} {r : α} (hc : ¬ c) (h : Ev g r) : Ev (fun k => if c then f k else g k) r := by
  simpa only [if_neg hc] using h
theorem Ev_ret {α : Type} {f : Nat → Option α} {r : α} (h : Ev f r) : Ev (fun k => (f k).bind fun t => some t) r := Ev.bind h (Ev.now r)
theorem w64 {n : Int} (h0 : -9223372036854775808 ≤ n) (h1 : n < 9223372036854775808) : wrap64 n = n := by unfold wrap64; omega
theorem succ_cast (j : Nat) : ((j : Int) + 1) = ((j + 1 : Nat) : Int) := by omega
theorem drop_rd (xs : List Int) (j : Nat) (h : j < xs.length) : xs.drop j = rd xs (j : Int) :: xs.drop (j + 1) := by
  rw [List.drop_eq_getElem_cons h]; simp [rd, List.getD_eq_getElem?_getD, h]
theorem take_rd (xs : List Int) (j : Nat) (h : j < xs.length) : xs.take (j + 1) = xs.take j ++ [rd xs (j : Int)] := by
  rw [List.take_succ_eq_append_getElem h]; simp [rd, List.getD_eq_getElem?_getD, h]
theorem int_range {n : Int} (h : (Lit.int .i64 n).wf = true) : -9223372036854775808 ≤ n ∧ n < 9223372036854775808 := by
  have := bounds_i64 h
  omega

open Go.Proofs.YtihaochmebejbaaDoor.TwLex
theorem Ev_const {α : Type} {x : Option α} {r : α} (h : x = some r) : Ev (fun _ => x) r := ⟨0, fun _ _ => h⟩
theorem drop_rdOf {α : Type} (d : α) (xs : List α) (j : Nat) (h : j < xs.length) : xs.drop j = rdOf d xs (j : Int) :: xs.drop (j + 1) := by
  rw [List.drop_eq_getElem_cons h]; simp [rdOf, List.getD_eq_getElem?_getD, h]
theorem rdOf_map (xs : List (List UInt8)) (j : Nat) (h : j < xs.length) : rdOf ByteArray.empty (xs.map mkB) (j : Int) = mkB (xs.getD j []) := by
  simp [rdOf, List.getD_eq_getElem?_getD, h]
theorem toList_mkB (l : List UInt8) : (mkB l).toList = l := by rw [Go.Lib.toList_data]; rfl
theorem size_mkB (l : List UInt8) : (mkB l).size = l.length := by rw [ba_size]; rfl
theorem splitL_P (c : UInt8) : ∀ l, splitL c l = splitP c l
  | [] => rfl
  | b :: l => by
    obtain ⟨p, r, hp⟩ := splitP_cons c l
    rw [splitL, splitP, splitL_P c l, hp]
theorem split_eq (c : UInt8) (s : ByteArray) (h : s.size ≤ 1000000) : strings_Split.f s ⟨#[c]⟩ = some ((splitP c s.data.toList).map mkB) := by
  unfold strings_Split.f
  rw [if_pos ⟨rfl, by omega⟩, splitL_P]
  rfl
theorem indexByte_cut : ∀ l : List UInt8, (Go.Lib.indexByte l 35 = -1 ∧ cutP l = l) ∨ (0 ≤ Go.Lib.indexByte l 35 ∧ (Go.Lib.indexByte l 35).toNat < l.length ∧ cutP l = l.take (Go.Lib.indexByte l 35).toNat)
  | [] => .inl ⟨rfl, rfl⟩
  | b :: l => by
    by_cases hb : b = 35
    · subst hb
      right
      simp [Go.Lib.indexByte, cutP]
    · have hb' : (b == 35) = false := by simpa using hb
      rcases indexByte_cut l with ⟨h1, h2⟩ | ⟨h1, h2, h3⟩
      · left
        simp [Go.Lib.indexByte, hb', h1, cutP, hb, h2]
      · right
        have hm : (Go.Lib.indexByte l 35 == -1) = false := by simp; omega
        have e : Go.Lib.indexByte (b :: l) 35 = Go.Lib.indexByte l 35 + 1 := by simp [Go.Lib.indexByte, hb', hm]
        rw [e]
        have et : (Go.Lib.indexByte l 35 + 1).toNat = (Go.Lib.indexByte l 35).toNat + 1 := by omega
        rw [et]
        refine ⟨by omega, by simp; omega, ?_⟩
        simp [cutP, hb, h3]
theorem cut_eq (s : ByteArray) (h : s.size ≤ 1000000) : ∃ b c, strings_Cut.f s ⟨#[35]⟩ = some (mkB (cutP s.data.toList), b, c) := by
  unfold strings_Cut.f stringslite_Cut.f stringslite_Index.f
  have hsz := ba_size s
  rw [if_pos (show (⟨#[35]⟩ : ByteArray).size = 1 from rfl)]
  simp only [Option.bind_some]
  have e35 : (⟨#[35]⟩ : ByteArray).data.toList.getD 0 0 = 35 := rfl
  have e1 : ((⟨#[35]⟩ : ByteArray).size : Int) = 1 := rfl
  rw [e35, e1]
  rcases indexByte_cut s.data.toList with ⟨h1, h2⟩ | ⟨h1, h2, h3⟩
  · rw [h1, h2]
    exact ⟨_, _, rfl⟩
  · generalize Go.Lib.indexByte s.data.toList 35 = i at h1 h2 h3
    rw [if_pos h1, if_pos h1, if_pos (by omega), w64 (by omega) (by omega), if_pos (by omega), if_pos (by omega)]
    refine ⟨s.extract (i + 1).toNat s.size, true, ?_⟩
    simp only [Option.bind_some]
    congr 2
    refine ba_ext ?_
    rw [ba_extract, h3]
    rfl
/-- A line, as the program has it. -/
def toL (x : Nat × List (List UInt8)) : S33 := ⟨x.1, x.2.map mkB⟩
theorem words_loop (P : List ByteArray) (hP : P.length ≤ 1000001) (i : Nat) (hi : i ≤ 1000000) (out : List S33) (ho : out.length ≤ i) (ws : List (List UInt8)) (hw : ws.length ≤ 1000001) (R : List S33) : ∀ (d j : Nat) (acc : List (List UInt8)), j + d = ws.length → acc.length ≤ j →
    Ev (fun k => lex_Lines.l0 k (out ++ (if acc ++ (ws.drop j).filter (· ≠ []) = [] then [] else [toL (i + 1, acc ++ (ws.drop j).filter (· ≠ []))])) P (P.length : Int) ((i + 1 : Nat) : Int)) R →
    Ev (fun k => lex_Lines.l1 k out (i : Int) (acc.map mkB) P (P.length : Int) (i : Int) (ws.map mkB) (ws.length : Int) (j : Int)) R := by
  intro d
  induction d with
  | zero =>
    intro j acc hj ha h
    have hd : ws.drop j = [] := List.drop_eq_nil_of_le (by omega)
    rw [hd] at h
    simp only [List.filter_nil, List.append_nil] at h
    by_cases hacc : acc = []
    · subst hacc
      rw [if_pos rfl, List.append_nil] at h
      refine Ev.step (fun k => ?_) h
      rw [lex_Lines.l1, if_neg (by omega), if_neg (by simp), w64 (by omega) (by omega), succ_cast]
    · rw [if_neg hacc] at h
      refine Ev.step (fun k => ?_) h
      have hpos : 0 < acc.length := List.length_pos_iff.2 hacc
      rw [lex_Lines.l1, if_neg (by omega), if_pos (by simp; omega), if_pos (by omega), w64 (by omega) (by omega), succ_cast]
      rfl
  | succ d ih =>
    intro j acc hj ha h
    have hlt : j < ws.length := by omega
    have hdr : ws.drop j = ws.getD j [] :: ws.drop (j + 1) := by
      rw [List.drop_eq_getElem_cons hlt]; simp [List.getD_eq_getElem?_getD, hlt]
    rw [hdr] at h
    by_cases hne : ws.getD j [] = []
    · rw [hne] at h
      have e : (([] : List UInt8) :: ws.drop (j + 1)).filter (· ≠ []) = (ws.drop (j + 1)).filter (· ≠ []) := by simp
      rw [e] at h
      have hr := ih (j + 1) acc (by omega) (by omega) h
      refine Ev.step (fun k => ?_) hr
      rw [lex_Lines.l1, if_pos (by omega), if_pos (by omega), if_pos (by simp; omega), rdOf_map ws j hlt, toList_mkB, if_pos hne, w64 (by omega) (by omega), succ_cast]
    · have e : (ws.getD j [] :: ws.drop (j + 1)).filter (· ≠ []) = ws.getD j [] :: (ws.drop (j + 1)).filter (· ≠ []) := List.filter_cons_of_pos (decide_eq_true hne)
      rw [e] at h
      have e2 : acc ++ ws.getD j [] :: (ws.drop (j + 1)).filter (· ≠ []) = (acc ++ [ws.getD j []]) ++ (ws.drop (j + 1)).filter (· ≠ []) := by simp
      rw [e2] at h
      have hr := ih (j + 1) (acc ++ [ws.getD j []]) (by omega) (by simp; omega) h
      refine Ev.step (fun k => ?_) hr
      rw [lex_Lines.l1, if_pos (by omega), if_pos (by omega), if_pos (by simp; omega), rdOf_map ws j hlt, toList_mkB, if_neg hne, if_pos (by simp; omega), w64 (by omega) (by omega), succ_cast]
      simp
theorem lines_loop (P : List (List UInt8)) (hP : P.length ≤ 1000001) (hp : ∀ p ∈ P, p.length ≤ 1000000) : ∀ (d i : Nat) (out : List S33), i + d = P.length → out.length ≤ i →
    Ev (fun k => lex_Lines.l0 k out (P.map mkB) (P.length : Int) (i : Int)) (out ++ (linesP (i + 1) (P.drop i)).map toL) := by
  intro d
  induction d with
  | zero =>
    intro i out hi ho
    have hd : P.drop i = [] := List.drop_eq_nil_of_le (by omega)
    rw [hd]
    simp only [linesP, List.map_nil, List.append_nil]
    exact Ev.step (fun k => by rw [lex_Lines.l0, if_neg (by omega)]) (Ev.now _)
  | succ d ih =>
    intro i out hi ho
    have hlt : i < P.length := by omega
    have hdr : P.drop i = P.getD i [] :: P.drop (i + 1) := by
      rw [List.drop_eq_getElem_cons hlt]; simp [List.getD_eq_getElem?_getD, hlt]
    have hmem : P.getD i [] ∈ P := by simp [List.getD_eq_getElem?_getD, hlt]
    have hpl := hp _ hmem
    have hcl := cutP_len (P.getD i [])
    refine Ev.step (fun k => by rw [lex_Lines.l0, if_pos (by omega), if_pos (by omega), if_pos (by simp; omega), rdOf_map P i hlt]) ?_
    obtain ⟨b, c, hc⟩ := cut_eq (mkB (P.getD i [])) (by rw [size_mkB]; omega)
    rw [mkB_data] at hc
    refine Ev.bind (Ev_const hc) ?_
    have hsp := split_eq 32 (mkB (cutP (P.getD i []))) (by rw [size_mkB]; omega)
    rw [mkB_data] at hsp
    refine Ev.bind (Ev_const hsp) ?_
    have hlen := splitP_count 32 (cutP (P.getD i []))
    have hcnt : (cutP (P.getD i [])).count 32 ≤ (cutP (P.getD i [])).length := List.count_le_length
    have hr := ih (i + 1) (out ++ (if wordsP (P.getD i []) = [] then [] else [toL (i + 1, wordsP (P.getD i []))])) (by omega) (by split <;> simp <;> omega)
    have key := words_loop (P.map mkB) (by simp; omega) i (by omega) out ho (splitP 32 (cutP (P.getD i []))) (by omega) _ (splitP 32 (cutP (P.getD i []))).length 0 [] (by omega) (by simp) (by
      simp only [List.nil_append, List.drop_zero, List.length_map]
      rw [wordsP_split] at hr
      exact hr)
    simp only [List.map_nil, List.length_map, Int.natCast_zero] at key ⊢
    have efin : out ++ (linesP (i + 1) (P.drop i)).map toL = out ++ (if wordsP (P.getD i []) = [] then [] else [toL (i + 1, wordsP (P.getD i []))]) ++ (linesP (i + 1 + 1) (P.drop (i + 1))).map toL := by
      rw [hdr]
      simp only [linesP]
      split <;> simp
    rw [efin, wordsP_split]
    exact key
theorem lines_ev (s : ByteArray) (h : s.size ≤ 1000000) : Ev (fun k => lex_Lines.f k s) ((linesS s.data.toList).map toL) := by
  unfold lex_Lines.f
  have hsz := ba_size s
  refine Ev.bind (Ev_const (split_eq 10 s h)) ?_
  have hlen := splitP_count 10 s.data.toList
  have hcnt : s.data.toList.count 10 ≤ s.data.toList.length := List.count_le_length
  have := lines_loop (splitP 10 s.data.toList) (by omega) (fun p hp => by have := splitP_len 10 _ p hp; omega) (splitP 10 s.data.toList).length 0 [] (by omega) (by simp)
  simpa [linesS] using this
theorem bt_data (s : ByteArray) (i : Nat) (h : i < s.data.toList.length) : bt s (i : Int) = ((s.data.toList[i]).toNat : Int) := by
  have hs := ba_size s
  unfold bt
  rw [dif_pos (by simpa using (by omega : i < s.size))]
  rfl
theorem trim_set (l : List UInt8) : Go.Lib.trimS l setS = [] ↔ l.all (fun x => letter x || digit x) = true := trim_nil l
theorem name_eq (s : ByteArray) : lex_Name.f s = some (nameS s.data.toList) := by
  unfold lex_Name.f
  have hsz := ba_size s
  rw [Go.Lib.toList_data]
  cases hl : s.data.toList with
  | nil => rw [if_pos rfl]; rfl
  | cons b r =>
    rw [hl] at hsz
    simp only [List.length_cons] at hsz
    rw [if_neg (by simp)]
    simp only [nameS]
    by_cases h8 : r.length < 8
    · rw [if_neg (by omega), if_pos (by omega)]
      have hb : bt s 0 = (b.toNat : Int) := by
        have := bt_data s 0 (by rw [hl]; simp)
        show bt s ((0 : Nat) : Int) = _
        rw [this]
        simp [hl]
      rw [hb]
      by_cases c1 : (b.toNat : Int) < 97
      · rw [if_pos c1]
        have : letter b = false := by simp [letter]; omega
        rw [this]; rfl
      rw [if_neg c1]
      by_cases c2 : (b.toNat : Int) > 122
      · rw [if_pos c2]
        have : letter b = false := by simp [letter]; omega
        rw [this]; rfl
      rw [if_neg c2]
      have hlb : letter b = true := by simp [letter]; omega
      have key : strings_Trim.f s (⟨#[97, 98, 99, 100, 101, 102, 103, 104, 105, 106, 107, 108, 109, 110, 111, 112, 113, 114, 115, 116, 117, 118, 119, 120, 121, 122, 48, 49, 50, 51, 52, 53, 54, 55, 56, 57]⟩ : ByteArray) = some (mkB (Go.Lib.trimS s.data.toList setS)) := by
        unfold strings_Trim.f
        rw [if_pos ⟨by omega, by decide, by decide +kernel⟩]
        rfl
      rw [key]
      simp only [Option.bind_some, toList_mkB]
      rw [hl]
      congr 1
      have ht := trim_set (b :: r)
      rw [List.all_cons, hlb, Bool.true_or, Bool.true_and] at ht
      rw [hlb, Bool.true_and, decide_eq_true h8, Bool.and_true]
      cases ha : r.all (fun x => letter x || digit x) with
      | true => rw [ht.2 ha]; rfl
      | false =>
        have : ¬ Go.Lib.trimS (b :: r) setS = [] := fun e => by rw [ht.1 e] at ha; cases ha
        simpa using this
    · rw [if_pos (by omega)]
      simp [h8]
theorem awake_ev : Ev (fun k => tapewrightlaw08_awake.f k) true := by
  unfold tapewrightlaw08_awake.f
  refine Ev.bind (lines_ev _ (by decide)) ?_
  have e : linesS (⟨#[10, 97, 32, 32, 98, 32, 35, 32, 99]⟩ : ByteArray).data.toList = [(2, [[97], [98]])] := by decide +kernel
  rw [e]
  have n1 : lex_Name.f (⟨#[119, 49]⟩ : ByteArray) = some true := name_eq _
  have n2 : lex_Name.f (⟨#[49, 119]⟩ : ByteArray) = some false := name_eq _
  refine Ev_pos rfl (Ev_pos (by decide) (Ev_pos rfl (Ev_pos rfl (Ev_pos (by decide) (Ev_pos ?_ ?_)))))
  · show (mkB [98]).toList = _
    rw [toList_mkB]
  · refine Ev.bind (Ev_const n1) ?_
    refine Ev_pos rfl ?_
    refine Ev.bind (Ev_const n2) ?_
    exact Ev.now _
theorem awake_ret : Ev (fun k => (tapewrightlaw08_awake.f k).bind fun t => some t) true := Ev_ret awake_ev

theorem mkB_append (a b : List UInt8) : mkB a ++ mkB b = mkB (a ++ b) := ba_ext (by rw [ba_append]; rfl)
theorem extract_one (s : ByteArray) (i : Nat) (h : i < s.data.toList.length) : s.extract i (i + 1) = mkB [s.data.toList[i]] := by
  refine ba_ext ?_
  rw [ba_extract, mkB_data, List.take_succ_eq_append_getElem h, List.drop_append_of_le_length (by rw [List.length_take]; omega)]
  simp
theorem drop_get (l : List UInt8) (i : Nat) (h : i < l.length) : l.drop i = l[i] :: l.drop (i + 1) := List.drop_eq_getElem_cons h
theorem byte_eq (b : UInt8) (n : Nat) (hn : n < 256) : ((b.toNat : Int) = (n : Int)) ↔ b = UInt8.ofNat n := by
  constructor
  · intro h
    have h2 : b.toNat = n := by omega
    rw [← h2]; simp
  · rintro rfl
    simp; omega

theorem words_check (l : List (List UInt8)) (hl : l.length ≤ 30) (a : List S33) (ha : a = [toL (1, l)]) (b : List S33) (hb : b = (l.mapIdx fun i x => (1 + i, [x])).map toL) : ∀ (d j : Nat), j + d = l.length →
    Ev (fun k => tapewrightlaw08_LexWords.l1 k a b (l.map mkB) (l.length : Int) (j : Int)) true := by
  intro d
  induction d with
  | zero =>
    intro j hj
    exact Ev.step (fun k => by rw [tapewrightlaw08_LexWords.l1, if_neg (by omega)]) awake_ret
  | succ d ih =>
    intro j hj
    have hlt : j < l.length := by omega
    have hr := ih (j + 1) (by omega)
    have e1 : rd_T33 a 0 = toL (1, l) := by rw [ha]; rfl
    have e2 : rd_T33 b (j : Int) = toL (1 + j, [l.getD j []]) := by
      rw [hb]; simp [rd_T33, List.getD_eq_getElem?_getD, hlt]
    have l1 : a.length = 1 := by rw [ha]; rfl
    have l2 : b.length = l.length := by rw [hb]; simp
    have r1 : rdOf ByteArray.empty (l.map mkB) (j : Int) = mkB (l.getD j []) := rdOf_map l j hlt
    have f1 : (toL (1, l)).f1 = l.map mkB := rfl
    have f2 : (toL (1 + j, [l.getD j []])).f1 = [mkB (l.getD j [])] := rfl
    have f3 : (toL (1 + j, [l.getD j []])).f0 = ((1 + j : Nat) : Int) := rfl
    have r2 : rdOf ByteArray.empty [mkB (l.getD j [])] 0 = mkB (l.getD j []) := rfl
    refine Ev.step (fun k => ?_) hr
    rw [tapewrightlaw08_LexWords.l1, if_pos (by omega), if_pos (by omega), if_pos (by simp; omega), if_pos (by omega), e1, f1, if_pos (by simp; omega), if_pos rfl, if_pos (by omega), e2, f2, f3, w64 (by omega) (by omega), if_pos (by omega), if_pos (by simp), if_pos (by simp), r1, r2, if_pos rfl, succ_cast]
theorem words_build (l : List (List UInt8)) (hl : l.length ≤ 30) : ∀ (d j : Nat), j + d = l.length → (∀ x ∈ l.take j, nameS x = true) →
    Ev (fun k => tapewrightlaw08_LexWords.l0 k (l.map mkB) (mkB (joinP 32 (l.take j))) (mkB (joinP 10 (l.take j))) (l.map mkB) (l.length : Int) (j : Int)) true := by
  intro d
  induction d with
  | zero =>
    intro j hj hn
    have ht : l.take j = l := List.take_of_length_le (by omega)
    rw [ht] at hn ⊢
    have hsz : ∀ c : UInt8, (joinP c l).length ≤ 270 := fun c => by
      have := joinP_len c 8 l fun x hx => (nameS_mem (hn x hx)).2.1
      omega
    refine Ev.step (fun k => by rw [tapewrightlaw08_LexWords.l0, if_neg (by omega)]) ?_
    refine Ev.bind (lines_ev _ (by rw [size_mkB]; have := hsz 32; omega)) ?_
    refine Ev.bind (lines_ev _ (by rw [size_mkB]; have := hsz 10; omega)) ?_
    rw [mkB_data, mkB_data]
    by_cases h0 : l = []
    · subst h0
      refine Ev_pos rfl ?_
      refine Ev_pos ?_ awake_ret
      show wrap64 (0 + 0) = 0
      exact w64 (by decide) (by decide)
    · have hpos : 0 < l.length := List.length_pos_iff.2 h0
      refine Ev_neg (by simp; omega) ?_
      rw [linesS_one l h0 hn, linesS_rows l h0 hn]
      have hc := words_check l hl ([(1, l)].map toL) rfl _ rfl l.length 0 (by omega)
      have hj1 : Ev (fun k => tapewrightlaw08_LexWords.j1 k (l.map mkB) ([(1, l)].map toL) ((l.mapIdx fun i x => (1 + i, [x])).map toL) false) true := by
        refine Ev.step (fun k => ?_) hc
        rw [tapewrightlaw08_LexWords.j1, if_neg (by simp)]
        simp
      refine Ev_pos rfl (Ev_pos (by simp) (Ev_pos rfl (Ev_pos ?_ ?_)))
      · show ((l.map mkB).length : Int) = ((l.map mkB).length : Int)
        rfl
      · have e : ((((l.mapIdx fun i x => (1 + i, [x])).map toL).length : Int) != ((l.map mkB).length : Int)) = false := by simp
        rw [e]
        exact hj1
  | succ d ih =>
    intro j hj hn
    have hlt : j < l.length := by omega
    have ht : l.take (j + 1) = l.take j ++ [l.getD j []] := by
      rw [List.take_succ_eq_append_getElem hlt]; simp [List.getD_eq_getElem?_getD, hlt]
    refine Ev.step (fun k => by rw [tapewrightlaw08_LexWords.l0, if_pos (by omega), if_pos (by omega), if_pos (by simp; omega), rdOf_map l j hlt]) ?_
    refine Ev.bind (Ev_const (name_eq _)) ?_
    rw [mkB_data]
    by_cases hx : nameS (l.getD j []) = true
    · refine Ev_pos hx ?_
      have hn' : ∀ x ∈ l.take (j + 1), nameS x = true := by
        intro x hx'
        rw [ht, List.mem_append, List.mem_singleton] at hx'
        rcases hx' with h | rfl
        · exact hn x h
        · exact hx
      have hr := ih (j + 1) (by omega) hn'
      rw [ht] at hr
      obtain ⟨_, hx8, _⟩ := nameS_mem hx
      have hsz : ∀ c : UInt8, (mkB (joinP c (l.take j))).size ≤ 270 := fun c => by
        have := joinP_len c 8 (l.take j) fun x hx => (nameS_mem (hn x hx)).2.1
        rw [List.length_take] at this
        rw [size_mkB]
        omega
      have s32 := hsz 32
      have s10 := hsz 10
      have sx : (mkB (l.getD j [])).size ≤ 8 := by rw [size_mkB]; exact hx8
      by_cases h0 : j = 0
      · subst h0
        refine Ev_neg (by omega) (Ev_pos (by omega) (Ev_pos (by omega) ?_))
        have e : ∀ c : UInt8, mkB (joinP c (l.take 0)) ++ mkB (l.getD 0 []) = mkB (joinP c (l.take 0 ++ [l.getD 0 []])) := fun c => by rw [mkB_append]; rfl
        rw [e, e, w64 (by omega) (by omega), succ_cast]
        exact hr
      · have hne : l.take j ≠ [] := by
          intro h
          have := congrArg List.length h
          rw [List.length_take, Nat.min_eq_left (by omega)] at this
          exact h0 this
        have e : ∀ c : UInt8, mkB (joinP c (l.take j)) ++ mkB [c] ++ mkB (l.getD j []) = mkB (joinP c (l.take j ++ [l.getD j []])) := fun c => by
          rw [mkB_append, mkB_append, joinP_snoc c _ _ hne, List.append_assoc]; rfl
        have z : ∀ c : UInt8, (mkB (joinP c (l.take j)) ++ mkB [c]).size = (mkB (joinP c (l.take j))).size + 1 := fun c => by
          rw [mkB_append, size_mkB, size_mkB, List.length_append]; rfl
        have z32 := z 32
        have z10 := z 10
        refine Ev_pos (by omega) (Ev_pos (by omega) (Ev_pos (by omega) (Ev_pos (by show (mkB (joinP 32 (l.take j)) ++ mkB [32]).size + _ ≤ _; omega) (Ev_pos (by show (mkB (joinP 10 (l.take j)) ++ mkB [10]).size + _ ≤ _; omega) ?_))))
        have e32 := e 32
        have e10 := e 10
        show Ev (fun n => tapewrightlaw08_LexWords.l0 n (l.map mkB) (mkB (joinP 32 (l.take j)) ++ mkB [32] ++ mkB (l.getD j [])) (mkB (joinP 10 (l.take j)) ++ mkB [10] ++ mkB (l.getD j [])) (l.map mkB) (l.length : Int) (wrap64 ((j : Int) + 1))) true
        rw [e32, e10, w64 (by omega) (by omega), succ_cast]
        exact hr
    · exact Ev_neg hx awake_ret
theorem LexWords (l : List ByteArray) : ∃ k, tapewrightlaw08_LexWords.f k l = some true := by
  refine Ev.rounds ?_
  unfold tapewrightlaw08_LexWords.f
  by_cases c1 : (l.length : Int) > 30
  · exact Ev_pos c1 awake_ret
  refine Ev_neg c1 ?_
  have e : (l.map fun s => s.data.toList).map mkB = l := by
    rw [List.map_map]
    exact List.map_id l
  have := words_build (l.map fun s => s.data.toList) (by simp; omega) l.length 0 (by simp) (by simp)
  rw [e, List.length_map] at this
  exact this

end Go.Proofs.YtihaochmebejbaaDoor.Pure
