/- Plain facts of texts: lines, words, names. No program in sight. -/
namespace Go.Proofs.YtihaochmebejbaaDoor.TwLex

def mkB (l : List UInt8) : ByteArray := ⟨l.toArray⟩
theorem mkB_data (l : List UInt8) : (mkB l).data.toList = l := rfl
theorem data_mkB (s : ByteArray) : mkB s.data.toList = s := rfl
theorem ba_ext {a b : ByteArray} (h : a.data.toList = b.data.toList) : a = b := by rw [← data_mkB a, ← data_mkB b, h]
theorem ba_size (s : ByteArray) : s.size = s.data.toList.length := by rw [Array.length_toList]; rfl
theorem ba_append (a b : ByteArray) : (a ++ b).data.toList = a.data.toList ++ b.data.toList := by simp [ByteArray.data_append]
theorem ba_extract (s : ByteArray) (i j : Nat) : (s.extract i j).data.toList = (s.data.toList.take j).drop i := by simp [ByteArray.data_extract, List.drop_take]

/-- The pieces between one byte. -/
def splitP (c : UInt8) : List UInt8 → List (List UInt8)
  | [] => [[]]
  | b :: l => if b = c then [] :: splitP c l else match splitP c l with
    | [] => [[b]]
    | p :: r => (b :: p) :: r
theorem splitP_cons (c : UInt8) (l : List UInt8) : ∃ p r, splitP c l = p :: r := by
  cases l with
  | nil => exact ⟨_, _, rfl⟩
  | cons b l =>
    simp only [splitP]
    split
    · exact ⟨_, _, rfl⟩
    · split <;> exact ⟨_, _, rfl⟩
theorem splitP_eq (c : UInt8) (l : List UInt8) : splitP c (c :: l) = [] :: splitP c l := by simp [splitP]
theorem splitP_ne {c b : UInt8} {l p : List UInt8} {r : List (List UInt8)} (hb : b ≠ c) (h : splitP c l = p :: r) : splitP c (b :: l) = (b :: p) :: r := by simp [splitP, hb, h]
theorem splitP_none (c : UInt8) : ∀ l : List UInt8, (∀ b ∈ l, b ≠ c) → splitP c l = [l]
  | [], _ => rfl
  | b :: l, h => splitP_ne (h b (by simp)) (splitP_none c l fun x hx => h x (by simp [hx]))
theorem splitP_app (c : UInt8) : ∀ a b : List UInt8, splitP c (a ++ c :: b) = splitP c a ++ splitP c b
  | [], b => by simp [splitP]
  | x :: a, b => by
    have ih := splitP_app c a b
    obtain ⟨p, r, h⟩ := splitP_cons c a
    by_cases hx : x = c
    · subst hx
      rw [List.cons_append, splitP_eq, splitP_eq, ih]; rfl
    · rw [h, List.cons_append] at ih
      rw [List.cons_append, splitP_ne hx ih, splitP_ne hx h]; rfl
theorem splitP_mem (c : UInt8) : ∀ l p, p ∈ splitP c l → ∀ b ∈ p, b ≠ c
  | [], p, h => by simp [splitP] at h; subst h; simp
  | x :: l, p, h => by
    obtain ⟨q, r, hq⟩ := splitP_cons c l
    by_cases hx : x = c
    · subst hx
      rw [splitP_eq, List.mem_cons] at h
      rcases h with rfl | h
      · simp
      · exact splitP_mem x l p h
    · rw [splitP_ne hx hq, List.mem_cons] at h
      rcases h with rfl | h
      · intro b hb
        rw [List.mem_cons] at hb
        rcases hb with rfl | hb
        · exact hx
        · exact splitP_mem c l q (by rw [hq]; simp) b hb
      · exact splitP_mem c l p (by rw [hq]; simp [h])
theorem splitP_count (c : UInt8) : ∀ l, (splitP c l).length = l.count c + 1
  | [] => rfl
  | x :: l => by
    obtain ⟨q, r, hq⟩ := splitP_cons c l
    have ih := splitP_count c l
    by_cases hx : x = c
    · subst hx; rw [splitP_eq]; simp [ih]
    · rw [splitP_ne hx hq, List.count_cons_of_ne hx]
      rw [hq] at ih
      simpa using ih
theorem splitP_len (c : UInt8) : ∀ l p, p ∈ splitP c l → p.length ≤ l.length
  | [], p, h => by simp [splitP] at h; subst h; simp
  | x :: l, p, h => by
    obtain ⟨q, r, hq⟩ := splitP_cons c l
    by_cases hx : x = c
    · subst hx
      rw [splitP_eq, List.mem_cons] at h
      rcases h with rfl | h
      · simp
      · have := splitP_len x l p h; simp; omega
    · rw [splitP_ne hx hq, List.mem_cons] at h
      rcases h with rfl | h
      · have := splitP_len c l q (by rw [hq]; simp); simp; omega
      · have := splitP_len c l p (by rw [hq]; simp [h]); simp; omega

/-- What stands ahead of the first '#'. -/
def cutP : List UInt8 → List UInt8
  | [] => []
  | b :: l => if b = 35 then [] else b :: cutP l
theorem cutP_len : ∀ l, (cutP l).length ≤ l.length
  | [] => by simp [cutP]
  | b :: l => by
    have := cutP_len l
    simp only [cutP]
    split <;> simp <;> omega

/-- The words of a piece of text; 'w': a word's beginning. -/
def tok : List UInt8 → List UInt8 → List (List UInt8)
  | w, [] => if w = [] then [] else [w]
  | w, b :: q => if b = 32 then (if w = [] then tok [] q else w :: tok [] q) else tok (w ++ [b]) q
theorem tok_split : ∀ (q w : List UInt8), tok w q = ((splitP 32 q).modifyHead (w ++ ·)).filter (· ≠ [])
  | [], w => by
    simp only [tok, splitP, List.modifyHead_cons, List.append_nil]
    by_cases h : w = [] <;> simp [h]
  | b :: q, w => by
    obtain ⟨p, r, hp⟩ := splitP_cons 32 q
    simp only [tok]
    by_cases hb : b = 32
    · subst hb
      rw [splitP_eq, if_pos rfl, tok_split q []]
      have e : (splitP 32 q).modifyHead ([] ++ ·) = splitP 32 q := by rw [hp]; simp
      rw [e]
      by_cases h : w = [] <;> simp [h]
    · rw [if_neg hb, tok_split q (w ++ [b]), splitP_ne hb hp, hp]
      simp
def wordsP (l : List UInt8) : List (List UInt8) := tok [] (cutP l)
theorem wordsP_split (l : List UInt8) : wordsP l = (splitP 32 (cutP l)).filter (· ≠ []) := by
  unfold wordsP
  rw [tok_split]
  obtain ⟨p, r, hp⟩ := splitP_cons 32 (cutP l)
  rw [hp]
  simp
/-- The lines of pieces, numbered from 'at' on. -/
def linesP : Nat → List (List UInt8) → List (Nat × List (List UInt8))
  | _, [] => []
  | n, p :: r => if wordsP p = [] then linesP (n + 1) r else (n, wordsP p) :: linesP (n + 1) r
def linesS (l : List UInt8) : List (Nat × List (List UInt8)) := linesP 1 (splitP 10 l)
theorem linesP_append : ∀ (a b : List (List UInt8)) (n : Nat), linesP n (a ++ b) = linesP n a ++ linesP (n + a.length) b
  | [], b, n => by simp [linesP]
  | p :: a, b, n => by
    have ih := linesP_append a b (n + 1)
    simp only [List.cons_append, linesP, ih, List.length_cons]
    have e : n + 1 + a.length = n + (a.length + 1) := by omega
    rw [e]
    split <;> simp
theorem linesP_shift : ∀ (a : List (List UInt8)) (n m : Nat), linesP (n + m) a = (linesP n a).map fun x => (x.1 + m, x.2)
  | [], _, _ => rfl
  | p :: a, n, m => by
    have ih := linesP_shift a (n + 1) m
    have e : n + m + 1 = n + 1 + m := by omega
    simp only [linesP, e, ih]
    split <;> simp
theorem linesP_len : ∀ (a : List (List UInt8)) (n : Nat), (linesP n a).length ≤ a.length
  | [], _ => by simp [linesP]
  | p :: a, n => by
    have := linesP_len a (n + 1)
    simp only [linesP]
    split <;> simp <;> omega
theorem tok_len : ∀ (q w : List UInt8), (tok w q).length ≤ q.length + 1
  | [], w => by simp only [tok]; split <;> simp
  | b :: q, w => by
    have h1 := tok_len q []
    have h2 := tok_len q (w ++ [b])
    simp only [tok]
    split
    · split <;> simp <;> omega
    · simp; omega
theorem wordsP_len (l : List UInt8) : (wordsP l).length ≤ l.length + 1 := by
  have := tok_len (cutP l) []
  have := cutP_len l
  unfold wordsP
  omega
theorem linesP_mem : ∀ (a : List (List UInt8)) (n : Nat) (x), x ∈ linesP n a → x.1 < n + a.length ∧ n ≤ x.1 ∧ ∃ p ∈ a, x.2 = wordsP p
  | [], _, x, h => by simp [linesP] at h
  | p :: a, n, x, h => by
    simp only [linesP] at h
    have key : x ∈ linesP (n + 1) a → x.1 < n + (p :: a).length ∧ n ≤ x.1 ∧ ∃ q ∈ p :: a, x.2 = wordsP q := by
      intro h'
      obtain ⟨h1, h2, q, h3, h4⟩ := linesP_mem a (n + 1) x h'
      exact ⟨by simp; omega, by omega, q, by simp [h3], h4⟩
    split at h
    · exact key h
    · rw [List.mem_cons] at h
      rcases h with rfl | h
      · exact ⟨by simp, by simp, p, by simp, rfl⟩
      · exact key h
theorem linesS_bounds (l : List UInt8) : (linesS l).length ≤ l.length + 1 ∧ ∀ x ∈ linesS l, x.1 ≤ l.length + 1 ∧ x.2.length ≤ l.length + 1 := by
  have hc := splitP_count 10 l
  have hle : l.count 10 ≤ l.length := List.count_le_length
  refine ⟨by have := linesP_len (splitP 10 l) 1; unfold linesS; omega, fun x hx => ?_⟩
  obtain ⟨h1, h2, p, h3, h4⟩ := linesP_mem _ _ x hx
  have := splitP_len 10 l p h3
  have := wordsP_len p
  rw [h4]
  omega

/-- The lines, byte by byte: complete words, a word's beginning, behind a '#'?, the line's number. -/
def run : List (List UInt8) → List UInt8 → Bool → Nat → List UInt8 → List (Nat × List (List UInt8))
  | ws, w, _, n, [] => if ws ++ (if w = [] then [] else [w]) = [] then [] else [(n, ws ++ (if w = [] then [] else [w]))]
  | ws, w, off, n, b :: r =>
    if b = 10 then (if ws ++ (if w = [] then [] else [w]) = [] then [] else [(n, ws ++ (if w = [] then [] else [w]))]) ++ run [] [] false (n + 1) r
    else if off = true ∨ b = 32 ∨ b = 35 then run (ws ++ (if w = [] then [] else [w])) [] (off || b == 35) n r
    else run ws (w ++ [b]) off n r
theorem run_lines : ∀ (r : List UInt8) (ws : List (List UInt8)) (w : List UInt8) (off : Bool) (n : Nat) (p : List UInt8) (ps : List (List UInt8)), (off = true → w = []) → splitP 10 r = p :: ps →
    run ws w off n r = (if ws ++ (if off then [] else tok w (cutP p)) = [] then [] else [(n, ws ++ (if off then [] else tok w (cutP p)))]) ++ linesP (n + 1) ps
  | [], ws, w, off, n, p, ps, ho, h => by
    simp only [splitP, List.cons.injEq] at h
    obtain ⟨rfl, rfl⟩ := h
    simp only [run, cutP, tok, linesP, List.append_nil]
    cases off with
    | false => simp
    | true => simp [ho rfl]
  | b :: r, ws, w, off, n, p, ps, ho, h => by
    obtain ⟨q, qs, hq⟩ := splitP_cons 10 r
    simp only [run]
    by_cases hb : b = 10
    · subst hb
      rw [splitP_eq, List.cons.injEq] at h
      obtain ⟨rfl, rfl⟩ := h
      rw [if_pos rfl, run_lines r [] [] false (n + 1) q qs (by simp) hq]
      have e : (if ([] : List (List UInt8)) ++ (if false = true then [] else tok [] (cutP q)) = [] then [] else [(n + 1, [] ++ (if false = true then [] else tok [] (cutP q)))]) ++ linesP (n + 1 + 1) qs = linesP (n + 1) (splitP 10 r) := by
        rw [hq]
        simp only [linesP, wordsP, Bool.false_eq_true, if_false, List.nil_append]
        by_cases h0 : tok [] (cutP q) = [] <;> simp [h0]
      rw [e]
      simp only [cutP, tok]
      cases off with
      | false => simp
      | true => simp [ho rfl]
    · rw [splitP_ne hb hq, List.cons.injEq] at h
      obtain ⟨rfl, rfl⟩ := h
      rw [if_neg hb]
      by_cases hoff : off = true
      · rw [if_pos (.inl hoff), run_lines r _ [] _ n q qs (by simp) hq, hoff, ho hoff]
        simp
      · have hoff' : off = false := by simpa using hoff
        subst hoff'
        by_cases h32 : b = 32
        · subst h32
          rw [if_pos (.inr (.inl rfl)), run_lines r _ [] _ n q qs (by simp) hq]
          have e1 : cutP (32 :: q) = 32 :: cutP q := by simp [cutP]
          rw [e1]
          simp only [tok, if_true]
          by_cases hw : w = [] <;> simp [hw]
        · by_cases h35 : b = 35
          · subst h35
            rw [if_pos (.inr (.inr rfl)), run_lines r _ [] _ n q qs (by simp) hq]
            have e1 : cutP (35 :: q) = [] := by simp [cutP]
            rw [e1]
            simp [tok]
          · rw [if_neg (by simp [h32, h35]), run_lines r ws (w ++ [b]) false n q qs (by simp) hq]
            have e1 : cutP (b :: q) = b :: cutP q := by simp [cutP, h35]
            rw [e1]
            simp [tok, h32]
theorem run_linesS (l : List UInt8) : run [] [] false 1 l = linesS l := by
  obtain ⟨p, ps, h⟩ := splitP_cons 10 l
  rw [run_lines l [] [] false 1 p ps (by simp) h]
  unfold linesS
  rw [h]
  simp only [linesP, wordsP, Bool.false_eq_true, if_false, List.nil_append]
  by_cases h0 : tok [] (cutP p) = [] <;> simp [h0]

/-- Is a byte a small letter? A digit? -/
def letter (b : UInt8) : Bool := decide (97 ≤ b.toNat) && decide (b.toNat ≤ 122)
def digit (b : UInt8) : Bool := decide (48 ≤ b.toNat) && decide (b.toNat ≤ 57)
def nameS (l : List UInt8) : Bool := match l with
  | [] => false
  | b :: r => letter b && r.all (fun x => letter x || digit x) && decide (r.length < 8)
def setS : List UInt8 := [97, 98, 99, 100, 101, 102, 103, 104, 105, 106, 107, 108, 109, 110, 111, 112, 113, 114, 115, 116, 117, 118, 119, 120, 121, 122, 48, 49, 50, 51, 52, 53, 54, 55, 56, 57]
theorem setS_mem (b : UInt8) : setS.contains b = (letter b || digit b) := by
  have h : ∀ n : Fin 256, setS.contains (UInt8.ofNat n.val) = (letter (UInt8.ofNat n.val) || digit (UInt8.ofNat n.val)) := by decide +kernel
  have := h ⟨b.toNat, b.toNat_lt⟩
  simpa using this
theorem dropWhile_nil (p : UInt8 → Bool) : ∀ l : List UInt8, l.dropWhile p = [] ↔ l.all p = true
  | [] => by simp
  | b :: l => by
    have ih := dropWhile_nil p l
    cases hb : p b <;> simp [List.dropWhile, hb, ih]
theorem trim_nil (l : List UInt8) : (((l.reverse.dropWhile (setS.contains ·)).reverse).dropWhile (setS.contains ·) = []) ↔ l.all (fun x => letter x || digit x) = true := by
  have hs : (fun x => setS.contains x) = fun x => letter x || digit x := by funext x; exact setS_mem x
  rw [hs]
  constructor
  · intro h
    rw [dropWhile_nil] at h
    have e := List.takeWhile_append_dropWhile (p := fun x => letter x || digit x) (l := l.reverse)
    have h1 : (l.reverse.takeWhile fun x => letter x || digit x).all (fun x => letter x || digit x) = true := List.all_takeWhile
    have h2 : (l.reverse.dropWhile fun x => letter x || digit x).all (fun x => letter x || digit x) = true := by rwa [List.all_reverse] at h
    have h3 : l.reverse.all (fun x => letter x || digit x) = true := by rw [← e, List.all_append, h1, h2]; rfl
    rwa [List.all_reverse] at h3
  · intro h
    have h1 : l.reverse.dropWhile (fun x => letter x || digit x) = [] := (dropWhile_nil _ _).2 (by rwa [List.all_reverse])
    rw [h1]
    rfl
/-- Each blank three times. -/
def wide : List UInt8 → List UInt8
  | [] => []
  | b :: l => if b = 32 then 32 :: 32 :: 32 :: wide l else b :: wide l
theorem wide_append : ∀ a b, wide (a ++ b) = wide a ++ wide b
  | [], b => rfl
  | x :: a, b => by
    simp only [List.cons_append, wide, wide_append a b]
    split <;> simp
theorem wide_len : ∀ l, (wide l).length ≤ 3 * l.length
  | [] => by simp [wide]
  | b :: l => by
    have := wide_len l
    simp only [wide]
    split <;> simp <;> omega
theorem wide_split : ∀ l, splitP 10 (wide l) = (splitP 10 l).map wide
  | [] => rfl
  | b :: l => by
    obtain ⟨p, r, h⟩ := splitP_cons 10 l
    have ih := wide_split l
    rw [h, List.map_cons] at ih
    by_cases hb : b = 10
    · subst hb
      rw [splitP_eq, show wide (10 :: l) = 10 :: wide l from rfl, splitP_eq, wide_split l]; rfl
    · rw [splitP_ne hb h]
      by_cases h32 : b = 32
      · subst h32
        rw [show wide (32 :: l) = 32 :: 32 :: 32 :: wide l from rfl, splitP_ne (by decide) (splitP_ne (by decide) (splitP_ne (by decide) ih))]
        simp [wide]
      · rw [show wide (b :: l) = b :: wide l from by simp [wide, h32], splitP_ne hb ih]
        simp [wide, h32]
theorem wide_cut : ∀ l, cutP (wide l) = wide (cutP l)
  | [] => rfl
  | b :: l => by
    have ih := wide_cut l
    by_cases h35 : b = 35
    · subst h35; rfl
    · by_cases h32 : b = 32
      · subst h32
        simp [wide, cutP, ih]
      · simp [wide, cutP, h32, h35, ih]
theorem wide_tok : ∀ q w, tok w (wide q) = tok w q
  | [], _ => rfl
  | b :: q, w => by
    by_cases h32 : b = 32
    · subst h32
      have ih := wide_tok q []
      simp [wide, tok, ih]
    · have ih := wide_tok q (w ++ [b])
      simp [wide, tok, h32, ih]
theorem wide_words (l : List UInt8) : wordsP (wide l) = wordsP l := by unfold wordsP; rw [wide_cut, wide_tok]
theorem linesP_words (f : List UInt8 → List UInt8) (hf : ∀ l, wordsP (f l) = wordsP l) : ∀ (ps : List (List UInt8)) (n : Nat), linesP n (ps.map f) = linesP n ps
  | [], _ => rfl
  | p :: ps, n => by simp only [List.map_cons, linesP, hf, linesP_words f hf ps]
theorem linesS_wide (l : List UInt8) : linesS (wide l) = linesS l := by
  unfold linesS
  rw [wide_split, linesP_words wide wide_words]
theorem linesS_blank (l : List UInt8) : linesS (32 :: l) = linesS l := by
  unfold linesS
  obtain ⟨p, r, h⟩ := splitP_cons 10 l
  rw [splitP_ne (by decide) h, h]
  have e : wordsP (32 :: p) = wordsP p := by simp [wordsP, cutP, tok]
  simp only [linesP, e]
theorem splitP_tail (c : UInt8) (y : List UInt8) (hy : ∀ b ∈ y, b ≠ c) : ∀ l : List UInt8, ∃ i z, splitP c l = i ++ [z] ∧ splitP c (l ++ y) = i ++ [z ++ y]
  | [] => ⟨[], [], rfl, by rw [List.nil_append, splitP_none c y hy]; rfl⟩
  | b :: l => by
    obtain ⟨i, z, h1, h2⟩ := splitP_tail c y hy l
    by_cases hb : b = c
    · subst hb
      exact ⟨[] :: i, z, by rw [splitP_eq, h1]; rfl, by rw [List.cons_append, splitP_eq, h2]; rfl⟩
    · cases i with
      | nil => exact ⟨[], b :: z, by rw [splitP_ne hb h1]; rfl, by rw [List.cons_append, splitP_ne hb h2]; rfl⟩
      | cons p i => exact ⟨(b :: p) :: i, z, by rw [splitP_ne hb h1]; rfl, by rw [List.cons_append, splitP_ne hb h2]; rfl⟩
theorem tok_blank : ∀ q w, tok w (q ++ [32]) = tok w q
  | [], w => by simp [tok]
  | b :: q, w => by simp only [List.cons_append, tok, tok_blank q]
theorem cut_tail (y : List UInt8) : ∀ p, cutP (p ++ 32 :: 35 :: y) = cutP p ∨ cutP (p ++ 32 :: 35 :: y) = cutP p ++ [32]
  | [] => .inr (by simp [cutP])
  | b :: p => by
    by_cases hb : b = 35
    · subst hb; left; simp [cutP]
    · rcases cut_tail y p with h | h
      · left; simp [cutP, hb, h]
      · right; simp [cutP, hb, h]
theorem words_tail (y p : List UInt8) : wordsP (p ++ 32 :: 35 :: y) = wordsP p := by
  unfold wordsP
  rcases cut_tail y p with h | h
  · rw [h]
  · rw [h, tok_blank]
theorem linesS_comment (l y : List UInt8) (hy : ∀ b ∈ y, b ≠ 10) : linesS (l ++ 32 :: 35 :: y) = linesS l := by
  unfold linesS
  obtain ⟨i, z, h1, h2⟩ := splitP_tail 10 (32 :: 35 :: y) (by
    intro b hb
    simp only [List.mem_cons] at hb
    rcases hb with rfl | rfl | hb
    · decide
    · decide
    · exact hy b hb) l
  rw [h1, h2, linesP_append, linesP_append]
  simp only [linesP, words_tail]
theorem linesS_join (a b : List UInt8) : linesS (a ++ 10 :: b) = linesS a ++ (linesS b).map fun x => (x.1 + (a.count 10 + 1), x.2) := by
  unfold linesS
  rw [splitP_app, linesP_append, splitP_count, linesP_shift]

/-- Texts, one behind the other, a byte between. -/
def joinP (c : UInt8) : List (List UInt8) → List UInt8
  | [] => []
  | [x] => x
  | x :: y :: r => x ++ c :: joinP c (y :: r)
theorem joinP_snoc (c : UInt8) (x : List UInt8) : ∀ l, l ≠ [] → joinP c (l ++ [x]) = joinP c l ++ c :: x
  | [], h => absurd rfl h
  | [a], _ => rfl
  | a :: b :: r, _ => by
    have ih := joinP_snoc c x (b :: r) (by simp)
    simp only [List.cons_append] at ih
    simp only [List.cons_append, joinP, ih, List.append_assoc]
theorem joinP_split (c : UInt8) : ∀ l : List (List UInt8), l ≠ [] → (∀ x ∈ l, ∀ b ∈ x, b ≠ c) → splitP c (joinP c l) = l
  | [], h, _ => absurd rfl h
  | [x], _, hx => splitP_none c x (hx x (by simp))
  | x :: y :: r, _, hx => by
    rw [joinP, splitP_app, splitP_none c x (hx x (by simp)), joinP_split c (y :: r) (by simp) fun z hz => hx z (by simp [hz])]
    rfl
theorem joinP_mem (c : UInt8) (p : UInt8 → Prop) (hc : p c) : ∀ l : List (List UInt8), (∀ x ∈ l, ∀ b ∈ x, p b) → ∀ b ∈ joinP c l, p b
  | [], _, b, hb => by simp [joinP] at hb
  | [x], h, b, hb => h x (by simp) b hb
  | x :: y :: r, h, b, hb => by
    rw [joinP, List.mem_append, List.mem_cons] at hb
    rcases hb with hb | rfl | hb
    · exact h x (by simp) b hb
    · exact hc
    · exact joinP_mem c p hc (y :: r) (fun z hz => h z (by simp [hz])) b hb
theorem joinP_len (c : UInt8) (m : Nat) : ∀ l : List (List UInt8), (∀ x ∈ l, x.length ≤ m) → (joinP c l).length ≤ l.length * (m + 1)
  | [], _ => by simp [joinP]
  | [x], h => by have := h x (by simp); simp [joinP]; omega
  | x :: y :: r, h => by
    have h1 := h x (by simp)
    have h2 := joinP_len c m (y :: r) fun z hz => h z (by simp [hz])
    simp only [joinP, List.length_append, List.length_cons] at h2 ⊢
    rw [Nat.add_mul, Nat.one_mul]
    omega
theorem cutP_none : ∀ l : List UInt8, (∀ b ∈ l, b ≠ 35) → cutP l = l
  | [], _ => rfl
  | b :: l, h => by simp [cutP, h b (by simp), cutP_none l fun x hx => h x (by simp [hx])]
theorem wordsP_one (x : List UInt8) (hx : x ≠ []) (h : ∀ b ∈ x, b ≠ 32 ∧ b ≠ 35) : wordsP x = [x] := by
  rw [wordsP_split, cutP_none x fun b hb => (h b hb).2, splitP_none 32 x fun b hb => (h b hb).1]
  simp [hx]
/-- What a name is made of. -/
theorem nameS_mem {l : List UInt8} (h : nameS l = true) : l ≠ [] ∧ l.length ≤ 8 ∧ ∀ b ∈ l, (letter b || digit b) = true := by
  cases l with
  | nil => cases h
  | cons b r =>
    simp only [nameS, Bool.and_eq_true, decide_eq_true_eq] at h
    obtain ⟨⟨h1, h2⟩, h3⟩ := h
    refine ⟨by simp, by simp; omega, fun x hx => ?_⟩
    rw [List.mem_cons] at hx
    rcases hx with rfl | hx
    · rw [h1]; rfl
    · exact List.all_eq_true.1 h2 x hx
theorem sign_ne (b : UInt8) (h : (letter b || digit b) = true) : b ≠ 10 ∧ b ≠ 32 ∧ b ≠ 35 := by
  refine ⟨?_, ?_, ?_⟩ <;> (rintro rfl; revert h; decide)
theorem lines_names : ∀ (l : List (List UInt8)) (n : Nat), (∀ x ∈ l, nameS x = true) → linesP n l = l.mapIdx fun i x => (n + i, [x])
  | [], _, _ => rfl
  | x :: l, n, h => by
    obtain ⟨h1, _, h3⟩ := nameS_mem (h x (by simp))
    have hw := wordsP_one x h1 fun b hb => ⟨(sign_ne b (h3 b hb)).2.1, (sign_ne b (h3 b hb)).2.2⟩
    have ih := lines_names l (n + 1) fun z hz => h z (by simp [hz])
    simp only [linesP, hw, ih, List.mapIdx_cons]
    rw [if_neg (by simp)]
    congr 1
    refine List.mapIdx_eq_mapIdx_iff.2 fun i hi => ?_
    simp; omega
theorem linesS_one (l : List (List UInt8)) (hl : l ≠ []) (h : ∀ x ∈ l, nameS x = true) : linesS (joinP 32 l) = [(1, l)] := by
  have hm : ∀ x ∈ l, ∀ b ∈ x, b ≠ 10 ∧ b ≠ 32 ∧ b ≠ 35 := fun x hx b hb => sign_ne b ((nameS_mem (h x hx)).2.2 b hb)
  have h10 : ∀ b ∈ joinP 32 l, b ≠ 10 ∧ b ≠ 35 := joinP_mem 32 _ (by decide) l fun x hx b hb => ⟨(hm x hx b hb).1, (hm x hx b hb).2.2⟩
  unfold linesS
  rw [splitP_none 10 _ fun b hb => (h10 b hb).1]
  have hw : wordsP (joinP 32 l) = l := by
    rw [wordsP_split, cutP_none _ fun b hb => (h10 b hb).2, joinP_split 32 l hl fun x hx b hb => (hm x hx b hb).2.1]
    refine List.filter_eq_self.2 fun x hx => ?_
    simp [(nameS_mem (h x hx)).1]
  simp only [linesP, hw]
  rw [if_neg hl]
theorem linesS_rows (l : List (List UInt8)) (hl : l ≠ []) (h : ∀ x ∈ l, nameS x = true) : linesS (joinP 10 l) = l.mapIdx fun i x => (1 + i, [x]) := by
  unfold linesS
  rw [joinP_split 10 l hl fun x hx b hb => (sign_ne b ((nameS_mem (h x hx)).2.2 b hb)).1, lines_names l 1 h]
theorem linesS_nil : linesS [] = [] := rfl
theorem nameS_more (s : List UInt8) (d : UInt8) (h : nameS s = true) (hd : digit d = true) : nameS (s ++ [d]) = decide (s.length < 8) := by
  cases s with
  | nil => cases h
  | cons b r =>
    simp only [nameS, Bool.and_eq_true, decide_eq_true_eq] at h
    obtain ⟨⟨h1, h2⟩, h3⟩ := h
    simp only [List.cons_append, nameS, h1, List.all_append, h2, Bool.true_and, List.length_append, List.length_cons, List.length_nil]
    simp [hd]
theorem nameS_bad (a b : List UInt8) (x : UInt8) (hx : (letter x || digit x) = false) : nameS (a ++ x :: b) = false := by
  rw [Bool.or_eq_false_iff] at hx
  cases a with
  | nil => simp [nameS, hx.1]
  | cons y a => simp [nameS, hx.1, hx.2]
end Go.Proofs.YtihaochmebejbaaDoor.TwLex
