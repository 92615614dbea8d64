/- What a value of a type reads as is told by a kind of the walks' words: the bridge from the row's reading to the walks. No program in sight. -/
import Derived.Test.YtihaochmebejbaaDoorWWords
import Derived.ChangeArms
import Derived.ChangeSame
import Derived.ChangeSlices
import Derived.SizedLaws
import Derived.DataElems
namespace Go.Proofs.YtihaochmebejbaaDoor.Open
open Go Go.ChangeShapes Go.Proofs.YtihaochmebejbaaDoorW.PrintWords
set_option linter.unusedVariables false

/-- Whatever is read at the type is told by the kind, and is well formed. -/
def Opens {α : Type} (P : Program) (t : TypeId) (d : Kd α) (wf : α → Prop) : Prop :=
  ∀ {H : Type} {enc : TypeId × Value → H} {w : World} {base : Nat} {sp : Nat → Bool} {held : Bool} {fuel : Nat} {cs : List Value} {x : DataW H × List MemPlace},
    DataW.trod enc P w base sp held fuel t cs = some x → ∃ y : α, d.K w y cs ∧ wf y

variable {P : Program} {t e : TypeId}
theorem opens_int {k : IntKind} (hu : P.underlying t = some (.int k)) : Opens P t (Kd.int k) (fun n => (Lit.int k n).wf = true) := by
  intro H enc w base sp held fuel cs x h
  obtain ⟨n, rfl, _, hw⟩ := DataW.trod_int hu h
  exact ⟨n, rfl, hw⟩
theorem opens_bool (hu : P.underlying t = some .bool) : Opens P t Kd.bool (fun _ => True) := by
  intro H enc w base sp held fuel cs x h
  obtain ⟨n, rfl, _⟩ := DataW.trod_bool hu h
  exact ⟨n, rfl, trivial⟩
theorem opens_string (hu : P.underlying t = some .string) : Opens P t Kd.string (fun s => s.size ≤ maxLen) := by
  intro H enc w base sp held fuel cs x h
  obtain ⟨n, rfl, _, hw⟩ := DataW.trod_string hu h
  exact ⟨n, rfl, hw⟩
theorem row_choice {α β : Type} {Q : Nat → α → Prop} : ∀ (n : Nat), (∀ i, i < n → ∃ y, Q i y) → ∃ ys : List α, ys.length = n ∧ ∀ i y, ys[i]? = some y → Q i y := by
  intro n h
  induction n with
  | zero => exact ⟨[], rfl, fun i y hy => by simp at hy⟩
  | succ n ih =>
    obtain ⟨ys, hl, hq⟩ := ih (fun i hi => h i (by omega))
    obtain ⟨y, hy⟩ := h n (by omega)
    refine ⟨ys ++ [y], by simp [hl], fun i z hz => ?_⟩
    by_cases hi : i < ys.length
    · rw [List.getElem?_append_left hi] at hz
      exact hq i z hz
    · have hi' : i = ys.length := by
        have := (List.getElem?_eq_some_iff.1 hz).1
        simp at this
        omega
      subst hi'
      rw [List.getElem?_append_right (by omega)] at hz
      simp at hz
      subst hz
      rw [hl]
      exact hy
/-- A slice, opened: its address, its elements. -/
theorem slice_open {α : Type} {d : Kd α} {wf : α → Prop} (hu : P.underlying t = some (.slice e)) (hc : P.cellsOf e = d.sz) (ho : Opens P e d wf)
    {H : Type} {enc : TypeId × Value → H} {w : World} {base : Nat} {sp : Nat → Bool} {held : Bool} {fuel : Nat} {cs : List Value} {x : DataW H × List MemPlace}
    (h : DataW.trod enc P w base sp held fuel t cs = some x) :
    ∃ (A : Option Addr) (c : Nat) (ys : List α), cs = [.slice A ys.length c] ∧ ys.length ≤ c ∧ d.C w A ys.length ys ∧ (ys.length ≤ maxLen ∧ ∀ y ∈ ys, wf y) ∧
      (ys = [] ∨ ∃ elems spare, x.1 = .slice elems spare ∧ elems.length = ys.length) := by
  rcases DataW.trod_slice hu h with ⟨rfl, rfl⟩ | ⟨a, len, cap, elems, rest, n, _, rfl, rfl, hb, hl, hm, hlen, hel, _, _⟩
  · exact ⟨none, 0, [], rfl, Nat.le_refl _, ⟨rfl, by simp, fun h => by simp at h⟩, ⟨by simp, fun y hy => by simp at hy⟩, .inl rfl⟩
  · have each : ∀ i, i < len → ∃ y, (∃ c : List Value, c.length = d.sz ∧ d.K w y c ∧ ∀ j u, c[j]? = some u → w.cell? (a.add (i * d.sz + j)) = some u) ∧ wf y := by
      intro i hi
      have hE := hel i hi
      rw [List.getElem?_eq_getElem (by omega), Option.bind_eq_some_iff] at hE
      obtain ⟨cs', hcs, ht'⟩ := hE
      obtain ⟨y, hy, hwf⟩ := ho ht'
      obtain ⟨_, hl', hcell⟩ := World.cells?_some hcs
      refine ⟨y, ⟨cs', by rw [hl', hc], hy, fun j u hj => ?_⟩, hwf⟩
      have hjl : j < cs'.length := (List.getElem?_eq_some_iff.1 hj).1
      have := hcell j (by omega)
      rw [hj] at this
      rw [← this]
      have : a.add (i * d.sz + j) = (a.add (i * P.cellsOf e)).add j := by rw [Addr.add_add, hc]
      rw [this]
    obtain ⟨ys, hy1, hy2⟩ := row_choice (β := Unit) (Q := fun i y => (∃ c : List Value, c.length = d.sz ∧ d.K w y c ∧ ∀ j u, c[j]? = some u → w.cell? (a.add (i * d.sz + j)) = some u) ∧ wf y) len each
    have hmax : len ≤ 9223372036854775807 := Nat.le_trans (Nat.le_trans hl hm) (by decide)
    refine ⟨some a, cap, ys, by rw [hy1], by omega, ⟨rfl, by omega, fun _ => ⟨a, rfl, fun j p hj => (hy2 j p hj).1⟩⟩, ⟨by rw [hy1]; omega, fun y hy => ?_⟩, .inr ⟨_, _, rfl, by simp [hlen, hy1]⟩⟩
    obtain ⟨i, hi⟩ := List.getElem?_of_mem hy
    exact (hy2 i y hi).2
theorem opens_slice {α : Type} {d : Kd α} {wf : α → Prop} (hu : P.underlying t = some (.slice e)) (hc : P.cellsOf e = d.sz) (ho : Opens P e d wf) : Opens P t (Kd.slice e d) (fun ys => ys.length ≤ maxLen ∧ ∀ y ∈ ys, wf y) := by
  intro H enc w base sp held fuel cs x h
  obtain ⟨A, c, ys, h1, h2, h3, h4, _⟩ := slice_open hu hc ho h
  exact ⟨ys, ⟨A, c, h1, h2, h3⟩, h4⟩
theorem opens_iso {α β : Type} {d : Kd α} {f : β → α} {g : α → β} {wf : α → Prop} (hg : ∀ a, f (g a) = a) (ho : Opens P t d wf) : Opens P t (Kd.iso d f) (fun b => wf (f b)) := by
  intro H enc w base sp held fuel cs x h
  obtain ⟨y, hy, hw⟩ := ho h
  exact ⟨g y, by show d.K w (f (g y)) cs; rw [hg]; exact hy, by show wf (f (g y)); rw [hg]; exact hw⟩
theorem opens_struct2 {α β : Type} {a : Kd α} {b : Kd β} {wa : α → Prop} {wb : β → Prop} {f0 f1 : Field} (hu : P.underlying t = some (.struct #[f0, f1])) (h0 : f0.offset = 0) (c0 : P.cellsOf f0.type = a.sz) (h1 : f1.offset = a.sz) (c1 : P.cellsOf f1.type = b.sz) (ct : P.cellsOf t = a.sz + b.sz)
    (oa : Opens P f0.type a wa) (ob : Opens P f1.type b wb) : Opens P t (Kd.pair a b) (fun x => wa x.1 ∧ wb x.2) := by
  intro H enc w base sp held fuel cs x h
  obtain ⟨y0, y1, n, _, hl, e0, e1⟩ := trod_struct2 hu h
  obtain ⟨u0, k0, w0⟩ := oa e0
  obtain ⟨u1, k1, w1⟩ := ob e1
  refine ⟨(u0, u1), ⟨_, _, ?_, k0, k1⟩, w0, w1⟩
  rw [h0, h1, c0, c1, List.drop_zero]
  have : (cs.drop a.sz).take b.sz = cs.drop a.sz := List.take_of_length_le (by rw [List.length_drop]; omega)
  rw [this, List.take_append_drop]
end Go.Proofs.YtihaochmebejbaaDoor.Open
