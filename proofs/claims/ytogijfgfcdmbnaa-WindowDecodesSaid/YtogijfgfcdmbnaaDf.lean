/-
  Finding the first of a list; the plain part of slices.DeleteFunc.
-/
import Derived.Test.YtogijfgfcdmbnaaSl
import Derived.Test.YtogijfgfcdmbnaaRg
import Derived.Lib.SliceRun
set_option linter.unusedVariables false
set_option linter.unusedSimpArgs false
namespace Go.Proofs.Ytogijfgfcdmbnaa.Df
open Go.RowKit Go.Proofs.Ytogijfgfcdmbnaa.B
section
variable {α : Type} {q : α → Bool} {xs : List α} {r : Int}
/-- r is the place of the first of xs that q lets in, or -1. -/
def IxR (q : α → Bool) (xs : List α) (r : Int) : Prop :=
  (r = -1 ∧ ∀ x ∈ xs, q x = false) ∨ ∃ (j : Nat) (hj : j < xs.length), r = (j : Int) ∧ q xs[j] = true ∧ ∀ i (hi : i < xs.length), i < j → q xs[i] = false
theorem IxR.ex (q : α → Bool) : ∀ xs : List α, ∃ r, IxR q xs r
  | [] => ⟨-1, .inl ⟨rfl, fun x hx => by cases hx⟩⟩
  | x :: xs => by
    by_cases hx : q x = true
    · exact ⟨0, .inr ⟨0, by simp, rfl, hx, fun i hi h => by omega⟩⟩
    · obtain ⟨r, hr | ⟨j, hj, h1, h2, h3⟩⟩ := IxR.ex q xs
      · refine ⟨-1, .inl ⟨rfl, fun y hy => ?_⟩⟩
        rcases List.mem_cons.1 hy with rfl | hy
        · simpa using hx
        · exact hr.2 y hy
      · refine ⟨((j + 1 : Nat) : Int), .inr ⟨j + 1, by simpa using hj, rfl, by simpa using h2, fun i hi hij => ?_⟩⟩
        match i, hi, hij with
        | 0, _, _ => simpa using hx
        | i + 1, hi, hij => simpa using h3 i (by simpa using hi) (by omega)
theorem IxR.at_ (h : IxR q xs r) {j : Nat} (hj : j < xs.length) (hq : q xs[j] = true) (hb : ∀ i (hi : i < xs.length), i < j → q xs[i] = false) : r = (j : Int) := by
  rcases h with ⟨_, h⟩ | ⟨k, hk, rfl, h1, h2⟩
  · rw [h _ (List.getElem_mem hj)] at hq
    cases hq
  · rcases Nat.lt_trichotomy k j with h | h | h
    · rw [hb k hk h] at h1
      cases h1
    · rw [h]
    · rw [h2 j hj h] at hq
      cases hq
theorem IxR.end_ (h : IxR q xs r) (hb : ∀ i (hi : i < xs.length), i < xs.length → q xs[i] = false) : r = -1 := by
  rcases h with ⟨h, _⟩ | ⟨k, hk, rfl, h1, h2⟩
  · exact h
  · rw [hb k hk hk] at h1
    cases h1
theorem IxR.no (h : ∀ x ∈ xs, q x = false) : IxR q xs (-1) := .inl ⟨rfl, h⟩
theorem IxR.any (h : IxR q xs r) : (0 ≤ r ↔ xs.any q = true) := by
  rcases h with ⟨rfl, h⟩ | ⟨k, hk, rfl, h1, h2⟩
  · refine ⟨fun h => by omega, fun h' => ?_⟩
    obtain ⟨x, hx, hq⟩ := List.any_eq_true.1 h'
    rw [h x hx] at hq
    cases hq
  · exact ⟨fun _ => List.any_eq_true.2 ⟨_, List.getElem_mem hk, h1⟩, fun _ => by omega⟩
theorem IxR.pos (h : IxR q xs r) (hn : r ≠ -1) : ∃ j : Nat, r = (j : Int) ∧ ∃ hj : j < xs.length, q xs[j] = true ∧ ∀ i (hi : i < xs.length), i < j → q xs[i] = false := by
  rcases h with ⟨h, _⟩ | ⟨k, hk, rfl, h1, h2⟩
  · exact absurd h hn
  · exact ⟨k, rfl, hk, h1, h2⟩
/-- What stands in the row while slices.DeleteFunc runs: j were looked at, i kept. -/
structure Dl (q : α → Bool) (enc : α → Value) (xs : List α) (off i j : Nat) (cur : Array Value) : Prop where
  len : i = ((xs.take j).filter fun x => !q x).length
  lo : ∀ t (ht : t < ((xs.take j).filter fun x => !q x).length), cur[off + t]? = some (enc (((xs.take j).filter fun x => !q x)[t]))
  hi : ∀ t (ht : t < xs.length), j ≤ t → cur[off + t]? = some (enc xs[t])
  lt : i < j
  room : off + xs.length ≤ cur.size
variable {enc : α → Value} {off i j : Nat} {cur : Array Value}
theorem Dl.start (hj : j < xs.length) (hq : q xs[j] = true) (hb : ∀ i (hi : i < xs.length), i < j → q xs[i] = false) (hc : ∀ t (ht : t < xs.length), cur[off + t]? = some (enc xs[t])) (hr : off + xs.length ≤ cur.size) : Dl q enc xs off j (j + 1) cur := by
  have h1 : (xs.take j).filter (fun x => !q x) = xs.take j := by
    rw [List.filter_eq_self]
    intro x hx
    obtain ⟨i, hi, rfl⟩ := List.getElem_of_mem hx
    rw [List.length_take] at hi
    rw [List.getElem_take, hb i (by omega) (by omega)]
    rfl
  have h2 : (xs.take (j + 1)).filter (fun x => !q x) = xs.take j := by
    rw [List.take_succ_eq_append_getElem hj, List.filter_append, h1]
    simp [hq]
  refine ⟨by rw [h2, List.length_take]; omega, fun t ht => ?_, fun t ht _ => hc t ht, by omega, hr⟩
  have ht' := ht
  rw [h2, List.length_take] at ht'
  rw [hc t (by omega)]
  congr 2
  simp only [h2, List.getElem_take]
theorem Dl.skip (h : Dl q enc xs off i j cur) (hj : j < xs.length) (hq : q xs[j] = true) : Dl q enc xs off i (j + 1) cur := by
  have h2 : (xs.take (j + 1)).filter (fun x => !q x) = (xs.take j).filter (fun x => !q x) := by
    rw [List.take_succ_eq_append_getElem hj, List.filter_append]
    simp [hq]
  have hlt := h.lt
  refine ⟨by rw [h2]; exact h.len, fun t ht => ?_, fun t ht htj => h.hi t ht (by omega), by omega, h.room⟩
  have ht' := ht
  rw [h2] at ht'
  rw [h.lo t ht']
  congr 2
  simp only [h2]
theorem Dl.keep (h : Dl q enc xs off i j cur) (hj : j < xs.length) (hq : q xs[j] = false) : Dl q enc xs off (i + 1) (j + 1) (cur.setIfInBounds (off + i) (enc xs[j])) := by
  have h2 : (xs.take (j + 1)).filter (fun x => !q x) = (xs.take j).filter (fun x => !q x) ++ [xs[j]] := by
    rw [List.take_succ_eq_append_getElem hj, List.filter_append]
    simp [hq]
  have hlt := h.lt
  have hl := h.len
  have hr := h.room
  refine ⟨by rw [h2]; simp; omega, fun t ht => ?_, fun t ht htj => ?_, by omega, by simpa using hr⟩
  · have ht' := ht
    rw [h2, List.length_append, List.length_singleton] at ht'
    rw [Array.getElem?_setIfInBounds]
    by_cases he : i = t
    · rw [if_pos (by omega), if_pos (by omega)]
      subst he
      congr 2
      simp only [h2]
      rw [List.getElem_append_right (by omega)]
      simp
    · rw [if_neg (by omega), h.lo t (by omega)]
      congr 2
      simp only [h2]
      rw [List.getElem_append_left (by omega)]
  · rw [Array.getElem?_setIfInBounds, if_neg (by omega)]
    exact h.hi t ht (by omega)
end
end Go.Proofs.Ytogijfgfcdmbnaa.Df
