/-
  Plain laws of layer 13: a window as the list of its clients with their serials.
-/
import Derived.Test.YtogijfgfcdmbnaaBase
set_option linter.unusedVariables false
set_option linter.unusedSimpArgs false
namespace Go.Proofs.Ytogijfgfcdmbnaa.Wp
def Key (c : Int) : Prop := 0 ≤ c ∧ c ≤ 18446744073709551615
abbrev St := List (Int × List Int)
/-- A client's serials. -/
def sr : St → Int → List Int
  | [], _ => []
  | e :: r, c => if e.1 = c then e.2 else sr r c
theorem sr_cons (e : Int × List Int) (r : St) (c : Int) : sr (e :: r) c = if e.1 = c then e.2 else sr r c := rfl
def cut4 (l : List Int) : List Int := l.drop (l.length - 4)
def rest (x : St) (c : Int) : St := x.filter fun e => decide (e.1 ≠ c)
def laid (x : St) (c s : Int) : St := rest x c ++ [(c, cut4 (sr x c ++ [s]))]
def cut64 (y : St) : St := if 64 < y.length then y.drop 1 else y
/-- What Add answers, and the window behind it. -/
def addX (x : St) (c s : Int) : Bool × St := if s ∈ sr x c then (false, x) else (true, cut64 (laid x c s))
structure Ok (x : St) : Prop where
  key : ∀ e ∈ x, Key e.1
  nd : (x.map (·.1)).Nodup
  le : ∀ e ∈ x, 1 ≤ e.2.length ∧ e.2.length ≤ 4
  ser : ∀ e ∈ x, ∀ s ∈ e.2, Key s
  len : x.length ≤ 64
theorem Ok.nil : Ok [] := ⟨fun e h => (by cases h), by simp, fun e h => (by cases h), fun e h => (by cases h), by simp⟩
theorem sr_mem {x : St} {c : Int} : sr x c = [] ∨ ∃ e ∈ x, e.1 = c ∧ e.2 = sr x c := by
  induction x with
  | nil => exact .inl rfl
  | cons e r ih =>
    rw [sr_cons]
    by_cases h : e.1 = c
    · rw [if_pos h]
      exact .inr ⟨e, by simp, h, rfl⟩
    · rw [if_neg h]
      exact ih.imp id fun ⟨e', h1, h2⟩ => ⟨e', by simp [h1], h2⟩
theorem Ok.sr_le {x : St} (h : Ok x) (c : Int) : (sr x c).length ≤ 4 := by
  rcases sr_mem (x := x) (c := c) with h1 | ⟨e, he, _, h2⟩
  · simp [h1]
  · rw [← h2]; exact (h.le e he).2
theorem Ok.sr_key {x : St} (h : Ok x) (c : Int) : ∀ s ∈ sr x c, Key s := by
  rcases sr_mem (x := x) (c := c) with h1 | ⟨e, he, _, h2⟩
  · simp [h1]
  · rw [← h2]; exact h.ser e he
theorem sr_append (x y : St) (c : Int) (h : ∀ e ∈ x, e.1 ≠ c) : sr (x ++ y) c = sr y c := by
  induction x with
  | nil => rfl
  | cons e r ih =>
    rw [List.cons_append]
    rw [sr_cons]
    rw [if_neg (h e (by simp))]
    exact ih fun e' he' => h e' (by simp [he'])
theorem sr_append_left (x y : St) (c : Int) (h : ∀ e ∈ y, e.1 ≠ c) : sr (x ++ y) c = sr x c := by
  induction x with
  | nil =>
    rw [List.nil_append]
    have := sr_append y [] c h
    simpa [sr] using this
  | cons e r ih =>
    rw [List.cons_append, sr_cons, sr_cons, ih]
theorem sr_none (x : St) (c : Int) (h : ∀ e ∈ x, e.1 ≠ c) : sr x c = [] := by
  have := sr_append x [] c h
  simpa [sr] using this
theorem sr_rest (x : St) (c c' : Int) (h : c' ≠ c) : sr (rest x c) c' = sr x c' := by
  induction x with
  | nil => rfl
  | cons e r ih =>
    unfold rest
    rw [List.filter_cons]
    by_cases he : e.1 = c
    · rw [if_neg (by simpa using he)]
      rw [sr_cons]
      rw [if_neg (by rw [he]; exact Ne.symm h)]
      exact ih
    · rw [if_pos (by simpa using he)]
      simp only [sr_cons]
      rw [show r.filter (fun e => decide (e.1 ≠ c)) = rest r c from rfl, ih]
theorem rest_ne {x : St} {c : Int} : ∀ e ∈ rest x c, e.1 ≠ c := fun e he => by simpa using (List.mem_filter.1 he).2
theorem sr_laid (x : St) (c s c' : Int) : sr (laid x c s) c' = if c' = c then cut4 (sr x c ++ [s]) else sr x c' := by
  unfold laid
  split
  · rename_i h
    subst h
    rw [sr_append _ _ _ rest_ne]
    simp [sr]
  · rename_i h
    rw [sr_append_left _ _ _ (fun e he => by
      obtain rfl := List.mem_singleton.1 he
      exact Ne.symm h), sr_rest x c c' h]
theorem sr_tail {e : Int × List Int} {r : St} (hn : ((e :: r).map (·.1)).Nodup) (c : Int) : sr r c = if c = e.1 then [] else sr (e :: r) c := by
  simp only [List.map_cons, List.nodup_cons] at hn
  split
  · rename_i h
    subst h
    exact sr_none _ _ fun e' he' h => hn.1 (h ▸ List.mem_map_of_mem (f := (·.1)) he')
  · rename_i h
    rw [sr_cons, if_neg (Ne.symm h)]
theorem cut4_len (l : List Int) (h : l ≠ []) : 1 ≤ (cut4 l).length ∧ (cut4 l).length ≤ 4 := by
  have : 0 < l.length := List.length_pos_iff.2 h
  simp [cut4]
  omega
theorem Ok.laid {x : St} (h : Ok x) {c s : Int} (hc : Key c) (hs : Key s) : (∀ e ∈ laid x c s, Key e.1) ∧ ((laid x c s).map (·.1)).Nodup ∧ (∀ e ∈ laid x c s, 1 ≤ e.2.length ∧ e.2.length ≤ 4) ∧ (∀ e ∈ laid x c s, ∀ s ∈ e.2, Key s) ∧ (laid x c s).length ≤ 65 := by
  have hsub : ∀ e ∈ rest x c, e ∈ x := fun e he => (List.mem_filter.1 he).1
  refine ⟨fun e he => ?_, ?_, fun e he => ?_, fun e he => ?_, ?_⟩
  · rcases List.mem_append.1 he with he | he
    · exact h.key e (hsub e he)
    · obtain rfl := List.mem_singleton.1 he
      exact hc
  · unfold Wp.laid
    rw [List.map_append]
    refine List.nodup_append.2 ⟨(h.nd.sublist ((List.filter_sublist (p := fun e => decide (e.1 ≠ c)) (l := x)).map _)), by simp, fun a ha b hb => ?_⟩
    obtain ⟨e, he, rfl⟩ := List.mem_map.1 ha
    obtain rfl : b = c := by simpa using hb
    exact rest_ne e he
  · rcases List.mem_append.1 he with he | he
    · exact h.le e (hsub e he)
    · obtain rfl := List.mem_singleton.1 he
      exact cut4_len _ (by simp)
  · rcases List.mem_append.1 he with he | he
    · exact h.ser e (hsub e he)
    · obtain rfl := List.mem_singleton.1 he
      intro s' hs'
      rcases List.mem_append.1 (List.mem_of_mem_drop hs') with h' | h'
      · exact h.sr_key c s' h'
      · obtain rfl := List.mem_singleton.1 h'
        exact hs
  · have h1 := List.length_filter_le (fun e : Int × List Int => decide (e.1 ≠ c)) x
    have h2 := h.len
    simp only [Wp.laid, rest, List.length_append, List.length_singleton]
    omega
theorem Ok.add {x : St} (h : Ok x) {c s : Int} (hc : Key c) (hs : Key s) : Ok (addX x c s).2 := by
  unfold addX
  split
  · exact h
  · obtain ⟨h1, h2, h3, h4, h5⟩ := h.laid hc hs
    unfold cut64
    split
    · refine ⟨fun e he => h1 e (List.mem_of_mem_drop he), ?_, fun e he => h3 e (List.mem_of_mem_drop he), fun e he => h4 e (List.mem_of_mem_drop he), by simp; omega⟩
      exact h2.sublist ((List.drop_sublist 1 _).map _)
    · exact ⟨h1, h2, h3, h4, by simp only; omega⟩
theorem laid_keys (x : St) (c s : Int) : (laid x c s).map (·.1) = (x.map (·.1)).filter (fun k => !decide (k = c)) ++ [c] := by
  simp only [laid, rest, List.map_append, List.map_cons, List.map_nil, List.filter_map]
  congr 2
  apply List.filter_congr
  intro e _
  simp
end Go.Proofs.Ytogijfgfcdmbnaa.Wp
