/-
  Plain laws on lists of letters out of bytes; a list of letters grows by one.
-/
import Derived.Test.YtgbdpplnfcfhmaaLz
set_option linter.unusedVariables false
set_option linter.unusedSimpArgs false
namespace Go.Proofs.Ytgbdpplnfcfhmaa.Pk
open Go.RowKit Go.Proofs.Ytgbdpplnfcfhmaa Go.Proofs.Ytgbdpplnfcfhmaa.B Go.Proofs.Ytgbdpplnfcfhmaa.Lt Go.Proofs.Ytgbdpplnfcfhmaa.Ib Go.Proofs.Ytgbdpplnfcfhmaa.Lk Go.Proofs.Ytgbdpplnfcfhmaa.Cr
open Go.Proofs.Ytgbdpplnfcfhmaa.Cm (stN rdNum)
/-- The first n letters that bytes begin with, and the rest. -/
def readL : Nat → List Int → Option (List L × List Int)
  | 0, l => some ([], l)
  | n + 1, l => if (takeL l false).2.2.2 then (readL n (takeL l false).2.1).map fun p => ((takeL l false).1 :: p.1, p.2) else none
/-- What bytes are: a list of letters and 0, or none and 2. -/
def unpL (l : List Int) : List L × Int :=
  if (stN l false).2.2 then ([], 2)
  else match readL (stN l false).1.toNat (stN l false).2.1 with
    | some (xs, []) => (xs, 0)
    | _ => ([], 2)
theorem rdNum_len {l r : List Int} {n : Int} (h : rdNum l = some (n, r)) : r.length + 1 ≤ l.length := by
  match l, h with
  | f :: t, h =>
    change (if f < 248 then some (f, t) else if (t.length : Int) < f - 247 then none else if Cm.val (t.take (f - 247).toNat) < 248 ∨ t.headD 0 = 0 then none else some (Cm.val (t.take (f - 247).toNat), t.drop (f - 247).toNat)) = _ at h
    by_cases h1 : f < 248
    · rw [if_pos h1] at h
      simp only [Option.some.injEq, Prod.mk.injEq] at h
      rw [← h.2]
      simp
    · rw [if_neg h1] at h
      by_cases h2 : (t.length : Int) < f - 247
      · rw [if_pos h2] at h; cases h
      · rw [if_neg h2] at h
        split at h
        · cases h
        · simp only [Option.some.injEq, Prod.mk.injEq] at h
          rw [← h.2]
          simp only [List.length_drop, List.length_cons]
          omega
theorem stN_len {l r : List Int} {n : Int} {b bd : Bool} (h : stN l b = (n, r, bd)) : r.length ≤ l.length := by
  unfold stN at h
  rcases hr : rdNum l with _ | ⟨n', r'⟩
  · rw [hr] at h
    simp only [Prod.mk.injEq] at h
    rw [← h.2.1]
    simp
  · rw [hr] at h
    simp only [Prod.mk.injEq] at h
    have := rdNum_len hr
    rw [← h.2.1]
    omega
theorem stN_len1 {l r : List Int} {n : Int} {b : Bool} (h : stN l b = (n, r, false)) : r.length + 1 ≤ l.length := by
  unfold stN at h
  rcases hr : rdNum l with _ | ⟨n', r'⟩
  · rw [hr] at h
    simp at h
  · rw [hr] at h
    simp only [Prod.mk.injEq] at h
    have := rdNum_len hr
    rw [← h.2.1]
    omega
theorem stT_len1 {l r t : List Int} {b : Bool} (h : stT l b = (t, r, false)) : r.length + 1 ≤ l.length := by
  unfold stT at h
  obtain ⟨n, r1, b1, e⟩ : ∃ n r1 b1, stN l b = (n, r1, b1) := ⟨_, _, _, rfl⟩
  rw [e] at h
  simp only at h
  rcases b1 with _ | _
  · simp only [Bool.false_eq_true, if_false] at h
    split at h
    · simp at h
    · have := stN_len1 e
      simp only [Prod.mk.injEq] at h
      rw [← h.2.1, List.length_drop]
      omega
  · simp at h
theorem tk_len (l : List Int) (b : Bool) : ∀ j, (tk l b j).2.1.length ≤ l.length := by
  intro j
  induction j with
  | zero => exact Nat.le_refl _
  | succ j ih =>
    obtain ⟨n, r, bd, e⟩ : ∃ n r bd, stN (tk l b j).2.1 (tk l b j).2.2 = (n, r, bd) := ⟨_, _, _, rfl⟩
    have := stN_len e
    simp only [tk, e]
    omega
theorem takeL_len {l r : List Int} {x : L} {bd : Bool} (h : takeL l false = (x, r, bd, true)) : r.length + 1 ≤ l.length ∧ bd = false := by
  obtain ⟨t, r1, b1, e1⟩ : ∃ t r1 b1, stT l false = (t, r1, b1) := ⟨_, _, _, rfl⟩
  obtain ⟨n, r2, b2, e2⟩ : ∃ n r2 b2, stN r1 b1 = (n, r2, b2) := ⟨_, _, _, rfl⟩
  obtain ⟨k, r3, b3, e3⟩ : ∃ k r3 b3, stN r2 b2 = (k, r3, b3) := ⟨_, _, _, rfl⟩
  obtain ⟨m, r4, b4, e4⟩ : ∃ m r4 b4, stN r3 b3 = (m, r4, b4) := ⟨_, _, _, rfl⟩
  have hhd : hd l false = (strOfNums t, n, uz k, m, r4, b4) := by simp only [hd, e1, e2, e3, e4]
  simp only [takeL, hhd] at h
  by_cases hm : 4 < m
  · rw [if_pos hm] at h; simp at h
  · rw [if_neg hm] at h
    have h5 := tk_len r4 b4 m.toNat
    obtain ⟨xs, ra, ba, e5⟩ : ∃ xs ra ba, tk r4 b4 m.toNat = (xs, ra, ba) := ⟨_, _, _, rfl⟩
    rw [e5] at h h5
    simp only at h h5
    rcases hc : (ba || !formed (strOfNums t, n, uz k, xs)) with _ | _
    · rw [hc] at h
      simp only [Bool.false_eq_true, if_false, Prod.mk.injEq, and_true] at h
      obtain ⟨rfl, rfl, rfl⟩ := h
      have hb : ba = false := by
        rcases ba with _ | _
        · rfl
        · simp at hc
      subst hb
      have h4 : b4 = false := by
        rcases b4 with _ | _
        · rfl
        · have := Lz.tk_true r4 m.toNat
          rw [e5] at this
          cases this
      subst h4
      obtain rfl := Lz.stN_good e4
      obtain rfl := Lz.stN_good e3
      obtain rfl := Lz.stN_good e2
      have a1 := stT_len1 e1
      have a2 := stN_len e2
      have a3 := stN_len e3
      have a4 := stN_len e4
      exact ⟨by omega, rfl⟩
    · rw [hc] at h
      simp at h
theorem readL_len : ∀ (n : Nat) (l r : List Int) (xs : List L), readL n l = some (xs, r) → n + r.length ≤ l.length := by
  intro n
  induction n with
  | zero =>
    intro l r xs h
    simp only [readL, Option.some.injEq, Prod.mk.injEq] at h
    rw [h.2]
    omega
  | succ n ih =>
    intro l r xs h
    obtain ⟨x, r1, b, o, e⟩ : ∃ x r1 b o, takeL l false = (x, r1, b, o) := ⟨_, _, _, _, rfl⟩
    simp only [readL, e] at h
    rcases o with _ | _
    · simp at h
    · simp only [if_true] at h
      rcases hq : readL n r1 with _ | ⟨ys, r2⟩
      · rw [hq] at h; simp at h
      · rw [hq] at h
        simp only [Option.map_some, Option.some.injEq, Prod.mk.injEq] at h
        have h1 := ih _ _ _ hq
        have h2 := (takeL_len e).1
        rw [← h.2]
        omega
/-- More letters than bytes: none. -/
theorem readL_many {n : Nat} {l : List Int} (h : l.length < n) : readL n l = none := by
  rcases hq : readL n l with _ | ⟨xs, r⟩
  · rfl
  · have := readL_len _ _ _ _ hq
    omega
end Go.Proofs.Ytgbdpplnfcfhmaa.Pk
