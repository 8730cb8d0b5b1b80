/-
  Plain laws on letters as bytes: what was written is read; a beginning is no letter, and nor is what goes on.
-/
import Derived.Test.YtgbdpplnfcfhmaaLj
import Derived.Test.YtgbdpplnfcfhmaaLc
set_option linter.unusedVariables false
set_option linter.unusedSimpArgs false
namespace Go.Proofs.Ytgbdpplnfcfhmaa.Lz
open Go.RowKit Go.Proofs.Ytgbdpplnfcfhmaa.B Go.Proofs.Ytgbdpplnfcfhmaa.Cm Go.Proofs.Ytgbdpplnfcfhmaa.Cw Go.Proofs.Ytgbdpplnfcfhmaa.Cr Go.Proofs.Ytgbdpplnfcfhmaa.Lt Go.Proofs.Ytgbdpplnfcfhmaa.Lk Go.Proofs.Ytgbdpplnfcfhmaa.Lj
open Go.Proofs.Ytgbdpplnfcfhmaa.Lc (lb ints Wf)
theorem uz_zz (n : Int) : uz (zz n) = n := by unfold uz zz; split <;> split <;> omega
theorem back_num (n : Int) (r : List Int) (h0 : 0 ≤ n) (h1 : n ≤ 18446744073709551615) : stN (num n ++ r) false = (n, r, false) := by
  unfold stN
  rw [Cp.rdNum_num n r h0 h1]
theorem back_text (s : ByteArray) (r : List Int) (hs : s.size ≤ 18446744073709551615) : stT (num s.size ++ sb s ++ r) false = (sb s, r, false) := by
  unfold stT
  rw [List.append_assoc, back_num s.size (sb s ++ r) (by omega) (by omega)]
  have hl := sb_length s
  simp only [Bool.false_eq_true, if_false]
  rw [if_neg (by rw [List.length_append]; omega)]
  have e : ((s.size : Int)).toNat = (sb s).length := by omega
  rw [e, List.take_left, List.drop_left]
theorem sb_str (s : ByteArray) : strOfNums (sb s) = s := by
  apply ByteArray.ext
  apply Array.toList_inj.1
  simp only [strOfNums, sb, List.map_map]
  have : (s.data.toList.map ((fun n : Int => UInt8.ofNat n.toNat) ∘ fun b : UInt8 => (b.toNat : Int))) = s.data.toList := by
    conv => rhs; rw [← List.map_id s.data.toList]
    exact List.map_congr_left fun b _ => by simp
  simpa using this
theorem ints_drop (l : List Int) (j : Nat) (hj : j < l.length) : ints (l.drop j) = num (zz (gi l j)) ++ ints (l.drop (j + 1)) := by
  rw [List.drop_eq_getElem_cons hj]
  simp only [ints, gi, List.getD_eq_getElem?_getD, List.getElem?_eq_getElem hj, List.flatMap_cons, Option.getD_some]
theorem tk_back (xs r : List Int) (h : ∀ i, i < xs.length → -9223372036854775808 ≤ gi xs i ∧ gi xs i ≤ 9223372036854775807) : ∀ j, j ≤ xs.length → tk (ints xs ++ r) false j = (xs.take j, ints (xs.drop j) ++ r, false) := by
  intro j
  induction j with
  | zero => intro _; simp [tk]
  | succ j ih =>
    intro hj
    have hz := zz_range (gi xs j) (h j (by omega)).1 (h j (by omega)).2
    have e : stN (ints (xs.drop j) ++ r) false = (zz (gi xs j), ints (xs.drop (j + 1)) ++ r, false) := by
      rw [ints_drop xs j (by omega), List.append_assoc]
      exact back_num _ _ hz.1 hz.2
    have hg : xs.take (j + 1) = xs.take j ++ [gi xs j] := by
      rw [List.take_succ_eq_append_getElem (by omega)]
      congr 1
      simp [gi, List.getD_eq_getElem?_getD, List.getElem?_eq_getElem (show j < xs.length by omega)]
    simp only [tk, ih (by omega), e, uz_zz, hg]
theorem take_back (x : L) (r : List Int) (hf : formed x = true) (hw : Wf x) : takeL (lb x ++ r) false = (x, r, false, true) := by
  obtain ⟨s, n, k, l⟩ := x
  have hf' := hf
  simp only [formed, Bool.and_eq_true, decide_eq_true_eq] at hf'
  have hz := zz_range k hw.k.1 hw.k.2
  have hhd : hd (lb (s, n, k, l) ++ r) false = (s, n, k, (l.length : Int), ints l ++ r, false) := by
    have e : lb (s, n, k, l) ++ r = num s.size ++ sb s ++ (num n ++ (num (zz k) ++ (num l.length ++ (ints l ++ r)))) := by
      simp only [lb, Lc.hb, List.append_assoc]
    rw [e]
    simp only [hd, back_text s _ (by omega), back_num n _ hw.u.1 hw.u.2, back_num (zz k) _ hz.1 hz.2, back_num (l.length : Int) _ (by omega) (by omega), uz_zz, sb_str]
  have ht := tk_back l r hw.a l.length (Nat.le_refl _)
  rw [List.take_length, List.drop_length, show ints [] = [] from rfl, List.nil_append] at ht
  simp only [takeL, hhd, show ¬ (4 : Int) < (l.length : Int) from by omega, if_false, Int.toNat_natCast, ht, hf]
  rfl
/-! more bytes behind -/
theorem rdNum_ext {l r : List Int} {n : Int} (s : List Int) (h : rdNum l = some (n, r)) : rdNum (l ++ s) = some (n, r ++ s) := by
  match l, h with
  | f :: t, h =>
    change (if f < 248 then some (f, t) else if (t.length : Int) < f - 247 then none else if Cm.val (t.take (f - 247).toNat) < 248 ∨ t.headD 0 = 0 then none else some (Cm.val (t.take (f - 247).toNat), t.drop (f - 247).toNat)) = _ at h
    show (if f < 248 then some (f, t ++ s) else if ((t ++ s).length : Int) < f - 247 then none else if Cm.val ((t ++ s).take (f - 247).toNat) < 248 ∨ (t ++ s).headD 0 = 0 then none else some (Cm.val ((t ++ s).take (f - 247).toNat), (t ++ s).drop (f - 247).toNat)) = _
    by_cases h1 : f < 248
    · rw [if_pos h1] at h ⊢
      simp only [Option.some.injEq, Prod.mk.injEq] at h
      rw [h.1, h.2]
    · rw [if_neg h1] at h ⊢
      by_cases h2 : (t.length : Int) < f - 247
      · rw [if_pos h2] at h; cases h
      · rw [if_neg h2] at h
        have hk : (f - 247).toNat ≤ t.length := by omega
        have hh : (t ++ s).headD 0 = t.headD 0 := by
          match t, hk with
          | a :: t', _ => rfl
          | [], hk => simp at hk; omega
        rw [if_neg (by rw [List.length_append]; omega), List.take_append_of_le_length hk, List.drop_append_of_le_length hk, hh]
        split at h
        · cases h
        · rename_i h3
          rw [if_neg h3]
          simp only [Option.some.injEq, Prod.mk.injEq] at h
          rw [h.1, h.2]
theorem stN_true (l : List Int) : (stN l true).2.2 = true := by
  unfold stN
  split <;> rfl
theorem stN_ext {l r : List Int} {n : Int} {b : Bool} (s : List Int) (h : stN l b = (n, r, false)) : stN (l ++ s) false = (n, r ++ s, false) := by
  have hb : b = false := by
    rcases b with _ | _
    · rfl
    · have := stN_true l
      rw [h] at this
      cases this
  subst hb
  unfold stN at h ⊢
  rcases hr : rdNum l with _ | ⟨n', r'⟩
  · rw [hr] at h
    simp at h
  · rw [hr] at h
    rw [rdNum_ext s hr]
    simp only [Prod.mk.injEq, and_true] at h ⊢
    rw [h.1, h.2]
    exact ⟨rfl, rfl⟩
theorem stT_ext {l r t : List Int} (s : List Int) (h : stT l false = (t, r, false)) : stT (l ++ s) false = (t, r ++ s, false) := by
  unfold stT at h
  obtain ⟨n, r1, b1, e⟩ : ∃ n r1 b1, stN l false = (n, r1, b1) := ⟨_, _, _, rfl⟩
  rw [e] at h
  simp only at h
  rcases b1 with _ | _
  · simp only [Bool.false_eq_true, if_false] at h
    by_cases h2 : (r1.length : Int) < n
    · rw [if_pos h2] at h; simp at h
    · rw [if_neg h2] at h
      simp only [Prod.mk.injEq, and_true] at h
      unfold stT
      rw [stN_ext s e]
      simp only [Bool.false_eq_true, if_false]
      rw [if_neg (by rw [List.length_append]; omega), List.take_append_of_le_length (by omega), List.drop_append_of_le_length (by omega), h.1, h.2]
  · simp at h
theorem tk_ext (l s : List Int) : ∀ (j : Nat) (xs r : List Int) (b : Bool), tk l b j = (xs, r, false) → tk (l ++ s) false j = (xs, r ++ s, false) := by
  intro j
  induction j with
  | zero =>
    intro xs r b h
    simp only [tk, Prod.mk.injEq] at h ⊢
    obtain ⟨rfl, rfl, rfl⟩ := h
    simp
  | succ j ih =>
    intro xs r b h
    obtain ⟨ys, r1, b1, e⟩ : ∃ ys r1 b1, tk l b j = (ys, r1, b1) := ⟨_, _, _, rfl⟩
    simp only [tk, e, Prod.mk.injEq] at h
    obtain ⟨h1, h2, h3⟩ := h
    obtain ⟨n, r2, b2, e2⟩ : ∃ n r2 b2, stN r1 b1 = (n, r2, b2) := ⟨_, _, _, rfl⟩
    rw [e2] at h1 h2 h3
    simp only at h1 h2 h3
    subst h1 h2 h3
    have hb1 : b1 = false := by
      rcases b1 with _ | _
      · rfl
      · have := stN_true r1
        rw [e2] at this
        cases this
    subst hb1
    simp only [tk, ih _ _ _ e, stN_ext s e2]
theorem tk_true (l : List Int) : ∀ j, (tk l true j).2.2 = true := by
  intro j
  induction j with
  | zero => rfl
  | succ j ih =>
    simp only [tk, ih]
    exact stN_true _
theorem stN_good {l r : List Int} {n : Int} {b : Bool} (h : stN l b = (n, r, false)) : b = false := by
  rcases b with _ | _
  · rfl
  · have := stN_true l
    rw [h] at this
    cases this
theorem takeL_ext {l r : List Int} {x : L} (s : List Int) (h : takeL l false = (x, r, false, true)) : takeL (l ++ s) false = (x, r ++ s, false, true) := by
  obtain ⟨t, r1, b1, e1⟩ : ∃ t r1 b1, stT l false = (t, r1, b1) := ⟨_, _, _, rfl⟩
  obtain ⟨n, r2, b2, e2⟩ : ∃ n r2 b2, stN r1 b1 = (n, r2, b2) := ⟨_, _, _, rfl⟩
  obtain ⟨k, r3, b3, e3⟩ : ∃ k r3 b3, stN r2 b2 = (k, r3, b3) := ⟨_, _, _, rfl⟩
  obtain ⟨m, r4, b4, e4⟩ : ∃ m r4 b4, stN r3 b3 = (m, r4, b4) := ⟨_, _, _, rfl⟩
  have hhd : hd l false = (strOfNums t, n, uz k, m, r4, b4) := by simp only [hd, e1, e2, e3, e4]
  simp only [takeL, hhd] at h
  by_cases hm : 4 < m
  · rw [if_pos hm] at h; simp at h
  · rw [if_neg hm] at h
    obtain ⟨xs, ra, ba, e5⟩ : ∃ xs ra ba, tk r4 b4 m.toNat = (xs, ra, ba) := ⟨_, _, _, rfl⟩
    rw [e5] at h
    simp only at h
    rcases hc : (ba || !formed (strOfNums t, n, uz k, xs)) with _ | _
    · rw [hc] at h
      simp only [Bool.false_eq_true, if_false, Prod.mk.injEq, and_true] at h
      obtain ⟨rfl, rfl, rfl⟩ := h
      have h4 : b4 = false := by
        rcases b4 with _ | _
        · rfl
        · have := tk_true r4 m.toNat
          rw [e5] at this
          cases this
      subst h4
      obtain rfl := stN_good e4
      obtain rfl := stN_good e3
      obtain rfl := stN_good e2
      have hhd2 : hd (l ++ s) false = (strOfNums t, n, uz k, m, r4 ++ s, false) := by simp only [hd, stT_ext s e1, stN_ext s e2, stN_ext s e3, stN_ext s e4]
      simp only [takeL, hhd2, if_neg hm, tk_ext r4 s _ _ _ _ e5, hc, Bool.false_eq_true, if_false]
    · rw [hc] at h
      simp at h
theorem dec_more (x : L) (y : Int) (hf : formed x = true) (hw : Wf x) : decL (lb x ++ [y]) = (zero, 2) := by
  unfold decL
  rw [take_back x [y] hf hw]
  rfl
theorem dec_less (x : L) (k : Nat) (hf : formed x = true) (hw : Wf x) (hk : k < (lb x).length) : decL ((lb x).take k) = (zero, 2) := by
  unfold decL
  split
  · rename_i h
    simp only [Bool.and_eq_true, Bool.not_eq_true', decide_eq_true_eq] at h
    obtain ⟨h1, h2, h3⟩ := h
    obtain ⟨z, r, b, o, e⟩ : ∃ z r b o, takeL ((lb x).take k) false = (z, r, b, o) := ⟨_, _, _, _, rfl⟩
    rw [e] at h1 h2 h3
    simp only at h1 h2 h3
    subst h1 h2
    have h5 := takeL_ext ((lb x).drop k) e
    rw [List.take_append_drop] at h5
    have h6 := take_back x [] hf hw
    rw [List.append_nil, h5] at h6
    simp only [Prod.mk.injEq, and_true] at h6
    have h7 := congrArg List.length h6.2
    simp only [List.length_append, List.length_drop, List.length_nil] at h7
    omega
  · rfl
end Go.Proofs.Ytgbdpplnfcfhmaa.Lz
