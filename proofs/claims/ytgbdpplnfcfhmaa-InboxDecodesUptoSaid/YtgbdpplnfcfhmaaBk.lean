/-
  Plain laws for LetterBack: what was packed is unpacked; what is decoded has just those bytes.
-/
import Derived.Test.YtgbdpplnfcfhmaaPk
import Derived.Test.YtgbdpplnfcfhmaaPu
set_option linter.unusedVariables false
set_option linter.unusedSimpArgs false
namespace Go.Proofs.Ytgbdpplnfcfhmaa.Pk
open Go.RowKit Go.Proofs.Ytgbdpplnfcfhmaa Go.Proofs.Ytgbdpplnfcfhmaa.B Go.Proofs.Ytgbdpplnfcfhmaa.Lt Go.Proofs.Ytgbdpplnfcfhmaa.Ib Go.Proofs.Ytgbdpplnfcfhmaa.Lk Go.Proofs.Ytgbdpplnfcfhmaa.Lj Go.Proofs.Ytgbdpplnfcfhmaa.Cr
open Go.Proofs.Ytgbdpplnfcfhmaa.Lc (lb Wf)
open Go.Proofs.Ytgbdpplnfcfhmaa.Cm (stN rdNum num)
theorem readL_pkb (r : List Int) : ∀ xs : List L, (∀ x ∈ xs, formed x = true ∧ Wf x) → readL xs.length (pkb xs ++ r) = some (xs, r) := by
  intro xs
  induction xs with
  | nil => intro _; rfl
  | cons x t ih =>
    intro h
    have h1 := h x List.mem_cons_self
    have h2 := ih fun z hz => h z (List.mem_cons_of_mem _ hz)
    have e : pkb (x :: t) ++ r = lb x ++ (pkb t ++ r) := by simp [pkb]
    rw [e, List.length_cons, readL, Lz.take_back x _ h1.1 h1.2]
    simp only [if_true, h2, Option.map_some]
theorem unp_pack (xs : List L) (h : ∀ x ∈ xs, formed x = true ∧ Wf x) (hl : xs.length ≤ 1000) : unpL (packL xs) = (xs, 0) := by
  have ha : xs.all formed = true := List.all_eq_true.2 fun x hx => (h x hx).1
  have hr := readL_pkb [] xs h
  rw [List.append_nil] at hr
  unfold unpL packL
  rw [ha]
  simp only [if_true]
  rw [Lz.back_num (xs.length : Int) (pkb xs) (by omega) (by omega)]
  simp only [Bool.false_eq_true, if_false, Int.toNat_natCast, hr]
theorem dec_lb (x : L) (hf : formed x = true) (hw : Wf x) : decL (lb x) = (x, 0) := by
  have h := Lz.take_back x [] hf hw
  rw [List.append_nil] at h
  unfold decL
  rw [h]
  rfl
theorem stN_only {l r : List Int} {n : Int} (hb : Byte l) (h : stN l false = (n, r, false)) : l = num n ++ r ∧ Byte r ∧ 0 ≤ n ∧ n ≤ 18446744073709551615 := by
  have hr := stN_range l false hb
  rw [h] at hr
  unfold stN at h
  rcases hq : rdNum l with _ | ⟨n', r'⟩
  · rw [hq] at h
    simp at h
  · rw [hq] at h
    simp only [Prod.mk.injEq, and_true] at h
    obtain ⟨rfl, rfl⟩ := h
    have e := Cp.rdNum_only l n' r' hb hq
    exact ⟨e, fun c hc => hb c (by rw [e]; exact List.mem_append_right _ hc), hr.1, hr.2⟩
theorem sb_strOf (t : List Int) (hb : Byte t) : sb (strOfNums t) = t := by
  simp only [sb, strOfNums, List.map_map]
  conv => rhs; rw [← List.map_id t]
  exact List.map_congr_left fun b hbm => by
    have := hb b hbm
    simp
    omega
theorem stT_only {l r t : List Int} (hb : Byte l) (h : stT l false = (t, r, false)) : l = num (strOfNums t).size ++ sb (strOfNums t) ++ r ∧ Byte r := by
  unfold stT at h
  obtain ⟨n, r1, b1, e⟩ : ∃ n r1 b1, stN l false = (n, r1, b1) := ⟨_, _, _, rfl⟩
  rw [e] at h
  simp only at h
  rcases b1 with _ | _
  · simp only [Bool.false_eq_true, if_false] at h
    obtain ⟨h1, h2, h3, h4⟩ := stN_only hb e
    by_cases h5 : (r1.length : Int) < n
    · rw [if_pos h5] at h
      simp at h
    · rw [if_neg h5] at h
      simp only [Prod.mk.injEq, and_true] at h
      obtain ⟨rfl, rfl⟩ := h
      have hs := strOfNums_size (r1.take n.toNat)
      rw [List.length_take] at hs
      have hn : ((strOfNums (r1.take n.toNat)).size : Int) = n := by omega
      refine ⟨?_, fun c hc => h2 c (List.mem_of_mem_drop hc)⟩
      rw [hn, sb_strOf _ fun c hc => h2 c (List.mem_of_mem_take hc), List.append_assoc, List.take_append_drop]
      exact h1
  · simp at h
theorem zz_uz (n : Int) (h : 0 ≤ n) : Cw.zz (uz n) = n := by unfold uz Cw.zz; split <;> split <;> omega
theorem uz_in (n : Int) (h0 : 0 ≤ n) (h1 : n ≤ 18446744073709551615) : -9223372036854775808 ≤ uz n ∧ uz n ≤ 9223372036854775807 := by unfold uz; split <;> omega
theorem tk_only : ∀ (j : Nat) (l xs r : List Int), Byte l → tk l false j = (xs, r, false) → l = Lc.ints xs ++ r ∧ Byte r ∧ ∀ z ∈ xs, -9223372036854775808 ≤ z ∧ z ≤ 9223372036854775807 := by
  intro j
  induction j with
  | zero =>
    intro l xs r hb h
    simp only [tk, Prod.mk.injEq] at h
    obtain ⟨rfl, rfl, _⟩ := h
    exact ⟨rfl, hb, fun z hz => by cases hz⟩
  | succ j ih =>
    intro l xs r hb h
    obtain ⟨ys, r1, b1, e⟩ : ∃ ys r1 b1, tk l false j = (ys, r1, b1) := ⟨_, _, _, rfl⟩
    simp only [tk, e, Prod.mk.injEq] at h
    obtain ⟨h1, h2, h3⟩ := h
    obtain ⟨n, r2, b2, e2⟩ : ∃ n r2 b2, stN r1 b1 = (n, r2, b2) := ⟨_, _, _, rfl⟩
    rw [e2] at h1 h2 h3
    simp only at h1 h2 h3
    subst h1 h2 h3
    obtain rfl := Lz.stN_good e2
    obtain ⟨i1, i2, i3⟩ := ih l ys r1 hb e
    obtain ⟨k1, k2, k3, k4⟩ := stN_only i2 e2
    refine ⟨?_, k2, fun z hz => ?_⟩
    · have : Lc.ints (ys ++ [uz n]) = Lc.ints ys ++ num n := by simp [Lc.ints, zz_uz n k3]
      rw [this, List.append_assoc, ← k1]
      exact i1
    · rcases List.mem_append.1 hz with hz | hz
      · exact i3 z hz
      · obtain rfl := List.mem_singleton.1 hz
        exact uz_in n k3 k4
theorem takeL_only {l r : List Int} {x : L} (hb : Byte l) (h : takeL l false = (x, r, false, true)) : l = lb x ++ r ∧ formed x = true ∧ Wf x := by
  obtain ⟨t, r1, b1, e1⟩ : ∃ t r1 b1, stT l false = (t, r1, b1) := ⟨_, _, _, rfl⟩
  obtain ⟨n, r2, b2, e2⟩ : ∃ n r2 b2, stN r1 b1 = (n, r2, b2) := ⟨_, _, _, rfl⟩
  obtain ⟨k, r3, b3, e3⟩ : ∃ k r3 b3, stN r2 b2 = (k, r3, b3) := ⟨_, _, _, rfl⟩
  obtain ⟨m, r4, b4, e4⟩ : ∃ m r4 b4, stN r3 b3 = (m, r4, b4) := ⟨_, _, _, rfl⟩
  have hhd : hd l false = (strOfNums t, n, uz k, m, r4, b4) := by simp only [hd, e1, e2, e3, e4]
  simp only [takeL, hhd] at h
  by_cases hm : 4 < m
  · rw [if_pos hm] at h; simp at h
  · rw [if_neg hm] at h
    obtain ⟨xs, ra, ba, e5⟩ : ∃ xs ra ba, tk r4 b4 m.toNat = (xs, ra, ba) := ⟨_, _, _, rfl⟩
    have htl := tk_length r4 b4 m.toNat
    rw [e5] at h htl
    simp only at h htl
    rcases hc : (ba || !formed (strOfNums t, n, uz k, xs)) with _ | _
    · rw [hc] at h
      simp only [Bool.false_eq_true, if_false, Prod.mk.injEq, and_true] at h
      obtain ⟨rfl, rfl, rfl⟩ := h
      have hf : formed (strOfNums t, n, uz k, xs) = true := by simpa using hc
      have h4 : b4 = false := by
        rcases b4 with _ | _
        · rfl
        · have := Lz.tk_true r4 m.toNat
          rw [e5] at this
          cases this
      subst h4
      obtain rfl := Lz.stN_good e4
      obtain rfl := Lz.stN_good e3
      obtain rfl := Lz.stN_good e2
      obtain ⟨p1, q1⟩ := stT_only hb e1
      obtain ⟨p2, q2, u2, v2⟩ := stN_only q1 e2
      obtain ⟨p3, q3, u3, v3⟩ := stN_only q2 e3
      obtain ⟨p4, q4, u4, v4⟩ := stN_only q3 e4
      obtain ⟨p5, q5, w5⟩ := tk_only _ _ _ _ q4 e5
      refine ⟨?_, hf, ⟨⟨u2, v2⟩, uz_in k u3 v3, fun i hi => w5 _ (gi_mem xs i hi)⟩⟩
      have hml : (xs.length : Int) = m := by omega
      simp only [lb, Lc.hb, zz_uz k u3, hml, List.append_assoc]
      rw [← p5, ← p4, ← p3, ← p2, ← List.append_assoc]
      exact p1
    · rw [hc] at h
      simp at h
/-- Who is decoded has just those bytes. -/
theorem dec_only {l : List Int} {x : L} (hb : Byte l) (h : decL l = (x, 0)) : l = lb x ∧ formed x = true ∧ Wf x := by
  obtain ⟨z, r, b, o, e⟩ : ∃ z r b o, takeL l false = (z, r, b, o) := ⟨_, _, _, _, rfl⟩
  unfold decL at h
  rw [e] at h
  simp only at h
  rcases hc : (o && (!b && decide (r.length = 0))) with _ | _
  · rw [hc] at h
    simp at h
  · rw [hc] at h
    simp only [if_true, Prod.mk.injEq, and_true] at h
    subst h
    simp only [Bool.and_eq_true, Bool.not_eq_true', decide_eq_true_eq] at hc
    obtain ⟨rfl, rfl, h3⟩ := hc
    have hr : r = [] := List.eq_nil_of_length_eq_zero h3
    subst hr
    have := takeL_only hb e
    rwa [List.append_nil] at this
end Go.Proofs.Ytgbdpplnfcfhmaa.Pk
