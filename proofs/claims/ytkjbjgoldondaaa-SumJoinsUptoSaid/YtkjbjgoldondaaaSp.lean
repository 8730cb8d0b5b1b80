/-
  Plain laws on sums: one byte turned turns the sum; a sealed block opens by its kind and place alone.
-/
import Derived.Test.YtkjbjgoldondaaaSm
import Derived.Test.YtkjbjgoldondaaaCp
import Derived.Laws.BitsAllLaws
set_option linter.unusedVariables false
set_option linter.unusedSimpArgs false
namespace Go.Proofs.Ytkjbjgoldondaaa.Sp
open Go.RowKit Go.Proofs.Ytkjbjgoldondaaa.B Go.Proofs.Ytkjbjgoldondaaa.Cm Go.Proofs.Ytkjbjgoldondaaa.Sm
theorem xor64 (a b : Nat) (ha : a < 18446744073709551616) (hb : b < 18446744073709551616) : bits .xor .u64 (a : Int) (b : Int) = ((a ^^^ b : Nat) : Int) := by
  have e2 : ∀ x : Nat, x < 18446744073709551616 → (BitVec.ofInt 64 (x : Int)).toNat = x := fun x hx => by
    rw [BitVec.ofInt_natCast, BitVec.toNat_ofNat]; exact Nat.mod_eq_of_lt (by omega)
  have hx : a ^^^ b < 2 ^ 64 := Nat.xor_lt_two_pow (by omega) (by omega)
  show IntKind.u64.wrap ((BitVec.ofInt 64 (a : Int) ^^^ BitVec.ofInt 64 (b : Int)).toNat : Int) = _
  rw [BitVec.toNat_xor, e2 _ ha, e2 _ hb, IntKind.wrap_u64]
  omega
theorem xor8 (a b : Nat) (ha : a < 256) (hb : b < 256) : bits .xor .u8 (a : Int) (b : Int) = ((a ^^^ b : Nat) : Int) ∧ a ^^^ b < 256 := by
  have e2 : ∀ x : Nat, x < 256 → (BitVec.ofInt 8 (x : Int)).toNat = x := fun x hx => by
    rw [BitVec.ofInt_natCast, BitVec.toNat_ofNat]; exact Nat.mod_eq_of_lt (by omega)
  have hx : a ^^^ b < 2 ^ 8 := Nat.xor_lt_two_pow (by omega) (by omega)
  refine ⟨?_, hx⟩
  show IntKind.u8.wrap ((BitVec.ofInt 8 (a : Int) ^^^ BitVec.ofInt 8 (b : Int)).toNat : Int) = _
  rw [BitVec.toNat_xor, e2 _ ha, e2 _ hb, IntKind.wrap_u8]
  omega
theorem xor_left (a b c : Nat) (h : a ^^^ c = b ^^^ c) : a = b := by
  have := congrArg (· ^^^ c) h
  simpa [Nat.xor_assoc] using this
/-- A byte turned by 'by': it is what it was just if 'by' is nought. -/
theorem turn8 (a b : Int) (ha : 0 ≤ a ∧ a ≤ 255) (hb : 0 ≤ b ∧ b ≤ 255) : (0 ≤ bits .xor .u8 a b ∧ bits .xor .u8 a b ≤ 255) ∧ (bits .xor .u8 a b = a ↔ b = 0) := by
  obtain ⟨m, rfl⟩ := Int.eq_ofNat_of_zero_le ha.1
  obtain ⟨n, rfl⟩ := Int.eq_ofNat_of_zero_le hb.1
  obtain ⟨e, hl⟩ := xor8 m n (by omega) (by omega)
  rw [e]
  refine ⟨by omega, fun h => ?_, fun h => ?_⟩
  · have h1 : m ^^^ n = m := by omega
    have h2 : n ^^^ m = 0 ^^^ m := by rw [Nat.xor_comm, h1, Nat.zero_xor]
    have := xor_left n 0 m h2
    omega
  · have h1 : n = 0 := by omega
    rw [h1, Nat.xor_zero]
theorem mul_inj (a b : Int) (ha : 0 ≤ a ∧ a ≤ 18446744073709551615) (hb : 0 ≤ b ∧ b ≤ 18446744073709551615) (h : (a * 1099511628211) % 18446744073709551616 = (b * 1099511628211) % 18446744073709551616) : a = b := by
  have hd : (18446744073709551616 : Int) ∣ a * 1099511628211 - b * 1099511628211 := Int.dvd_of_emod_eq_zero (by rw [Int.sub_emod, h, Int.sub_self]; rfl)
  obtain ⟨d, hd⟩ := hd
  rw [← Int.sub_mul] at hd
  have e : (1099511628211 : Int) * 14886173955864302971 = 1 + 18446744073709551616 * 887285111055 := by decide
  have h1 : (a - b) * (1 + 18446744073709551616 * 887285111055) = 18446744073709551616 * (d * 14886173955864302971) := by
    rw [← e, ← Int.mul_assoc, hd, Int.mul_assoc]
  rw [Int.mul_add, Int.mul_one, ← Int.mul_assoc, Int.mul_comm (a - b) 18446744073709551616, Int.mul_assoc] at h1
  generalize d * 14886173955864302971 = u at h1
  generalize hv : (a - b) * 887285111055 = v at h1
  clear hv hd e h
  omega
theorem xor_lt (a b : Nat) (ha : a < 18446744073709551616) (hb : b < 18446744073709551616) : (0 : Int) ≤ ((a ^^^ b : Nat) : Int) ∧ ((a ^^^ b : Nat) : Int) ≤ 18446744073709551615 := by
  have h1 : a ^^^ b < 2 ^ 64 := Nat.xor_lt_two_pow (by omega) (by omega)
  omega
theorem mul_inj_nat (a b : Nat) (ha : (0 : Int) ≤ (a : Int) ∧ (a : Int) ≤ 18446744073709551615) (hb : (0 : Int) ≤ (b : Int) ∧ (b : Int) ≤ 18446744073709551615) (h : IntKind.u64.wrap ((a : Int) * 1099511628211) = IntKind.u64.wrap ((b : Int) * 1099511628211)) : a = b := by
  rw [IntKind.wrap_u64, IntKind.wrap_u64] at h
  have := mul_inj _ _ ha hb h
  clear h
  omega
theorem fstep_inj (s t c : Int) (hs : 0 ≤ s ∧ s ≤ 18446744073709551615) (ht : 0 ≤ t ∧ t ≤ 18446744073709551615) (hc : 0 ≤ c ∧ c ≤ 255) (h : fstep s c = fstep t c) : s = t := by
  obtain ⟨m, rfl⟩ := Int.eq_ofNat_of_zero_le hs.1
  obtain ⟨n, rfl⟩ := Int.eq_ofNat_of_zero_le ht.1
  obtain ⟨d, rfl⟩ := Int.eq_ofNat_of_zero_le hc.1
  have hm : m < 18446744073709551616 := by omega
  have hn : n < 18446744073709551616 := by omega
  have hd : d < 18446744073709551616 := by omega
  unfold fstep at h
  rw [xor64 m d hm hd, xor64 n d hn hd] at h
  have h4 := xor_left m n d (mul_inj_nat _ _ (xor_lt m d hm hd) (xor_lt n d hn hd) h)
  rw [h4]
theorem fstep_byte (s x y : Int) (hs : 0 ≤ s ∧ s ≤ 18446744073709551615) (hx : 0 ≤ x ∧ x ≤ 255) (hy : 0 ≤ y ∧ y ≤ 255) (h : fstep s x = fstep s y) : x = y := by
  obtain ⟨m, rfl⟩ := Int.eq_ofNat_of_zero_le hs.1
  obtain ⟨n, rfl⟩ := Int.eq_ofNat_of_zero_le hx.1
  obtain ⟨d, rfl⟩ := Int.eq_ofNat_of_zero_le hy.1
  have hm : m < 18446744073709551616 := by omega
  have hn : n < 18446744073709551616 := by omega
  have hd : d < 18446744073709551616 := by omega
  unfold fstep at h
  rw [xor64 m n hm hn, xor64 m d hm hd] at h
  have h3 := mul_inj_nat _ _ (xor_lt m n hm hn) (xor_lt m d hm hd) h
  have h4 := xor_left n d m (by rw [Nat.xor_comm n, Nat.xor_comm d]; exact h3)
  rw [h4]
theorem fold_inj (l : List Int) (hl : Byte l) : ∀ s t : Int, 0 ≤ s ∧ s ≤ 18446744073709551615 → 0 ≤ t ∧ t ≤ 18446744073709551615 → l.foldl fstep s = l.foldl fstep t → s = t := by
  induction l with
  | nil => intro s t _ _ h; exact h
  | cons c l ih =>
    intro s t hs ht h
    have h1 := ih (fun x hx => hl x (by simp [hx])) _ _ (fstep_range s c) (fstep_range t c) h
    exact fstep_inj s t c hs ht (hl c (by simp)) h1
/-- Of two lists of bytes that differ in one byte the sums differ. -/
theorem fnv_one (a b : List Int) (x y : Int) (ha : Byte a) (hb : Byte b) (hx : 0 ≤ x ∧ x ≤ 255) (hy : 0 ≤ y ∧ y ≤ 255) (h : fnv (a ++ x :: b) = fnv (a ++ y :: b)) : x = y := by
  unfold fnv at h
  rw [List.foldl_append, List.foldl_append, List.foldl_cons, List.foldl_cons] at h
  have hr := fnv_range a
  have h1 := fold_inj b hb _ _ (fstep_range _ _) (fstep_range _ _) h
  exact fstep_byte _ x y hr hx hy h1
theorem fnv_set (l : List Int) (i : Nat) (v : Int) (hl : Byte l) (hi : i < l.length) (hv : 0 ≤ v ∧ v ≤ 255) (h : fnv (l.set i v) = fnv l) : v = gi l i := by
  have e1 : l = l.take i ++ gi l i :: l.drop (i + 1) := by
    have h1 : gi l i = l[i] := by simp [gi, List.getD_eq_getElem?_getD, List.getElem?_eq_getElem hi]
    rw [h1, ← List.drop_eq_getElem_cons hi, List.take_append_drop]
  have e2 : l.set i v = l.take i ++ v :: l.drop (i + 1) := by
    rw [List.set_eq_take_append_cons_drop, if_pos hi]
  rw [e2] at h
  have h' : fnv (l.take i ++ v :: l.drop (i + 1)) = fnv (l.take i ++ gi l i :: l.drop (i + 1)) := by rw [← e1]; exact h
  exact fnv_one _ _ _ _ (fun x hx => hl x (List.mem_of_mem_take hx)) (fun x hx => hl x (List.mem_of_mem_drop hx)) hv (hl _ (gi_mem l i hi)) h'
theorem be_inj (a b : Int) (k : Nat) (ha : 0 ≤ a ∧ a < 256 ^ k) (hb : 0 ≤ b ∧ b < 256 ^ k) (h : be a k k = be b k k) : a = b := by
  have := congrArg val h
  rwa [Cp.val_be' a k ha.1 ha.2, Cp.val_be' b k hb.1 hb.2] at this
theorem app_left {A B C D : List Int} (h : A ++ B = C ++ D) (hl : A.length = C.length) : A = C ∧ B = D := List.append_inj h hl
/-- Another kind or place: not opened. -/
theorem okOf_other (k k' p p' : Int) (l : List Int) (hl : l.length ≤ 242) (hp : 0 ≤ p ∧ p ≤ 4294967295) (hp' : 0 ≤ p' ∧ p' ≤ 4294967295) (hne : ¬ (k' = k ∧ p' = p)) : okOf k' p' (sealed k p l) = false := by
  unfold okOf
  rw [sealed_pay]
  have : ¬ sealed k' p' l = sealed k p l := by
    intro h
    unfold sealed at h
    have h1 := (app_left h (by simp [be_length])).2
    unfold rest at h1
    simp only [List.cons.injEq] at h1
    have h2 := (app_left h1.2 (by simp [be_length])).1
    have e4 : (256 : Int) ^ 4 = 4294967296 := by decide
    have h3 := be_inj p' p 4 (by omega) (by omega) h2
    exact hne ⟨h1.1, h3⟩
  simp [this]
/-- One byte turned: not opened. -/
theorem okOf_turned (k p : Int) (l : List Int) (i : Nat) (v : Int) (hk : 0 ≤ k ∧ k ≤ 255) (hl : l.length ≤ 242) (hb : Byte l) (hi : i < 256) (hv : 0 ≤ v ∧ v ≤ 255) :
    okOf k p ((sealed k p l).set i v) = decide (v = gi (sealed k p l) i) := by
  have hzl := sealed_length k p l hl
  by_cases e : v = gi (sealed k p l) i
  · have : (sealed k p l).set i v = sealed k p l := by
      rw [e]
      apply List.ext_getElem (by simp)
      intro j h1 h2
      rw [List.getElem_set]
      split
      · rename_i hij
        subst hij
        simp [gi, List.getD_eq_getElem?_getD, List.getElem?_eq_getElem h2]
      · rfl
    rw [this, okOf_sealed k p l hl]
    simp [e]
  · have hno : ¬ sealed k p (pay ((sealed k p l).set i v)) = (sealed k p l).set i v := by
      intro h
      have hdef : sealed k p l = be (fnv (rest k p l)) 8 8 ++ rest k p l := rfl
      have hdef' : sealed k p (pay ((sealed k p l).set i v)) = be (fnv (rest k p (pay ((sealed k p l).set i v)))) 8 8 ++ rest k p (pay ((sealed k p l).set i v)) := rfl
      rw [hdef'] at h
      generalize pay ((sealed k p l).set i v) = q at h
      have hr8 : (be (fnv (rest k p l)) 8 8).length = 8 := by simp [be_length]
      have hr8' : (be (fnv (rest k p q)) 8 8).length = 8 := by simp [be_length]
      by_cases hi8 : i < 8
      · rw [hdef, List.set_append_left _ _ (by rw [hr8]; exact hi8)] at h
        obtain ⟨h1, h2⟩ := app_left h (by simp [be_length])
        rw [h2] at h1
        apply e
        have h3 : gi (be (fnv (rest k p l)) 8 8) i = gi ((be (fnv (rest k p l)) 8 8).set i v) i := congrArg (fun x => gi x i) h1
        have h4 : gi ((be (fnv (rest k p l)) 8 8).set i v) i = v := by simp [gi, List.getD_eq_getElem?_getD, hr8, hi8]
        have h5 : gi (sealed k p l) i = gi (be (fnv (rest k p l)) 8 8) i := by
          rw [hdef]
          simp [gi, List.getD_eq_getElem?_getD, List.getElem?_append_left (show i < (be (fnv (rest k p l)) 8 8).length by omega)]
        rw [h4] at h3
        rw [h5, h3]
      · obtain ⟨j, rfl⟩ : ∃ j, i = 8 + j := ⟨i - 8, by omega⟩
        rw [hdef, List.set_append_right _ _ (by rw [hr8]; omega), hr8, Nat.add_sub_cancel_left] at h
        obtain ⟨h1, h2⟩ := app_left h (by simp [be_length])
        have e8 : (256 : Int) ^ 8 = 18446744073709551616 := by decide
        have f1 := fnv_range (rest k p q)
        have f2 := fnv_range (rest k p l)
        have h3 := be_inj _ _ 8 (by omega) (by omega) h1
        rw [h2] at h3
        have h4 := fnv_set (rest k p l) j v (rest_bytes k p l hk hl hb) (by rw [rest_length k p l hl]; omega) hv h3
        apply e
        have h5 := gi_app (be (fnv (rest k p l)) 8 8) (rest k p l) j
        rw [hr8] at h5
        rw [h4, hdef, h5]
    unfold okOf
    simp [hno, e]
end Go.Proofs.Ytkjbjgoldondaaa.Sp
