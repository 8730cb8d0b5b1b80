/-
  The walks of package codec's Reader, but for Number.
-/
import Derived.Test.YtbcmaobopglooaaCr
set_option linter.unusedVariables false
set_option linter.unusedSimpArgs false
namespace Go.Proofs.Ytbcmaobopglooaa.Cr
open Go.RowKit Go.Proofs.Ytbcmaobopglooaa.B Go.Proofs.Ytbcmaobopglooaa.Cm Go.Proofs.Ytbcmaobopglooaa.Cw
/-- A number as an integer. -/
def uz (n : Int) : Int := if n % 2 = 0 then n / 2 else -(n / 2) - 1
theorem stN_range (l : List Int) (bad : Bool) (hb : Byte l) : 0 ≤ (stN l bad).1 ∧ (stN l bad).1 ≤ 18446744073709551615 := by
  unfold stN
  match l with
  | [] => simp [rdNum]
  | f :: r =>
    have h1 := hb f (by simp)
    have h2 := val_range (r.take (f - 247).toNat) fun x hx => hb x (by simp [List.mem_of_mem_take hx])
    have h3 : ((r.take (f - 247).toNat).length) ≤ 8 := by rw [List.length_take]; omega
    have e : ∀ m : Nat, m ≤ 8 → (256 : Int) ^ m ≤ 18446744073709551616 := by decide
    have h4 := e _ h3
    simp only [rdNum]
    by_cases c1 : f < 248
    · rw [if_pos c1]; simp; omega
    · rw [if_neg c1]
      by_cases c2 : (r.length : Int) < f - 247
      · rw [if_pos c2]; simp
      · rw [if_neg c2]
        by_cases c3 : val (r.take (f - 247).toNat) < 248 ∨ r.headD 0 = 0
        · rw [if_pos c3]; simp
        · rw [if_neg c3]; simp only; omega
theorem stN_byte (l : List Int) (bad : Bool) (hb : Byte l) : Byte (stN l bad).2.1 := by
  unfold stN
  match l with
  | [] => simp [rdNum, Byte]
  | f :: r =>
    simp only [rdNum]
    by_cases c1 : f < 248
    · rw [if_pos c1]; exact fun x hx => hb x (by simp [hx])
    · rw [if_neg c1]
      by_cases c2 : (r.length : Int) < f - 247
      · rw [if_pos c2]; simp [Byte]
      · rw [if_neg c2]
        by_cases c3 : val (r.take (f - 247).toNat) < 248 ∨ r.headD 0 = 0
        · rw [if_pos c3]; simp [Byte]
        · rw [if_neg c3]; exact fun x hx => hb x (by simp [List.mem_of_mem_drop hx])
theorem xor_zero_i (a : Int) (h0 : 0 ≤ a) (h1 : a < 9223372036854775808) : bits .xor .i64 a 0 = a := by
  show IntKind.i64.wrap ((BitVec.ofInt 64 a ^^^ BitVec.ofInt 64 0).toNat : Int) = _
  have e : BitVec.ofInt 64 0 = 0#64 := rfl
  rw [e, BitVec.xor_zero, BitVec.toNat_ofInt, IntKind.wrap_i64]
  omega
theorem xor_ones_i (a : Int) (h0 : 0 ≤ a) (h1 : a < 9223372036854775808) : bits .xor .i64 a (-1) = -a - 1 := by
  show IntKind.i64.wrap ((BitVec.ofInt 64 a ^^^ BitVec.ofInt 64 (-1)).toNat : Int) = _
  have e : BitVec.ofInt 64 (-1) = BitVec.allOnes 64 := by decide
  rw [e, BitVec.xor_allOnes, BitVec.toNat_not, BitVec.toNat_ofInt, IntKind.wrap_i64]
  omega
theorem and_one (n : Int) (h0 : 0 ≤ n) (h1 : n ≤ 18446744073709551615) : bits .and .u64 n 1 = n % 2 := by
  obtain ⟨m, rfl⟩ := Int.eq_ofNat_of_zero_le h0
  show IntKind.u64.wrap ((BitVec.ofInt 64 (m : Int) &&& BitVec.ofInt 64 1).toNat : Int) = _
  have e2 : (BitVec.ofInt 64 (m : Int)).toNat = m := by rw [BitVec.ofInt_natCast, BitVec.toNat_ofNat]; exact Nat.mod_eq_of_lt (by omega)
  have e1 : (BitVec.ofInt 64 1).toNat = 1 := rfl
  rw [BitVec.toNat_and, e2, e1, Nat.and_one_is_mod, IntKind.wrap_u64]
  omega
theorem uz_eq (n : Int) (h0 : 0 ≤ n) (h1 : n ≤ 18446744073709551615) : bits .xor .i64 (n / 2) (wrap64 (-wrap64 (bits .and .u64 n 1))) = uz n := by
  rw [and_one n h0 h1]
  unfold uz
  by_cases h : n % 2 = 0
  · rw [if_pos h, h, show wrap64 (-wrap64 0) = 0 from by unfold wrap64; omega, xor_zero_i _ (by omega) (by omega)]
  · rw [if_neg h, show n % 2 = 1 from by omega, show wrap64 (-wrap64 1) = -1 from by unfold wrap64; omega, xor_ones_i _ (by omega) (by omega)]
/-- A text read: the text, the rest, whether it is bad. -/
def stT (l : List Int) (bad : Bool) : List Int × List Int × Bool :=
  if (stN l bad).2.2 then ([], (stN l bad).2.1, true)
  else if ((stN l bad).2.1.length : Int) < (stN l bad).1 then ([], [], true)
  else ((stN l bad).2.1.take (stN l bad).1.toNat, (stN l bad).2.1.drop (stN l bad).1.toNat, false)
def TextPost (T : TypeId) (F : Nat → Prop) (p : Nat) (q : List Int × List Int × Bool) (w : World) (e : Ending) (w' : World) : Prop :=
  e = .returned (.string (strOfNums q.1)) ∧ ∃ A' c', Rr T w' F p A' c' q.2.1 q.2.2 ∧ Upd (fun k => k = p) w w'
theorem rnumber_eq {F : Nat → Prop} {p c : Nat} {A : Option Addr} {l r : List Int} {n : Int} {bad bd : Bool} {w : World} (h : Rr 65 w F p A c l bad) (hs : stN l bad = (n, r, bd)) :
    Calls Try.prog 22 #[.pointer (some ⟨p, 0, none⟩)] w fun e w' => e = .returned (.int .u64 n) ∧ ∃ A' c', Rr 65 w' F p A' c' r bd ∧ Upd (fun k => k = p) w w' :=
  (rnumber F p c A l bad w h).mono fun e w' hp => by
    unfold NumPost at hp
    rw [hs] at hp
    exact hp
end Go.Proofs.Ytbcmaobopglooaa.Cr
