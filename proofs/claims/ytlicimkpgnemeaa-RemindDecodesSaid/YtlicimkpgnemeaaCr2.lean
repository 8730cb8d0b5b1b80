/-
  The walks of package codec's Reader, but for Number.
-/
import Derived.Test.YtlicimkpgnemeaaCr
set_option linter.unusedVariables false
set_option linter.unusedSimpArgs false
namespace Go.Proofs.Ytlicimkpgnemeaa.Cr
open Go.RowKit Go.Proofs.Ytlicimkpgnemeaa.B Go.Proofs.Ytlicimkpgnemeaa.Cm Go.Proofs.Ytlicimkpgnemeaa.Cw
/-- A number as an integer. -/
def uz (n : Int) : Int := if n % 2 = 0 then n / 2 else -(n / 2) - 1
theorem stN_range (l : List Int) (bad : Bool) (hb : Byte l) : 0 ≤ (stN l bad).1 ∧ (stN l bad).1 ≤ 18446744073709551615 := by
  unfold stN
  match l with
  | [] => simp [rdNum]
  | f :: r =>
    have h1 := hb f (by simp)
    have h2 := val_range (r.take (f - 247).toNat) fun x hx => hb x (by simp [List.mem_of_mem_take hx])
    have h3 : ((r.take (f - 247).toNat).length) ≤ 8 := by rw [List.length_take]; omega
    have e : ∀ m : Nat, m ≤ 8 → (256 : Int) ^ m ≤ 18446744073709551616 := by decide
    have h4 := e _ h3
    simp only [rdNum]
    by_cases c1 : f < 248
    · rw [if_pos c1]; simp; omega
    · rw [if_neg c1]
      by_cases c2 : (r.length : Int) < f - 247
      · rw [if_pos c2]; simp
      · rw [if_neg c2]
        by_cases c3 : val (r.take (f - 247).toNat) < 248 ∨ r.headD 0 = 0
        · rw [if_pos c3]; simp
        · rw [if_neg c3]; simp only; omega
theorem stN_byte (l : List Int) (bad : Bool) (hb : Byte l) : Byte (stN l bad).2.1 := by
  unfold stN
  match l with
  | [] => simp [rdNum, Byte]
  | f :: r =>
    simp only [rdNum]
    by_cases c1 : f < 248
    · rw [if_pos c1]; exact fun x hx => hb x (by simp [hx])
    · rw [if_neg c1]
      by_cases c2 : (r.length : Int) < f - 247
      · rw [if_pos c2]; simp [Byte]
      · rw [if_neg c2]
        by_cases c3 : val (r.take (f - 247).toNat) < 248 ∨ r.headD 0 = 0
        · rw [if_pos c3]; simp [Byte]
        · rw [if_neg c3]; exact fun x hx => hb x (by simp [List.mem_of_mem_drop hx])
theorem xor_zero_i (a : Int) (h0 : 0 ≤ a) (h1 : a < 9223372036854775808) : bits .xor .i64 a 0 = a := by
  show IntKind.i64.wrap ((BitVec.ofInt 64 a ^^^ BitVec.ofInt 64 0).toNat : Int) = _
  have e : BitVec.ofInt 64 0 = 0#64 := rfl
  rw [e, BitVec.xor_zero, BitVec.toNat_ofInt, IntKind.wrap_i64]
  omega
theorem xor_ones_i (a : Int) (h0 : 0 ≤ a) (h1 : a < 9223372036854775808) : bits .xor .i64 a (-1) = -a - 1 := by
  show IntKind.i64.wrap ((BitVec.ofInt 64 a ^^^ BitVec.ofInt 64 (-1)).toNat : Int) = _
  have e : BitVec.ofInt 64 (-1) = BitVec.allOnes 64 := by decide
  rw [e, BitVec.xor_allOnes, BitVec.toNat_not, BitVec.toNat_ofInt, IntKind.wrap_i64]
  omega
theorem and_one (n : Int) (h0 : 0 ≤ n) (h1 : n ≤ 18446744073709551615) : bits .and .u64 n 1 = n % 2 := by
  obtain ⟨m, rfl⟩ := Int.eq_ofNat_of_zero_le h0
  show IntKind.u64.wrap ((BitVec.ofInt 64 (m : Int) &&& BitVec.ofInt 64 1).toNat : Int) = _
  have e2 : (BitVec.ofInt 64 (m : Int)).toNat = m := by rw [BitVec.ofInt_natCast, BitVec.toNat_ofNat]; exact Nat.mod_eq_of_lt (by omega)
  have e1 : (BitVec.ofInt 64 1).toNat = 1 := rfl
  rw [BitVec.toNat_and, e2, e1, Nat.and_one_is_mod, IntKind.wrap_u64]
  omega
theorem uz_eq (n : Int) (h0 : 0 ≤ n) (h1 : n ≤ 18446744073709551615) : bits .xor .i64 (n / 2) (wrap64 (-wrap64 (bits .and .u64 n 1))) = uz n := by
  rw [and_one n h0 h1]
  unfold uz
  by_cases h : n % 2 = 0
  · rw [if_pos h, h, show wrap64 (-wrap64 0) = 0 from by unfold wrap64; omega, xor_zero_i _ (by omega) (by omega)]
  · rw [if_neg h, show n % 2 = 1 from by omega, show wrap64 (-wrap64 1) = -1 from by unfold wrap64; omega, xor_ones_i _ (by omega) (by omega)]
set_option maxHeartbeats 400000 in
theorem rint_nil (w : World) : Calls Try.prog 46 #[.pointer none] w fun e w' => e = .returned (.int .i64 0) ∧ w = w' := by
  go_enter Try.func46, Try.ntmps46
  go_wp2_with (fail)
  refine (rnumber_nil w).mono ?_
  rintro e w' ⟨rfl, rfl⟩
  go_wp2
  go_ret
  exact ⟨congrArg Ending.returned (congrArg (Value.int .i64) (uz_eq 0 (by omega) (by omega))), rfl⟩
set_option maxHeartbeats 400000 in
theorem rtext_nil (w : World) : Calls Try.prog 45 #[.pointer none] w fun e w' => e = .returned (.string ⟨#[]⟩) ∧ w = w' := by
  go_enter Try.func45, Try.ntmps45
  go_wp2_with (fail)
  refine (rnumber_nil w).mono ?_
  rintro e w' ⟨rfl, rfl⟩
  go_wp2
  go_ret
  exact ⟨rfl, rfl⟩
set_option maxHeartbeats 400000 in
theorem rint (F : Nat → Prop) (p c : Nat) (A : Option Addr) (l : List Int) (bad : Bool) (w : World) (h : Rr 100 w F p A c l bad) :
    Calls Try.prog 46 #[.pointer (some ⟨p, 0, none⟩)] w fun e w' => e = .returned (.int .i64 (uz (stN l bad).1)) ∧ ∃ A' c', Rr 100 w' F p A' c' (stN l bad).2.1 (stN l bad).2.2 ∧ Upd (fun k => k = p) w w' := by
  have hr := stN_range l bad h.byte
  go_enter Try.func46, Try.ntmps46
  go_wp2_with (fail)
  refine (rnumber F p c A l bad w h).mono ?_
  rintro e w' ⟨rfl, A', c', h', hu⟩
  go_wp2
  go_ret
  exact ⟨congrArg Ending.returned (congrArg (Value.int .i64) (uz_eq _ hr.1 hr.2)), A', c', h', hu⟩
/-- A text read: the text, the rest, whether it is bad. -/
def stT (l : List Int) (bad : Bool) : List Int × List Int × Bool :=
  if (stN l bad).2.2 then ([], (stN l bad).2.1, true)
  else if ((stN l bad).2.1.length : Int) < (stN l bad).1 then ([], [], true)
  else ((stN l bad).2.1.take (stN l bad).1.toNat, (stN l bad).2.1.drop (stN l bad).1.toNat, false)
def TextPost (T : TypeId) (F : Nat → Prop) (p : Nat) (q : List Int × List Int × Bool) (w : World) (e : Ending) (w' : World) : Prop :=
  e = .returned (.string (strOfNums q.1)) ∧ ∃ A' c', Rr T w' F p A' c' q.2.1 q.2.2 ∧ Upd (fun k => k = p) w w'
theorem rnumber_eq {F : Nat → Prop} {p c : Nat} {A : Option Addr} {l r : List Int} {n : Int} {bad bd : Bool} {w : World} (h : Rr 100 w F p A c l bad) (hs : stN l bad = (n, r, bd)) :
    Calls Try.prog 44 #[.pointer (some ⟨p, 0, none⟩)] w fun e w' => e = .returned (.int .u64 n) ∧ ∃ A' c', Rr 100 w' F p A' c' r bd ∧ Upd (fun k => k = p) w w' :=
  (rnumber F p c A l bad w h).mono fun e w' hp => by
    unfold NumPost at hp
    rw [hs] at hp
    exact hp
set_option maxHeartbeats 1000000 in
set_option maxRecDepth 100000 in
theorem rtext (F : Nat → Prop) (p c : Nat) (A : Option Addr) (l : List Int) (bad : Bool) (w : World) (h : Rr 100 w F p A c l bad) :
    Calls Try.prog 45 #[.pointer (some ⟨p, 0, none⟩)] w (TextPost 100 F p (stT l bad) w) := by
  have hr := stN_range l bad h.byte
  unfold stT
  obtain ⟨n, r, bd, hs⟩ : ∃ n r bd, stN l bad = (n, r, bd) := ⟨_, _, _, rfl⟩
  have hnum := hid (rnumber_eq h hs)
  rw [hs] at hr ⊢
  clear hs h
  cases bd
  · rw [if_neg (by simp)]
    by_cases hn : (r.length : Int) < n
    · rw [if_pos hn]
      go_enter Try.func45, Try.ntmps45
      go_wp2_with (fail)
      refine Calls.mono hnum.out ?_
      rintro e w' ⟨rfl, A', c', h', hu⟩
      have hc := h'.blk.cell 0
      have hc1 := h'.blk.cell 1
      have hcap := h'.cap
      have htop := h'.top
      simp at hc hc1
      have hblk := hid h'.blk
      have hfin := hid h'.failed
      have hu2 := hid (hu.trans (Upd.set (F := fun k => k = p) (p := ⟨p, 1, none⟩) (Upd.set (F := fun k => k = p) (p := ⟨p, 0, none⟩) (Upd.refl _ _) (.inl rfl) (.slice none 0 0)) (.inl rfl) (.bool true)) fun i _ hi => hi)
      clear h' hu
      go_wp2_with (fail)
      refine (fail_ _ _ _ _ hblk.out).mono ?_
      rintro e w' ⟨rfl, rfl⟩
      go_wp2
      go_ret
      exact ⟨rfl, _, _, hfin.out, hu2.out⟩
    · rw [if_neg hn]
      obtain ⟨m, rfl⟩ := Int.eq_ofNat_of_zero_le hr.1
      have hm : m ≤ r.length := by omega
      go_enter Try.func45, Try.ntmps45
      go_wp2_with (fail)
      refine Calls.mono hnum.out ?_
      rintro e w' ⟨rfl, A', c', h', hu⟩
      have hc := h'.blk.cell 0
      have hc1 := h'.blk.cell 1
      have hfr := h'.blk.free 0
      have hcap := h'.cap
      have htop := h'.top
      simp at hc hc1
      have ht := cut_to (P := Try.prog) 50 5 .u64 Try.underlying50 u8_size A' r.length c' m m rfl (by omega)
      obtain ⟨A2, hA2, hcut⟩ := cut_from (P := Try.prog) 50 5 .u64 Try.underlying50 u8_size A' r.length c' m m rfl hm
      have hcv := conv_str (P := Try.prog) (h'.rd.take hm) 50 9 5 c' Try.underlying50 Try.underlying5 Try.underlying9
      rw [List.length_take, Nat.min_eq_left hm] at hcv
      have hfin := hid (h'.cut hm hA2)
      have hu2 := hid (hu.trans (Upd.set (F := fun k => k = p) (p := ⟨p, 0, none⟩) (Upd.refl _ _) (.inl rfl) (.slice A2 (r.length - m) (c' - m))) fun i _ hi => hi)
      clear h' hu hA2
      go_wp2
      go_ret
      exact ⟨rfl, _, _, hfin.out, hu2.out⟩
  · rw [if_pos rfl]
    go_enter Try.func45, Try.ntmps45
    go_wp2_with (fail)
    refine Calls.mono hnum.out ?_
    rintro e w' ⟨rfl, A', c', h', hu⟩
    have hc1 := h'.blk.cell 1
    simp at hc1
    go_wp2
    go_ret
    exact ⟨rfl, _, _, h', hu⟩
end Go.Proofs.Ytlicimkpgnemeaa.Cr
