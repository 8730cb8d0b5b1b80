/-
  The walks of package codec's Writer, but for Number.
-/
import Derived.Test.YtlicimkpgnemeaaCw
set_option linter.unusedVariables false
set_option linter.unusedSimpArgs false
namespace Go.Proofs.Ytlicimkpgnemeaa.Cw
open Go.RowKit Go.Proofs.Ytlicimkpgnemeaa.B Go.Proofs.Ytlicimkpgnemeaa.Cm

set_option maxHeartbeats 400000 in
theorem int_nil (n : Int) (w : World) : Calls Try.prog 38 #[.pointer none, .int .i64 n] w fun e w' => e = .returned (.tuple #[]) ∧ w = w' := by
  go_enter Try.func38, Try.ntmps38
  go_wp2_with (fail)
  refine (number_nil _ w).mono ?_
  rintro e w' ⟨rfl, rfl⟩
  go_wp2
  go_end0
  exact ⟨rfl, rfl⟩
/-- An integer as a number. -/
def zz (n : Int) : Int := if 0 ≤ n then 2 * n else -2 * n - 1
theorem zz_range (n : Int) (h0 : -9223372036854775808 ≤ n) (h1 : n ≤ 9223372036854775807) : 0 ≤ zz n ∧ zz n ≤ 18446744073709551615 := by unfold zz; split <;> omega
theorem xor_zero (a : Int) (h0 : 0 ≤ a) (h1 : a < 18446744073709551616) : bits .xor .u64 a 0 = a := by
  show IntKind.u64.wrap ((BitVec.ofInt 64 a ^^^ BitVec.ofInt 64 0).toNat : Int) = _
  have e : BitVec.ofInt 64 0 = 0#64 := rfl
  rw [e, BitVec.xor_zero, BitVec.toNat_ofInt, IntKind.wrap_u64]
  omega
theorem xor_ones (a : Int) (h0 : 0 ≤ a) (h1 : a < 18446744073709551616) : bits .xor .u64 a 18446744073709551615 = 18446744073709551615 - a := by
  show IntKind.u64.wrap ((BitVec.ofInt 64 a ^^^ BitVec.ofInt 64 18446744073709551615).toNat : Int) = _
  have e : BitVec.ofInt 64 18446744073709551615 = BitVec.allOnes 64 := by decide
  rw [e, BitVec.xor_allOnes, BitVec.toNat_not, BitVec.toNat_ofInt, IntKind.wrap_u64]
  omega
theorem zz_eq (n : Int) (h0 : -9223372036854775808 ≤ n) (h1 : n ≤ 9223372036854775807) :
    bits .xor .u64 (IntKind.u64.wrap (IntKind.u64.wrap n * 2)) (IntKind.u64.wrap (n / 9223372036854775808)) = zz n := by
  unfold zz
  simp only [IntKind.wrap_u64]
  by_cases h : 0 ≤ n
  · rw [if_pos h, show n / 9223372036854775808 % 18446744073709551616 = 0 from by omega, xor_zero _ (by omega) (by omega)]
    omega
  · rw [if_neg h, show n / 9223372036854775808 % 18446744073709551616 = 18446744073709551615 from by omega, xor_ones _ (by omega) (by omega)]
    omega
set_option maxHeartbeats 400000 in
theorem int_ (p : Nat) (bs : List Int) (n : Int) (F : Nat → Prop) (w : World) (hw : Wr w F p bs) (h0 : -9223372036854775808 ≤ n) (h1 : n ≤ 9223372036854775807) (hl : bs.length ≤ 140737488355000) :
    Calls Try.prog 38 #[.pointer (some ⟨p, 0, none⟩), .int .i64 n] w fun e w' => e = .returned (.tuple #[]) ∧ ∃ F', Wr w' F' p (bs ++ num (zz n)) ∧ Mv F F' w w' := by
  have hz := zz_eq n h0 h1
  have hr := zz_range n h0 h1
  go_enter Try.func38, Try.ntmps38
  go_wp2_with (fail)
  refine (number p bs (zz n) F w hw hr.1 hr.2 hl).mono ?_
  rintro e w' ⟨rfl, F1, hw1, hm1⟩
  go_wp2
  go_end0
  exact ⟨rfl, F1, hw1, hm1⟩
set_option maxHeartbeats 400000 in
theorem bytes_nil (w : World) : Calls Try.prog 39 #[.pointer none] w fun e w' => e = .returned (.slice none 0 0) ∧ w = w' := by
  go_enter Try.func39, Try.ntmps39
  go_wp2
  go_ret
  exact ⟨rfl, rfl⟩
set_option maxHeartbeats 400000 in
theorem text_nil (s : ByteArray) (w : World) : Calls Try.prog 37 #[.pointer none, .string s] w fun e w' => e = .returned (.tuple #[]) ∧ w = w' := by
  go_enter Try.func37, Try.ntmps37
  go_wp2
  go_end0
  exact ⟨rfl, rfl⟩
set_option maxHeartbeats 400000 in
theorem bytes_ (p : Nat) (bs : List Int) (F : Nat → Prop) (w : World) (hw : Wr w F p bs) (hl : bs.length ≤ 140737488355328) :
    Calls Try.prog 39 #[.pointer (some ⟨p, 0, none⟩)] w fun e w' => ∃ v, e = .returned v ∧ w'.ownsRow w.heap.size 5 1 v bs.length (nums .u8 bs) ∧ Below w.heap.size w w' := by
  obtain ⟨v, hb, ho, hF⟩ := hw
  have hc := hb.cell 0
  obtain ⟨A, c, rfl, hc1, hc2⟩ := own_shape ho
  have hca : ∀ o, (w.alloc o).cell? ⟨p, 0, none⟩ = some (.slice A bs.length c) := fun o => by simpa using (hb.alloc o).cell 0
  simp at hc
  go_enter Try.func39, Try.ntmps39
  go_wp2_with (at_builtin; go_must (refine ap_row w.heap.size rfl (.tmp 5) (.tmp 9) 50 5 (.int .u8 0) 1 1 rfl Try.underlying50 u8_info rfl (by omega) (.slice (some ⟨w.heap.size, 0, none⟩) 0 0) 0 [] A bs.length c (nums .u8 bs) rfl rfl (World.ownsRow_made w #[] 0 (Nat.le_refl _) (Nat.zero_le _) rfl) ((Rd.of_own ho).alloc (by omega) _) (nums_one _ _) (by omega) (by omega) (by simp) ?_); intro A1 c1 w1 ho1 hg1 hat1)
  go_ret
  refine ⟨_, rfl, by simpa using ho1, ((Below.refl _ _).alloc (Nat.le_refl _) _).grown hg1 (by simp) ?_⟩
  intro k hk
  have : w.heap.size = k := by simpa [Value.ownBlock] using hk
  omega
set_option maxHeartbeats 400000 in
theorem text_ (p : Nat) (bs : List Int) (s : ByteArray) (F : Nat → Prop) (w : World) (hw : Wr w F p bs) (hl : bs.length + s.size ≤ 140737488355000) :
    Calls Try.prog 37 #[.pointer (some ⟨p, 0, none⟩), .string s] w fun e w' => e = .returned (.tuple #[]) ∧ ∃ F', Wr w' F' p (bs ++ num s.size ++ sb s) ∧ Mv F F' w w' := by
  have hnl := num_length s.size
  go_enter Try.func37, Try.ntmps37
  go_wp2_with (fail)
  refine (number p bs s.size F w hw (by omega) (by omega) (by omega)).mono ?_
  rintro e w' ⟨rfl, F1, hw1, hm1⟩
  obtain ⟨ds, hds, hdl⟩ : ∃ ds, Hid (ds = bs ++ num s.size) ∧ ds.length + s.size ≤ 140737488355328 := ⟨_, hid rfl, by simp; omega⟩
  rw [← hds.out] at hw1
  obtain ⟨v, hb, ho, hF⟩ := hw1
  have hc := hb.cell 0
  have hf := hb.free 0
  simp at hc
  go_wp2_with (at_builtin; go_must (refine ap_str 0 rfl (.tmp 15) (.tmp 16) 50 9 5 rfl Try.underlying50 Try.underlying9 u8_info v ds.length (nums .u8 ds) s rfl rfl ho hdl (Nat.zero_le _) ?_); intro A1 c1 w1 ho1 hg1 hat1; have hb1 := hb.grown hg1 (own_blk_ne ho hb (by decide)).symm; have hc1 := hb1.cell 0; have hf1 := hb1.free 0; simp at hc1)
  go_end0
  obtain ⟨F2, hw2, hm2⟩ := Wr.pushed' (cs := sb s) hb ho hF (by rw [sb_length, ← sb_cells]; exact ho1) (Upd.refl _ _) hg1 (by rw [sb_length]; exact hat1) hb1
  rw [sb_length] at hw2 hm2
  exact ⟨rfl, F2, hds.out ▸ hw2, hm1.trans hm2⟩
end Go.Proofs.Ytlicimkpgnemeaa.Cw
