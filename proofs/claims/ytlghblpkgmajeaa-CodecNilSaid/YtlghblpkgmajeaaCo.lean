/-
  The walk of reevelaw01.CodecOrder.
-/
import Derived.Test.YtlghblpkgmajeaaCa
import Derived.Test.YtlghblpkgmajeaaCp
import Derived.Deep.RegionWith
set_option linter.unusedVariables false
set_option linter.unusedSimpArgs false
namespace Go.Proofs.Ytlghblpkgmajeaa.Co
open Go.RowKit Go.Proofs.Ytlghblpkgmajeaa.B Go.Proofs.Ytlghblpkgmajeaa.Cm Go.Proofs.Ytlghblpkgmajeaa.Cw Go.Proofs.Ytlghblpkgmajeaa.Cr
theorem upd_refl (F : Nat → Prop) (w : World) : Upd F w w := Upd.refl F w
attribute [local go_sem] upd_refl
theorem bytes_upd {w0 : World} {F : Nat → Prop} {p : Nat} {bs : List Int} (hw : Wr w0 F p bs) (hl : bs.length ≤ 140737488355328) (W : World) (hu : Upd No w0 W) :
    Calls Try.prog 13 #[.pointer (some ⟨p, 0, none⟩)] W fun e W' => ∃ A c, e = .returned (.slice A bs.length c) ∧ Upd No W W' ∧
      (∀ W2, Upd No W' W2 → (convert 27 9 (.slice A bs.length c)).run Try.prog W2 = .ok (.string (strOfNums bs)) W2) :=
  (bytes_ p bs F W (hw.keep hu fun k _ => no_ k) hl).mono fun e W' ⟨v, he, ho, hb⟩ => by
    obtain ⟨A, c, rfl, _, _⟩ := own_shape ho
    exact ⟨A, c, he, Upd.of_below No hb, fun W2 hu2 => conv_str (P := Try.prog) (Rd.upd (Rn_of_own ho) (by omega) hu2 fun ad _ => no_ _) _ _ _ c Try.underlying27 Try.underlying5 Try.underlying9⟩
set_option maxHeartbeats 1000000 in
theorem walk_of (lt : Bool) (a b : Int) (ha0 : 0 ≤ a) (ha1 : a ≤ 18446744073709551615) (hb0 : 0 ≤ b) (hb1 : b ≤ 18446744073709551615) (hlt : decide (a < b) = lt) (hless : Op.bytesLess (strOfNums (num a)).toList (strOfNums (num b)).toList = lt) (hlen : lt = true → (num a).length ≤ (num b).length) (w : World) :
    Calls Try.prog 3 #[.int .u64 a, .int .u64 b] w fun e w' => e = .returned (.bool true) ∧ Below w.heap.size w w' := by
  have hla := num_length a
  have hlb := num_length b
  have hs1 := strOfNums_size (num a)
  have hs2 := strOfNums_size (num b)
  have hle : lt = true → (strOfNums (num a)).size ≤ (strOfNums (num b)).size := fun h => by rw [hs1, hs2]; exact hlen h
  clear hs1 hs2 hlen
  go_enter Try.func3, Try.ntmps3
  go_wp2_with (fail)
  refine (Ca.awake w).mono ?_
  rintro e w1 ⟨rfl, hb1⟩
  go_wp2_with (fail)
  refine (newWriter _).mono ?_
  rintro e w2 ⟨rfl, rfl⟩
  go_wp2_with (fail)
  refine (newWriter _).mono ?_
  rintro e w2 ⟨rfl, rfl⟩
  have hx := Wr.new w1
  have hy := Wr.new (w1.alloc (.cells #[.slice none 0 0] 52))
  have hx2 := hx.keep ((Upd.refl No _).alloc (.cells #[.slice none 0 0] 52)) fun k _ => no_ k
  have hb2 := (hb1.alloc hb1.size (.cells #[.slice none 0 0] 52)).alloc (by simp; have := hb1.size; omega) (.cells #[.slice none 0 0] 52)
  simp only [World.size_alloc] at hy
  go_wp2_with (fail)
  refine (number _ _ _ _ _ hx2 ha0 ha1 (by simp)).mono ?_
  rintro e w3 ⟨rfl, F3, hx3, hm3⟩
  have hy3 := hy.keep hm3.upd (fun k hk hk' => by omega)
  have hb3 := hb2.trans (hm3.upd.below (B := w.heap.size) hb2.size (by rintro k rfl; exact hb1.size))
  have hF3 : ∀ k, F3 k → w.heap.size ≤ k ∧ k ≠ w1.heap.size + 1 := fun k hk => by
    have := hb1.size
    rcases hm3.sub k hk with h | h
    · omega
    · simp at h; omega
  clear hx hx2 hy hb2 hm3
  go_wp2_with (fail)
  refine (number _ _ _ _ _ hy3 hb0 (by assumption) (by simp)).mono ?_
  rintro e w4 ⟨rfl, F4, hy4, hm4⟩
  have hx4 := hx3.keep hm4.upd (fun k hk hk' => (hF3 k hk).2 hk')
  have hb4 := hb3.trans (hm4.upd.below (B := w.heap.size) hb3.size (by rintro k rfl; have := hb1.size; omega))
  have HX := hid fun W hu => bytes_upd hx4 (by simp; omega) W hu
  have HY := hid fun W hu => bytes_upd hy4 (by simp; omega) W hu
  simp only [List.nil_append] at HX HY
  clear hx3 hy3 hm4 hx4 hy4 hb3 hF3 hb1
  go_wp2_with (fail)
  go_region_with (first
    | (go_at_call 13; (with_reducible refine Calls.mono (HY.out _ ?_) ?_); (first | exact Upd.of_drew hux | exact Upd.drew (Upd.refl _ _)); rintro e wy ⟨Ay, cy, rfl, huy, hcy⟩)
    | (go_at_call 13; (with_reducible refine Calls.mono (HX.out _ ?_) ?_); (first | exact Upd.of_drew huy | exact Upd.drew (Upd.refl _ _)); rintro e wx ⟨Ax, cx, rfl, hux, hcx⟩))
  all_goals
    have hu5 := (Upd.of_drew (by first | exact hux | exact huy)).next (by first | exact huy | exact hux)
    have hb5 := hb4.trans (hu5.old hb4.size)
    clear HX HY hcx hcy hux huy hu5 hb4
    cases lt
    · have hge : b ≤ a := by simpa using hlt
      go_wp2
      go_ret
      exact ⟨rfl, hb5⟩
    · have hlt' : a < b := by simpa using hlt
      have hle' := hle rfl
      clear hle
      go_wp2
      go_ret
      exact ⟨rfl, hb5⟩
theorem law (a b : Int) (ha : 0 ≤ a ∧ a ≤ 18446744073709551615) (hb : 0 ≤ b ∧ b ≤ 18446744073709551615) (w : World) :
    Calls Try.prog 3 #[.int .u64 a, .int .u64 b] w fun e w' => e = .returned (.bool true) ∧ Below w.heap.size w w' := by
  refine walk_of (decide (a < b)) a b ha.1 ha.2 hb.1 hb.2 rfl ?_ (fun h => Cp.num_mono a b ha.1 (by simpa using h)) w
  rw [← Cp.num_order a b ha.1 ha.2 hb.1 hb.2, ← Cp.lx_bytes _ _ (Cp.num_byte a ha.1) (Cp.num_byte b hb.1)]
  simp only [strOfNums, ByteArray.toList_mk, Cp.u8s]
end Go.Proofs.Ytlghblpkgmajeaa.Co
