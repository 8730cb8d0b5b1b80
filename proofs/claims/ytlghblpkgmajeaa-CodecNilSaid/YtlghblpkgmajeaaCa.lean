/-
  The walk of reevelaw01.awake.
-/
import Derived.Test.YtlghblpkgmajeaaCr2
set_option linter.unusedVariables false
set_option linter.unusedSimpArgs false
namespace Go.Proofs.Ytlghblpkgmajeaa.Ca
open Go.RowKit Go.Proofs.Ytlghblpkgmajeaa.B Go.Proofs.Ytlghblpkgmajeaa.Cm Go.Proofs.Ytlghblpkgmajeaa.Cw Go.Proofs.Ytlghblpkgmajeaa.Cr
theorem num300 : num 300 = [249, 1, 44] := by decide
set_option maxHeartbeats 1000000 in
theorem awake (w : World) : Calls Try.prog 10 #[] w fun e w' => e = .returned (.bool true) ∧ Below w.heap.size w w' := by
  go_enter Try.func10, Try.ntmps10
  go_wp2_with (fail)
  refine (newWriter w).mono ?_
  rintro e w1 ⟨rfl, rfl⟩
  have hw := Wr.new w
  have hb1 := (Below.refl w.heap.size w).alloc (Nat.le_refl _) (.cells #[.slice none 0 0] 52)
  go_wp2_with (fail)
  refine (number _ _ _ _ _ hw (by omega) (by omega) (by simp)).mono ?_
  rintro e w2 ⟨rfl, F2, hw2, hm2⟩
  rw [num300] at hw2
  have hb2 := hb1.trans (hm2.upd.below (B := w.heap.size) (by simp) (by intro k hk; omega))
  clear hw hb1
  go_wp2_with (fail)
  refine (newReader _ _ [249, 1, 44] _ (Rn.lit w2 .u8 _ _) (by simp) (by intro c hc; simp at hc; omega)).mono ?_
  rintro e w3 ⟨F3, p3, A3, c3, rfl, hr3, hF3, hb3⟩
  have hw3 := (hw2.keep ((Upd.refl No _).alloc (.cells (nums .u8 [249, 1, 44]).toArray 5)) fun k _ => no_ k).keep (Upd.of_below No hb3) fun k _ => no_ k
  have hb4 := (hb2.alloc hb2.size (.cells (nums .u8 [249, 1, 44]).toArray 5)).trans (hb3.mono (by have := hb2.size; simp; omega))
  clear hb2 hw2
  go_wp2_with (fail)
  refine (bytes_ _ _ _ _ hw3 (by simp)).mono ?_
  rintro e w5 ⟨v5, rfl, ho5, hb5⟩
  obtain ⟨A5, c5, rfl, _, _⟩ := own_shape ho5
  have hcv : (convert 27 9 (.slice A5 3 c5)).run Try.prog w5 = .ok (.string ⟨#[249, 1, 44]⟩) w5 := conv_str (P := Try.prog) (l := [249, 1, 44]) (Rn_of_own ho5) 27 9 5 c5 Try.underlying27 Try.underlying5 Try.underlying9
  have hr5 := hr3.keep (Upd.of_below No hb5) fun k _ => no_ k
  have hb6 := hb4.trans (hb5.mono hb4.size)
  clear ho5 hr3 hb4 hw3
  go_wp2_with (fail)
  have hst : stN [249, 1, 44] false = (300, [], false) := by decide
  refine (rnumber_eq hr5 hst).mono ?_
  rintro e w6 ⟨rfl, A6, c6, hr6, hu6⟩
  have hb7 := hb6.trans (hu6.below (B := w.heap.size) hb6.size (by
    rintro k rfl
    have h1 := hF3 _ hr5.here
    have h2 := hm2.upd.size
    simp at h1 h2
    omega))
  clear hb6
  go_wp2_with (fail)
  refine (end_ p3 0 c6 A6 false w6 hr6.blk).mono ?_
  rintro e w7 ⟨rfl, rfl⟩
  go_wp2
  go_ret
  exact ⟨rfl, hb7⟩
end Go.Proofs.Ytlghblpkgmajeaa.Ca
