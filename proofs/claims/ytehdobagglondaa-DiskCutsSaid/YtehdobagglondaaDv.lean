/-
  The walk of reevelaw05.DiskPlays.
-/
import Derived.Test.YtehdobagglondaaDo
set_option linter.unusedVariables false
set_option linter.unusedSimpArgs false
namespace Go.Proofs.Ytehdobagglondaa.Dv
open Go.RowKit Go.Proofs.Ytehdobagglondaa.B Go.Proofs.Ytehdobagglondaa.Sm Go.Proofs.Ytehdobagglondaa.Dk Go.Proofs.Ytehdobagglondaa.Dl Go.Proofs.Ytehdobagglondaa.Dp Go.Proofs.Ytehdobagglondaa.Do
theorem good_zero (n : Int) : Dp.Good 0 ⟨(min (max n 0) 65536).toNat, [], -1, false⟩ := by
  refine ⟨⟨by simp, by simp, ?_⟩, fun x hx => (by cases hx), by simp, fun x hx => (by cases hx)⟩
  simp only
  omega
/-- Two new disks. -/
theorem B2.new {w w1 w2 : World} {F : Nat → Prop} {p q : Nat} {m : Dm} (hD : Dk w1 F p m) (hF : ∀ k, F k → w.heap.size ≤ k) (hR : Dr.Dr w2 (fun k => k = w1.heap.size) q m) (hb1 : Below w.heap.size w w1) (hb2 : Below w1.heap.size w1 w2) :
    ∃ F0, B2 w2 F0 p q m ∧ (∀ k, F0 k → w.heap.size ≤ k) ∧ Below w.heap.size w w2 :=
  ⟨fun k => F k ∨ k = w1.heap.size, ⟨F, _, hD.upd (Upd.of_below No hb2) (fun _ _ => no_ _), hR, fun k hk e => by have := hD.lt k hk; omega, fun _ => Iff.rfl⟩, fun k hk => hk.elim (hF k) fun e => e ▸ hb1.size, hb1.trans (hb2.mono hb1.size)⟩
set_option maxHeartbeats 1000000 in
set_option maxRecDepth 100000 in
theorem law (n : Int) (A : Option Addr) (c : Nat) (xs : List Od) (w : World) (hr : Rd w 4 A xs.length (xs.flatMap ocells)) (hl : xs.length ≤ maxLen) (hok : ∀ x ∈ xs, OdOk x) :
    Calls Try.prog 5 #[.int .i64 n, .slice A xs.length c] w fun e w' => e = .returned (.bool true) ∧ Below w.heap.size w w' := by
  simp only [maxLen] at hl
  by_cases hlong : 100 < xs.length
  · go_enter Try.func5, Try.ntmps5
    go_wp2_with (fail)
    refine (awake w).mono ?_
    rintro e w1 ⟨rfl, hb1⟩
    go_wp2_with (fail)
    refine (awake w1).mono ?_
    rintro e w2 ⟨rfl, hb2⟩
    go_wp2
    go_ret
    exact ⟨rfl, hb1.trans (hb2.mono hb1.size)⟩
  · go_enter Try.func5, Try.ntmps5
    go_wp2_with (fail)
    refine (awake w).mono ?_
    rintro e w1 ⟨rfl, hb1⟩
    go_wp2_with (fail)
    refine (new_ n w1).mono ?_
    rintro e w2 ⟨p, F, rfl, hD, hb2, hF⟩
    go_wp2_with (fail)
    refine (Dr.new_ n w2).mono ?_
    rintro e w3 ⟨rfl, hR, hb3⟩
    obtain ⟨F0, hB, hF0, hb03⟩ := B2.new hD hF hR hb2 hb3
    have hG := good_zero n
    generalize (⟨(min (max n 0) 65536).toNat, [], -1, false⟩ : Dm) = m0 at *
    have hF1 : ∀ k, F0 k → w.heap.size ≤ k := fun k hk => Nat.le_trans hb1.size (hF0 k hk)
    have hb13 : Below w.heap.size w w3 := hb1.trans (hb03.mono hb1.size)
    generalize w2.heap.size = q at *
    clear hb1 hb2 hb3 hD hF hR hF0 hb03
    go_wp2_with (fail)
    go_loopw [22] (fun v22 W => ∃ (j : Nat) (F : Nat → Prop) (m : Dm), j ≤ xs.length ∧ v22 = .int .i64 j ∧ B2 W F p q m ∧ Dp.Good j m ∧ (∀ k, F k → w.heap.size ≤ k) ∧ Below w.heap.size w W) (fun v22 _ => xs.length - (intOf v22).toNat)
    case atStart => exact ⟨0, F0, m0, by omega, rfl, hB, hG, hF1, hb13⟩
    case round =>
      clear hB hG hF1 hb13
      obtain ⟨j, F, m, hj, rfl, hB, hG, hF, hb⟩ := hrel
      by_cases hlt : j < xs.length
      · have hrj : Rd wr 4 A xs.length (xs.flatMap ocells) := Rd.below hr (by omega) ⟨hb.os, hb.tape, hb.output, hb.size, hb.block⟩
        obtain ⟨ad, rfl, y0, y1, y2, y3⟩ := od_at hrj hlt
        have hoj := hok _ (List.getElem_mem hlt)
        generalize xs[j] = o at *
        obtain ⟨K, I, Bv, odd⟩ := o
        obtain ⟨hI, hBv⟩ := hoj
        simp only at hI hBv y0 y1 y2 y3
        have hj1 : (0 : Int) ≤ (j : Int) := by omega
        have hj2 : (j : Int) < (xs.length : Int) := by omega
        have HS := hid (step_ p q F m K I Bv odd wr hB (hG.mono (by omega)) hBv hI)
        have hG2 := step_good hG K I Bv odd hBv hI
        have hsz := hb.size
        clear hrj hB hG hI hBv
        go_wp2_with (fail)
        refine Calls.mono HS.out ?_
        rintro e w5 ⟨rfl, F5, hB5, hM5⟩
        have hF5 : ∀ k, F5 k → w.heap.size ≤ k := fun k hk => (hM5.sub k hk).elim (hF k) fun h => by omega
        have hb5 := hb.trans (hM5.upd.below hsz hF)
        generalize stepD m K I Bv odd = m5 at *
        have HA := hid (alike p q F5 m5 w5 hB5 (hG2.mono (by omega)))
        go_wp2_with (fail)
        refine Calls.mono HA.out ?_
        rintro e w6 ⟨rfl, hu6⟩
        have hf := hid (And.intro (hB5.upd hu6 (fun _ _ => no_ _)) (And.intro hG2 (And.intro hF5 (hb5.trans (hu6.old hb5.size)))))
        clear hB5 hM5 hG2 hF5 hb5 hu6 hF hb
        go_wp2
        go_roundw
        case rel => exact ⟨j + 1, F5, m5, by omega, by go_num, hf.out.1, hf.out.2.1, hf.out.2.2.1, hf.out.2.2.2⟩
        case measure => simp [intOf]; omega
      · obtain rfl : j = xs.length := by omega
        have HA := hid (alike p q F m wr hB (hG.mono (by omega)))
        go_wp2_with (fail)
        refine Calls.mono HA.out ?_
        rintro e w6 ⟨rfl, hu6⟩
        have hf := hb.trans (hu6.old hb.size)
        go_wp2
        go_ret
        exact ⟨rfl, hf⟩
end Go.Proofs.Ytehdobagglondaa.Dv
