/-
  reevelaw11.awake and few.
-/
import Derived.Test.YtbcicmpolgfgpaaLy
set_option linter.unusedVariables false
set_option linter.unusedSimpArgs false
namespace Go.Proofs.Ytbcicmpolgfgpaa.Le
open Go.RowKit Go.Proofs.Ytbcicmpolgfgpaa.B Go.Proofs.Ytbcicmpolgfgpaa.Lt Go.Proofs.Ytbcicmpolgfgpaa.Ib Go.Proofs.Ytbcicmpolgfgpaa.Lc
set_option maxHeartbeats 1000000 in
set_option maxRecDepth 100000 in
theorem awake (w : World) : Calls Try.prog 9 #[] w fun e w' => e = .returned (.bool true) ∧ Below w.heap.size w w' := by
  have hlb : lb (⟨#[97]⟩, 1, 5, [-1]) = [1, 97, 1, 10, 1, 1] := by decide
  have hal : Upd No w (w.alloc (.cells #[.int .i64 (-1)] 2)) := (Upd.refl _ _).alloc _
  have hin : In (w.alloc (.cells #[.int .i64 (-1)] 2)) (⟨#[97]⟩, 1, 5, [-1]) (.slice (some ⟨w.heap.size, 0, none⟩) 1 1) := ⟨_, 1, rfl, Rn.lit w .i64 2 [-1], by simp, by simp [maxLen]⟩
  have HE := hid (encode_ (⟨#[97]⟩, 1, 5, [-1]) _ _ hin (by decide) ⟨by simp, by simp, by intro i hi; simp at hi; subst hi; simp [gi]⟩)
  simp only [val] at HE
  go_enter Try.func9, Try.ntmps9
  go_wp2_with (fail)
  generalize w.alloc (.cells #[.int .i64 (-1)] 2) = w1 at *
  refine Calls.mono HE.out ?_
  rintro e w2 ⟨v, rfl, ho, hb⟩
  rw [hlb] at ho
  obtain ⟨A2, c2, rfl, _, _⟩ := own_shape ho
  have hcv : (convert 32 9 (.slice A2 6 c2)).run Try.prog w2 = .ok (.string ⟨#[1, 97, 1, 10, 1, 1]⟩) w2 := conv_str (P := Try.prog) (l := [1, 97, 1, 10, 1, 1]) (Rn_of_own ho) 32 9 5 c2 Try.underlying32 Try.underlying5 Try.underlying9
  have hb2 := (hal.old (Nat.le_refl _)).trans (hb.mono hal.size)
  have HF := hid (formed_ zero (.slice none 0 0) w2 (In.nil w2))
  rw [show formed zero = true from rfl] at HF
  simp only [val, zero] at HF
  clear ho hb HE
  go_wp2_with (fail)
  refine Calls.mono HF.out ?_
  rintro e w3 ⟨rfl, hu3⟩
  have hb3 := hb2.trans (hu3.old hb2.size)
  go_wp2
  go_ret
  exact ⟨rfl, hb3⟩
/-- What few finds. -/
def FewOut (w : World) (xs : List Lv) (e : Ending) (w' : World) : Prop := ∃ b, e = .returned (.bool b) ∧ w = w' ∧ (b = true → (∀ x ∈ xs, x.1.1.size ≤ 1000 ∧ x.1.2.2.2.length ≤ 1000) ∧ xs.length ≤ 301)
theorem FewOut.of {w : World} {xs : List Lv} {e : Ending} {w' : World} (h : ∃ b, e = .returned (.bool b) ∧ w = w' ∧ (b = true → (∀ x ∈ xs, x.1.1.size ≤ 1000 ∧ x.1.2.2.2.length ≤ 1000) ∧ xs.length ≤ 301)) : FewOut w xs e w' := h
theorem at4 {w : World} {A : Option Addr} {ps : List Lv} (h : Rd w 4 A ps.length (pcells ps)) {i : Nat} (hi : i < ps.length) :
    ∃ ad, A = some ad ∧ w.cell? (ad.add (i * 4)) = some (.string ps[i].1.1) ∧ w.cell? ⟨(ad.add (i * 4)).block, (ad.add (i * 4)).off + 1, none⟩ = some (.int .u64 ps[i].1.2.1) ∧
      w.cell? ⟨(ad.add (i * 4)).block, (ad.add (i * 4)).off + 2, none⟩ = some (.int .i64 ps[i].1.2.2.1) ∧ w.cell? ⟨(ad.add (i * 4)).block, (ad.add (i * 4)).off + 3, none⟩ = some ps[i].2 := by
  obtain ⟨ad, rfl, hcell⟩ := Op.row_at (f := fun x : Lv => cells x.1 x.2) (k := 4) h (fun _ _ => rfl) rfl (i := i) (by omega)
  have c0 := hcell 0 (by omega)
  have c1 := hcell 1 (by omega)
  have c2 := hcell 2 (by omega)
  have c3 := hcell 3 (by omega)
  rw [add_field _ _ _ (by omega)] at c1 c2 c3
  exact ⟨ad, rfl, c0, c1, c2, c3⟩
set_option maxHeartbeats 2000000 in
set_option maxRecDepth 100000 in
theorem few (A : Option Addr) (c : Nat) (xs : List Lv) (w : World) (hr : Rd w 4 A xs.length (pcells xs)) (hl : xs.length ≤ 9223372036854775807) (hin : ∀ x ∈ xs, In w x.1 x.2 ∧ x.1.1.size ≤ maxLen) :
    Calls Try.prog 10 #[.slice A xs.length c] w fun e w' => FewOut w xs e w' := by
  go_enter Try.func10, Try.ntmps10
  go_wp2_with (fail)
  go_loop [6] (fun v6 => ∃ j : Nat, j ≤ xs.length ∧ v6 = .int .i64 j ∧ j ≤ 301 ∧ Hid (∀ i (h : i < xs.length), i < j → xs[i].1.1.size ≤ 1000 ∧ xs[i].1.2.2.2.length ≤ 1000)) (fun v6 => xs.length - (intOf v6).toNat)
  case atStart => exact ⟨0, by omega, rfl, by omega, hid fun i _ h => by omega⟩
  case round =>
    obtain ⟨j, hj, rfl, hj3, hH⟩ := hrel
    by_cases hlt : j < xs.length
    · obtain ⟨ad, rfl, x0, x1, x2, x3⟩ := at4 hr hlt
      have hi := hin _ (List.getElem_mem hlt)
      have HN : Hid (∀ y, y = xs[j] → y.1.2.2.2.length ≤ 1000 → y.1.1.size ≤ 1000 → ∀ i (h : i < xs.length), i < j + 1 → xs[i].1.1.size ≤ 1000 ∧ xs[i].1.2.2.2.length ≤ 1000) := hid fun y hy h1 h2 i hi hij => by
        by_cases hc : i < j
        · exact hH.out i hi hc
        · obtain rfl : i = j := by omega
          exact ⟨hy ▸ h2, hy ▸ h1⟩
      obtain ⟨y, hy⟩ : ∃ y, y = xs[j] := ⟨_, rfl⟩
      rw [← hy] at x0 x1 x2 x3 hi
      have HY := hid hy
      clear hy
      obtain ⟨⟨s, sn, kd, l⟩, u⟩ := y
      obtain ⟨⟨Au, cu, hue, _, hq1, hq2⟩, hsz⟩ := hi
      simp only at hue x0 x1 x2 x3 hsz hq1
      subst hue
      simp only [maxLen] at hsz hq1 hq2
      have hj1 : (0 : Int) ≤ (j : Int) := by omega
      have hj2 : (j : Int) < (xs.length : Int) := by omega
      by_cases hb2 : 1000 < s.size
      · go_wp2
        go_ret
        exact .of ⟨false, rfl, rfl, fun h => by cases h⟩
      · by_cases hb1 : 1000 < l.length
        · go_wp2
          go_ret
          exact .of ⟨false, rfl, rfl, fun h => by cases h⟩
        · by_cases hb3 : 300 < j
          · have hb3' : (300 : Int) < (j : Int) := by omega
            go_wp2
            go_ret
            exact .of ⟨false, rfl, rfl, fun h => by cases h⟩
          · have hb3' : ¬ (300 : Int) < (j : Int) := by omega
            have HM := hid (HN.out _ HY.out (by simp only; omega) (by simp only; omega))
            go_wp2
            go_round
            case rel => exact ⟨j + 1, by omega, by go_num, by omega, HM⟩
            case measure => simp [intOf]; omega
    · obtain rfl : j = xs.length := by omega
      have HA : Hid (∀ x ∈ xs, x.1.1.size ≤ 1000 ∧ x.1.2.2.2.length ≤ 1000) := hid fun x hx => by
        obtain ⟨i, hi, rfl⟩ := List.getElem_of_mem hx
        exact hH.out i hi hi
      have HB := hid hj3
      clear hj3
      go_wp2
      go_ret
      exact .of ⟨true, rfl, rfl, fun _ => ⟨HA.out, HB.out⟩⟩
end Go.Proofs.Ytbcicmpolgfgpaa.Le
