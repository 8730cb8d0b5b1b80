/-
  Lists of calls of layer 12: an argument; reevelaw12.few.
-/
import Derived.Test.YtgbdpplnfcfhmaaIs
import Derived.Test.YtgbdpplnfcfhmaaIm
set_option linter.unusedVariables false
set_option linter.unusedSimpArgs false
namespace Go.Proofs.Ytgbdpplnfcfhmaa.Io
open Go.ChangeShapes Go.WideShapes Go.ChangeAt Go.RowKit Go.Proofs.Ytgbdpplnfcfhmaa Go.Proofs.Ytgbdpplnfcfhmaa.B Go.Proofs.Ytgbdpplnfcfhmaa.Op Go.Proofs.Ytgbdpplnfcfhmaa.Lt Go.Proofs.Ytgbdpplnfcfhmaa.Ib Go.Proofs.Ytgbdpplnfcfhmaa.Ls Go.Proofs.Ytgbdpplnfcfhmaa.Lw
abbrev Oi := Int × Lv
def ocells (o : Oi) : List Value := .int .i64 o.1 :: cells o.2.1 o.2.2
theorem open_ops {H : Type} {enc : TypeId × Value → H} {W : World} {base : Nat} {v : Value} {d : DataW H} {p : List MemPlace}
    (hv : Value.okWide Try.prog W .any base 35 v) (h : DataW.Trod enc Try.prog W 0 (fun _ => true) true 35 v d p) :
    ∃ (xs : List Oi) (A : Option Addr) (c : Nat), v = .slice A xs.length c ∧ Rd W 5 A xs.length (xs.flatMap ocells) ∧ (xs.length ≤ c ∧ c ≤ maxLen) ∧ ∀ x ∈ xs, In W x.2.1 x.2.2 ∧ x.2.1.1.size ≤ maxLen := by
  obtain ⟨xs, A, c, h1, h2, h3, h4, h5, h6, h7, h8⟩ := open_rows (α := Oi) 5 ocells (fun x _ => In W x.2.1 x.2.2 ∧ x.2.1.1.size ≤ maxLen) Try.underlying35 (by kernel_rfl) (by omega)
    (fun n cs x hx hl => by
      obtain ⟨ys, k, hk, hxy, _, hxl, hf⟩ := DataW.trod_struct Try.underlying44 hx
      match ys, hxl, cs, hl with
      | [y0, y1], _, [v0, v1, v2, v3, v4], _ =>
        have g0 := hf 0 _ rfl
        have g1 := hf 1 _ rfl
        have e1 : Try.prog.cellsOf 30 = 4 := by kernel_rfl
        have e0 : Try.prog.cellsOf 3 = 1 := by kernel_rfl
        simp [e0, e1] at g0 g1
        obtain ⟨x0, z0, _, _⟩ := DataW.trod_int Try.underlying3 g0
        obtain ⟨y, hy, hiy⟩ := read_letter Try.underlying30 rfl rfl rfl rfl (by kernel_rfl) (by kernel_rfl) (by kernel_rfl) (by kernel_rfl) Try.underlying9 Try.underlying28 Try.underlying2 Try.underlying22 Try.underlying2 (by kernel_rfl) g1 rfl
        simp only [List.cons.injEq, and_true] at z0
        subst z0
        exact ⟨(x0, y), by rw [ocells, ← hy], hiy⟩) hv h
  exact ⟨xs, A, c, h1, h2, ⟨h4, h5⟩, fun x hx => (h7 x hx).elim fun _ h => h⟩
/-- The cells of a call. -/
theorem op_at {W : World} {A : Option Addr} {xs : List Oi} (h : Rd W 5 A xs.length (xs.flatMap ocells)) {i : Nat} (hi : i < xs.length) :
    ∃ ad, A = some ad ∧ W.cell? (ad.add (i * 5)) = some (.int .i64 xs[i].1) ∧ (W.cell? ⟨(ad.add (i * 5)).block, (ad.add (i * 5)).off + 1, none⟩ = some (.string xs[i].2.1.1) ∧ W.cell? ⟨(ad.add (i * 5)).block, (ad.add (i * 5)).off + 2, none⟩ = some (.int .u64 xs[i].2.1.2.1) ∧
      W.cell? ⟨(ad.add (i * 5)).block, (ad.add (i * 5)).off + 3, none⟩ = some (.int .i64 xs[i].2.1.2.2.1) ∧ W.cell? ⟨(ad.add (i * 5)).block, (ad.add (i * 5)).off + 4, none⟩ = some xs[i].2.2) := by
  obtain ⟨ad, e, hc⟩ := row_at h (fun _ _ => rfl) rfl hi
  have h0 := hc 0 (by omega)
  have h1 := hc 1 (by omega)
  have h2 := hc 2 (by omega)
  have h3 := hc 3 (by omega)
  have h4 := hc 4 (by omega)
  rw [add_field _ _ _ (by omega)] at h1 h2 h3 h4
  exact ⟨ad, e, h0, h1, h2, h3, h4⟩
def FewOut (w : World) (xs : List Oi) (e : Ending) (w' : World) : Prop := ∃ b, e = .returned (.bool b) ∧ w = w' ∧ (b = true → ∀ x ∈ xs, x.2.1.2.2.2.length ≤ 1000 ∧ x.2.1.1.size ≤ 1000)
theorem FewOut.of {w : World} {xs : List Oi} {e : Ending} {w' : World} (h : ∃ b, e = .returned (.bool b) ∧ w = w' ∧ (b = true → ∀ x ∈ xs, x.2.1.2.2.2.length ≤ 1000 ∧ x.2.1.1.size ≤ 1000)) : FewOut w xs e w' := h
set_option maxHeartbeats 1000000 in
theorem few (A : Option Addr) (c : Nat) (xs : List Oi) (w : World) (hr : Rd w 5 A xs.length (xs.flatMap ocells)) (hl : xs.length ≤ 9223372036854775807) (hin : ∀ x ∈ xs, In w x.2.1 x.2.2 ∧ x.2.1.1.size ≤ maxLen) :
    Calls Try.prog 13 #[.slice A xs.length c] w fun e w' => FewOut w xs e w' := by
  go_enter Try.func13, Try.ntmps13
  go_wp2_with (fail)
  go_loop [6] (fun v6 => ∃ j : Nat, j ≤ xs.length ∧ v6 = .int .i64 j ∧ Hid (∀ i (h : i < xs.length), i < j → xs[i].2.1.2.2.2.length ≤ 1000 ∧ xs[i].2.1.1.size ≤ 1000)) (fun v6 => xs.length - (intOf v6).toNat)
  case atStart => exact ⟨0, by omega, rfl, hid fun i _ h => by omega⟩
  case round =>
    obtain ⟨j, hj, rfl, hH⟩ := hrel
    by_cases hlt : j < xs.length
    · obtain ⟨ad, rfl, x0, x1, x2, x3, x4⟩ := op_at hr hlt
      have hi := hin _ (List.getElem_mem hlt)
      have HN : Hid (∀ y, y = xs[j] → y.2.1.2.2.2.length ≤ 1000 → y.2.1.1.size ≤ 1000 → ∀ i (h : i < xs.length), i < j + 1 → xs[i].2.1.2.2.2.length ≤ 1000 ∧ xs[i].2.1.1.size ≤ 1000) := hid fun y hy h1 h2 i hi hij => by
        by_cases hc : i < j
        · exact hH.out i hi hc
        · obtain rfl : i = j := by omega
          exact ⟨hy ▸ h1, hy ▸ h2⟩
      obtain ⟨y, hy⟩ : ∃ y, y = xs[j] := ⟨_, rfl⟩
      rw [← hy] at x0 x1 x2 x3 x4 hi
      have HY := hid hy
      clear hy
      obtain ⟨k, ⟨s, sn, kd, l⟩, u⟩ := y
      obtain ⟨⟨Au, cu, hue, _, hq1, hq2⟩, hsz⟩ := hi
      simp only at hue x0 x1 x2 x3 x4 hsz hq1
      subst hue
      simp only [maxLen] at hsz hq1 hq2
      have hj1 : (0 : Int) ≤ (j : Int) := by omega
      have hj2 : (j : Int) < (xs.length : Int) := by omega
      by_cases hb1 : 1000 < l.length
      · go_wp2
        go_ret
        exact .of ⟨false, rfl, rfl, fun h => by cases h⟩
      · by_cases hb2 : 1000 < s.size
        · go_wp2
          go_ret
          exact .of ⟨false, rfl, rfl, fun h => by cases h⟩
        · by_cases hb3 : 300 < j
          · have hb3' : (300 : Int) < (j : Int) := by omega
            go_wp2
            go_ret
            exact .of ⟨false, rfl, rfl, fun h => by cases h⟩
          · have hb3' : ¬ (300 : Int) < (j : Int) := by omega
            have HM := hid (HN.out _ HY.out (by simp only; omega) (by simp only; omega))
            go_wp2
            go_round
            case rel => exact ⟨j + 1, by omega, by go_num, HM⟩
            case measure => simp [intOf]; omega
    · obtain rfl : j = xs.length := by omega
      have HA : Hid (∀ x ∈ xs, x.2.1.2.2.2.length ≤ 1000 ∧ x.2.1.1.size ≤ 1000) := hid fun x hx => by
        obtain ⟨i, hi, rfl⟩ := List.getElem_of_mem hx
        exact hH.out i hi hi
      go_wp2
      go_ret
      exact .of ⟨true, rfl, rfl, fun _ => HA.out⟩
end Go.Proofs.Ytgbdpplnfcfhmaa.Io
