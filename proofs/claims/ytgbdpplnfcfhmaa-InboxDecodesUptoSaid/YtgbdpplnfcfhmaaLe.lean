/-
  reevelaw11.awake and few.
-/
import Derived.Test.YtgbdpplnfcfhmaaLy
set_option linter.unusedVariables false
set_option linter.unusedSimpArgs false
namespace Go.Proofs.Ytgbdpplnfcfhmaa.Le
open Go.RowKit Go.Proofs.Ytgbdpplnfcfhmaa.B Go.Proofs.Ytgbdpplnfcfhmaa.Lt Go.Proofs.Ytgbdpplnfcfhmaa.Ib Go.Proofs.Ytgbdpplnfcfhmaa.Lc
/-- What few finds. -/
def FewOut (w : World) (xs : List Lv) (e : Ending) (w' : World) : Prop := ∃ b, e = .returned (.bool b) ∧ w = w' ∧ (b = true → (∀ x ∈ xs, x.1.1.size ≤ 1000 ∧ x.1.2.2.2.length ≤ 1000) ∧ xs.length ≤ 301)
theorem FewOut.of {w : World} {xs : List Lv} {e : Ending} {w' : World} (h : ∃ b, e = .returned (.bool b) ∧ w = w' ∧ (b = true → (∀ x ∈ xs, x.1.1.size ≤ 1000 ∧ x.1.2.2.2.length ≤ 1000) ∧ xs.length ≤ 301)) : FewOut w xs e w' := h
theorem at4 {w : World} {A : Option Addr} {ps : List Lv} (h : Rd w 4 A ps.length (pcells ps)) {i : Nat} (hi : i < ps.length) :
    ∃ ad, A = some ad ∧ w.cell? (ad.add (i * 4)) = some (.string ps[i].1.1) ∧ w.cell? ⟨(ad.add (i * 4)).block, (ad.add (i * 4)).off + 1, none⟩ = some (.int .u64 ps[i].1.2.1) ∧
      w.cell? ⟨(ad.add (i * 4)).block, (ad.add (i * 4)).off + 2, none⟩ = some (.int .i64 ps[i].1.2.2.1) ∧ w.cell? ⟨(ad.add (i * 4)).block, (ad.add (i * 4)).off + 3, none⟩ = some ps[i].2 := by
  obtain ⟨ad, rfl, hcell⟩ := Op.row_at (f := fun x : Lv => cells x.1 x.2) (k := 4) h (fun _ _ => rfl) rfl (i := i) (by omega)
  have c0 := hcell 0 (by omega)
  have c1 := hcell 1 (by omega)
  have c2 := hcell 2 (by omega)
  have c3 := hcell 3 (by omega)
  rw [add_field _ _ _ (by omega)] at c1 c2 c3
  exact ⟨ad, rfl, c0, c1, c2, c3⟩
end Go.Proofs.Ytgbdpplnfcfhmaa.Le
