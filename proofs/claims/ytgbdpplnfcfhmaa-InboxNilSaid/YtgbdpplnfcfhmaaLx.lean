/-
  Arguments that are one letter.
-/
import Derived.Test.YtgbdpplnfcfhmaaLw
set_option linter.unusedVariables false
set_option linter.unusedSimpArgs false
namespace Go.Proofs.Ytgbdpplnfcfhmaa.Lx
open Go.ChangeShapes Go.WideShapes Go.ChangeAt Go.RowKit Go.Proofs.Ytgbdpplnfcfhmaa Go.Proofs.Ytgbdpplnfcfhmaa.B Go.Proofs.Ytgbdpplnfcfhmaa.Op Go.Proofs.Ytgbdpplnfcfhmaa.Lt Go.Proofs.Ytgbdpplnfcfhmaa.Ib Go.Proofs.Ytgbdpplnfcfhmaa.Ls Go.Proofs.Ytgbdpplnfcfhmaa.Lw
theorem open_letter {H : Type} {enc : TypeId × Value → H} {W : World} {base : Nat} {v : Value} {d : DataW H} {p : List MemPlace}
    (hv : Value.okWide Try.prog W .any base 30 v) (h : DataW.Trod enc Try.prog W 0 (fun _ => true) true 30 v d p) :
    ∃ (x : L) (u : Value) (_ : True), v = val x u ∧ In W x u ∧ x.1.size ≤ maxLen := by
  obtain ⟨cs, rfl, hsz⟩ := okWide_struct Try.underlying30 hv
  obtain ⟨fuel, hf⟩ := h
  have hl : (Value.agg cs).cells.toList.length = 4 := by
    rw [show (Value.agg cs).cells = cs from rfl, Array.length_toList, hsz]
    kernel_rfl
  obtain ⟨y, h1, h2, h3⟩ := read_letter Try.underlying30 rfl rfl rfl rfl (by kernel_rfl) (by kernel_rfl) (by kernel_rfl) (by kernel_rfl) Try.underlying9 Try.underlying28 Try.underlying2 Try.underlying22 Try.underlying2 (by kernel_rfl) hf hl
  refine ⟨y.1, y.2, trivial, ?_, h2, h3⟩
  have : cs.toList = cells y.1 y.2 := h1
  have e : cs = (cells y.1 y.2).toArray := by rw [← this]
  rw [e]
  rfl
end Go.Proofs.Ytgbdpplnfcfhmaa.Lx
