/-
  An argument that is a list of lists of bytes.
-/
import Derived.Test.YtbcmaobopglooaaOq
import Derived.Test.YtbcmaobopglooaaSm
set_option linter.unusedVariables false
set_option linter.unusedSimpArgs false
namespace Go.Proofs.Ytbcmaobopglooaa.Up
open Go.ChangeShapes Go.WideShapes Go.ChangeAt Go.RowKit Go.Proofs.Ytbcmaobopglooaa Go.Proofs.Ytbcmaobopglooaa.B Go.Proofs.Ytbcmaobopglooaa.Op Go.Proofs.Ytbcmaobopglooaa.Sm
abbrev Lb := List Int × Value
def InB (W : World) (x : Lb) : Prop := ∃ A c, x.2 = .slice A x.1.length c ∧ Rn W .u8 A x.1 ∧ (x.1.length ≤ c ∧ c ≤ 9223372036854775807) ∧ Byte x.1
theorem InB.upd {w w' : World} {x : Lb} (h : InB w x) (hu : Upd No w w') : InB w' x := by
  obtain ⟨A, c, h1, h2, h3⟩ := h
  exact ⟨A, c, h1, Rd.upd h2 (by omega) hu fun _ _ => no_ _, h3⟩
theorem open_blists {H : Type} {enc : TypeId × Value → H} {W : World} {base : Nat} {v : Value} {d : DataW H} {p : List MemPlace}
    (hv : Value.okWide Try.prog W .any base 35 v) (h : DataW.Trod enc Try.prog W 0 (fun _ => true) true 35 v d p) :
    ∃ (xs : List Lb) (A : Option Addr) (c : Nat), v = .slice A xs.length c ∧ Rd W 1 A xs.length (xs.map (·.2)) ∧ (xs.length ≤ maxLen ∧ ∀ x ∈ xs, InB W x) := by
  obtain ⟨xs, A, c, h1, h2, h3, h4, h5, h6, h7, h8⟩ := open_rows (α := Lb) 1 (fun x => [x.2]) (fun x _ => InB W x) Try.underlying35 (by kernel_rfl) (by omega)
    (fun n cs x hx hl => by
      obtain ⟨l, A, c, hcs, hr, h1, h2, hw, _⟩ := read_nums Try.underlying22 Try.underlying5 (by kernel_rfl) hx
      exact ⟨(l, .slice A l.length c), hcs, A, c, rfl, hr, ⟨h1, by simpa [maxLen] using h2⟩, fun z hz => by
        have := Law.wf_u8 (hw z hz)
        omega⟩) hv h
  exact ⟨xs, A, c, h1, by rw [List.map_eq_flatMap]; exact h2, Nat.le_trans h4 h5, fun x hx => (h7 x hx).elim fun _ h => h⟩
theorem row_lb {W : World} {A : Option Addr} {xs : List Lb} (hr : Rd W 1 A xs.length (xs.map (·.2))) (hx : ∀ x ∈ xs, InB W x) {j : Nat} (hj : j < xs.length) :
    ∃ ad A2 c2, A = some ad ∧ W.cell? (ad.add j) = some (.slice A2 xs[j].1.length c2) ∧ Rn W .u8 A2 xs[j].1 ∧ (xs[j].1.length ≤ c2 ∧ c2 ≤ 9223372036854775807) ∧ Byte xs[j].1 := by
  obtain ⟨ad, u, rfl, hu, hc⟩ := hr.at_ hj
  obtain ⟨A2, c2, e, h2⟩ := hx _ (List.getElem_mem hj)
  rw [List.getElem?_map, List.getElem?_eq_getElem hj] at hu
  simp only [Option.map_some, Option.some.injEq] at hu
  subst hu
  exact ⟨ad, A2, c2, rfl, by rw [hc, e], h2⟩
end Go.Proofs.Ytbcmaobopglooaa.Up
