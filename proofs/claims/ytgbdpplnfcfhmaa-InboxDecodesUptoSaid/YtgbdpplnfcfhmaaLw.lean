/-
  Arguments that are letters, and lists of letters.
-/
import Derived.Test.YtgbdpplnfcfhmaaLs
set_option linter.unusedVariables false
set_option linter.unusedSimpArgs false
namespace Go.Proofs.Ytgbdpplnfcfhmaa.Lw
open Go.ChangeShapes Go.WideShapes Go.ChangeAt Go.RowKit Go.Proofs.Ytgbdpplnfcfhmaa Go.Proofs.Ytgbdpplnfcfhmaa.B Go.Proofs.Ytgbdpplnfcfhmaa.Op Go.Proofs.Ytgbdpplnfcfhmaa.Lt Go.Proofs.Ytgbdpplnfcfhmaa.Ib Go.Proofs.Ytgbdpplnfcfhmaa.Ls
/-- A slice of whole numbers, out of its cells. -/
theorem read_ints {H : Type} {enc : TypeId × Value → H} {P : Program} {W : World} {t e fuel : Nat} {k : IntKind} {cs : List Value} {x : DataW H × List MemPlace}
    (ht : P.underlying t = some (.slice e)) (he : P.underlying e = some (.int k)) (hC : P.cellsOf e = 1) (hf : DataW.trod enc P W 0 (fun _ => true) true fuel t cs = some x) :
    ∃ (l : List Int) (A : Option Addr) (c : Nat), cs = [.slice A l.length c] ∧ Rn W k A l ∧ l.length ≤ c ∧ c ≤ maxLen := by
  rcases open_ints ht he hC hf with ⟨hcs, hx⟩ | ⟨a, len, cap, zs, hcs, _, hl, hm, hz, hx, hcell, hwz⟩
  · exact ⟨[], none, 0, by simpa using hcs, Rd.nil_ _ _ _, Nat.le_refl _, Nat.zero_le _⟩
  · have hz' : zs.length = cap := by simpa using hz
    have hlt : (zs.take len).length = len := by rw [List.length_take]; omega
    refine ⟨zs.take len, some a, cap, by rw [hlt]; exact hcs, ⟨by simp [nums], fun hn => ⟨a, rfl, fun i u hu => ?_⟩⟩, by omega, hm⟩
    have hil : i < (zs.take len).length := by
      rcases Nat.lt_or_ge i (zs.take len).length with h1 | h1
      · exact h1
      · rw [List.getElem?_eq_none (by rw [nums_length]; exact h1)] at hu
        cases hu
    rw [nums_get k _ i hil, gi_take _ _ _ (by omega)] at hu
    rw [hcell i (by omega)]
    exact hu
theorem read_letter {H : Type} {enc : TypeId × Value → H} {P : Program} {W : World} {e n ei : Nat} {f0 f1 f2 f3 : Field} {cs : List Value} {x : DataW H × List MemPlace}
    (he : P.underlying e = some (.struct #[f0, f1, f2, f3])) (o0 : f0.offset = 0) (o1 : f1.offset = 1) (o2 : f2.offset = 2) (o3 : f3.offset = 3) (c0 : P.cellsOf f0.type = 1) (c1 : P.cellsOf f1.type = 1) (c2 : P.cellsOf f2.type = 1) (c3 : P.cellsOf f3.type = 1)
    (u0 : P.underlying f0.type = some .string) (u1 : P.underlying f1.type = some (.int .u64)) (u2 : P.underlying f2.type = some (.int .i64)) (u3 : P.underlying f3.type = some (.slice ei)) (v3 : P.underlying ei = some (.int .i64)) (w3 : P.cellsOf ei = 1)
    (h : DataW.trod enc P W 0 (fun _ => true) true n e cs = some x) (hl : cs.length = 4) : ∃ y : Lv, cs = cells y.1 y.2 ∧ In W y.1 y.2 ∧ y.1.1.size ≤ maxLen := by
  obtain ⟨xs, k, hk, hxy, _, hxl, hf⟩ := DataW.trod_struct he h
  match xs, hxl, cs, hl with
  | [y0, y1, y2, y3], _, [v0, v1, v2, v3'], _ =>
    have g0 := hf 0 f0 rfl
    have g1 := hf 1 f1 rfl
    have g2 := hf 2 f2 rfl
    have g3 := hf 3 f3 rfl
    simp [o0, o1, o2, o3, c0, c1, c2, c3] at g0 g1 g2 g3
    obtain ⟨x0, z0, _, hs⟩ := DataW.trod_string u0 g0
    obtain ⟨x1, z1, _, _⟩ := DataW.trod_int u1 g1
    obtain ⟨x2, z2, _, _⟩ := DataW.trod_int u2 g2
    obtain ⟨l, A, c, z3, hr, q1, q2⟩ := read_ints u3 v3 w3 g3
    simp only [List.cons.injEq, and_true] at z0 z1 z2 z3
    subst z0 z1 z2 z3
    exact ⟨((x0, x1, x2, l), .slice A l.length c), rfl, ⟨A, c, rfl, hr, q1, q2⟩, hs⟩
theorem open_letters {H : Type} {enc : TypeId × Value → H} {W : World} {base : Nat} {v : Value} {d : DataW H} {p : List MemPlace}
    (hv : Value.okWide Try.prog W .any base 38 v) (h : DataW.Trod enc Try.prog W 0 (fun _ => true) true 38 v d p) :
    ∃ (ps : List Lv) (A : Option Addr) (c : Nat), v = .slice A ps.length c ∧ Rd W 4 A ps.length (pcells ps) ∧ (ps.length ≤ c ∧ c ≤ maxLen) ∧ ∀ x ∈ ps, In W x.1 x.2 ∧ x.1.1.size ≤ maxLen := by
  obtain ⟨xs, A, c, h1, h2, h3, h4, h5, h6, h7, h8⟩ := open_rows (α := Lv) 4 (fun x => cells x.1 x.2) (fun x _ => In W x.1 x.2 ∧ x.1.1.size ≤ maxLen) Try.underlying38 (by kernel_rfl) (by omega)
    (fun n cs x hx hl => read_letter Try.underlying30 rfl rfl rfl rfl (by kernel_rfl) (by kernel_rfl) (by kernel_rfl) (by kernel_rfl) Try.underlying9 Try.underlying28 Try.underlying2 Try.underlying22 Try.underlying2 (by kernel_rfl) hx hl) hv h
  exact ⟨xs, A, c, h1, h2, ⟨h4, h5⟩, fun x hx => (h7 x hx).elim fun _ h => h⟩
/-- The same, by its letters alone. -/
theorem open_list {H : Type} {enc : TypeId × Value → H} {W : World} {base : Nat} {v : Value} {d : DataW H} {p : List MemPlace}
    (hv : Value.okWide Try.prog W .any base 38 v) (h : DataW.Trod enc Try.prog W 0 (fun _ => true) true 38 v d p) :
    ∃ (xs : List L) (A : Option Addr) (c : Nat), v = .slice A xs.length c ∧ RowR W (.slice A xs.length c) xs ∧ ∀ x ∈ xs, x.1.size ≤ maxLen := by
  obtain ⟨ps, A, c, rfl, h2, ⟨h3, h4⟩, h5⟩ := open_letters hv h
  refine ⟨ps.map (·.1), A, c, by simp, ⟨ps, A, c, rfl, by simp, h3, h4, h2, fun x hx => (h5 x hx).1⟩, ?_⟩
  intro x hx
  obtain ⟨y, hy, rfl⟩ := List.mem_map.1 hx
  exact (h5 y hy).2
end Go.Proofs.Ytgbdpplnfcfhmaa.Lw
