/-
  An argument that is a list of calls of layer 5.
-/
import Derived.Test.YtehdobagglondaaOp
import Derived.Test.YtehdobagglondaaDp
set_option linter.unusedVariables false
set_option linter.unusedSimpArgs false
namespace Go.Proofs.Ytehdobagglondaa.Do
open Go.ChangeShapes Go.WideShapes Go.ChangeAt Go.RowKit Go.Proofs.Ytehdobagglondaa Go.Proofs.Ytehdobagglondaa.B Go.Proofs.Ytehdobagglondaa.Op
abbrev Od := Int × Int × Int × Bool
def ocells (o : Od) : List Value := [.int .i64 o.1, .int .i64 o.2.1, .int .u8 o.2.2.1, .bool o.2.2.2]
def OdOk (o : Od) : Prop := (-9223372036854775808 ≤ o.2.1 ∧ o.2.1 ≤ 9223372036854775807) ∧ 0 ≤ o.2.2.1 ∧ o.2.2.1 ≤ 255
theorem read4 {H : Type} {enc : TypeId × Value → H} {P : Program} {W : World} {sp : Nat → Bool} {held : Bool} {base e n : Nat} {f0 f1 f2 f3 : Field} {cs : List Value} {x : DataW H × List MemPlace}
    (he : P.underlying e = some (.struct #[f0, f1, f2, f3])) (o0 : f0.offset = 0) (o1 : f1.offset = 1) (o2 : f2.offset = 2) (o3 : f3.offset = 3) (c0 : P.cellsOf f0.type = 1) (c1 : P.cellsOf f1.type = 1) (c2 : P.cellsOf f2.type = 1) (c3 : P.cellsOf f3.type = 1)
    (u0 : P.underlying f0.type = some (.int .i64)) (u1 : P.underlying f1.type = some (.int .i64)) (u2 : P.underlying f2.type = some (.int .u8)) (u3 : P.underlying f3.type = some .bool)
    (h : DataW.trod enc P W base sp held n e cs = some x) (hl : cs.length = 4) : ∃ o : Od, cs = ocells o ∧ OdOk o := by
  obtain ⟨xs, k, hk, hxy, _, hxl, hf⟩ := DataW.trod_struct he h
  match xs, hxl, cs, hl with
  | [y0, y1, y2, y3], _, [v0, v1, v2, v3], _ =>
    have g0 := hf 0 f0 rfl
    have g1 := hf 1 f1 rfl
    have g2 := hf 2 f2 rfl
    have g3 := hf 3 f3 rfl
    simp [o0, o1, o2, o3, c0, c1, c2, c3] at g0 g1 g2 g3
    obtain ⟨x0, z0, _, _⟩ := DataW.trod_int u0 g0
    obtain ⟨x1, z1, _, w1⟩ := DataW.trod_int u1 g1
    obtain ⟨x2, z2, _, w2⟩ := DataW.trod_int u2 g2
    obtain ⟨x3, z3, _⟩ := DataW.trod_bool u3 g3
    simp only [List.cons.injEq, and_true] at z0 z1 z2 z3
    subst z0 z1 z2 z3
    exact ⟨(x0, x1, x2, x3), rfl, Law.wf_i64 w1, Law.wf_u8 w2⟩
theorem open_ops {H : Type} {enc : TypeId × Value → H} {W : World} {base : Nat} {v : Value} {d : DataW H} {p : List MemPlace}
    (hv : Value.okWide Try.prog W .any base 38 v) (h : DataW.Trod enc Try.prog W 0 (fun _ => true) true 38 v d p) :
    ∃ (xs : List Od) (A : Option Addr) (c : Nat), v = .slice A xs.length c ∧ Rd W 4 A xs.length (xs.flatMap ocells) ∧ xs.length ≤ maxLen ∧ ∀ x ∈ xs, OdOk x := by
  obtain ⟨xs, A, c, h1, h2, h3, h4, h5, h6, h7, h8⟩ := open_rows (α := Od) 4 ocells (fun o _ => OdOk o) Try.underlying38 (by kernel_rfl) (by omega)
    (fun n cs x hx hl => read4 Try.underlying30 rfl rfl rfl rfl (by kernel_rfl) (by kernel_rfl) (by kernel_rfl) (by kernel_rfl) Try.underlying3 Try.underlying3 Try.underlying5 Try.underlying4 hx hl) hv h
  exact ⟨xs, A, c, h1, h2, Nat.le_trans h4 h5, fun x hx => (h7 x hx).elim fun _ h => h⟩
theorem ocells_length (xs : List Od) : ∀ x ∈ xs, (ocells x).length = 4 := fun _ _ => rfl
/-- The cells of a member. -/
theorem od_at {W : World} {A : Option Addr} {xs : List Od} (h : Rd W 4 A xs.length (xs.flatMap ocells)) {i : Nat} (hi : i < xs.length) :
    ∃ ad, A = some ad ∧ W.cell? (ad.add (i * 4)) = some (.int .i64 xs[i].1) ∧ W.cell? ⟨(ad.add (i * 4)).block, (ad.add (i * 4)).off + 1, none⟩ = some (.int .i64 xs[i].2.1) ∧
      W.cell? ⟨(ad.add (i * 4)).block, (ad.add (i * 4)).off + 2, none⟩ = some (.int .u8 xs[i].2.2.1) ∧ W.cell? ⟨(ad.add (i * 4)).block, (ad.add (i * 4)).off + 3, none⟩ = some (.bool xs[i].2.2.2) := by
  obtain ⟨ad, e, hc⟩ := row_at h (ocells_length xs) rfl hi
  have h0 := hc 0 (by omega)
  have h1 := hc 1 (by omega)
  have h2 := hc 2 (by omega)
  have h3 := hc 3 (by omega)
  rw [Dr.add_field _ _ _ (by omega)] at h1 h2 h3
  exact ⟨ad, e, h0, h1, h2, h3⟩
end Go.Proofs.Ytehdobagglondaa.Do
