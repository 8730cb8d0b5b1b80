/-
  Arguments of the statements on reminders: a reminder, lists of them, lists of calls.
-/
import Derived.Test.YtlicimkpgnemeaaNt
import Derived.Test.YtlicimkpgnemeaaOq
set_option linter.unusedVariables false
set_option linter.unusedSimpArgs false
namespace Go.Proofs.Ytlicimkpgnemeaa.Nd
open Go.ChangeShapes Go.WideShapes Go.ChangeAt Go.RowKit Go.Proofs.Ytlicimkpgnemeaa Go.Proofs.Ytlicimkpgnemeaa.B Go.Proofs.Ytlicimkpgnemeaa.Op
def Rg (r : Rm) : Prop := I64 r.due ∧ I64 r.per ∧ I64 r.kind
set_option maxRecDepth 100000 in
theorem read_rm {H : Type} {enc : TypeId × Value → H} {W : World} {n : Nat} {cs : List Value} {x : DataW H × List MemPlace}
    (hx : DataW.trod enc Try.prog W 0 (fun _ => true) true n 27 cs = some x) (hl : cs.length = 5) : ∃ r : Rm, cs = rc r ∧ Rg r := by
  obtain ⟨ys, k, hk, hxy, _, hxl, hf⟩ := DataW.trod_struct Try.underlying27 hx
  match ys, hxl, cs, hl with
  | [y0, y1, y2, y3, y4], _, [v0, v1, v2, v3, v4], _ =>
    have g0 := hf 0 _ rfl
    have g1 := hf 1 _ rfl
    have g2 := hf 2 _ rfl
    have g3 := hf 3 _ rfl
    have g4 := hf 4 _ rfl
    have e0 : Try.prog.cellsOf 9 = 1 := by kernel_rfl
    have e1 : Try.prog.cellsOf 2 = 1 := by kernel_rfl
    simp [e0, e1] at g0 g1 g2 g3 g4
    obtain ⟨x0, z0, _, _⟩ := DataW.trod_string Try.underlying9 g0
    obtain ⟨x1, z1, _, _⟩ := DataW.trod_string Try.underlying9 g1
    obtain ⟨x2, z2, _, w2⟩ := DataW.trod_int Try.underlying2 g2
    obtain ⟨x3, z3, _, w3⟩ := DataW.trod_int Try.underlying2 g3
    obtain ⟨x4, z4, _, w4⟩ := DataW.trod_int Try.underlying2 g4
    simp only [List.cons.injEq, and_true] at z0 z1 z2 z3 z4
    subst z0 z1 z2 z3 z4
    exact ⟨⟨x0, x1, x2, x3, x4⟩, rfl, Law.wf_i64 w2, Law.wf_i64 w3, Law.wf_i64 w4⟩
set_option maxRecDepth 100000 in
theorem open_rms {H : Type} {enc : TypeId × Value → H} {W : World} {base : Nat} {v : Value} {d : DataW H} {p : List MemPlace}
    (hv : Value.okWide Try.prog W .any base 22 v) (h : DataW.Trod enc Try.prog W 0 (fun _ => true) true 22 v d p) :
    ∃ (xs : List Rm) (A : Option Addr) (c : Nat), v = .slice A xs.length c ∧ Rd W 5 A xs.length (xs.flatMap rc) ∧ (xs.length ≤ maxLen ∧ ∀ x ∈ xs, Rg x) := by
  have : Inhabited Rm := ⟨zr⟩
  obtain ⟨xs, A, c, h1, h2, h3, h4, h5, h6, h7, h8⟩ := open_rows (α := Rm) 5 rc (fun x _ => Rg x) Try.underlying22 (by kernel_rfl) (by omega)
    (fun n cs x hx hl => by
      obtain ⟨r, e, hr⟩ := read_rm hx hl
      exact ⟨r, e, hr⟩) hv h
  exact ⟨xs, A, c, h1, h2, Nat.le_trans h4 h5, fun x hx => (h7 x hx).elim fun _ h => h⟩
set_option maxRecDepth 100000 in
theorem open_rm {H : Type} {enc : TypeId × Value → H} {W : World} {base : Nat} {v : Value} {d : DataW H} {p : List MemPlace}
    (hv : Value.okWide Try.prog W .any base 27 v) (h : DataW.Trod enc Try.prog W 0 (fun _ => true) true 27 v d p) :
    ∃ (r : Rm) (_ _ : True), v = rv r ∧ True ∧ Rg r := by
  obtain ⟨cs, rfl, hsz⟩ := okWide_struct Try.underlying27 hv
  obtain ⟨fuel, hf⟩ := h
  have hl : (Value.agg cs).cells.toList.length = 5 := by
    rw [show (Value.agg cs).cells = cs from rfl, Array.length_toList, hsz]
    kernel_rfl
  obtain ⟨y, h1, h2⟩ := read_rm hf hl
  refine ⟨y, trivial, trivial, ?_, trivial, h2⟩
  have : cs.toList = rc y := h1
  have e : cs = (rc y).toArray := by rw [← this]
  rw [e]
  rfl
/-- A call: its kind, its reminder, its tick. -/
abbrev Oi := Int × Rm × Int
def ocells (o : Oi) : List Value := .int .i64 o.1 :: (rc o.2.1 ++ [.int .i64 o.2.2])
set_option maxRecDepth 100000 in
theorem open_ops {H : Type} {enc : TypeId × Value → H} {W : World} {base : Nat} {v : Value} {d : DataW H} {p : List MemPlace}
    (hv : Value.okWide Try.prog W .any base 45 v) (h : DataW.Trod enc Try.prog W 0 (fun _ => true) true 45 v d p) :
    ∃ (xs : List Oi) (A : Option Addr) (c : Nat), v = .slice A xs.length c ∧ Rd W 7 A xs.length (xs.flatMap ocells) ∧ (xs.length ≤ maxLen ∧ ∀ x ∈ xs, Rg x.2.1) := by
  have : Inhabited Oi := ⟨(0, zr, 0)⟩
  obtain ⟨xs, A, c, h1, h2, h3, h4, h5, h6, h7, h8⟩ := open_rows (α := Oi) 7 ocells (fun x _ => Rg x.2.1) Try.underlying45 (by kernel_rfl) (by omega)
    (fun n cs x hx hl => by
      obtain ⟨ys, k, hk, hxy, _, hxl, hf⟩ := DataW.trod_struct Try.underlying67 hx
      match ys, hxl, cs, hl with
      | [y0, y1, y2], _, [v0, v1, v2, v3, v4, v5, v6], _ =>
        have g0 := hf 0 _ rfl
        have g1 := hf 1 _ rfl
        have g2 := hf 2 _ rfl
        have e0 : Try.prog.cellsOf 3 = 1 := by kernel_rfl
        have e1 : Try.prog.cellsOf 27 = 5 := by kernel_rfl
        have e2 : Try.prog.cellsOf 2 = 1 := by kernel_rfl
        simp [e0, e1, e2] at g0 g1 g2
        obtain ⟨x0, z0, _, _⟩ := DataW.trod_int Try.underlying3 g0
        obtain ⟨r, z1, hr⟩ := read_rm g1 rfl
        obtain ⟨x2, z2, _, _⟩ := DataW.trod_int Try.underlying2 g2
        simp only [rc, List.cons.injEq, and_true] at z0 z1 z2
        obtain ⟨rfl, rfl, rfl, rfl, rfl⟩ := z1
        subst z0 z2
        exact ⟨(x0, r, x2), rfl, hr⟩) hv h
  exact ⟨xs, A, c, h1, h2, Nat.le_trans h4 h5, fun x hx => (h7 x hx).elim fun _ h => h⟩
end Go.Proofs.Ytlicimkpgnemeaa.Nd
