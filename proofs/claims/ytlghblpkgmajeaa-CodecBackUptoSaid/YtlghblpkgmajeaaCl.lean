/-
  An argument that is a slice of pieces.
-/
import Derived.Test.YtlghblpkgmajeaaLaw
import Derived.Test.YtlghblpkgmajeaaCv
import Derived.Deep.Slices
import Derived.ChangeSame
set_option linter.unusedVariables false
set_option linter.unusedSimpArgs false
namespace Go.Proofs.Ytlghblpkgmajeaa.Cl
open Go.ChangeShapes Go.WideShapes Go.ChangeAt Go.RowKit Go.Proofs.Ytlghblpkgmajeaa Go.Proofs.Ytlghblpkgmajeaa.B Go.Proofs.Ytlghblpkgmajeaa.Cm Go.Proofs.Ytlghblpkgmajeaa.Cw Go.Proofs.Ytlghblpkgmajeaa.Cv
def pcData {H : Type} (p : Pc) : DataW H := .agg [.lit (.int .i64 p.1), .lit (.int .u64 p.2.1), .lit (.string p.2.2.data.toList)]
theorem num_le (n : Int) : (num n).length ≤ 9 := (num_length n).2
theorem pcOut_le {H : Type} (p : Pc) : (pcOut p).length ≤ 9 * Rows.uptoBulk (pcData (H := H) p) := by
  have h1 := num_le p.2.1
  have h2 := num_le (zz (wrap64 p.2.1))
  have h3 := num_le p.2.2.size
  have h4 := sb_length p.2.2
  have h5 : Rows.uptoBulk (pcData (H := H) p) = p.2.2.size + 4 := by
    simp [pcData, Rows.uptoBulk, Rows.uptoBulkAll]
    have : p.2.2.data.size = p.2.2.size := rfl
    omega
  unfold pcOut
  split
  · omega
  · split
    · omega
    · rw [List.length_append]; omega
theorem pcOuts_bulk {H : Type} (ps : List Pc) : (pcOuts ps).length ≤ 9 * Rows.uptoBulkAll (ps.map (pcData (H := H))) := by
  induction ps with
  | nil => simp [pcOuts]
  | cons p r ih =>
    have := pcOut_le (H := H) p
    simp only [pcOuts, List.flatMap_cons, List.length_append, List.map_cons, Rows.uptoBulkAll] at *
    omega
theorem open_pieces {H : Type} {enc : TypeId × Value → H} {P : Program} {W : World} {base : Nat} {t e : TypeId} {f0 f1 f2 : Field} {v : Value} {d : DataW H} {p : List MemPlace} {l : List (DataW H)}
    (ht : P.underlying t = some (.slice e)) (he : P.underlying e = some (.struct #[f0, f1, f2])) (ce : P.cellsOf e = 3) (o0 : f0.offset = 0) (o1 : f1.offset = 1) (o2 : f2.offset = 2) (c0 : P.cellsOf f0.type = 1) (c1 : P.cellsOf f1.type = 1) (c2 : P.cellsOf f2.type = 1)
    (u0 : P.underlying f0.type = some (.int .i64)) (u1 : P.underlying f1.type = some (.int .u64)) (u2 : P.underlying f2.type = some .string)
    (hv : Value.okWide P W .any base t v) (h : DataW.Trod enc P W 0 (fun _ => true) true t v d p) (hk : Rows.uptoSmall H l = true) (hd : d ∈ l) :
    ∃ (ps : List Pc) (A : Option Addr) (c : Nat), v = .slice A ps.length c ∧ Rd W 3 A ps.length (pcCells ps) ∧ PcOk ps ∧ ps.length ≤ 1048576 ∧ (pcOuts ps).length ≤ 14073748835000 := by
  have hbulk := Law.bulk_le hk
  have hpart := Law.part_le hd
  obtain ⟨a0, len, cap, rfl⟩ := okWide_slice ht hv
  obtain ⟨fuel, hf⟩ := h
  rcases Deep.open_slice ht hf with ⟨hcs, hx⟩ | ⟨a, len', cap', m, n, D, Pl, hcs, _, hl, hm, hmm, hx, hcell⟩
  · simp only [Value.cells, List.cons.injEq, and_true, Value.slice.injEq] at hcs
    obtain ⟨rfl, rfl, rfl⟩ := hcs
    exact ⟨[], none, 0, rfl, Rd.nil_ _ _ _, fun p hp => by simp at hp, by simp, by simp [pcOuts]⟩
  · simp only [Value.cells, List.cons.injEq, and_true, Value.slice.injEq] at hcs
    obtain ⟨rfl, rfl, rfl⟩ := hcs
    have hlm : len ≤ m := by rw [hmm]; split <;> omega
    have each : ∀ i, i < len → ∃ q : Pc, W.cell? (a.add (i * 3)) = some (.int .i64 q.1) ∧ W.cell? (a.add (i * 3 + 1)) = some (.int .u64 q.2.1) ∧ W.cell? (a.add (i * 3 + 2)) = some (.string q.2.2) ∧ (0 ≤ q.2.1 ∧ q.2.1 ≤ 18446744073709551615) ∧ D i = pcData q := by
      intro i hi
      obtain ⟨cs', h1, h2⟩ := hcell i (by omega)
      rw [ce] at h1
      obtain ⟨_, hlen, hc⟩ := World.cells?_some h1
      obtain ⟨xs, k, hk, hxy, _, hxl, hf⟩ := DataW.trod_struct he h2
      match xs, hxl, cs', hlen with
      | [y0, y1, y2], _, [v0, v1, v2], _ =>
        have g0 := hf 0 f0 rfl
        have g1 := hf 1 f1 rfl
        have g2 := hf 2 f2 rfl
        simp [o0, o1, o2, c0, c1, c2] at g0 g1 g2
        have e0 := hc 0 (by omega)
        have e1 := hc 1 (by omega)
        have e2 := hc 2 (by omega)
        rw [Deep.add_add] at e0 e1 e2
        obtain ⟨x0, hx0⟩ := DataW.trod_int u0 g0
        obtain ⟨x1, hx1⟩ := DataW.trod_int u1 g1
        obtain ⟨x2, hx2⟩ := DataW.trod_string u2 g2
        obtain ⟨z0, rfl, _⟩ := hx0
        obtain ⟨z1, rfl, hw1⟩ := hx1
        obtain ⟨z2, rfl, _⟩ := hx2
        simp only [List.cons.injEq, and_true] at z0 z1 z2
        subst z0 z1 z2
        exact ⟨(x0, x1, x2), e0, e1, e2, Law.wf_u64 hw1, congrArg Prod.fst hxy⟩
    obtain ⟨q, hq⟩ := Deep.choose_lt (α := Pc) each
    have hlen : ((List.range len).map q).length = len := by simp
    have hget : ∀ i, i < len → gp ((List.range len).map q) i = q i := fun i hi => by
      simp [gp, List.getD_eq_getElem?_getD, hi]
    have hD : (List.range len).map D = ((List.range len).map q).map (pcData (H := H)) := by
      rw [List.map_map]
      exact List.map_congr_left fun i hi => (hq i (List.mem_range.1 hi)).2.2.2.2
    have hdd : d = .slice ((List.range len).map D) ((List.range (m - len)).map fun j => D (len + j)) := congrArg Prod.fst hx
    have hb2 : Rows.uptoBulkAll (((List.range len).map q).map (pcData (H := H))) ≤ Rows.uptoBulk d := by
      rw [hdd, ← hD]
      simp only [Rows.uptoBulk]
      omega
    have hb3 := pcOuts_bulk (H := H) ((List.range len).map q)
    have hb4 := Law.length_le (((List.range len).map q).map (pcData (H := H)))
    rw [List.length_map, hlen] at hb4
    refine ⟨(List.range len).map q, some a, cap, by rw [hlen], ?_, ?_, by omega, by omega⟩
    · refine ⟨pcCells_length _, fun h0 => ⟨a, rfl, fun j u hu => ?_⟩⟩
      have hj : j < (pcCells ((List.range len).map q)).length := (List.getElem?_eq_some_iff.1 hu).1
      rw [pcCells_length, hlen] at hj
      obtain ⟨i, r, hi, hr, rfl⟩ : ∃ i r, i < len ∧ r < 3 ∧ j = i * 3 + r := ⟨j / 3, j % 3, by omega, by omega, by omega⟩
      obtain ⟨g0, g1, g2⟩ := pcCells_get ((List.range len).map q) i (by omega)
      obtain ⟨k0, k1, k2, _⟩ := hq i hi
      rw [hget i hi] at g0 g1 g2
      have : r = 0 ∨ r = 1 ∨ r = 2 := by omega
      rcases this with rfl | rfl | rfl
      · rw [Nat.add_zero] at hu ⊢
        rw [g0] at hu
        rw [k0, hu]
      · rw [g1] at hu
        rw [k1, hu]
      · rw [g2] at hu
        rw [k2, hu]
    · intro p hp
      obtain ⟨i, hi, rfl⟩ := List.mem_map.1 hp
      exact (hq i (List.mem_range.1 hi)).2.2.2.1
end Go.Proofs.Ytlghblpkgmajeaa.Cl
