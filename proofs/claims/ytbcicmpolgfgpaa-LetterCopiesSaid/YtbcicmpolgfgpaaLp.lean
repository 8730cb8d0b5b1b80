/-
  Writing to a copy's arguments.
-/
import Derived.Test.YtbcicmpolgfgpaaIb0
set_option linter.unusedVariables false
set_option linter.unusedSimpArgs false
namespace Go.Proofs.Ytbcicmpolgfgpaa.In
open Go.RowKit Go.Proofs.Ytbcicmpolgfgpaa.B Go.Proofs.Ytbcicmpolgfgpaa.Lt Go.Proofs.Ytbcicmpolgfgpaa.Ib
/-- The arguments of a copy may be written to. -/
def Lp (w0 W : World) (u : Value) (n : Nat) : Prop :=
  Upd (fun k => u.ownBlock = some k) w0 W ∧ (0 < n → ∃ g off c cs, u = .slice (some ⟨g, off, none⟩) n c ∧ Blk W g 2 cs ∧ ∀ i, i < n → ∃ x : Int, cs[off + i]? = some (.int .i64 x))
theorem Lp.start {w : World} {x : L} {u : Value} (h : Lt.In w x u) (hb : ∀ k, u.ownBlock = some k → ∃ cs, Blk w k 2 cs) : Lp w w u x.2.2.2.length := by
  refine ⟨Upd.refl _ _, fun hn => ?_⟩
  obtain ⟨A, c, rfl, hr, _⟩ := h
  obtain ⟨ad, rfl, h0⟩ := hr.at_ (i := 0) hn
  obtain ⟨cs, hB⟩ := hb ad.block rfl
  have hsp : ad.spot = none := by
    have h0' : w.cell? ad = some (.int .i64 (gi x.2.2.2 0)) := h0
    have hB' : w.heap[ad.block]? = some (.cells cs 2 (0, 0)) := hB
    simp only [World.cell?, hB'] at h0'
    split at h0'
    · cases h0'
    · rename_i hs
      simpa using hs
  obtain ⟨g, off, sp⟩ := ad
  simp only at hsp hB
  subst hsp
  refine ⟨g, off, c, cs, rfl, hB, fun i hi => ⟨gi x.2.2.2 i, ?_⟩⟩
  have hc := Rn.cell hr hi
  rw [add_off, hB.cell] at hc
  exact hc
theorem Lp.put {w0 W : World} {u : Value} {n i : Nat} {g off c : Nat} {cs : Array Value} (h : Lp w0 W u n) (hu : u = .slice (some ⟨g, off, none⟩) n c) (hB : Blk W g 2 cs) (hx : ∀ i, i < n → ∃ x : Int, cs[off + i]? = some (.int .i64 x)) (hi : i < n) (z : Int) :
    Lp w0 (W.setCell ⟨g, off + i, none⟩ (.int .i64 z)) u n := by
  refine ⟨h.1.set (.inl (by rw [hu]; rfl)) _, fun _ => ⟨g, off, c, _, hu, hB.put (off + i) (.int .i64 z), fun j hj => ?_⟩⟩
  by_cases hij : i = j
  · subst hij
    obtain ⟨x, hx'⟩ := hx i hi
    have := (Array.getElem?_eq_some_iff.1 hx').1
    exact ⟨z, by rw [Array.getElem?_setIfInBounds, if_pos rfl, if_pos this]⟩
  · obtain ⟨x, hx'⟩ := hx j hj
    exact ⟨x, by rw [Array.getElem?_setIfInBounds, if_neg (by omega)]; exact hx'⟩
theorem Lp.box {ws W : World} {b n : Nat} {v : Value} {cells : Array Value} (h : Lp ws W v n) (hb : Blk ws b 25 cells) (hk : ∀ k, v.ownBlock = some k → ∃ cs, Blk ws k 2 cs) : Blk W b 25 cells :=
  hb.upd h.1 (fun e => (hk b e).elim fun cs hB => Blk.ne_type hB hb (by decide) rfl)
/-- What is turned is younger. -/
theorem Upd.young {F : Nat → Prop} {a b : World} (h : Upd F a b) (hF : ∀ k, F k → a.heap.size ≤ k) : Upd No a b := h.mono fun k hk hf => by have := hF k hf; omega
end Go.Proofs.Ytbcicmpolgfgpaa.In
