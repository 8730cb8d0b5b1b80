/-
  A region that draws its order, walked by hand: each operation that is no call is taken first (or passed over), a call when it alone may come up.
-/
import Derived.Test.YtlicimkpgnemeaaBase
import Derived.Deep.RegionHeld3
import Derived.BigGuard
set_option linter.unusedVariables false
namespace Go.Proofs.Ytlicimkpgnemeaa.B
open Go.RowKit
section
variable {P : Program} {ops : Array Oper} {Q : Exit → Act → World → Prop} {md : Region.Mode} {S : World → Prop} {fuel : Nat} {listed : Array Bool} {a : Act} {w : World}
/-- Operation i, to be written out. -/
theorem rg_at (i : Nat) (hi : i < ops.size) (h : ∀ oi, ops[i]? = some oi → wpAnyH P md ops Q S fuel listed a w) : wpAnyH P md ops Q S fuel listed a w :=
  h _ (Array.getElem?_eq_getElem hi)
theorem rg_take (i : Nat) {oi : Oper} {v : Value} (hi : ops[i]? = some oi)
    (hs : Region.noSelect ops = true) (hf : Region.free md ops listed i = true) (hr : (Region.ready md ops listed).contains i = true)
    (hQ : ∀ c a w, Q (.panic c) (a.put oi.dst v) w → Q (.panic c) a w) (hw : Region.wanted oi (yielded ops a.tmps) = true)
    (hy : ∀ w, S w → (execOp a.eval oi).run P w = .ok (.value v) w) (hS : S w)
    (h : wpAnyH P md ops Q S fuel (listed.setIfInBounds i true) (a.put oi.dst v) w) : wpAnyH P md ops Q S (fuel + 1) listed a w :=
  wpAnyH_take hi hs hf hr hQ (.inl ⟨hw, hy⟩) hS h
theorem rg_skip (i : Nat) {oi : Oper} (hi : ops[i]? = some oi)
    (hs : Region.noSelect ops = true) (hf : Region.free md ops listed i = true) (hr : (Region.ready md ops listed).contains i = true)
    (hQ : ∀ c a w, Q (.panic c) (a.put oi.dst undef) w → Q (.panic c) a w) (hw : Region.wanted oi (yielded ops a.tmps) = false) (hS : S w)
    (h : wpAnyH P md ops Q S fuel (listed.setIfInBounds i true) (a.put oi.dst undef) w) : wpAnyH P md ops Q S (fuel + 1) listed a w :=
  wpAnyH_take hi hs hf hr hQ (.inr ⟨hw, rfl⟩) hS h
theorem rg_call (i : Nat) {o : Oper} (hr : Region.ready md ops listed = [i]) (hi : ops[i]? = some o) (hw : Region.wanted o (yielded ops a.tmps) = true)
    (h : ∀ K' : Act → World → Prop, Shut (∀ a w, S w → (S w → wpAnyH P md ops Q S fuel (listed.setIfInBounds i true) a w) → K' a w) → Oper.wp P o a w K' Q) : wpAnyH P md ops Q S (fuel + 1) listed a w :=
  wpAnyH_ready hr (by simp) (AllReadyH.cons hi (fun K' hK => by rw [if_pos hw]; exact h K' hK) AllReadyH.nil)
/-- Two may come up: either. -/
theorem rg_two (i j : Nat) (hr : Region.ready md ops listed = [i, j])
    (h1 : wpOp P ops Q i (fun a' w' => S w' ∧ wpAnyH P md ops Q S fuel (listed.setIfInBounds i true) a' w') a w)
    (h2 : wpOp P ops Q j (fun a' w' => S w' ∧ wpAnyH P md ops Q S fuel (listed.setIfInBounds j true) a' w') a w) : wpAnyH P md ops Q S (fuel + 1) listed a w :=
  wpAnyH_ready hr (by simp) fun k hk => by
    rcases List.mem_cons.1 hk with rfl | hk
    · exact h1
    · rcases List.mem_cons.1 hk with rfl | hk
      · exact h2
      · cases hk
/-- The present world under a letter. -/
theorem rg_world (h : ∀ W', W' = w → wpAnyH P md ops Q S fuel listed a W') : wpAnyH P md ops Q S fuel listed a w := h w rfl
theorem rg_op_at (i : Nat) {K : Act → World → Prop} (hi : i < ops.size) (h : ∀ oi, ops[i]? = some oi → wpOp P ops Q i K a w) : wpOp P ops Q i K a w :=
  h _ (Array.getElem?_eq_getElem hi)
theorem rg_step (i : Nat) {o : Oper} (hi : ops[i]? = some o) (hw : Region.wanted o (yielded ops a.tmps) = true)
    (h : ∀ K' : Act → World → Prop, Shut (∀ a w, S w → (S w → wpAnyH P md ops Q S fuel (listed.setIfInBounds i true) a w) → K' a w) → Oper.wp P o a w K' Q) :
    wpOp P ops Q i (fun a' w' => S w' ∧ wpAnyH P md ops Q S fuel (listed.setIfInBounds i true) a' w') a w :=
  wpOp_step hi fun K' hK => by rw [if_pos hw]; exact h K' (fun a w hS hW => hK a w ⟨hS, hW hS⟩)
end
end Go.Proofs.Ytlicimkpgnemeaa.B
