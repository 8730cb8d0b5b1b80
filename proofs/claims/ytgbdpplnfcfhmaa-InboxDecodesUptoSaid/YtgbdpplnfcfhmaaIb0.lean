/-
  Rows of letters.
-/
import Derived.Test.YtgbdpplnfcfhmaaLt
set_option linter.unusedVariables false
set_option linter.unusedSimpArgs false
namespace Go.Proofs.Ytgbdpplnfcfhmaa.Ib
open Go.RowKit Go.Proofs.Ytgbdpplnfcfhmaa.B Go.Proofs.Ytgbdpplnfcfhmaa.Lt
/-- A letter and the slice that holds its arguments. -/
abbrev Lv := L × Value
def pcells (ps : List Lv) : List Value := ps.flatMap fun x => cells x.1 x.2
theorem pcells_length (ps : List Lv) : (pcells ps).length = ps.length * 4 := by
  induction ps with
  | nil => rfl
  | cons p r ih => simp only [pcells, List.flatMap_cons, List.length_append, cells] at *; simp [ih]; omega
theorem pcells_drop (p : Lv) (r : List Lv) : (pcells (p :: r)).drop (1 * 4) = pcells r := by simp [pcells, cells]
/-- The letters wait in the slice v, whose memory, and theirs, are blocks of F. -/
def Row (w : World) (F : Nat → Prop) (v : Value) (xs : List L) : Prop :=
  ∃ ps : List Lv, ps.map (·.1) = xs ∧ Sl w 0 30 4 v ps.length (pcells ps) ∧ (∀ x ∈ ps, In w x.1 x.2 ∧ ∀ k, x.2.ownBlock = some k → F k ∧ ∃ cs, Blk w k 2 cs) ∧ (∀ k, v.ownBlock = some k → F k)
theorem In.one {w : World} {x : L} {v : Value} (h : In w x v) : v.oneCell' = true := by
  obtain ⟨A, c, rfl, _⟩ := h
  rfl
theorem cells_one {w : World} {x : L} {v : Value} (h : In w x v) : ∀ u ∈ cells x v, u.oneCell' = true := by
  intro u hu
  simp only [cells, List.mem_cons, List.not_mem_nil, or_false] at hu
  rcases hu with rfl | rfl | rfl | rfl
  · rfl
  · rfl
  · rfl
  · exact In.one h
theorem Row.upd {F G : Nat → Prop} {w w' : World} {v : Value} {xs : List L} (h : Row w F v xs) (hu : Upd G w w') (hn : ∀ k, F k → ¬ G k) : Row w' F v xs := by
  obtain ⟨ps, h1, h2, h3, h4⟩ := h
  exact ⟨ps, h1, h2.upd hu fun k hk => hn k (h4 k hk), fun x hx => ⟨(h3 x hx).1.upd hu fun g hg => hn g ((h3 x hx).2 g hg).1, fun k hk => ⟨((h3 x hx).2 k hk).1, ((h3 x hx).2 k hk).2.elim fun cs hB => ⟨cs, hB.upd hu (hn k ((h3 x hx).2 k hk).1)⟩⟩⟩, h4⟩
theorem Row.len {F : Nat → Prop} {w : World} {v : Value} {xs : List L} (h : Row w F v xs) : ∃ A c, v = .slice A xs.length c ∧ xs.length ≤ c ∧ c ≤ maxLen := by
  obtain ⟨ps, h1, h2, h3, h4⟩ := h
  have : xs.length = ps.length := by rw [← h1]; simp
  rw [this]
  exact h2.shape
/-- Behind a store to a block of another type. -/
theorem Row.far {F : Nat → Prop} {w w' : World} {v : Value} {xs : List L} {p : Nat} {t : TypeId} {cs : Array Value} (h : Row w F v xs) (hb : Blk w p t cs) (ht1 : 2 ≠ t) (ht2 : 30 ≠ t) (hu : Upd (fun k => k = p) w w') : Row w' F v xs := by
  obtain ⟨ps, h1, h2, h3, h4⟩ := h
  have np : ∀ k cs, Blk w k 2 cs → k ≠ p := fun k cs hB e => Blk.ne_type (e ▸ hB) hb ht1 rfl
  exact ⟨ps, h1, h2.upd hu fun k hk e => h2.ne hb ht2 (e ▸ hk), fun x hx => ⟨(h3 x hx).1.upd hu fun g hg e => ((h3 x hx).2 g hg).2.elim fun cs hB => np g cs hB e, fun k hk => ⟨((h3 x hx).2 k hk).1, ((h3 x hx).2 k hk).2.elim fun cs hB => ⟨cs, hB.upd hu (np k cs hB)⟩⟩⟩, h4⟩
theorem Row.mono {F G : Nat → Prop} {w : World} {v : Value} {xs : List L} (h : Row w F v xs) (hg : ∀ k, F k → G k) : Row w G v xs := by
  obtain ⟨ps, h1, h2, h3, h4⟩ := h
  exact ⟨ps, h1, h2, fun x hx => ⟨(h3 x hx).1, fun k hk => ⟨hg k ((h3 x hx).2 k hk).1, ((h3 x hx).2 k hk).2⟩⟩, fun k hk => hg k (h4 k hk)⟩
/-- Behind an append of one letter. -/
theorem Row.push {w w2 w3 : World} {F : Nat → Prop} {v : Value} {ps : List Lv} {x : L} {u : Value} {A3 : Option Addr} {c3 : Nat}
    (h2 : Sl w 0 30 4 v ps.length (pcells ps)) (h3 : ∀ x ∈ ps, In w x.1 x.2 ∧ ∀ k, x.2.ownBlock = some k → F k ∧ ∃ cs, Blk w k 2 cs) (h4 : ∀ k, v.ownBlock = some k → F k)
    (hv : In w2 x u) (hvl : ∀ k, u.ownBlock = some k → w.heap.size ≤ k ∧ ∃ cs, Blk w2 k 2 cs)
    (hu2 : Upd No w w2) (ho : Sl w3 0 30 4 (.slice A3 (ps.length + 1) c3) (ps.length + 1) (pcells ps ++ cells x u)) (hg : Upd (fun k => v.ownBlock = some k) w2 w3)
    (hat : ∀ k, (Value.slice A3 (ps.length + 1) c3).ownBlock = some k → v.ownBlock = some k ∨ w2.heap.size ≤ k) :
    Row w3 (fun k => F k ∨ u.ownBlock = some k ∨ (Value.slice A3 (ps.length + 1) c3).ownBlock = some k) (.slice A3 (ps.length + 1) c3) (ps.map (·.1) ++ [x]) := by
  have hvv : ∀ k, v.ownBlock = some k → k < w.heap.size := fun k hk => (h2.lt k hk).2
  refine ⟨ps ++ [(x, u)], by simp, ?_, ?_, fun k hk => .inr (.inr hk)⟩
  · have e : pcells (ps ++ [(x, u)]) = pcells ps ++ cells x u := by simp [pcells]
    rw [List.length_append, e]
    exact ho
  · have keep : ∀ k cs, Blk w2 k 2 cs → Blk w3 k 2 cs := fun k cs hB => hB.upd hg fun h => by
      obtain ⟨c2, hb⟩ := h2.blk h
      exact Blk.ne_type hB (hb.upd hu2 (no_ _)) (by decide) rfl
    have nev : ∀ k cs, Blk w2 k 2 cs → v.ownBlock ≠ some k := fun k cs hB h => by
      obtain ⟨c2, hb⟩ := h2.blk h
      exact Blk.ne_type hB (hb.upd hu2 (no_ _)) (by decide) rfl
    intro y hy
    rcases List.mem_append.1 hy with hy | hy
    · obtain ⟨g1, g2⟩ := h3 y hy
      exact ⟨(g1.upd hu2 (fun _ _ => no_ _)).upd hg fun g hg' h => (g2 g hg').2.elim fun cs hB => nev g cs (hB.upd hu2 (no_ _)) h, fun k hk => ⟨.inl (g2 k hk).1, (g2 k hk).2.elim fun cs hB => ⟨cs, keep k cs (hB.upd hu2 (no_ _))⟩⟩⟩
    · obtain rfl : y = (x, u) := List.mem_singleton.1 hy
      exact ⟨hv.upd hg fun g hg' h => (hvl g hg').2.elim fun cs hB => nev g cs hB h, fun k hk => ⟨.inr (.inl hk), (hvl k hk).2.elim fun cs hB => ⟨cs, keep k cs hB⟩⟩⟩
/-- A letter, laid into a block of its own. -/
def put4 (w : World) (b : Nat) (x : L) (v : Value) : World := (((w.setCell ⟨b, 0, none⟩ (.string x.1)).setCell ⟨b, 1, none⟩ (.int .u64 x.2.1)).setCell ⟨b, 2, none⟩ (.int .i64 x.2.2.1)).setCell ⟨b, 3, none⟩ v
theorem put4_blk {w : World} {b : Nat} {t : TypeId} {a0 a1 a2 a3 : Value} (h : Blk w b t #[a0, a1, a2, a3]) (x : L) (v : Value) : Blk (put4 w b x v) b t #[.string x.1, .int .u64 x.2.1, .int .i64 x.2.2.1, v] := by
  have := (((h.put 0 (.string x.1)).put 1 (.int .u64 x.2.1)).put 2 (.int .i64 x.2.2.1)).put 3 v
  unfold put4
  simpa using this
theorem put4_new {w w1 : World} {b : Nat} (hu : Upd No w w1) (hb : w.heap.size ≤ b) (x : L) (v : Value) : Upd No w (put4 w1 b x v) := (((hu.set (.inr hb) _).set (.inr hb) _).set (.inr hb) _).set (.inr hb) _
theorem alloc_lt (w : World) (o : Obj) : w.heap.size < (w.alloc o).heap.size := by simp
theorem put4_upd (w : World) (b : Nat) (x : L) (v : Value) : Upd (fun k => k = b) w (put4 w b x v) := ((((Upd.refl _ w).set1 _ _).set1 _ _).set1 _ _).set1 _ _
theorem In.updn {F : Nat → Prop} {w w' : World} {x : L} {v : Value} (h : Lt.In w x v) (hu : Upd F w w') (hn : 0 < x.2.2.2.length → ∀ g, v.ownBlock = some g → ¬ F g) : Lt.In w' x v := by
  by_cases h0 : 0 < x.2.2.2.length
  · exact Lt.In.upd h hu (hn h0)
  · obtain ⟨A, c, rfl, hr, h1⟩ := h
    have e : x.2.2.2 = [] := List.eq_nil_of_length_eq_zero (by omega)
    exact ⟨A, c, rfl, by rw [e]; exact Rd.nil_ _ _ _, h1⟩
theorem In.block {w : World} {x : L} {v : Value} (h : Lt.In w x v) (h0 : 0 < x.2.2.2.length) : ∀ g, v.ownBlock = some g → g < w.heap.size := by
  obtain ⟨A, c, rfl, hr, h1⟩ := h
  obtain ⟨ad, rfl, hl⟩ := hr.lt h0 (by omega)
  intro g hg
  have : ad.block = g := by simpa [Value.ownBlock] using hg
  omega
end Go.Proofs.Ytgbdpplnfcfhmaa.Ib
