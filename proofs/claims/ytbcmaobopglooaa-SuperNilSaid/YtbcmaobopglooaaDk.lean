/-
  The walks of package disk.
-/
import Derived.Test.YtbcmaobopglooaaBase
import Derived.Test.YtbcmaobopglooaaCm
import Derived.Test.YtbcmaobopglooaaSm
import Derived.Test.YtbcmaobopglooaaProg
import Derived.Test.YtbcmaobopglooaaRg
import Derived.Lib.SliceRun
import Derived.Deep.RegionHeld3
import Derived.Deep.RegionLaw
import Derived.Deep.DrawnRows
set_option linter.unusedVariables false
set_option linter.unusedSimpArgs false
namespace Go.Proofs.Ytbcmaobopglooaa.Dk
open Go.RowKit Go.Proofs.Ytbcmaobopglooaa.B Go.Proofs.Ytbcmaobopglooaa.Sm
/-- A write: where, its bytes, the slice that holds them. -/
abbrev Pw := Nat × List Int × Value
def ab (ps : List Pw) : List (Nat × List Int) := ps.map fun x => (x.1, x.2.1)
def last (l : List (Nat × List Int)) (i : Nat) : Option (List Int) := l.foldl (fun o r => if r.1 = i then some r.2 else o) none
def slot (ps : List Pw) (i : Nat) : Value := ps.foldl (fun o r => if r.1 = i then r.2.2 else o) (.slice none 0 0)
theorem last_snoc (l : List (Nat × List Int)) (r : Nat × List Int) (i : Nat) : last (l ++ [r]) i = if r.1 = i then some r.2 else last l i := by simp [last, List.foldl_append]
theorem slot_snoc (l : List Pw) (r : Pw) (i : Nat) : slot (l ++ [r]) i = if r.1 = i then r.2.2 else slot l i := by simp [slot, List.foldl_append]
theorem slot_acc (ps : List Pw) (i : Nat) : ∀ (o : Option (List Int)) (v : Value),
    ((ab ps).foldl (fun o r => if r.1 = i then some r.2 else o) o = o ∧ ps.foldl (fun o r => if r.1 = i then r.2.2 else o) v = v) ∨
    ∃ x ∈ ps, x.1 = i ∧ (ab ps).foldl (fun o r => if r.1 = i then some r.2 else o) o = some x.2.1 ∧ ps.foldl (fun o r => if r.1 = i then r.2.2 else o) v = x.2.2 := by
  induction ps with
  | nil => intro o v; exact .inl ⟨rfl, rfl⟩
  | cons r t ih =>
    intro o v
    have e1 : (ab (r :: t)).foldl (fun o r => if r.1 = i then some r.2 else o) o = (ab t).foldl (fun o r => if r.1 = i then some r.2 else o) (if r.1 = i then some r.2.1 else o) := rfl
    have e2 : (r :: t).foldl (fun o r => if r.1 = i then r.2.2 else o) v = t.foldl (fun o r => if r.1 = i then r.2.2 else o) (if r.1 = i then r.2.2 else v) := rfl
    rw [e1, e2]
    by_cases h : r.1 = i
    · rw [if_pos h, if_pos h]
      rcases ih (some r.2.1) r.2.2 with ⟨h1, h2⟩ | ⟨x, hx, h1⟩
      · exact .inr ⟨r, by simp, h, h1, h2⟩
      · exact .inr ⟨x, by simp [hx], h1⟩
    · rw [if_neg h, if_neg h]
      rcases ih o v with h1 | ⟨x, hx, h1⟩
      · exact .inl h1
      · exact .inr ⟨x, by simp [hx], h1⟩
theorem slot_of (ps : List Pw) (i : Nat) : (last (ab ps) i = none ∧ slot ps i = .slice none 0 0) ∨ ∃ x ∈ ps, x.1 = i ∧ last (ab ps) i = some x.2.1 ∧ slot ps i = x.2.2 := slot_acc ps i none (.slice none 0 0)
def wcells (ps : List Pw) : List Value := ps.flatMap fun x => [.int .i64 x.1, x.2.2]
theorem wcells_length (ps : List Pw) : (wcells ps).length = ps.length * 2 := by
  induction ps with
  | nil => rfl
  | cons p r ih => simp only [wcells, List.flatMap_cons, List.length_append] at *; simp [ih]; omega
theorem wcells_get (ps : List Pw) (i : Nat) (x : Pw) (hi : ps[i]? = some x) : (wcells ps)[i * 2]? = some (.int .i64 x.1) ∧ (wcells ps)[i * 2 + 1]? = some x.2.2 := by
  induction ps generalizing i with
  | nil => simp at hi
  | cons p r ih =>
    match i with
    | 0 =>
      simp at hi
      subst hi
      exact ⟨rfl, rfl⟩
    | i + 1 =>
      have := ih i (by simpa using hi)
      have e : wcells (p :: r) = [Value.int .i64 p.1, p.2.2] ++ wcells r := rfl
      have e2 : ∀ k, (wcells (p :: r))[k + 2]? = (wcells r)[k]? := fun k => by rw [e, List.getElem?_append_right (by simp)]; simp
      rw [show (i + 1) * 2 = i * 2 + 2 from by omega, e2, show i * 2 + 2 + 1 = i * 2 + 1 + 2 from by omega, e2]
      exact this
theorem wr_info : (Try.prog.info? 62).map (fun i => (i.zero, i.size, i.bytes)) = some (some (.agg #[.int .i64 0, .slice none 0 0]), 2, 32) := by kernel_rfl
theorem sl_info : (Try.prog.info? 22).map (fun i => (i.zero, i.size, i.bytes)) = some (some (.slice none 0 0), 1, 24) := by kernel_rfl
theorem u8_info : (Try.prog.info? 5).map (fun i => (i.zero, i.size, i.bytes)) = some (some (.int .u8 0), 1, 1) := by kernel_rfl
theorem clone_info : (Try.prog.info? 5).map (fun i => (i.zero, i.size, i.bytes)) = some (some (.int .u8 0), 1, 1) := by kernel_rfl
set_option maxHeartbeats 1000000 in
/-- slices.Clone. -/
theorem clone (A : Option Addr) (n c : Nat) (xs : List Value) (w : World) (hr : Rd w 1 A n xs) (h1 : ∀ u ∈ xs, u.oneCell' = true) (hn : n * 1 ≤ 140737488355328) :
    Calls Try.prog 30 #[.slice A n c] w fun e w' => ∃ A' c', e = .returned (.slice A' n c') ∧ w'.ownsRow w.heap.size 5 1 (.slice A' n c') n xs ∧ Upd No w w' ∧ (A = none → A' = none) := by
  have q : ∀ (w : World) (a : Option Addr) (n c n' c' : Nat), (binOp .eql 22 (.slice a n c) (.slice none n' c')).run Try.prog w = .ok (.bool a.isNone) w := fun w a n c n' c' => Go.Lib.run_eql_slice_nil w _ _ a n c n' c' Try.underlying22
  rcases A with _ | ad
  · obtain rfl : n = 0 := by
      rcases Nat.eq_zero_or_pos n with h0 | h0
      · exact h0
      · obtain ⟨ad, h, _⟩ := hr.2 h0
        cases h
    obtain rfl : xs = [] := List.eq_nil_of_length_eq_zero (by simpa using hr.1)
    go_enter Try.func30, Try.ntmps30
    go_wp2
    go_ret
    exact ⟨none, 0, rfl, ⟨by simp, .inl ⟨rfl, rfl⟩⟩, Upd.refl _ _, fun _ => rfl⟩
  · go_enter Try.func30, Try.ntmps30
    go_wp2_with (at_builtin; refine ap_row w.heap.size rfl _ _ 22 5 (.int .u8 0) 1 1 rfl Try.underlying22 clone_info rfl (by omega) (.slice (some ⟨w.heap.size, 0, none⟩) 0 0) 0 [] (some ad) n c xs rfl rfl (World.ownsRow_made w #[] 0 (Nat.le_refl _) (Nat.zero_le _) rfl) (Rd.alloc hr (by omega) _) h1 (by omega) (by omega) (by simp) ?_; intro A1 c1 w1 ho hg hat; rw [Nat.zero_add, List.nil_append] at ho; rw [Nat.zero_add])
    go_wp2
    go_ret
    refine ⟨A1, c1, rfl, ho, ?_, fun h => by cases h⟩
    have h5 : Upd No w (w.alloc (.cells #[] 5)) := (Upd.refl _ _).alloc _
    exact h5.grown hg fun k hk => by
      have : w.heap.size = k := by simpa [Value.ownBlock] using hk
      exact .inr (by omega)
/-- A disk. -/
structure Dm where
  nb : Nat
  log : List (Nat × List Int)
  fuse : Int
  down : Bool
def Dm.ok (m : Dm) : Prop := -1 ≤ m.fuse ∧ m.fuse ≤ 9223372036854775807 ∧ m.nb ≤ 65536
/-- What a write answers, and the disk behind it. -/
def Dm.wr (m : Dm) (i : Int) (b : List Int) : Int × Dm :=
  if m.down then (9, m) else if i < 0 ∨ (m.nb : Int) ≤ i ∨ b.length ≠ 256 then (1, m)
  else if m.fuse = 0 then (9, { m with down := true })
  else (0, { m with fuse := if 0 < m.fuse then m.fuse - 1 else m.fuse, log := m.log ++ [(i.toNat, b)] })
/-- What a read answers. -/
def Dm.rd (m : Dm) (i : Int) : List Int × Int :=
  if m.down then ([], 9) else if i < 0 ∨ (m.nb : Int) ≤ i then ([], 1) else ((last m.log i.toNat).getD (List.replicate 256 0), 0)
theorem wr_zero (nb : Nat) (log : List (Nat × List Int)) (j : Nat) (l : List Int) (hj : j < nb) (hl : l.length = 256) : Dm.wr ⟨nb, log, 0, false⟩ (j : Int) l = (9, ⟨nb, log, 0, true⟩) := by
  have h : ¬ ((j : Int) < 0 ∨ (nb : Int) ≤ j ∨ l.length ≠ 256) := by omega
  unfold Dm.wr
  rw [if_neg (by simp), if_neg h, if_pos rfl]
theorem wr_ok (nb : Nat) (log : List (Nat × List Int)) (f : Int) (j : Nat) (l : List Int) (hj : j < nb) (hl : l.length = 256) (hf : f ≠ 0) : Dm.wr ⟨nb, log, f, false⟩ (j : Int) l = (0, ⟨nb, log ++ [(j, l)], if 0 < f then f - 1 else f, false⟩) := by
  have h : ¬ ((j : Int) < 0 ∨ (nb : Int) ≤ j ∨ l.length ≠ 256) := by omega
  unfold Dm.wr
  rw [if_neg (by simp), if_neg h, if_neg hf]
  simp
/-- The block of a write. -/
def Okb (w : World) (F : Nat → Prop) (x : Pw) : Prop := ∃ g c, x.2.2 = .slice (some ⟨g, 0, none⟩) 256 c ∧ F g ∧ w.ownsRow 0 5 1 x.2.2 256 (nums .u8 x.2.1)
/-- The disk at p is m; its memory are blocks of F. -/
def Dk (w : World) (F : Nat → Prop) (p : Nat) (m : Dm) : Prop :=
  ∃ (ps : List Pw) (g : Nat) (vl : Value), ab ps = m.log ∧
    Blk w p 54 #[.slice (some ⟨g, 0, none⟩) m.nb m.nb, vl, .int .i64 m.fuse, .bool m.down] ∧
    Blk w g 22 ((List.range m.nb).map (slot ps)).toArray ∧
    w.ownsRow 0 62 2 vl ps.length (wcells ps) ∧
    (∀ x ∈ ps, Okb w F x) ∧ F p ∧ F g ∧ (∀ k, vl.ownBlock = some k → F k) ∧ (∀ k, F k → k < w.heap.size)
section
variable {w w' : World} {F G : Nat → Prop} {p : Nat} {m : Dm}
theorem Okb.upd {x : Pw} (h : Okb w F x) (hu : Upd G w w') (hn : ∀ k, F k → ¬ G k) : Okb w' F x := by
  obtain ⟨g, c, e, hF, ho⟩ := h
  refine ⟨g, c, e, hF, own_upd ho hu fun k hk => ?_⟩
  rw [e] at hk
  have : g = k := by simpa [Value.ownBlock] using hk
  exact hn k (this ▸ hF)
theorem Okb.keep {x : Pw} (h : Okb w F x) (hk : ∀ g, x.2.2.ownBlock = some g → w'.heap[g]? = w.heap[g]?) : Okb w' F x := by
  obtain ⟨g, c, e, hF, ho⟩ := h
  exact ⟨g, c, e, hF, own_keep ho hk⟩
theorem Okb.mono {x : Pw} (h : Okb w F x) (hg : ∀ k, F k → G k) : Okb w G x := by
  obtain ⟨g, c, e, hF, ho⟩ := h
  exact ⟨g, c, e, hg _ hF, ho⟩
theorem Dk.upd (h : Dk w F p m) (hu : Upd G w w') (hn : ∀ k, F k → ¬ G k) : Dk w' F p m := by
  obtain ⟨ps, g, vl, h1, h2, h3, h4, h5, h6, h7, h8, h9⟩ := h
  exact ⟨ps, g, vl, h1, h2.upd hu (hn _ h6), h3.upd hu (hn _ h7), own_upd h4 hu fun k hk => hn k (h8 k hk), fun x hx => (h5 x hx).upd hu hn, h6, h7, h8, fun k hk => Nat.lt_of_lt_of_le (h9 k hk) hu.size⟩
theorem Dk.lt (h : Dk w F p m) : ∀ k, F k → k < w.heap.size := by
  obtain ⟨ps, g, vl, h1, h2, h3, h4, h5, h6, h7, h8, h9⟩ := h
  exact h9
theorem Okb.ne {x : Pw} (h : Okb w F x) {q : Nat} {t : TypeId} {cs : Array Value} (hq : Blk w q t cs) (ht : 5 ≠ t) : ∀ g, x.2.2.ownBlock = some g → g ≠ q := by
  obtain ⟨g, c, e, hF, ho⟩ := h
  rintro k hk rfl
  exact own_blk_ne ho hq ht hk
/-- Behind a store to the fuse or the flag. -/
theorem Dk.word (h : Dk w F p m) (f : Int) (d : Bool) (hb : ∀ a b, Blk w p 54 #[a, b, .int .i64 m.fuse, .bool m.down] → Blk w' p 54 #[a, b, .int .i64 f, .bool d]) (hu : Upd (fun k => k = p) w w') :
    Dk w' F p { m with fuse := f, down := d } := by
  obtain ⟨ps, g, vl, h1, h2, h3, h4, h5, h6, h7, h8, h9⟩ := h
  refine ⟨ps, g, vl, h1, hb _ _ h2, h3.upd hu (Blk.ne_type h3 h2 (by decide)), own_upd h4 hu fun k hk => ?_, fun x hx => (h5 x hx).keep fun k hk => hu.block k ?_ ((h5 x hx).ne h2 (by decide) k hk), h6, h7, h8, fun k hk => Nat.lt_of_lt_of_le (h9 k hk) hu.size⟩
  · rintro rfl
    exact own_blk_ne h4 h2 (by decide) hk
  · obtain ⟨g', c, e, hF, ho⟩ := h5 x hx
    exact (ho.lt k hk).2
end
theorem Rd_lit (w : World) (t : TypeId) (size n : Nat) (xs : List Value) (h : xs.length = n * size) : Rd (w.alloc (.cells xs.toArray t)) size (some ⟨w.heap.size, 0, none⟩) n xs := by
  refine ⟨h, fun _ => ⟨_, rfl, fun j u hu => ?_⟩⟩
  rw [add_plain, cell_of_row _ _ _ _ t (0, 0) (heap_alloc_new w _)]
  simpa using hu
/-- Behind a write. -/
theorem Dk.wrote {w w2 w3 : World} {F : Nat → Prop} {p g : Nat} {m : Dm} {ps : List Pw} {vl : Value} {i : Nat} {l : List Int} {g' c' : Nat} {A3 : Option Addr} {c3 : Nat}
    (h1 : ab ps = m.log) (h2 : Blk w p 54 #[.slice (some ⟨g, 0, none⟩) m.nb m.nb, vl, .int .i64 m.fuse, .bool m.down]) (h3 : Blk w g 22 ((List.range m.nb).map (slot ps)).toArray)
    (h4 : w.ownsRow 0 62 2 vl ps.length (wcells ps)) (h5 : ∀ x ∈ ps, Okb w F x) (h6 : F p) (h7 : F g) (h8 : ∀ k, vl.ownBlock = some k → F k) (h9 : ∀ k, F k → k < w.heap.size)
    (hv : w.ownsRow 0 5 1 (.slice (some ⟨g', 0, none⟩) 256 c') 256 (nums .u8 l)) (hi : i < m.nb) (hu2 : Upd (fun k => k = g) w w2) (hg2 : Blk w2 g 22 (((List.range m.nb).map (slot ps)).toArray.setIfInBounds i (.slice (some ⟨g', 0, none⟩) 256 c')))
    (ho : w3.ownsRow 0 62 2 (.slice A3 (ps.length + 1) c3) (ps.length + 1) (wcells ps ++ [.int .i64 i, .slice (some ⟨g', 0, none⟩) 256 c'])) (hg : w2.grownBy w3 vl.ownBlock)
    (hat : ∀ k, (Value.slice A3 (ps.length + 1) c3).ownBlock = some k → vl.ownBlock = some k ∨ w2.heap.size ≤ k) :
    ∃ F', Dk (w3.setCell ⟨p, 1, none⟩ (.slice A3 (ps.length + 1) c3)) F' p { m with log := m.log ++ [(i, l)] } ∧ Upd F w (w3.setCell ⟨p, 1, none⟩ (.slice A3 (ps.length + 1) c3)) ∧ ∀ k, F' k → F k ∨ k = g' ∨ w.heap.size ≤ k := by
  have hpg : p ≠ g := Blk.ne_type h2 h3 (by decide)
  have hb2 : Blk w2 p 54 #[.slice (some ⟨g, 0, none⟩) m.nb m.nb, vl, .int .i64 m.fuse, .bool m.down] := h2.upd hu2 hpg
  have hp3 := hb2.grown hg (own_blk_ne h4 h2 (by decide)).symm
  have hnep := own_blk_ne ho hp3 (by decide)
  have hg3 := hg2.grown hg (own_blk_ne h4 h3 (by decide)).symm
  have hug : ∀ k, vl.ownBlock = some k → k ≠ g := fun k hk e => own_blk_ne h4 h3 (by decide) (e ▸ hk)
  have hup : ∀ k, vl.ownBlock = some k → k ≠ p := fun k hk e => own_blk_ne h4 h2 (by decide) (e ▸ hk)
  -- a block of bytes stays
  have byt : ∀ {v : Value} {n : Nat} {l : List Value}, w.ownsRow 0 5 1 v n l → (w3.setCell ⟨p, 1, none⟩ (.slice A3 (ps.length + 1) c3)).ownsRow 0 5 1 v n l := by
    intro v n l hv
    refine own_keep hv fun k hk => ?_
    have hkl := (hv.lt k hk).2
    have hkp : k ≠ p := fun e => own_blk_ne hv h2 (by decide) (e ▸ hk)
    have hkg : k ≠ g := fun e => own_blk_ne hv h3 (by decide) (e ▸ hk)
    rw [Below.heap_setCell _ _ _ k hkp, hg.block k (Nat.lt_of_lt_of_le hkl hu2.size) ?_, hu2.block k hkl hkg]
    exact fun e => own_own_ne hv h4 (by decide) hk e.symm
  have hsub : ∀ k, (Value.slice A3 (ps.length + 1) c3).ownBlock = some k → F k ∨ w.heap.size ≤ k := fun k hk => (hat k hk).elim (fun h => .inl (h8 k h)) fun h => .inr (Nat.le_trans hu2.size h)
  have hsz : w.heap.size ≤ (w3.setCell ⟨p, 1, none⟩ (.slice A3 (ps.length + 1) c3)).heap.size := by
    have h1 := hu2.size
    have h2 := hg.size
    simp [World.setCell]
    omega
  refine ⟨fun k => F k ∨ k = g' ∨ (Value.slice A3 (ps.length + 1) c3).ownBlock = some k, ⟨ps ++ [(i, l, .slice (some ⟨g', 0, none⟩) 256 c')], g, .slice A3 (ps.length + 1) c3, ?_, ?_, ?_, ?_, ?_, .inl h6, .inl h7, fun k hk => .inr (.inr hk), ?_⟩, ?_, ?_⟩
  · simp [ab, ← h1]
  · have := hp3.put 1 (.slice A3 (ps.length + 1) c3)
    simpa using this
  · have := hg3.far (p := ⟨p, 1, none⟩) (Ne.symm hpg) (.slice A3 (ps.length + 1) c3)
    refine (Eq.trans this ?_ : _)
    congr 2
    apply Array.ext'
    apply List.ext_getElem
    · simp
    · intro j h1 h2
      simp [List.getElem_set, slot_snoc]
  · have e : wcells (ps ++ [(i, l, .slice (some ⟨g', 0, none⟩) 256 c')]) = wcells ps ++ [.int .i64 i, .slice (some ⟨g', 0, none⟩) 256 c'] := by simp [wcells]
    rw [List.length_append, e]
    exact own_keep ho fun k hk => Below.heap_setCell _ _ _ _ (by rintro rfl; exact hnep hk)
  · intro x hx
    rcases List.mem_append.1 hx with hx | hx
    · obtain ⟨gx, cx, e, hF, hox⟩ := h5 x hx
      exact ⟨gx, cx, e, .inl hF, byt hox⟩
    · obtain rfl : x = _ := List.mem_singleton.1 hx
      exact ⟨g', c', rfl, .inr (.inl rfl), byt hv⟩
  · rintro k (hk | rfl | hk)
    · exact Nat.lt_of_lt_of_le (h9 k hk) hsz
    · exact Nat.lt_of_lt_of_le (hv.lt _ rfl).2 hsz
    · have := (ho.lt k hk).2
      simpa [World.setCell] using this
  · exact ((hu2.mono fun k _ hk => hk ▸ h7).grown hg fun k hk => .inl (h8 k hk)).set (.inl h6) _
  · rintro k (hk | rfl | hk)
    · exact .inl hk
    · exact .inr (.inl rfl)
    · exact (hsub k hk).imp id .inr
theorem Dk.new {w w2 : World} {g N : Nat} {w1 : World} (hg : Blk w1 g 22 (List.replicate N (Value.slice none 0 0)).toArray) (hu : Upd No w w1) (he : g = w.heap.size) (hs : w1.heap.size = w.heap.size + 1)
    (hw2 : w2 = w1.alloc (.cells #[.slice (some ⟨g, 0, none⟩) N N, .slice none 0 0, .int .i64 (-1), .bool false] 54)) :
    Dk w2 (fun k => k = g ∨ k = w1.heap.size) w1.heap.size ⟨N, [], -1, false⟩ ∧ Below w.heap.size w w2 ∧ ∀ k, (k = g ∨ k = w1.heap.size) → w.heap.size ≤ k := by
  have hlt := hg.lt
  subst hw2
  refine ⟨⟨[], g, .slice none 0 0, rfl, Blk.fresh _ _ _, ?_, World.ownsRow_nil _ _ _ _, fun x hx => (by cases hx), .inr rfl, .inl rfl, fun k hk => by simp [Value.ownBlock] at hk, ?_⟩, (hu.alloc _).old (Nat.le_refl _), ?_⟩
  · have e : (List.range N).map (slot []) = List.replicate N (Value.slice none 0 0) := by
      apply List.ext_getElem
      · simp
      · intro i h1 h2
        simp [slot]
    rw [e]
    exact hg.alloc _
  · rintro k (rfl | rfl)
    · simp; omega
    · simp
  · rintro k (rfl | rfl) <;> omega
set_option maxHeartbeats 1000000 in
theorem new_ (n : Int) (w : World) : Calls Try.prog 9 #[.int .i64 n] w fun e w' => ∃ p F, e = .returned (.pointer (some ⟨p, 0, none⟩)) ∧ Dk w' F p ⟨(min (max n 0) 65536).toNat, [], -1, false⟩ ∧ Below w.heap.size w w' ∧ ∀ k, F k → w.heap.size ≤ k := by
  have hcase : n < 0 ∨ (0 ≤ n ∧ 65536 < n) ∨ (0 ≤ n ∧ n ≤ 65536) := by omega
  rcases hcase with h0 | ⟨h0, h1⟩ | ⟨h0, h1⟩
  · rw [show (min (max n 0) 65536).toNat = 0 from by omega]
    go_enter Try.func9, Try.ntmps9
    go_wp2_with (at_make; go_must (refine mk_blk rfl _ _ 35 22 (.slice none 0 0) 24 rfl Try.underlying35 sl_info rfl 0 0 rfl rfl rfl (by omega) (by omega) ?_); intro w1 g hgA hn1 hu1 hsA; have hg1 := hid hgA; have hs1 := hid hsA; clear hgA hsA)
    obtain ⟨k1, k2, k3⟩ := Dk.new hn1 hu1 hg1.out hs1.out rfl
    go_ret
    exact ⟨_, _, rfl, k1, k2, k3⟩
  · rw [show (min (max n 0) 65536).toNat = 65536 from by omega]
    go_enter Try.func9, Try.ntmps9
    go_wp2_with (at_make; go_must (refine mk_blk rfl _ _ 35 22 (.slice none 0 0) 24 rfl Try.underlying35 sl_info rfl 65536 65536 rfl rfl rfl (by omega) (by omega) ?_); intro w1 g hgA hn1 hu1 hsA; have hg1 := hid hgA; have hs1 := hid hsA; clear hgA hsA)
    obtain ⟨k1, k2, k3⟩ := Dk.new hn1 hu1 hg1.out hs1.out rfl
    go_ret
    exact ⟨_, _, rfl, k1, k2, k3⟩
  · obtain ⟨N, rfl⟩ : ∃ N : Nat, n = (N : Int) := ⟨n.toNat, by omega⟩
    rw [show (min (max (N : Int) 0) 65536).toNat = N from by omega]
    go_enter Try.func9, Try.ntmps9
    go_wp2_with (at_make; go_must (refine mk_blk rfl _ _ 35 22 (.slice none 0 0) 24 rfl Try.underlying35 sl_info rfl N N rfl rfl rfl (by omega) (by omega) ?_); intro w1 g hgA hn1 hu1 hsA; have hg1 := hid hgA; have hs1 := hid hsA; clear hgA hsA)
    obtain ⟨k1, k2, k3⟩ := Dk.new hn1 hu1 hg1.out hs1.out rfl
    go_ret
    exact ⟨_, _, rfl, k1, k2, k3⟩
set_option maxHeartbeats 2000000 in
/-- Write. -/
theorem write (p : Nat) (m : Dm) (F : Nat → Prop) (A : Option Addr) (c : Nat) (l : List Int) (i : Int) (w : World) (h : Dk w F p m) (hr : Rn w .u8 A l) (hF : ∀ ad, A = some ad → ¬ F ad.block) (hok : m.ok) (hlen : m.log.length ≤ 1000000) :
    Calls Try.prog 29 #[.pointer (some ⟨p, 0, none⟩), .int .i64 i, .slice A l.length c] w fun e w' => e = .returned (.int .i64 (m.wr i l).1) ∧ ∃ F', Dk w' F' p (m.wr i l).2 ∧ Mv F F' w w' := by
  have h' := hid h
  obtain ⟨ps, g, vl, h1, h2, h3, h4, h5, h6, h7, h8, h9⟩ := h
  obtain ⟨nb, log, fuse, down⟩ := m
  simp only at h1 h2 h3 hlen
  have hc0 := h2.cell 0
  have hc2 := h2.cell 2
  have hc3 := h2.cell 3
  simp at hc0 hc2 hc3
  have hf2 := h2.free 2
  have hf3 := h2.free 3
  obtain ⟨hk1, hk2, hk3⟩ := hok
  simp only at hk1 hk2 hk3
  cases down with
  | true =>
    go_enter Try.func29, Try.ntmps29
    go_wp2
    go_ret
    exact ⟨rfl, F, h'.out, Mv.refl _ _⟩
  | false =>
    by_cases hbad : i < 0 ∨ (nb : Int) ≤ i ∨ l.length ≠ 256
    · have e : (Dm.wr ⟨nb, log, fuse, false⟩ i l) = (1, ⟨nb, log, fuse, false⟩) := by simp [Dm.wr, hbad]
      rw [e]
      rcases hbad with hb | hb | hb
      · go_enter Try.func29, Try.ntmps29
        go_wp2
        go_ret
        exact ⟨rfl, F, h'.out, Mv.refl _ _⟩
      · have h0 : ¬ i < 0 := by omega
        go_enter Try.func29, Try.ntmps29
        go_wp2
        go_ret
        exact ⟨rfl, F, h'.out, Mv.refl _ _⟩
      · have hb' : ¬ (l.length : Int) = 256 := by omega
        by_cases h0 : i < 0
        · go_enter Try.func29, Try.ntmps29
          go_wp2
          go_ret
          exact ⟨rfl, F, h'.out, Mv.refl _ _⟩
        · by_cases h1 : (nb : Int) ≤ i
          · go_enter Try.func29, Try.ntmps29
            go_wp2
            go_ret
            exact ⟨rfl, F, h'.out, Mv.refl _ _⟩
          · go_enter Try.func29, Try.ntmps29
            go_wp2
            go_ret
            exact ⟨rfl, F, h'.out, Mv.refl _ _⟩
    · obtain ⟨j, rfl⟩ : ∃ j : Nat, i = (j : Int) := ⟨i.toNat, by omega⟩
      obtain ⟨hl, hj⟩ : l.length = 256 ∧ j < nb := by omega
      by_cases hf0 : fuse = 0
      · subst hf0
        rw [wr_zero nb log j l hj hl]
        clear hbad
        rw [hl]
        go_enter Try.func29, Try.ntmps29
        go_wp2
        go_ret
        refine ⟨rfl, F, h'.out.word 0 true (fun a b hb => by simpa using hb.put 3 (.bool true)) ((Upd.refl _ _).set1 _ _), (((Upd.refl _ _).set1 _ _).mono fun k _ hk => hk ▸ h6), fun k hk => .inl hk⟩
      · rw [wr_ok nb log fuse j l hj hl hf0]
        clear hbad
        rw [hl]
        by_cases hfp : 0 < fuse
        · rw [if_pos hfp]
          obtain ⟨f1, hf1e⟩ : ∃ f1 : Int, f1 = fuse - 1 := ⟨_, rfl⟩
          rw [← hf1e]
          have hwf : IntKind.i64.wrap (fuse - 1) = f1 := by rw [hf1e]; exact IntWalk.i64_in _ (by omega)
          have hD0 : Hid (Dk (w.setCell ⟨p, 2, none⟩ (.int .i64 f1)) F p ⟨nb, log, f1, false⟩) := hid (h'.out.word f1 false (fun a b hb => by simpa using hb.put 2 (.int .i64 f1)) ((Upd.refl _ _).set1 _ _))
          have HU0 : Hid (Upd F w (w.setCell ⟨p, 2, none⟩ (.int .i64 f1))) := hid ((Upd.refl _ _).set (.inl h6) _)
          have hr0 : Hid (Rn (w.setCell ⟨p, 2, none⟩ (.int .i64 f1)) .u8 A l) := hid (Rd.upd hr (by omega) HU0.out hF)
          clear h2 h3 hf1e
          go_enter Try.func29, Try.ntmps29
          go_wp2_with (fail)
          generalize hw1 : w.setCell ⟨p, 2, none⟩ (.int .i64 f1) = w1 at *
          clear hw1
          have hD1 := hD0
          have HU := HU0
          have hrn1 : Rd w1 1 A l.length (nums .u8 l) := hr0.out
          obtain ⟨ps1, g1, vl1, k1, k2, k3, k4, k5, k6, k7, k8, k9⟩ := hD1.out
          simp only at k1 k2 k3
          have hlp : ps1.length ≤ 1000000 := by
            have := congrArg List.length k1
            simp [ab] at this
            omega
          have hpg : p ≠ g1 := Blk.ne_type k2 k3 (by decide)
          have HC : Hid (∀ W, Upd No w1 W → Calls Try.prog 30 #[.slice A 256 c] W fun e W' => ∃ g' c', e = .returned (.slice (some ⟨g', 0, none⟩) 256 c') ∧ W'.ownsRow 0 5 1 (.slice (some ⟨g', 0, none⟩) 256 c') 256 (nums .u8 l) ∧ Hid (w1.heap.size ≤ g') ∧ Upd No w1 W' ∧ W'.cell? ⟨p, 0, none⟩ = some (.slice (some ⟨g1, 0, none⟩) nb nb) ∧ W'.cell? ⟨g1, j, none⟩ = some (slot ps1 j) ∧ W'.frozen? ⟨g1, j, none⟩ = false) := hid fun W hu => by
            have hrW := Rd.upd hrn1 (by omega) hu (fun ad _ => no_ _)
            rw [hl] at hrW
            refine (clone A 256 c (nums .u8 l) W hrW (nums_one .u8 l) (by omega)).mono ?_
            rintro e W' ⟨A', c', rfl, ho, hu', _⟩
            obtain ⟨g', c2, hv, hg', _⟩ := ho.form (by omega)
            simp only [Value.slice.injEq, true_and] at hv
            obtain ⟨rfl, rfl⟩ := hv
            have hu2 := hu.next hu'
            have k3' := k3.upd hu2 (no_ _)
            have e3 := k3'.cell j
            refine ⟨g', c', rfl, own_base ho (Nat.zero_le _), hid (Nat.le_trans hu.size hg'), hu2, ?_, ?_, k3'.free j⟩
            · have := (k2.upd hu2 (no_ _)).cell 0
              simpa using this
            · simpa [hj] using e3
          have kc0 := k2.cell 0
          have kc1 := k2.cell 1
          simp at kc0 kc1
          have hj1 : (0 : Int) ≤ (j : Int) := by omega
          have hj2 : (j : Int) < (nb : Int) := by omega
          have HL0 : Hid (∀ W, Upd (fun k => k = g1) w1 W → W.cell? ⟨p, 0, none⟩ = some (.slice (some ⟨g1, 0, none⟩) nb nb)) := hid fun W hu => (hu.cell k2.lt hpg).trans kc0
          refine wp_region_held_drew (S := fun W => Upd (fun k => k = g1) w1 W) (by kernel_rfl) (Upd.drew (Upd.refl _ _)) (fun hS => ?_)
          refine rg_at 0 (by decide) (fun oi hoi => ?_)
          have ho2 := hoi; simp only [List.getElem?_toArray, List.getElem?_cons_succ, List.getElem?_cons_zero, Option.some.injEq] at ho2; subst ho2
          refine rg_take (v := ?_) 0 hoi (by kernel_rfl) (by kernel_rfl) (by kernel_rfl) (fun _ _ _ h => h) (by rfl) ?_ hS ?_
          rotate_left
          · intro w _; go_simp; try with_reducible rfl
          clear hoi; try simp only [Act.put, List.setIfInBounds_toArray, List.set_cons_zero, List.set_cons_succ]
          refine rg_at 1 (by decide) (fun oi hoi => ?_)
          have ho2 := hoi; simp only [List.getElem?_toArray, List.getElem?_cons_succ, List.getElem?_cons_zero, Option.some.injEq] at ho2; subst ho2
          refine rg_take (v := ?_) 1 hoi (by kernel_rfl) (by kernel_rfl) (by kernel_rfl) (fun _ _ _ h => h) (by rfl) ?_ hS ?_
          rotate_left
          · intro w _; go_simp; try with_reducible rfl
          clear hoi; try simp only [Act.put, List.setIfInBounds_toArray, List.set_cons_zero, List.set_cons_succ]
          refine rg_at 2 (by decide) (fun oi hoi => ?_)
          have ho2 := hoi; simp only [List.getElem?_toArray, List.getElem?_cons_succ, List.getElem?_cons_zero, Option.some.injEq] at ho2; subst ho2
          refine rg_take (v := ?_) 2 hoi (by kernel_rfl) (by kernel_rfl) (by kernel_rfl) (fun _ _ _ h => h) (by rfl) ?_ hS ?_
          rotate_left
          · intro w _; go_simp; try with_reducible rfl
          clear hoi; try simp only [Act.put, List.setIfInBounds_toArray, List.set_cons_zero, List.set_cons_succ]
          refine rg_at 3 (by decide) (fun oi hoi => ?_)
          have ho2 := hoi; simp only [List.getElem?_toArray, List.getElem?_cons_succ, List.getElem?_cons_zero, Option.some.injEq] at ho2; subst ho2
          refine rg_take (v := ?_) 3 hoi (by kernel_rfl) (by kernel_rfl) (by kernel_rfl) (fun _ _ _ h => h) (by rfl) ?_ hS ?_
          rotate_left
          · intro w hw; have hf := HL0.out w hw; clear hw; go_simp; try with_reducible rfl
          clear hoi; try simp only [Act.put, List.setIfInBounds_toArray, List.set_cons_zero, List.set_cons_succ]
          refine rg_at 4 (by decide) (fun oi hoi => ?_)
          have ho2 := hoi; simp only [List.getElem?_toArray, List.getElem?_cons_succ, List.getElem?_cons_zero, Option.some.injEq] at ho2; subst ho2
          refine rg_take (v := ?_) 4 hoi (by kernel_rfl) (by kernel_rfl) (by kernel_rfl) (fun _ _ _ h => h) (by rfl) ?_ hS ?_
          rotate_left
          · intro w _; go_simp; try with_reducible rfl
          clear hoi; try simp only [Act.put, List.setIfInBounds_toArray, List.set_cons_zero, List.set_cons_succ]
          refine rg_at 5 (by decide) (fun oi hoi => ?_)
          have ho2 := hoi; simp only [List.getElem?_toArray, List.getElem?_cons_succ, List.getElem?_cons_zero, Option.some.injEq] at ho2; subst ho2
          refine rg_take (v := ?_) 5 hoi (by kernel_rfl) (by kernel_rfl) (by kernel_rfl) (fun _ _ _ h => h) (by rfl) ?_ hS ?_
          rotate_left
          · intro w _; go_simp; try with_reducible rfl
          clear hoi; try simp only [Act.put, List.setIfInBounds_toArray, List.set_cons_zero, List.set_cons_succ]
          refine rg_at 6 (by decide) (fun oi hoi => ?_)
          have ho2 := hoi; simp only [List.getElem?_toArray, List.getElem?_cons_succ, List.getElem?_cons_zero, Option.some.injEq] at ho2; subst ho2
          refine rg_call 6 (by kernel_rfl) hoi (by rfl) (fun K hK => ?_)
          clear hoi
          go_simp
          refine Calls.mono (HC.out _ (Upd.drew (Upd.refl _ _))) ?_
          rintro e w2 ⟨g2, c2, rfl, hv2, hg2, hu2, hd0, hd1, hd2⟩
          go_wp2_with (fail)
          refine hK.out _ _ (hu2.mono (fun _ _ h => h.elim)) (fun hS => ?_)
          clear hK K
          try simp only [Act.put, List.setIfInBounds_toArray, List.set_cons_zero, List.set_cons_succ]
          refine rg_at 7 (by decide) (fun oi hoi => ?_)
          have ho2 := hoi; simp only [List.getElem?_toArray, List.getElem?_cons_succ, List.getElem?_cons_zero, Option.some.injEq] at ho2; subst ho2
          refine rg_take (v := ?_) 7 hoi (by kernel_rfl) (by kernel_rfl) (by kernel_rfl) (fun _ _ _ h => h) (by rfl) ?_ hS ?_
          rotate_left
          · intro w _; go_simp; try with_reducible rfl
          clear hoi; try simp only [Act.put, List.setIfInBounds_toArray, List.set_cons_zero, List.set_cons_succ]
          refine rg_at 8 (by decide) (fun oi hoi => ?_)
          have ho2 := hoi; simp only [List.getElem?_toArray, List.getElem?_cons_succ, List.getElem?_cons_zero, Option.some.injEq] at ho2; subst ho2
          refine rg_call 8 (by kernel_rfl) hoi (by rfl) (fun K hK => ?_)
          clear hoi
          skip
          go_simp
          refine hK.out _ _ (Upd.set1 (hu2.mono (fun _ _ h => h.elim)) _ _) (fun hS => ?_)
          clear hK K
          try simp only [Act.put, List.setIfInBounds_toArray, List.set_cons_zero, List.set_cons_succ]
          refine wpAnyH_done (by kernel_rfl) ?_ _
          have q2 := k2.upd hu2 (no_ _)
          have q3 := k3.upd hu2 (no_ _)
          have q4 := own_upd k4 hu2 (fun _ _ => no_ _)
          have q5 : ∀ x ∈ ps1, Okb w2 F x := fun x hx => (k5 x hx).upd hu2 (fun _ _ => no_ _)
          have u3 : Upd (fun k => k = g1) w2 (w2.setCell ⟨g1, j, none⟩ (.slice (some ⟨g2, 0, none⟩) 256 c2)) := (Upd.refl _ _).set1 _ _
          have b3 := q3.put j (.slice (some ⟨g2, 0, none⟩) 256 c2)
          have p3 := q2.upd u3 hpg
          have o3 := own_upd q4 u3 (fun k hk e => own_blk_ne q4 q3 (by decide) (e ▸ hk))
          have e0 := p3.cell 0
          have e1 := p3.cell 1
          have e2 := b3.cell j
          simp [hj] at e0 e1 e2
          clear hd0 hd1 hd2 hS
          generalize hw3 : w2.setCell ⟨g1, j, none⟩ (.slice (some ⟨g2, 0, none⟩) 256 c2) = w3 at *
          clear hw3
          have e3 : ∀ o, (w3.alloc o).cell? ⟨p, 1, none⟩ = some vl1 := fun o => by simpa using (p3.alloc o).cell 1
          have hle1 : ps1.length + 1 ≤ 9223372036854775807 := by omega
          have hle2 : (ps1.length + 1) * 32 ≤ 140737488355328 := by omega
          go_wp2
          go_region_law ((refine step_ap_row 0 (by rfl) (.tmp 67) (.tmp 77) 52 62 (.agg #[.int .i64 0, .slice none 0 0]) 2 32 (by rfl) Try.underlying52 wr_info rfl (by omega) vl1 ps1.length (wcells ps1) (some ⟨w3.heap.size, 0, none⟩) 1 1 [.int .i64 j, .slice (some ⟨g2, 0, none⟩) 256 c2] (by rfl) (by rfl) (own_drew (o3.alloc _)) (Rd.drew (Rd_lit w3 _ 2 1 _ rfl)) (by intro u hu; simp at hu; rcases hu with rfl | rfl <;> rfl) hle1 hle2 (Nat.zero_le _) ?_; intro A3 c3 w4 ho4 hg4 hat4; have p4 := ((p3.alloc _).drew).grown hg4 (own_blk_ne o3 p3 (by decide)).symm; have hf4 := p4.free 1; have hc4 := p4.cell 1; simp at hc4))
          all_goals
            obtain ⟨F', hD, hU, hs⟩ := Dk.wrote (m := ⟨nb, log, f1, false⟩) k1 q2 q3 q4 q5 k6 k7 k8 (fun k hk => Nat.lt_of_lt_of_le (k9 k hk) hu2.size) hv2 hj (u3.alloc _).drew ((b3.alloc _).drew) ho4 hg4 hat4
            go_wp2
            go_ret
            refine ⟨rfl, F', hD, ((HU.out.trans hu2 (fun _ _ h => h.elim)).trans hU fun _ _ h => h), fun k hk => (hs k hk).imp id fun h => ?_⟩
            have hsz := HU.out.size
            have hsz2 := hu2.size
            have hg2' := hg2.out
            omega
        · rw [if_neg hfp]
          clear h2 h3
          go_enter Try.func29, Try.ntmps29
          go_wp2_with (fail)
          obtain ⟨w1, rfl⟩ : ∃ w1 : World, w1 = w := ⟨_, rfl⟩
          have hD1 := h'
          have HU : Hid (Upd F w1 w1) := hid (Upd.refl _ _)
          have hrn1 : Rd w1 1 A l.length (nums .u8 l) := hr
          obtain ⟨ps1, g1, vl1, k1, k2, k3, k4, k5, k6, k7, k8, k9⟩ := hD1.out
          simp only at k1 k2 k3
          have hlp : ps1.length ≤ 1000000 := by
            have := congrArg List.length k1
            simp [ab] at this
            omega
          have hpg : p ≠ g1 := Blk.ne_type k2 k3 (by decide)
          have HC : Hid (∀ W, Upd No w1 W → Calls Try.prog 30 #[.slice A 256 c] W fun e W' => ∃ g' c', e = .returned (.slice (some ⟨g', 0, none⟩) 256 c') ∧ W'.ownsRow 0 5 1 (.slice (some ⟨g', 0, none⟩) 256 c') 256 (nums .u8 l) ∧ Hid (w1.heap.size ≤ g') ∧ Upd No w1 W' ∧ W'.cell? ⟨p, 0, none⟩ = some (.slice (some ⟨g1, 0, none⟩) nb nb) ∧ W'.cell? ⟨g1, j, none⟩ = some (slot ps1 j) ∧ W'.frozen? ⟨g1, j, none⟩ = false) := hid fun W hu => by
            have hrW := Rd.upd hrn1 (by omega) hu (fun ad _ => no_ _)
            rw [hl] at hrW
            refine (clone A 256 c (nums .u8 l) W hrW (nums_one .u8 l) (by omega)).mono ?_
            rintro e W' ⟨A', c', rfl, ho, hu', _⟩
            obtain ⟨g', c2, hv, hg', _⟩ := ho.form (by omega)
            simp only [Value.slice.injEq, true_and] at hv
            obtain ⟨rfl, rfl⟩ := hv
            have hu2 := hu.next hu'
            have k3' := k3.upd hu2 (no_ _)
            have e3 := k3'.cell j
            refine ⟨g', c', rfl, own_base ho (Nat.zero_le _), hid (Nat.le_trans hu.size hg'), hu2, ?_, ?_, k3'.free j⟩
            · have := (k2.upd hu2 (no_ _)).cell 0
              simpa using this
            · simpa [hj] using e3
          have kc0 := k2.cell 0
          have kc1 := k2.cell 1
          simp at kc0 kc1
          have hj1 : (0 : Int) ≤ (j : Int) := by omega
          have hj2 : (j : Int) < (nb : Int) := by omega
          have HL0 : Hid (∀ W, Upd (fun k => k = g1) w1 W → W.cell? ⟨p, 0, none⟩ = some (.slice (some ⟨g1, 0, none⟩) nb nb)) := hid fun W hu => (hu.cell k2.lt hpg).trans kc0
          refine wp_region_held_drew (S := fun W => Upd (fun k => k = g1) w1 W) (by kernel_rfl) (Upd.drew (Upd.refl _ _)) (fun hS => ?_)
          refine rg_at 0 (by decide) (fun oi hoi => ?_)
          have ho2 := hoi; simp only [List.getElem?_toArray, List.getElem?_cons_succ, List.getElem?_cons_zero, Option.some.injEq] at ho2; subst ho2
          refine rg_take (v := ?_) 0 hoi (by kernel_rfl) (by kernel_rfl) (by kernel_rfl) (fun _ _ _ h => h) (by rfl) ?_ hS ?_
          rotate_left
          · intro w _; go_simp; try with_reducible rfl
          clear hoi; try simp only [Act.put, List.setIfInBounds_toArray, List.set_cons_zero, List.set_cons_succ]
          refine rg_at 1 (by decide) (fun oi hoi => ?_)
          have ho2 := hoi; simp only [List.getElem?_toArray, List.getElem?_cons_succ, List.getElem?_cons_zero, Option.some.injEq] at ho2; subst ho2
          refine rg_take (v := ?_) 1 hoi (by kernel_rfl) (by kernel_rfl) (by kernel_rfl) (fun _ _ _ h => h) (by rfl) ?_ hS ?_
          rotate_left
          · intro w _; go_simp; try with_reducible rfl
          clear hoi; try simp only [Act.put, List.setIfInBounds_toArray, List.set_cons_zero, List.set_cons_succ]
          refine rg_at 2 (by decide) (fun oi hoi => ?_)
          have ho2 := hoi; simp only [List.getElem?_toArray, List.getElem?_cons_succ, List.getElem?_cons_zero, Option.some.injEq] at ho2; subst ho2
          refine rg_take (v := ?_) 2 hoi (by kernel_rfl) (by kernel_rfl) (by kernel_rfl) (fun _ _ _ h => h) (by rfl) ?_ hS ?_
          rotate_left
          · intro w _; go_simp; try with_reducible rfl
          clear hoi; try simp only [Act.put, List.setIfInBounds_toArray, List.set_cons_zero, List.set_cons_succ]
          refine rg_at 3 (by decide) (fun oi hoi => ?_)
          have ho2 := hoi; simp only [List.getElem?_toArray, List.getElem?_cons_succ, List.getElem?_cons_zero, Option.some.injEq] at ho2; subst ho2
          refine rg_take (v := ?_) 3 hoi (by kernel_rfl) (by kernel_rfl) (by kernel_rfl) (fun _ _ _ h => h) (by rfl) ?_ hS ?_
          rotate_left
          · intro w hw; have hf := HL0.out w hw; clear hw; go_simp; try with_reducible rfl
          clear hoi; try simp only [Act.put, List.setIfInBounds_toArray, List.set_cons_zero, List.set_cons_succ]
          refine rg_at 4 (by decide) (fun oi hoi => ?_)
          have ho2 := hoi; simp only [List.getElem?_toArray, List.getElem?_cons_succ, List.getElem?_cons_zero, Option.some.injEq] at ho2; subst ho2
          refine rg_take (v := ?_) 4 hoi (by kernel_rfl) (by kernel_rfl) (by kernel_rfl) (fun _ _ _ h => h) (by rfl) ?_ hS ?_
          rotate_left
          · intro w _; go_simp; try with_reducible rfl
          clear hoi; try simp only [Act.put, List.setIfInBounds_toArray, List.set_cons_zero, List.set_cons_succ]
          refine rg_at 5 (by decide) (fun oi hoi => ?_)
          have ho2 := hoi; simp only [List.getElem?_toArray, List.getElem?_cons_succ, List.getElem?_cons_zero, Option.some.injEq] at ho2; subst ho2
          refine rg_take (v := ?_) 5 hoi (by kernel_rfl) (by kernel_rfl) (by kernel_rfl) (fun _ _ _ h => h) (by rfl) ?_ hS ?_
          rotate_left
          · intro w _; go_simp; try with_reducible rfl
          clear hoi; try simp only [Act.put, List.setIfInBounds_toArray, List.set_cons_zero, List.set_cons_succ]
          refine rg_at 6 (by decide) (fun oi hoi => ?_)
          have ho2 := hoi; simp only [List.getElem?_toArray, List.getElem?_cons_succ, List.getElem?_cons_zero, Option.some.injEq] at ho2; subst ho2
          refine rg_call 6 (by kernel_rfl) hoi (by rfl) (fun K hK => ?_)
          clear hoi
          go_simp
          refine Calls.mono (HC.out _ (Upd.drew (Upd.refl _ _))) ?_
          rintro e w2 ⟨g2, c2, rfl, hv2, hg2, hu2, hd0, hd1, hd2⟩
          go_wp2_with (fail)
          refine hK.out _ _ (hu2.mono (fun _ _ h => h.elim)) (fun hS => ?_)
          clear hK K
          try simp only [Act.put, List.setIfInBounds_toArray, List.set_cons_zero, List.set_cons_succ]
          refine rg_at 7 (by decide) (fun oi hoi => ?_)
          have ho2 := hoi; simp only [List.getElem?_toArray, List.getElem?_cons_succ, List.getElem?_cons_zero, Option.some.injEq] at ho2; subst ho2
          refine rg_take (v := ?_) 7 hoi (by kernel_rfl) (by kernel_rfl) (by kernel_rfl) (fun _ _ _ h => h) (by rfl) ?_ hS ?_
          rotate_left
          · intro w _; go_simp; try with_reducible rfl
          clear hoi; try simp only [Act.put, List.setIfInBounds_toArray, List.set_cons_zero, List.set_cons_succ]
          refine rg_at 8 (by decide) (fun oi hoi => ?_)
          have ho2 := hoi; simp only [List.getElem?_toArray, List.getElem?_cons_succ, List.getElem?_cons_zero, Option.some.injEq] at ho2; subst ho2
          refine rg_call 8 (by kernel_rfl) hoi (by rfl) (fun K hK => ?_)
          clear hoi
          skip
          go_simp
          refine hK.out _ _ (Upd.set1 (hu2.mono (fun _ _ h => h.elim)) _ _) (fun hS => ?_)
          clear hK K
          try simp only [Act.put, List.setIfInBounds_toArray, List.set_cons_zero, List.set_cons_succ]
          refine wpAnyH_done (by kernel_rfl) ?_ _
          have q2 := k2.upd hu2 (no_ _)
          have q3 := k3.upd hu2 (no_ _)
          have q4 := own_upd k4 hu2 (fun _ _ => no_ _)
          have q5 : ∀ x ∈ ps1, Okb w2 F x := fun x hx => (k5 x hx).upd hu2 (fun _ _ => no_ _)
          have u3 : Upd (fun k => k = g1) w2 (w2.setCell ⟨g1, j, none⟩ (.slice (some ⟨g2, 0, none⟩) 256 c2)) := (Upd.refl _ _).set1 _ _
          have b3 := q3.put j (.slice (some ⟨g2, 0, none⟩) 256 c2)
          have p3 := q2.upd u3 hpg
          have o3 := own_upd q4 u3 (fun k hk e => own_blk_ne q4 q3 (by decide) (e ▸ hk))
          have e0 := p3.cell 0
          have e1 := p3.cell 1
          have e2 := b3.cell j
          simp [hj] at e0 e1 e2
          clear hd0 hd1 hd2 hS
          generalize hw3 : w2.setCell ⟨g1, j, none⟩ (.slice (some ⟨g2, 0, none⟩) 256 c2) = w3 at *
          clear hw3
          have e3 : ∀ o, (w3.alloc o).cell? ⟨p, 1, none⟩ = some vl1 := fun o => by simpa using (p3.alloc o).cell 1
          have hle1 : ps1.length + 1 ≤ 9223372036854775807 := by omega
          have hle2 : (ps1.length + 1) * 32 ≤ 140737488355328 := by omega
          go_wp2
          go_region_law ((refine step_ap_row 0 (by rfl) (.tmp 67) (.tmp 77) 52 62 (.agg #[.int .i64 0, .slice none 0 0]) 2 32 (by rfl) Try.underlying52 wr_info rfl (by omega) vl1 ps1.length (wcells ps1) (some ⟨w3.heap.size, 0, none⟩) 1 1 [.int .i64 j, .slice (some ⟨g2, 0, none⟩) 256 c2] (by rfl) (by rfl) (own_drew (o3.alloc _)) (Rd.drew (Rd_lit w3 _ 2 1 _ rfl)) (by intro u hu; simp at hu; rcases hu with rfl | rfl <;> rfl) hle1 hle2 (Nat.zero_le _) ?_; intro A3 c3 w4 ho4 hg4 hat4; have p4 := ((p3.alloc _).drew).grown hg4 (own_blk_ne o3 p3 (by decide)).symm; have hf4 := p4.free 1; have hc4 := p4.cell 1; simp at hc4))
          all_goals
            obtain ⟨F', hD, hU, hs⟩ := Dk.wrote (m := ⟨nb, log, fuse, false⟩) k1 q2 q3 q4 q5 k6 k7 k8 (fun k hk => Nat.lt_of_lt_of_le (k9 k hk) hu2.size) hv2 hj (u3.alloc _).drew ((b3.alloc _).drew) ho4 hg4 hat4
            go_wp2
            go_ret
            refine ⟨rfl, F', hD, ((HU.out.trans hu2 (fun _ _ h => h.elim)).trans hU fun _ _ h => h), fun k hk => (hs k hk).imp id fun h => ?_⟩
            have hsz := HU.out.size
            have hsz2 := hu2.size
            have hg2' := hg2.out
            omega
end Go.Proofs.Ytbcmaobopglooaa.Dk
