/-
  Small laws on worlds that this seat's walks share: what a call may turn ('Upd'), blocks that are known whole ('Blk'), rows of the call's own, sets of blocks.
-/
import Derived.WalkKit
import Derived.WalkSpells
import Derived.WalkLawsBesides
import Derived.Maps.AppendAt
import Derived.Deep.Draws
import Derived.Deep.AppendLies
import Derived.Laws.MakeOwn
import Derived.Laws.BytesArg
import Derived.Lib.ConvBytes
import Derived.Lib.AppendStr
import Derived.Lib.SlBytesConst
import Derived.KernelRfl
import Derived.Deep.OwnRows
set_option linter.unusedVariables false
set_option linter.unusedSimpArgs false
namespace Go.Proofs.Ytlicimkpgnemeaa.B
open Go.RowKit Go.Lib

/-- w' is w, but for the blocks of F, and for new ones. -/
structure Upd (F : Nat → Prop) (w w' : World) : Prop where
  os : w'.os = w.os
  tape : w'.tape = w.tape
  output : w'.output = w.output
  size : w.heap.size ≤ w'.heap.size
  block : ∀ k, k < w.heap.size → ¬ F k → w'.heap[k]? = w.heap[k]?

/-- A fact kept from the walk. -/
theorem hid {p : Prop} (h : p) : Hid p := h
def No : Nat → Prop := fun _ => False
theorem no_ (k : Nat) : ¬ No k := fun h => h

theorem Upd.refl (F : Nat → Prop) (w : World) : Upd F w w := ⟨rfl, rfl, rfl, Nat.le_refl _, fun _ _ _ => rfl⟩
theorem Upd.mono {F G : Nat → Prop} {w w' : World} (h : Upd F w w') (hg : ∀ k, k < w.heap.size → F k → G k) : Upd G w w' :=
  ⟨h.os, h.tape, h.output, h.size, fun k hk hn => h.block k hk fun hf => hn (hg k hk hf)⟩
theorem Upd.trans {F G : Nat → Prop} {a b c : World} (h : Upd F a b) (k : Upd G b c) (hg : ∀ i, i < a.heap.size → G i → F i) : Upd F a c :=
  ⟨k.os.trans h.os, k.tape.trans h.tape, k.output.trans h.output, Nat.le_trans h.size k.size, fun i hi hn => (k.block i (Nat.lt_of_lt_of_le hi h.size) fun hf => hn (hg i hi hf)).trans (h.block i hi hn)⟩
theorem Upd.drew {F : Nat → Prop} {a w : World} (h : Upd F a w) : Upd F a w.drew := ⟨h.os, h.tape, h.output, h.size, h.block⟩
theorem Upd.of_drew {F : Nat → Prop} {a w : World} (h : Upd F a.drew w) : Upd F a w := ⟨h.os, h.tape, h.output, h.size, h.block⟩
theorem Upd.next {F : Nat → Prop} {a b c : World} (h : Upd F a b) (k : Upd F b c) : Upd F a c := h.trans k fun _ _ h => h
theorem Upd.old {w w' : World} (h : Upd No w w') {B : Nat} (hB : B ≤ w.heap.size) : Below B w w' := ⟨h.os, h.tape, h.output, h.size, fun k hk => h.block k (by omega) fun hf => hf⟩
theorem Upd.drewN {F : Nat → Prop} {a w : World} (h : Upd F a w) (n : Nat) : Upd F a (w.drewN n) := ⟨h.os, h.tape, h.output, h.size, h.block⟩
theorem Upd.alloc {F : Nat → Prop} {a w : World} (h : Upd F a w) (o : Obj) : Upd F a (w.alloc o) :=
  ⟨h.os, h.tape, h.output, by have := h.size; simp; omega, fun k hk hn => (Below.heap_alloc w o k (Nat.lt_of_lt_of_le hk h.size)).trans (h.block k hk hn)⟩
theorem Upd.set {F : Nat → Prop} {a w : World} (h : Upd F a w) {p : Addr} (hp : F p.block ∨ a.heap.size ≤ p.block) (u : Value) : Upd F a (w.setCell p u) :=
  ⟨h.os, h.tape, h.output, by simpa [World.setCell] using h.size, fun k hk hn => (Below.heap_setCell w p u k (by
    rintro rfl
    rcases hp with hp | hp
    · exact hn hp
    · omega)).trans (h.block k hk hn)⟩
theorem Upd.set1 {g : Nat} {a w : World} (h : Upd (fun k => k = g) a w) (i : Nat) (u : Value) : Upd (fun k => k = g) a (w.setCell ⟨g, i, none⟩ u) := h.set (.inl rfl) u
theorem Upd.grown {F : Nat → Prop} {a w w' : World} {row : Option Nat} (h : Upd F a w) (hg : w.grownBy w' row) (hr : ∀ k, row = some k → F k ∨ a.heap.size ≤ k) : Upd F a w' :=
  ⟨hg.os.trans h.os, hg.tape.trans h.tape, hg.output.trans h.output, Nat.le_trans h.size hg.size, fun k hk hn => (hg.block k (Nat.lt_of_lt_of_le hk h.size) (fun e => by
    rcases hr k e.symm with hp | hp
    · exact hn hp
    · omega)).trans (h.block k hk hn)⟩
theorem Upd.below {F : Nat → Prop} {w w' : World} (h : Upd F w w') {B : Nat} (hB : B ≤ w.heap.size) (hF : ∀ k, F k → B ≤ k) : Below B w w' :=
  ⟨h.os, h.tape, h.output, h.size, fun k hk => h.block k (by omega) fun hf => by have := hF k hf; omega⟩
theorem Upd.of_below {w w' : World} (F : Nat → Prop) (h : Below w.heap.size w w') : Upd F w w' := ⟨h.os, h.tape, h.output, h.size, fun k hk _ => h.block k hk⟩
theorem Upd.cell {F : Nat → Prop} {w w' : World} (h : Upd F w w') {p : Addr} (hp : p.block < w.heap.size) (hn : ¬ F p.block) : w'.cell? p = w.cell? p := World.cell?_of_block (w := w) (h.block p.block hp hn)
theorem Upd.frozen {F : Nat → Prop} {w w' : World} (h : Upd F w w') {p : Addr} (hp : p.block < w.heap.size) (hn : ¬ F p.block) : w'.frozen? p = w.frozen? p := World.frozen?_of_block (w := w) (h.block p.block hp hn)

/-- What a call on an object of blocks F does to memory: the object's blocks are F' behind it. -/
structure Mv (F F' : Nat → Prop) (w w' : World) : Prop where
  upd : Upd F w w'
  sub : ∀ k, F' k → F k ∨ w.heap.size ≤ k
theorem Mv.refl (F : Nat → Prop) (w : World) : Mv F F w w := ⟨Upd.refl _ _, fun _ h => .inl h⟩
theorem Mv.trans {F G H : Nat → Prop} {a b c : World} (h : Mv F G a b) (k : Mv G H b c) : Mv F H a c :=
  ⟨h.upd.trans k.upd fun i hi hg => (h.sub i hg).elim id fun hs => absurd hs (by omega), fun i hi => (k.sub i hi).elim (h.sub i) fun hs => .inr (Nat.le_trans h.upd.size hs)⟩
theorem Mv.quiet {F : Nat → Prop} {w w' : World} (h : Below w.heap.size w w') : Mv F F w w' := ⟨Upd.of_below _ h, fun _ h => .inl h⟩

/-- Block g is just the cells cs, of element type t, and may be written. -/
def Blk (w : World) (g : Nat) (t : TypeId) (cs : Array Value) : Prop := w.heap[g]? = some (.cells cs t (0, 0))
section
variable {w w' : World} {g : Nat} {t : TypeId} {cs : Array Value}
theorem Blk.lt (h : Blk w g t cs) : g < w.heap.size := (Array.getElem?_eq_some_iff.1 h).1
theorem Blk.cell (h : Blk w g t cs) (i : Nat) : w.cell? ⟨g, i, none⟩ = cs[i]? := cell_of_row w g i cs t (0, 0) h
theorem Blk.free (h : Blk w g t cs) (i : Nat) : w.frozen? ⟨g, i, none⟩ = false := by
  unfold Blk at h
  simp [World.frozen?, h]
theorem Blk.fresh (w : World) (t : TypeId) (cs : Array Value) : Blk (w.alloc (.cells cs t)) w.heap.size t cs := heap_alloc_new w _
theorem Blk.drew (h : Blk w g t cs) : Blk w.drew g t cs := h
theorem Blk.drewN (h : Blk w g t cs) (n : Nat) : Blk (w.drewN n) g t cs := h
theorem Blk.alloc (h : Blk w g t cs) (o : Obj) : Blk (w.alloc o) g t cs := (Below.heap_alloc w o g h.lt).trans h
theorem Blk.put (h : Blk w g t cs) (i : Nat) (u : Value) : Blk (w.setCell ⟨g, i, none⟩ u) g t (cs.setIfInBounds i u) := by
  unfold Blk at h ⊢
  simp [World.setCell, Array.getElem?_modify, h]
theorem Blk.far (h : Blk w g t cs) {p : Addr} (hp : g ≠ p.block) (u : Value) : Blk (w.setCell p u) g t cs := (Below.heap_setCell w p u g hp).trans h
theorem Blk.keep (h : Blk w g t cs) (hb : w'.heap[g]? = w.heap[g]?) : Blk w' g t cs := hb.trans h
theorem Blk.grown {row : Option Nat} (h : Blk w g t cs) (hb : w.grownBy w' row) (hg : some g ≠ row) : Blk w' g t cs := (hb.block g h.lt hg).trans h
theorem Blk.upd {F : Nat → Prop} (h : Blk w g t cs) (hu : Upd F w w') (hn : ¬ F g) : Blk w' g t cs := (hu.block g h.lt hn).trans h
theorem Blk.ne_type {g' : Nat} {t' : TypeId} {cs' : Array Value} (h : Blk w g t cs) (h' : Blk w g' t' cs') (hne : t ≠ t') : g ≠ g' := by
  rintro rfl
  unfold Blk at h h'
  rw [h] at h'
  injection h' with h'
  injection h' with _ ht
  exact hne ht
end

/-! ### rows of the call's own -/
section
variable {w w' : World} {base e size n : Nat} {v : Value} {xs : List Value}
theorem own_keep (h : w.ownsRow base e size v n xs) (hk : ∀ g, v.ownBlock = some g → w'.heap[g]? = w.heap[g]?) : w'.ownsRow base e size v n xs := by
  refine ⟨h.1, ?_⟩
  rcases h.2 with h2 | ⟨g, cap, cur, rfl, hb, hh, r⟩
  · exact .inl h2
  · exact .inr ⟨g, cap, cur, rfl, hb, (hk g rfl).trans hh, r⟩
theorem own_upd {F : Nat → Prop} (h : w.ownsRow base e size v n xs) (hu : Upd F w w') (hn : ∀ g, v.ownBlock = some g → ¬ F g) : w'.ownsRow base e size v n xs :=
  own_keep h fun g hg => hu.block g (h.lt g hg).2 (hn g hg)
theorem own_drew (h : w.ownsRow base e size v n xs) : w.drew.ownsRow base e size v n xs := h
theorem own_blk_ne {g : Nat} {t : TypeId} {cs : Array Value} (h : w.ownsRow base e size v n xs) (hg : Blk w g t cs) (hne : e ≠ t) : v.ownBlock ≠ some g := by
  rcases h.2 with ⟨rfl, _⟩ | ⟨g', cap, cur, rfl, _, hh, _⟩
  · simp [Value.ownBlock]
  · intro he
    have : g' = g := by simpa [Value.ownBlock] using he
    subst this
    exact Blk.ne_type (t := e) hh hg hne rfl
theorem own_blk (h : w.ownsRow base e size v n xs) {k : Nat} (hk : v.ownBlock = some k) : ∃ cs, Blk w k e cs := by
  rcases h.2 with ⟨rfl, _⟩ | ⟨g, cap, cur, rfl, _, hh, _⟩
  · simp [Value.ownBlock] at hk
  · have : g = k := by simpa [Value.ownBlock] using hk
    subst this
    exact ⟨_, hh⟩
theorem own_own_ne {base' e' size' n' : Nat} {v' : Value} {xs' : List Value} (h : w.ownsRow base e size v n xs) (h' : w.ownsRow base' e' size' v' n' xs') (hne : e ≠ e') {k : Nat} (hk : v.ownBlock = some k) : v'.ownBlock ≠ some k := by
  obtain ⟨cs, hb⟩ := own_blk h hk
  exact own_blk_ne h' hb (Ne.symm hne)
theorem own_len (h : w.ownsRow base e size v n xs) : n ≤ maxLen := by
  rcases h.2 with ⟨_, rfl⟩ | ⟨g, cap, cur, _, _, _, h1, h2, _⟩
  · exact Nat.zero_le _
  · exact Nat.le_trans h1 h2
theorem own_shape (h : w.ownsRow base e size v n xs) : ∃ A c, v = .slice A n c ∧ n ≤ c ∧ c ≤ maxLen := by
  rcases h.2 with ⟨rfl, rfl⟩ | ⟨g, cap, cur, rfl, _, _, h1, h2, _⟩
  · exact ⟨none, 0, rfl, Nat.le_refl _, Nat.zero_le _⟩
  · exact ⟨_, cap, rfl, h1, h2⟩
theorem own_base (h : w.ownsRow base e size v n xs) {b : Nat} (hb : b ≤ base) : w.ownsRow b e size v n xs := by
  refine ⟨h.1, ?_⟩
  rcases h.2 with h2 | ⟨g, cap, cur, rfl, hg, r⟩
  · exact .inl h2
  · exact .inr ⟨g, cap, cur, rfl, by omega, r⟩
end
def nums (k : IntKind) (xs : List Int) : List Value := xs.map fun x => .int k x
theorem nums_length (k : IntKind) (xs : List Int) : (nums k xs).length = xs.length := by simp [nums]
theorem nums_append (k : IntKind) (xs ys : List Int) : nums k (xs ++ ys) = nums k xs ++ nums k ys := by simp [nums]
theorem add_plain (g j : Nat) : (⟨g, 0, none⟩ : Addr).add j = ⟨g, j, none⟩ := by unfold Addr.add; split <;> simp_all
theorem nums_one (k : IntKind) (xs : List Int) : ∀ u ∈ nums k xs, u.oneCell' = true := by
  intro u hu
  simp only [nums, List.mem_map] at hu
  obtain ⟨x, _, rfl⟩ := hu
  rfl

/-- x, boxed for an append, lies at the newest block. -/
theorem news_one (w : World) (e : TypeId) (u : Value) : ∀ j y, [u][j]? = some y → (w.alloc (.cells #[u] e)).cell? ((⟨w.heap.size, 0, none⟩ : Addr).add j) = some y := by
  intro j y hj
  match j, hj with
  | 0, hj =>
    simp at hj
    subst hj
    rw [add_plain, cell_of_row _ _ _ #[u] e (0, 0) (heap_alloc_new w _)]
    rfl
/-! ### a slice that is read, nil let in -/
def Rd (w : World) (size : Nat) (A : Option Addr) (n : Nat) (xs : List Value) : Prop :=
  xs.length = n * size ∧ (0 < n → ∃ ad, A = some ad ∧ ∀ j u, xs[j]? = some u → w.cell? (ad.add j) = some u)
theorem Addr_add_block (a : Addr) (n : Nat) : (a.add n).block = a.block := by unfold Addr.add; split <;> rfl
theorem Addr_add_add (a : Addr) (i j : Nat) : (a.add i).add j = a.add (i + j) := by
  unfold Addr.add
  by_cases hi : i = 0 <;> by_cases hj : j = 0 <;> simp [hi, hj, Nat.add_assoc]
section
variable {w w' : World} {size n : Nat} {A : Option Addr} {xs : List Value}
theorem Rd.nil_ (w : World) (size : Nat) (A : Option Addr) : Rd w size A 0 [] := ⟨by simp, fun h => absurd h (by omega)⟩
theorem Rd.keep (h : Rd w size A n xs) (hk : ∀ ad, A = some ad → w'.heap[ad.block]? = w.heap[ad.block]?) : Rd w' size A n xs :=
  ⟨h.1, fun hn => by
    obtain ⟨ad, e, hc⟩ := h.2 hn
    exact ⟨ad, e, fun j u hu => (World.cell?_of_block (w := w) (by rw [Addr_add_block]; exact hk ad e)).trans (hc j u hu)⟩⟩
theorem Rd.lt (h : Rd w size A n xs) (hn : 0 < n) (hs : 0 < size) : ∃ ad, A = some ad ∧ ad.block < w.heap.size := by
  obtain ⟨ad, e, hc⟩ := h.2 hn
  have hl : 0 < xs.length := by rw [h.1]; exact Nat.mul_pos hn hs
  refine ⟨ad, e, ?_⟩
  have := World.block_lt_of_cell? w _ (hc 0 xs[0] (List.getElem?_eq_getElem hl))
  rwa [Addr_add_block] at this
theorem Rd.upd {F : Nat → Prop} (h : Rd w size A n xs) (hs : 0 < size) (hu : Upd F w w') (hn : ∀ ad, A = some ad → ¬ F ad.block) : Rd w' size A n xs :=
  ⟨h.1, fun h0 => by
    obtain ⟨ad, e, hl⟩ := h.lt h0 hs
    obtain ⟨ad', e', hc⟩ := h.2 h0
    rw [e] at e'
    injection e' with e'
    subst e'
    exact ⟨ad, e, fun j u hj => (World.cell?_of_block (w := w) (by rw [Addr_add_block]; exact hu.block _ hl (hn ad e))).trans (hc j u hj)⟩⟩
theorem Rd.below (h : Rd w size A n xs) (hs : 0 < size) (hb : Below w.heap.size w w') : Rd w' size A n xs := h.upd hs (Upd.of_below No hb) fun _ _ => no_ _
theorem Rd.at_ {k : Nat} (h : Rd w 1 A n xs) (hk : k < n) : ∃ ad u, A = some ad ∧ xs[k]? = some u ∧ w.cell? (ad.add k) = some u := by
  obtain ⟨ad, e, hc⟩ := h.2 (by omega)
  have hl : k < xs.length := by have := h.1; omega
  exact ⟨ad, xs[k], e, List.getElem?_eq_getElem hl, hc k _ (List.getElem?_eq_getElem hl)⟩
theorem Rd.drew (h : Rd w size A n xs) : Rd w.drew size A n xs := h
theorem Rd.alloc (h : Rd w size A n xs) (hs : 0 < size) (o : Obj) : Rd (w.alloc o) size A n xs := h.upd hs ((Upd.refl No w).alloc o) fun _ _ => no_ _
theorem Rd.take (h : Rd w size A n xs) {k : Nat} (hk : k ≤ n) : Rd w size A k (xs.take (k * size)) := by
  refine ⟨by rw [List.length_take, h.1]; exact Nat.min_eq_left (Nat.mul_le_mul_right _ hk), fun h0 => ?_⟩
  obtain ⟨ad, e, hc⟩ := h.2 (by omega)
  refine ⟨ad, e, fun j u hj => hc j u ?_⟩
  rw [List.getElem?_take] at hj
  split at hj
  · exact hj
  · cases hj
theorem Rd.drop (h : Rd w size A n xs) {k c : Nat} (hk : k ≤ n) (hc : n ≤ c) : Rd w size (if c = k then A else A.map (·.add (k * size))) (n - k) (xs.drop (k * size)) := by
  refine ⟨by rw [List.length_drop, h.1, Nat.sub_mul], fun hn => ?_⟩
  obtain ⟨ad, rfl, hcell⟩ := h.2 (by omega)
  rw [if_neg (by omega)]
  refine ⟨ad.add (k * size), rfl, fun j u hu => ?_⟩
  rw [Addr_add_add]
  exact hcell _ u (by rw [← hu, List.getElem?_drop])
end
theorem Rn_of_own {w : World} {base e c : Nat} {k : IntKind} {A : Option Addr} {l : List Int} (h : w.ownsRow base e 1 (.slice A l.length c) l.length (nums k l)) : Rd w 1 A l.length (nums k l) := by
  refine ⟨h.1, fun hn => ?_⟩
  obtain ⟨g, cap, hv, _, hlt⟩ := h.form hn
  have hA : A = some ⟨g, 0, none⟩ := by injection hv
  subst hA
  exact ⟨_, rfl, h.cells (g := g) rfl⟩
theorem Rd.of_own {w : World} {base e size n c : Nat} {A : Option Addr} {xs : List Value} (h : w.ownsRow base e size (.slice A n c) n xs) : Rd w size A n xs := by
  refine ⟨h.1, fun hn => ?_⟩
  obtain ⟨g, cap, hv, _, hlt⟩ := h.form hn
  have hA : A = some ⟨g, 0, none⟩ := by injection hv
  subst hA
  exact ⟨_, rfl, h.cells (g := g) rfl⟩

/-! ### a slice of whole numbers that is read -/
/-- The member i of a list of numbers. -/
def gi (l : List Int) (i : Nat) : Int := l.getD i 0
theorem gi_get (l : List Int) (i : Nat) (h : i < l.length) : l[i]? = some (gi l i) := by simp [gi, List.getD_eq_getElem?_getD, List.getElem?_eq_getElem h]
theorem gi_drop (l : List Int) (k i : Nat) : gi (l.drop k) i = gi l (k + i) := by simp [gi, List.getD_eq_getElem?_getD]
theorem gi_take (l : List Int) (k i : Nat) (h : i < k) : gi (l.take k) i = gi l i := by simp [gi, List.getD_eq_getElem?_getD, h]
theorem gi_mem (l : List Int) (i : Nat) (h : i < l.length) : gi l i ∈ l := List.mem_of_getElem? (gi_get l i h)
theorem nums_get (k : IntKind) (l : List Int) (i : Nat) (h : i < l.length) : (nums k l)[i]? = some (.int k (gi l i)) := by simp [nums, gi_get l i h]
def Rn (w : World) (k : IntKind) (A : Option Addr) (l : List Int) : Prop := Rd w 1 A l.length (nums k l)
theorem Rn.at_ {w : World} {k : IntKind} {A : Option Addr} {l : List Int} (h : Rn w k A l) {i : Nat} (hi : i < l.length) : ∃ ad, A = some ad ∧ w.cell? (ad.add i) = some (.int k (gi l i)) := by
  obtain ⟨ad, e, hc⟩ := h.2 (by omega)
  exact ⟨ad, e, hc i _ (nums_get k l i hi)⟩
theorem Rn.cell {w : World} {k : IntKind} {ad : Addr} {l : List Int} (h : Rn w k (some ad) l) {i : Nat} (hi : i < l.length) : w.cell? (ad.add i) = some (.int k (gi l i)) := by
  obtain ⟨ad', e, hc⟩ := h.at_ hi
  injection e with e
  subst e
  exact hc
theorem Rn.drop {w : World} {k : IntKind} {A : Option Addr} {l : List Int} (h : Rn w k A l) {i c : Nat} (hi : i ≤ l.length) (hc : l.length ≤ c) : Rn w k (if c = i then A else A.map (·.add i)) (l.drop i) := by
  have := Rd.drop h (k := i) hi hc
  unfold Rn
  rw [List.length_drop]
  simpa [nums, List.map_drop] using this
theorem Rn.take {w : World} {k : IntKind} {A : Option Addr} {l : List Int} (h : Rn w k A l) {i : Nat} (hi : i ≤ l.length) : Rn w k A (l.take i) := by
  have := Rd.take h (k := i) hi
  unfold Rn
  rw [List.length_take, Nat.min_eq_left hi]
  simpa [nums, List.map_take] using this
/-- A literal. -/
theorem Rn.lit (w : World) (k : IntKind) (e : TypeId) (l : List Int) : Rn (w.alloc (.cells (nums k l).toArray e)) k (some ⟨w.heap.size, 0, none⟩) l := by
  refine ⟨by simp [nums], fun _ => ⟨_, rfl, fun j u hu => ?_⟩⟩
  rw [add_plain, cell_of_row _ _ _ _ e (0, 0) (heap_alloc_new w _)]
  simpa using hu
theorem Rn.litm (w : World) (k : IntKind) (e : TypeId) (fr : Nat × Nat) (l : List Int) : Rn (w.alloc (.cells (nums k l).toArray e fr)) k (some ⟨w.heap.size, 0, none⟩) l := by
  refine ⟨by simp [nums], fun _ => ⟨_, rfl, fun j u hu => ?_⟩⟩
  rw [add_plain, cell_of_row _ _ _ _ e fr (heap_alloc_new w _)]
  simpa using hu
/-- 'xs[m:]': its value under one name. -/
theorem cut_from {P : Program} (t e : TypeId) (kl : IntKind) (ht : P.underlying t = some (.slice e)) (hi : (P.info? e).map (·.size) = some 1) (A : Option Addr) (n c m : Nat) (mi : Int) (hmi : mi = (m : Int)) (hm : m ≤ n) :
    ∃ A' : Option Addr, A' = (if c = m then A else A.map (·.add m)) ∧ (∀ W : World, (Instr.slice t (.slice A n c) (some (.int kl mi)) none none).run P W = .ok (.slice A' (n - m) (c - m)) W) := by
  subst hmi
  refine ⟨_, rfl, fun W => ?_⟩
  obtain ⟨i, hi1, hi2⟩ := Option.map_eq_some_iff.1 hi
  have hel : P.elem t = e := by simp [Program.elem, ht]
  have hu : P.underlying t = some (.slice (P.elem t)) := by rw [hel]; exact ht
  rw [run_slice_l W t A n c hu kl (m : Int) (Int.natCast_nonneg _) (by omega), hel]
  simp [sizeOf, typeInfo, hi1, hi2, sliced, Result.andThen]
/-- 'xs[lo:hi]'. -/
theorem cut_mid {P : Program} (t e : TypeId) (kl kh : IntKind) (ht : P.underlying t = some (.slice e)) (hi : (P.info? e).map (·.size) = some 1) (A : Option Addr) (n c m h n' : Nat) (mi hi' : Int) (hmi : mi = (m : Int)) (hhi : hi' = (h : Int)) (hn : n' = h - m) (hm : m ≤ h) (hh : h ≤ c) :
    ∃ A' : Option Addr, A' = (if c = m then A else A.map (·.add m)) ∧ (∀ W : World, (Instr.slice t (.slice A n c) (some (.int kl mi)) (some (.int kh hi')) none).run P W = .ok (.slice A' n' (c - m)) W) := by
  subst hmi hhi hn
  refine ⟨_, rfl, fun W => ?_⟩
  obtain ⟨i, hi1, hi2⟩ := Option.map_eq_some_iff.1 hi
  have hel : P.elem t = e := by simp [Program.elem, ht]
  have hu : P.underlying t = some (.slice (P.elem t)) := by rw [hel]; exact ht
  rw [run_slice_lh W t A n c hu kl kh (m : Int) (h : Int) (Int.natCast_nonneg _) (by omega) (by omega), hel]
  simp [sizeOf, typeInfo, hi1, hi2, sliced, Result.andThen]
theorem add_none (a : Addr) : a.add 0 = a := rfl
/-- 'xs[:h]'. -/
theorem cut_to {P : Program} (t e : TypeId) (kh : IntKind) (ht : P.underlying t = some (.slice e)) (hi : (P.info? e).map (·.size) = some 1) (A : Option Addr) (n c h : Nat) (hi' : Int) (hhi : hi' = (h : Int)) (hh : h ≤ c) :
    ∀ W : World, (Instr.slice t (.slice A n c) none (some (.int kh hi')) none).run P W = .ok (.slice A h c) W := by
  subst hhi
  intro W
  obtain ⟨i, hi1, hi2⟩ := Option.map_eq_some_iff.1 hi
  have hel : P.elem t = e := by simp [Program.elem, ht]
  have hu : P.underlying t = some (.slice (P.elem t)) := by rw [hel]; exact ht
  rw [run_slice_h W t A n c hu kh (h : Int) (Int.natCast_nonneg _) (by omega), hel]
  have e0 : (A.map fun x => x.add 0) = A := by cases A <;> rfl
  simp [sizeOf, typeInfo, hi1, hi2, sliced, Result.andThen, e0]
/-- 'string(bs)'. -/
theorem conv_str {P : Program} {w : World} {A : Option Addr} {l : List Int} (h : Rn w .u8 A l) (src dst e c : Nat) (hs : P.underlying src = some (.slice e)) (he : P.underlying e = some (.int .u8)) (hd : P.underlying dst = some .string) :
    (convert src dst (.slice A l.length c)).run P w = .ok (.string (strOfNums l)) w := by
  rcases A with _ | ad
  · have h0 : l = [] := by
      rcases Nat.eq_zero_or_pos l.length with h0 | h0
      · exact List.eq_nil_of_length_eq_zero h0
      · obtain ⟨ad, h', _⟩ := h.2 h0
        cases h'
    subst h0
    exact run_convert_bytes_nil w src e hs he 0 c dst hd
  · have hl : (loadCells ad l.length).run P w = .ok (l.map (Value.int .u8)).toArray w := by
      have := run_loadCells_list (P := P) w ad (l.map (Value.int .u8)) (fun j v hj => by
        have hjl : j < l.length := by
          rcases Nat.lt_or_ge j l.length with h' | h'
          · exact h'
          · rw [List.getElem?_eq_none (by rw [List.length_map]; exact h')] at hj
            cases hj
        rw [Rn.cell h hjl]
        rw [List.getElem?_map, gi_get l j hjl] at hj
        exact hj)
      simpa using this
    rw [run_convert_bytes_string w src dst e _ l.length c hs he hd, run_bytesToString w ad l.length c l hl, foldl_push_bytes]
    simp [strOfNums, ByteArray.empty, ByteArray.emptyWithCapacity]
    rfl
theorem cut_block {A : Option Addr} {c m : Nat} {ad' : Addr} (h : (if c = m then A else A.map (·.add m)) = some ad') : ∃ ad, A = some ad ∧ ad'.block = ad.block := by
  split at h
  · exact ⟨ad', h, rfl⟩
  · obtain ⟨ad, rfl, rfl⟩ := Option.map_eq_some_iff.1 h
    exact ⟨ad, rfl, Addr_add_block _ _⟩

/-! ### append(v, x), append(v, xs...): the law at the builtin, onto a row of the call's own -/
section
variable {P : Program} {ops : Array Oper} {rest : List Oper} {o : Oper} {a : Act} {Q : Exit → Act → World → Prop}
/-- 'append(v, x)', behind the box of x. -/
theorem wp_ap_one {W : World} {base : Nat} {K : Act → World → Prop} (s x : Operand) (t e : TypeId) (z : Value) (bytes : Nat)
    (ho : o.op = .call { callee := .builtin .append, args := #[s, x], argTypes := #[t, t] })
    (ht : P.underlying t = some (.slice e)) (hinfo : (P.info? e).map (fun i => (i.zero, i.size, i.bytes)) = some (some z, 1, bytes)) (hz : z.cells.size = 1)
    (v : Value) (n : Nat) (xs : List Value) (y : Value) (hs : a.eval s = v) {b : Nat} (hx : a.eval x = .slice (some ⟨b, 0, none⟩) 1 1) (hy : Blk W b e #[y]) (h1 : y.oneCell' = true)
    (HO : W.ownsRow base e 1 v n xs) (h63 : n + 1 ≤ 9223372036854775807) (hl : (n + 1) * bytes ≤ 140737488355328)
    (h : ∀ g c w1, w1.ownsRow base e 1 (.slice (some ⟨g, 0, none⟩) (n + 1) c) (n + 1) (xs ++ [y]) → W.grownBy w1 v.ownBlock → (v.ownBlock = some g ∨ W.heap.size ≤ g) → K (a.put o.dst (.slice (some ⟨g, 0, none⟩) (n + 1) c)) w1) (hbase : base ≤ W.heap.size := by omega) :
    o.wp P a W K Q := by
  obtain ⟨i0, hi, hzz⟩ := Option.map_eq_some_iff.1 hinfo
  simp only [Prod.mk.injEq] at hzz
  obtain ⟨hz0, hz1, hz2⟩ := hzz
  obtain ⟨v1, w1, hr, hown, hg, _, hat⟩ := run_append_own_at (P := P) W base t o.type e i0 z 1 bytes ht hi hz0 hz1 hz2 hz (by omega) v n xs HO ⟨b, 0, none⟩ 1 1 [y] rfl
    (fun j u hj => by
      match j, hj with
      | 0, hj =>
        simp at hj
        subst hj
        rw [add_plain, hy.cell]
        rfl) (by simpa using h1) (by simp only [maxLen]; omega) hl hbase
  obtain ⟨g, c, rfl, _, _⟩ := hown.form (by omega)
  unfold Oper.wp execOp
  simp only [ho, resolve, invoke, builtin, Sem.run_bind, Sem.run_pure, Result.andThen_ok, List.map_toArray, List.map_cons, List.map_nil, hs, hx, hr]
  refine h g c w1 hown hg ?_
  rcases hat with hat | hat
  · exact .inl hat.symm
  · have : g = W.heap.size := by simpa [Value.ownBlock] using hat
    exact .inr (by omega)
theorem ap_one {W : World} {base : Nat} (hgd : o.guard = none) (s x : Operand) (t e : TypeId) (z : Value) (bytes : Nat)
    (ho : o.op = .call { callee := .builtin .append, args := #[s, x], argTypes := #[t, t] })
    (ht : P.underlying t = some (.slice e)) (hinfo : (P.info? e).map (fun i => (i.zero, i.size, i.bytes)) = some (some z, 1, bytes)) (hz : z.cells.size = 1)
    (v : Value) (n : Nat) (xs : List Value) (y : Value) (hs : a.eval s = v) {b : Nat} (hx : a.eval x = .slice (some ⟨b, 0, none⟩) 1 1) (hy : Blk W b e #[y]) (h1 : y.oneCell' = true)
    (HO : W.ownsRow base e 1 v n xs) (h63 : n + 1 ≤ 9223372036854775807) (hl : (n + 1) * bytes ≤ 140737488355328)
    (h : ∀ g c w1, w1.ownsRow base e 1 (.slice (some ⟨g, 0, none⟩) (n + 1) c) (n + 1) (xs ++ [y]) → W.grownBy w1 v.ownBlock → (v.ownBlock = some g ∨ W.heap.size ≤ g) → wpList P ops Q rest (a.put o.dst (.slice (some ⟨g, 0, none⟩) (n + 1) c)) w1) (hbase : base ≤ W.heap.size := by omega) :
    wpList P ops Q (o :: rest) a W :=
  wpList_plain hgd fun _ hK => wp_ap_one s x t e z bytes ho ht hinfo hz v n xs y hs hx hy h1 HO h63 hl (fun g c w1 h2 h3 h4 => hK _ _ (h g c w1 h2 h3 h4)) hbase
theorem step_ap_one {W : World} {base : Nat} {K : Act → World → Prop} {E : Prop} (hgd : o.guard = none) (s x : Operand) (t e : TypeId) (z : Value) (bytes : Nat)
    (ho : o.op = .call { callee := .builtin .append, args := #[s, x], argTypes := #[t, t] })
    (ht : P.underlying t = some (.slice e)) (hinfo : (P.info? e).map (fun i => (i.zero, i.size, i.bytes)) = some (some z, 1, bytes)) (hz : z.cells.size = 1)
    (v : Value) (n : Nat) (xs : List Value) (y : Value) (hs : a.eval s = v) {b : Nat} (hx : a.eval x = .slice (some ⟨b, 0, none⟩) 1 1) (hy : Blk W b e #[y]) (h1 : y.oneCell' = true)
    (HO : W.ownsRow base e 1 v n xs) (h63 : n + 1 ≤ 9223372036854775807) (hl : (n + 1) * bytes ≤ 140737488355328)
    (h : ∀ g c w1, w1.ownsRow base e 1 (.slice (some ⟨g, 0, none⟩) (n + 1) c) (n + 1) (xs ++ [y]) → W.grownBy w1 v.ownBlock → (v.ownBlock = some g ∨ W.heap.size ≤ g) → K (a.put o.dst (.slice (some ⟨g, 0, none⟩) (n + 1) c)) w1) (hbase : base ≤ W.heap.size := by omega) :
    if Region.wanted o (yielded ops a.tmps) = true then Oper.wp P o a W K Q else E := by
  have hw : Region.wanted o (yielded ops a.tmps) = true := by simp [Region.wanted, hgd]
  rw [if_pos hw]
  exact wp_ap_one s x t e z bytes ho ht hinfo hz v n xs y hs hx hy h1 HO h63 hl h hbase
theorem run_append_nil_src {W : World} (base t ty e : Nat) (i : TypeInfo) (size : Nat) (ht : P.underlying t = some (.slice e)) (hi : P.info? e = some i)
    (v : Value) (n : Nat) (xs : List Value) (hown : W.ownsRow base e size v n xs) (c : Nat) : (Builtin.append_ #[t, t] ty #[v, .slice none 0 c]).run P W = .ok v W := by
  rcases hown.2 with ⟨rfl, rfl⟩ | ⟨g, cap, cur, rfl, _, _, hnc, _⟩
  · simp [Builtin.append_, run_underlying ht, sizeOf, typeInfo, hi, Builtin.lenOf, Builtin.firstCells]
  · simp [Builtin.append_, run_underlying ht, sizeOf, typeInfo, hi, Builtin.lenOf, Builtin.firstCells, hnc, storeCells]
theorem run_ap_row {W : World} (base t ty e : Nat) (z : Value) (size bytes : Nat)
    (ht : P.underlying t = some (.slice e)) (hinfo : (P.info? e).map (fun i => (i.zero, i.size, i.bytes)) = some (some z, size, bytes)) (hz : z.cells.size = size) (hs0 : 0 < size)
    (v : Value) (n : Nat) (xs : List Value) (HO : W.ownsRow base e size v n xs) (A : Option Addr) (m c : Nat) (ys : List Value) (HR : Rd W size A m ys) (h1 : ∀ u ∈ ys, u.oneCell' = true)
    (h63 : n + m ≤ 9223372036854775807) (hl : (n + m) * bytes ≤ 140737488355328) (hbase : base ≤ W.heap.size) :
    ∃ v1 w1, (Builtin.append_ #[t, t] ty #[v, .slice A m c]).run P W = .ok v1 w1 ∧ w1.ownsRow base e size v1 (n + m) (xs ++ ys) ∧ W.grownBy w1 v.ownBlock ∧ (v1.ownBlock = v.ownBlock ∨ v1.ownBlock = some W.heap.size) := by
  obtain ⟨i0, hi, hzz⟩ := Option.map_eq_some_iff.1 hinfo
  simp only [Prod.mk.injEq] at hzz
  obtain ⟨hz0, hz1, hz2⟩ := hzz
  rcases A with _ | ad
  · have hm : m = 0 := by
      rcases Nat.eq_zero_or_pos m with h0 | h0
      · exact h0
      · obtain ⟨ad, h, _⟩ := HR.2 h0
        cases h
    subst hm
    have hn : ys = [] := List.eq_nil_of_length_eq_zero (by simpa using HR.1)
    subst hn
    exact ⟨v, W, run_append_nil_src base t ty e i0 size ht hi v n xs HO c, by simpa using HO, World.grownBy.refl W _, .inl rfl⟩
  · have hcells : ∀ j u, ys[j]? = some u → W.cell? (ad.add j) = some u := by
      intro j u hu
      rcases Nat.eq_zero_or_pos m with h0 | h0
      · subst h0
        have hn : ys = [] := List.eq_nil_of_length_eq_zero (by simpa using HR.1)
        subst hn
        simp at hu
      · obtain ⟨ad', h, hc⟩ := HR.2 h0
        injection h with h
        subst h
        exact hc j u hu
    obtain ⟨v', w', hrun, h2, h3, _, h5⟩ := run_append_own_at (P := P) W base t ty e i0 z size bytes ht hi hz0 hz1 hz2 hz hs0 v n xs HO ad m c ys HR.1 hcells h1 (by simp only [maxLen]; omega) hl hbase
    exact ⟨v', w', hrun, h2, h3, h5⟩
/-- 'append(v, xs...)'. -/
theorem wp_ap_row {W : World} {K : Act → World → Prop} (base : Nat) (s x : Operand) (t e : TypeId) (z : Value) (size bytes : Nat)
    (ho : o.op = .call { callee := .builtin .append, args := #[s, x], argTypes := #[t, t] })
    (ht : P.underlying t = some (.slice e)) (hinfo : (P.info? e).map (fun i => (i.zero, i.size, i.bytes)) = some (some z, size, bytes)) (hz : z.cells.size = size) (hs0 : 0 < size)
    (v : Value) (n : Nat) (xs : List Value) (A : Option Addr) (m c : Nat) (ys : List Value) (hs : a.eval s = v) (hx : a.eval x = .slice A m c)
    (HO : W.ownsRow base e size v n xs) (HR : Rd W size A m ys) (h1 : ∀ u ∈ ys, u.oneCell' = true) (h63 : n + m ≤ 9223372036854775807) (hl : (n + m) * bytes ≤ 140737488355328) (hbase : base ≤ W.heap.size)
    (h : ∀ A1 c1 w1, w1.ownsRow base e size (.slice A1 (n + m) c1) (n + m) (xs ++ ys) → W.grownBy w1 v.ownBlock → (∀ g, (Value.slice A1 (n + m) c1).ownBlock = some g → v.ownBlock = some g ∨ W.heap.size ≤ g) → K (a.put o.dst (.slice A1 (n + m) c1)) w1) :
    o.wp P a W K Q := by
  obtain ⟨v1, w1, hr, hown, hg, hat⟩ := run_ap_row (P := P) base t o.type e z size bytes ht hinfo hz hs0 v n xs HO A m c ys HR h1 h63 hl hbase
  obtain ⟨A1, c1, rfl, _, _⟩ := own_shape hown
  unfold Oper.wp execOp
  simp only [ho, resolve, invoke, builtin, Sem.run_bind, Sem.run_pure, Result.andThen_ok, List.map_toArray, List.map_cons, List.map_nil, hs, hx, hr]
  refine h A1 c1 w1 hown hg fun g hgg => ?_
  rcases hat with hat | hat
  · exact .inl (hat.symm.trans hgg)
  · rw [hat] at hgg
    injection hgg with hgg
    exact .inr (by omega)
theorem ap_row {W : World} (base : Nat) (hgd : o.guard = none) (s x : Operand) (t e : TypeId) (z : Value) (size bytes : Nat)
    (ho : o.op = .call { callee := .builtin .append, args := #[s, x], argTypes := #[t, t] })
    (ht : P.underlying t = some (.slice e)) (hinfo : (P.info? e).map (fun i => (i.zero, i.size, i.bytes)) = some (some z, size, bytes)) (hz : z.cells.size = size) (hs0 : 0 < size)
    (v : Value) (n : Nat) (xs : List Value) (A : Option Addr) (m c : Nat) (ys : List Value) (hs : a.eval s = v) (hx : a.eval x = .slice A m c)
    (HO : W.ownsRow base e size v n xs) (HR : Rd W size A m ys) (h1 : ∀ u ∈ ys, u.oneCell' = true) (h63 : n + m ≤ 9223372036854775807) (hl : (n + m) * bytes ≤ 140737488355328) (hbase : base ≤ W.heap.size)
    (h : ∀ A1 c1 w1, w1.ownsRow base e size (.slice A1 (n + m) c1) (n + m) (xs ++ ys) → W.grownBy w1 v.ownBlock → (∀ g, (Value.slice A1 (n + m) c1).ownBlock = some g → v.ownBlock = some g ∨ W.heap.size ≤ g) → wpList P ops Q rest (a.put o.dst (.slice A1 (n + m) c1)) w1) :
    wpList P ops Q (o :: rest) a W :=
  wpList_plain hgd fun _ hK => wp_ap_row base s x t e z size bytes ho ht hinfo hz hs0 v n xs A m c ys hs hx HO HR h1 h63 hl hbase fun A1 c1 w1 h2 h3 h4 => hK _ _ (h A1 c1 w1 h2 h3 h4)
theorem step_ap_row {W : World} {K : Act → World → Prop} {E : Prop} (base : Nat) (hgd : o.guard = none) (s x : Operand) (t e : TypeId) (z : Value) (size bytes : Nat)
    (ho : o.op = .call { callee := .builtin .append, args := #[s, x], argTypes := #[t, t] })
    (ht : P.underlying t = some (.slice e)) (hinfo : (P.info? e).map (fun i => (i.zero, i.size, i.bytes)) = some (some z, size, bytes)) (hz : z.cells.size = size) (hs0 : 0 < size)
    (v : Value) (n : Nat) (xs : List Value) (A : Option Addr) (m c : Nat) (ys : List Value) (hs : a.eval s = v) (hx : a.eval x = .slice A m c)
    (HO : W.ownsRow base e size v n xs) (HR : Rd W size A m ys) (h1 : ∀ u ∈ ys, u.oneCell' = true) (h63 : n + m ≤ 9223372036854775807) (hl : (n + m) * bytes ≤ 140737488355328) (hbase : base ≤ W.heap.size)
    (h : ∀ A1 c1 w1, w1.ownsRow base e size (.slice A1 (n + m) c1) (n + m) (xs ++ ys) → W.grownBy w1 v.ownBlock → (∀ g, (Value.slice A1 (n + m) c1).ownBlock = some g → v.ownBlock = some g ∨ W.heap.size ≤ g) → K (a.put o.dst (.slice A1 (n + m) c1)) w1) :
    if Region.wanted o (yielded ops a.tmps) = true then Oper.wp P o a W K Q else E := by
  have hw : Region.wanted o (yielded ops a.tmps) = true := by simp [Region.wanted, hgd]
  rw [if_pos hw]
  exact wp_ap_row base s x t e z size bytes ho ht hinfo hz hs0 v n xs A m c ys hs hx HO HR h1 h63 hl hbase h
theorem run_ap_str {W : World} (base t u ty e : Nat) (ht : P.underlying t = some (.slice e)) (hu : P.underlying u = some .string)
    (hinfo : (P.info? e).map (fun i => (i.zero, i.size, i.bytes)) = some (some (.int .u8 0), 1, 1))
    (v : Value) (n : Nat) (xs : List Value) (HO : W.ownsRow base e 1 v n xs) (s : ByteArray) (hl : n + s.size ≤ 140737488355328) (hbase : base ≤ W.heap.size) :
    ∃ v1 w1, (Builtin.append_ #[t, u] ty #[v, .string s]).run P W = .ok v1 w1 ∧ w1.ownsRow base e 1 v1 (n + s.size) (xs ++ strCells s) ∧ W.grownBy w1 v.ownBlock ∧ (∀ g, v1.ownBlock = some g → v.ownBlock = some g ∨ W.heap.size ≤ g) := by
  obtain ⟨i0, hi, hzz⟩ := Option.map_eq_some_iff.1 hinfo
  simp only [Prod.mk.injEq] at hzz
  obtain ⟨hz0, hz1, hz2⟩ := hzz
  have hx1 : xs.length = n := by simpa using HO.1
  obtain ⟨v1, w1, hr, h2, h3, _⟩ := run_append_own_string (P := P) W base t u ty e i0 ht hu hi hz0 hz1 hz2 v n xs HO s (by simp only [maxLen]; omega) hl hbase
  refine ⟨v1, w1, hr, h2, h3, fun k hk => ?_⟩
  have fin : ∀ v2 w2, (Builtin.append_ #[t, u] ty #[v, .string s]).run P W = .ok v2 w2 → v1 = v2 := fun v2 w2 h => by
    rw [hr] at h
    injection h
  rcases HO.2 with ⟨rfl, rfl⟩ | ⟨g, cap, cur, rfl, hbg, hg, hnc, hcm, hcs, htake⟩
  · by_cases hm : s.size = 0
    · have hn : strCells s = [] := List.eq_nil_of_length_eq_zero (by rw [strCells_length]; exact hm)
      have hf := run_firstCells_string (P := P) W 1 s
      rw [hm] at hf
      have := fin (.slice none 0 0) W (by simp [Builtin.append_, run_underlying ht, run_underlying hu, sizeOf, typeInfo, hi, hz1, Builtin.lenOf, hm, hf])
      subst this
      simp [Value.ownBlock] at hk
    · have := fin _ _ (run_append_nil_string (P := P) W t u ty e i0 (.int .u8 0) ht hu hi hz0 s (by omega) (by omega) (by rw [hz2]; omega))
      subst this
      have : W.heap.size = k := by simpa [Value.ownBlock] using hk
      exact .inr (by omega)
  · by_cases hroom : n + s.size ≤ cap
    · have := fin _ _ (run_append_room_string (P := P) W t u ty e i0 ht hu hi hz1 g n cap cur hg s hroom (by have : cur.size = cap := by simpa using hcs
                                                                                                             omega))
      subst this
      exact .inl (by simpa [Value.ownBlock] using hk)
    · have holds : ∀ j y, xs[j]? = some y → W.cell? ((⟨g, 0, none⟩ : Addr).add j) = some y := HO.cells (g := g) rfl
      have := fin _ _ (run_append_grow_string (P := P) W t u ty e i0 (.int .u8 0) ht hu hi hz0 ⟨g, 0, none⟩ n cap xs (by rw [hz1]; simpa using hx1) holds s (by omega) (by omega) (by rw [hz2]; exact growslice_fits (by omega) (by omega)))
      subst this
      have : W.heap.size = k := by simpa [Value.ownBlock] using hk
      exact .inr (by omega)
/-- 'append(v, s...)', s a string. -/
theorem wp_ap_str {W : World} {K : Act → World → Prop} (base : Nat) (sl x : Operand) (t u e : TypeId)
    (ho : o.op = .call { callee := .builtin .append, args := #[sl, x], argTypes := #[t, u] })
    (ht : P.underlying t = some (.slice e)) (hu : P.underlying u = some .string) (hinfo : (P.info? e).map (fun i => (i.zero, i.size, i.bytes)) = some (some (.int .u8 0), 1, 1))
    (v : Value) (n : Nat) (xs : List Value) (s : ByteArray) (hs : a.eval sl = v) (hx : a.eval x = .string s)
    (HO : W.ownsRow base e 1 v n xs) (hl : n + s.size ≤ 140737488355328) (hbase : base ≤ W.heap.size)
    (h : ∀ A1 c1 w1, w1.ownsRow base e 1 (.slice A1 (n + s.size) c1) (n + s.size) (xs ++ strCells s) → W.grownBy w1 v.ownBlock → (∀ g, (Value.slice A1 (n + s.size) c1).ownBlock = some g → v.ownBlock = some g ∨ W.heap.size ≤ g) → K (a.put o.dst (.slice A1 (n + s.size) c1)) w1) :
    o.wp P a W K Q := by
  obtain ⟨v1, w1, hr, hown, hg, hat⟩ := run_ap_str (P := P) base t u o.type e ht hu hinfo v n xs HO s hl hbase
  obtain ⟨A1, c1, rfl, _, _⟩ := own_shape hown
  unfold Oper.wp execOp
  simp only [ho, resolve, invoke, builtin, Sem.run_bind, Sem.run_pure, Result.andThen_ok, List.map_toArray, List.map_cons, List.map_nil, hs, hx, hr]
  exact h A1 c1 w1 hown hg hat
theorem ap_str {W : World} (base : Nat) (hgd : o.guard = none) (sl x : Operand) (t u e : TypeId)
    (ho : o.op = .call { callee := .builtin .append, args := #[sl, x], argTypes := #[t, u] })
    (ht : P.underlying t = some (.slice e)) (hu : P.underlying u = some .string) (hinfo : (P.info? e).map (fun i => (i.zero, i.size, i.bytes)) = some (some (.int .u8 0), 1, 1))
    (v : Value) (n : Nat) (xs : List Value) (s : ByteArray) (hs : a.eval sl = v) (hx : a.eval x = .string s)
    (HO : W.ownsRow base e 1 v n xs) (hl : n + s.size ≤ 140737488355328) (hbase : base ≤ W.heap.size)
    (h : ∀ A1 c1 w1, w1.ownsRow base e 1 (.slice A1 (n + s.size) c1) (n + s.size) (xs ++ strCells s) → W.grownBy w1 v.ownBlock → (∀ g, (Value.slice A1 (n + s.size) c1).ownBlock = some g → v.ownBlock = some g ∨ W.heap.size ≤ g) → wpList P ops Q rest (a.put o.dst (.slice A1 (n + s.size) c1)) w1) :
    wpList P ops Q (o :: rest) a W :=
  wpList_plain hgd fun _ hK => wp_ap_str base sl x t u e ho ht hu hinfo v n xs s hs hx HO hl hbase fun A1 c1 w1 h2 h3 h4 => hK _ _ (h A1 c1 w1 h2 h3 h4)
end
theorem madeCells_list (z : Value) (n : Nat) : madeCells #[z] n = (List.replicate n z).toArray := by
  apply Array.ext'
  apply List.ext_getElem
  · simp [madeCells]
  · intro i h1 h2
    simp [madeCells, Nat.mod_one]
/-- 'make([]T, n)', T of one cell. -/
theorem mk_blk {P : Program} {w : World} {ops : Array Oper} {rst : List Oper} {o : Oper} {a : Act} {Q : Exit → Act → World → Prop} (hg : o.guard = none) (l c : Operand) (t e : TypeId) (z : Value) (bytes : Nat) (hop : o.op = Op.makeSlice t l c)
    (ht : P.underlying t = some (.slice e)) (hinfo : (P.info? e).map (fun i => (i.zero, i.size, i.bytes)) = some (some z, 1, bytes)) (hz : z.cells = #[z]) (ni : Int) (n : Nat) (hl : a.eval l = .int .i64 ni) (hc : a.eval c = .int .i64 ni) (hn : ni = (n : Int)) (hb : bytes * n ≤ 281474976710656) (hb2 : n ≤ 281474976710656)
    (hK : ∀ w1 g, g = w.heap.size → Blk w1 g e (List.replicate n z).toArray → Upd No w w1 → w1.heap.size = w.heap.size + 1 → wpList P ops Q rst (a.put o.dst (.slice (some ⟨g, 0, none⟩) n n)) w1) : wpList P ops Q (o :: rst) a w := by
  subst hn
  have hrun := run_make_row' (P := P) t e z bytes ht hinfo hz .i64 .i64 n (by omega) (by omega) w
  refine wpList_plain hg fun K hK' => ?_
  unfold Oper.wp
  simp [execOp, hop, hl, hc, hrun, Result.andThen]
  refine hK' _ _ (hK _ _ rfl ?_ ((Upd.refl _ _).alloc _) (by simp))
  rw [← madeCells_list]
  exact Blk.fresh w e _
/-- A string's bytes as numbers. -/
def sb (s : ByteArray) : List Int := s.data.toList.map fun b => (b.toNat : Int)
theorem sb_cells (s : ByteArray) : strCells s = nums .u8 (sb s) := by simp [strCells, nums, sb]
theorem sb_length (s : ByteArray) : (sb s).length = s.size := by rw [sb, List.length_map, Array.length_toList]; rfl
theorem u8_inj : ∀ l1 l2 : List Int, (∀ c ∈ l1, 0 ≤ c ∧ c ≤ 255) → (∀ c ∈ l2, 0 ≤ c ∧ c ≤ 255) → (l1.map fun n => UInt8.ofNat n.toNat) = (l2.map fun n => UInt8.ofNat n.toNat) → l1 = l2
  | [], [], _, _, _ => rfl
  | [], _ :: _, _, _, h => by simp at h
  | _ :: _, [], _, _, h => by simp at h
  | a :: x, b :: y, hx, hy, h => by
    simp only [List.map_cons, List.cons.injEq] at h
    have ha := hx a (by simp)
    have hb := hy b (by simp)
    have e1 : ∀ n : Int, 0 ≤ n → n ≤ 255 → (UInt8.ofNat n.toNat).toNat = n.toNat := fun n h0 h1 => by
      simp; omega
    have e2 : a = b := by
      have := congrArg UInt8.toNat h.1
      rw [e1 a ha.1 ha.2, e1 b hb.1 hb.2] at this
      omega
    rw [e2, u8_inj x y (fun c hc => hx c (by simp [hc])) (fun c hc => hy c (by simp [hc])) h.2]
/-- '==' of two texts made of bytes. -/
theorem str_eq (l1 l2 : List Int) (h1 : ∀ c ∈ l1, 0 ≤ c ∧ c ≤ 255) (h2 : ∀ c ∈ l2, 0 ≤ c ∧ c ≤ 255) : ((strOfNums l1).toList == (strOfNums l2).toList) = decide (l1 = l2) := by
  simp only [strOfNums, ByteArray.toList_mk]
  rw [Bool.eq_iff_iff, beq_iff_eq, decide_eq_true_iff]
  exact ⟨u8_inj l1 l2 h1 h2, fun h => by rw [h]⟩
/-- '[]byte(s)'. -/
theorem conv_bytes {P : Program} (w : World) (src dst e : TypeId) (l : List Int) (hl : ∀ c ∈ l, 0 ≤ c ∧ c ≤ 255) {u : TypeDesc} (hs : P.underlying src = some u) (hd : P.underlying dst = some (.slice e)) (he : P.underlying e = some (.int .u8)) :
    ∃ w1 c, (convert src dst (.string (strOfNums l))).run P w = .ok (.slice (some ⟨w.heap.size, 0, none⟩) l.length c) w1 ∧ Rn w1 .u8 (some ⟨w.heap.size, 0, none⟩) l ∧ Upd No w w1 := by
  have hr := Go.Lib.run_convert_string_bytes (P := P) w src dst e (strOfNums l) hs hd he
  have hsz := strOfNums_size l
  rw [hsz] at hr
  refine ⟨_, _, hr, ⟨by simp [nums], fun _ => ⟨_, rfl, fun j v hj => ?_⟩⟩, ⟨rfl, rfl, rfl, ?_, fun k hk _ => Go.Lib.bytesWorld_at_old w e _ k hk⟩⟩
  · have hjl : j < l.length := by
      rcases Nat.lt_or_ge j l.length with h | h
      · exact h
      · rw [List.getElem?_eq_none (by rw [nums_length]; exact h)] at hj
        cases hj
    rw [nums_get .u8 l j hjl] at hj
    injection hj with hj
    subst hj
    rw [add_plain, Go.Lib.bytesWorld_cell w e _ j (by rw [hsz]; exact hjl)]
    have hb := hl (gi l j) (by simp [gi, List.getD_eq_getElem?_getD, List.getElem?_eq_getElem hjl])
    have e1 : (strOfNums l).data.toList.getD j 0 = UInt8.ofNat (gi l j).toNat := by
      simp [strOfNums, gi, List.getD_eq_getElem?_getD, List.getElem?_eq_getElem hjl]
    rw [e1]
    have e2 : (UInt8.ofNat (gi l j).toNat).toNat = (gi l j).toNat := by
      simp; omega
    rw [e2]
    congr 2
    omega
  · rw [Go.Lib.bytesWorld_size]; omega
end Go.Proofs.Ytlicimkpgnemeaa.B
