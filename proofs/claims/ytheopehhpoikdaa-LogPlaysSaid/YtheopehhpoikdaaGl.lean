/-
  Logs: the object, Area, header, Room, Reset.
-/
import Derived.Test.YtheopehhpoikdaaGp
import Derived.Test.YtheopehhpoikdaaSo
import Derived.Test.YtheopehhpoikdaaDq
set_option linter.unusedVariables false
set_option linter.unusedSimpArgs false
namespace Go.Proofs.Ytheopehhpoikdaa.Gl
open Go.RowKit Go.Proofs.Ytheopehhpoikdaa.B Go.Proofs.Ytheopehhpoikdaa.Cm Go.Proofs.Ytheopehhpoikdaa.Sm Go.Proofs.Ytheopehhpoikdaa.Dk Go.Proofs.Ytheopehhpoikdaa.Gp
/-- What a log holds. -/
structure Lm where
  fr : Nat
  count : Nat
  ep : Int
  us : List (List Int)
  used : Nat
  over : Bool
/-- A list of bytes and the slice that holds it. -/
abbrev Un := List Int × Value
def Uok (w : World) (F : Nat → Prop) (x : Un) : Prop := w.ownsRow 0 5 1 x.2 x.1.length (nums .u8 x.1) ∧ ∀ k, x.2.ownBlock = some k → F k
/-- v holds the lists us, its memory and theirs are blocks of F. -/
def Uns (w : World) (F : Nat → Prop) (v : Value) (us : List (List Int)) : Prop :=
  ∃ vs : List Un, vs.map (·.1) = us ∧ w.ownsRow 0 31 1 v vs.length (vs.map (·.2)) ∧ (∀ x ∈ vs, Uok w F x) ∧ ∀ k, v.ownBlock = some k → F k
/-- The log at q, on the disk at p, holds m. -/
def Lg (w : World) (F : Nat → Prop) (q p : Nat) (m : Lm) : Prop :=
  ∃ vu : Value, Blk w q 56 #[.pointer (some ⟨p, 0, none⟩), .int .i64 m.fr, .int .i64 m.count, .int .u64 m.ep, vu, .int .i64 m.used, .bool m.over] ∧ Uns w F vu m.us ∧ F q ∧ ∀ k, F k → k < w.heap.size
section
variable {w w' : World} {F G : Nat → Prop} {q p : Nat} {m : Lm} {v : Value} {us : List (List Int)}
theorem Uok.upd {x : Un} (h : Uok w F x) (hu : Upd G w w') (hn : ∀ k, F k → ¬ G k) : Uok w' F x := ⟨own_upd h.1 hu fun k hk => hn k (h.2 k hk), h.2⟩
theorem Uok.mono {x : Un} (h : Uok w F x) (hg : ∀ k, F k → G k) : Uok w G x := ⟨h.1, fun k hk => hg k (h.2 k hk)⟩
theorem Uns.upd (h : Uns w F v us) (hu : Upd G w w') (hn : ∀ k, F k → ¬ G k) : Uns w' F v us := by
  obtain ⟨vs, h1, h2, h3, h4⟩ := h
  exact ⟨vs, h1, own_upd h2 hu fun k hk => hn k (h4 k hk), fun x hx => (h3 x hx).upd hu hn, h4⟩
theorem Uns.mono (h : Uns w F v us) (hg : ∀ k, F k → G k) : Uns w G v us := by
  obtain ⟨vs, h1, h2, h3, h4⟩ := h
  exact ⟨vs, h1, h2, fun x hx => (h3 x hx).mono hg, fun k hk => hg k (h4 k hk)⟩
theorem Uns.nil (w : World) (F : Nat → Prop) : Uns w F (.slice none 0 0) [] := ⟨[], rfl, World.ownsRow_nil _ _ _ _, fun x hx => (by cases hx), fun k hk => by simp [Value.ownBlock] at hk⟩
theorem Uns.shape (h : Uns w F v us) : ∃ A c, v = .slice A us.length c ∧ us.length ≤ c ∧ c ≤ maxLen := by
  obtain ⟨vs, h1, h2, h3, h4⟩ := h
  have : us.length = vs.length := by rw [← h1]; simp
  rw [this]
  exact own_shape h2
/-- Behind a store to a block of another type. -/
theorem Uns.far {q : Nat} {t : TypeId} {cs : Array Value} (h : Uns w F v us) (hb : Blk w q t cs) (h1 : 5 ≠ t) (h2 : 31 ≠ t) (hu : Upd (fun k => k = q) w w') : Uns w' F v us := by
  obtain ⟨vs, g1, g2, g3, g4⟩ := h
  exact ⟨vs, g1, own_upd g2 hu fun k hk e => own_blk_ne g2 hb h2 (e ▸ hk), fun x hx => ⟨own_upd (g3 x hx).1 hu fun k hk e => own_blk_ne (g3 x hx).1 hb h1 (e ▸ hk), (g3 x hx).2⟩, g4⟩
theorem Lg.upd (h : Lg w F q p m) (hu : Upd G w w') (hn : ∀ k, F k → ¬ G k) : Lg w' F q p m := by
  obtain ⟨vu, h1, h2, h3, h4⟩ := h
  exact ⟨vu, h1.upd hu (hn _ h3), h2.upd hu hn, h3, fun k hk => Nat.lt_of_lt_of_le (h4 k hk) hu.size⟩
theorem Lg.lt (h : Lg w F q p m) : ∀ k, F k → k < w.heap.size := by
  obtain ⟨vu, h1, h2, h3, h4⟩ := h
  exact h4
theorem Lg.here (h : Lg w F q p m) : F q := by
  obtain ⟨vu, h1, h2, h3, h4⟩ := h
  exact h3
end
/-- Behind an append of one list. -/
theorem push_uns {w2 w3 : World} {F : Nat → Prop} {v x2 : Value} {vs : List Un} {u : List Int} {A3 : Option Addr} {c3 : Nat}
    (hF : ∀ x ∈ vs, Uok w2 F x) (hrow : w2.ownsRow 0 31 1 v vs.length (vs.map (·.2))) (hv : ∀ k, v.ownBlock = some k → F k)
    (hx : w2.ownsRow 0 5 1 x2 u.length (nums .u8 u))
    (ho3 : w3.ownsRow 0 31 1 (.slice A3 (vs.length + 1) c3) (vs.length + 1) (vs.map (·.2) ++ [x2])) (hg : w2.grownBy w3 v.ownBlock) :
    Uns w3 (fun k => F k ∨ x2.ownBlock = some k ∨ (Value.slice A3 (vs.length + 1) c3).ownBlock = some k) (.slice A3 (vs.length + 1) c3) (vs.map (·.1) ++ [u]) := by
  have byt : ∀ {z : Value} {n : Nat} {l : List Value}, w2.ownsRow 0 5 1 z n l → w3.ownsRow 0 5 1 z n l := fun hz => own_keep hz fun k hk => hg.block k (hz.lt k hk).2 fun e => own_own_ne hz hrow (by decide) hk e.symm
  refine ⟨vs ++ [(u, x2)], by simp, ?_, fun y hy => ?_, fun k hk => .inr (.inr hk)⟩
  · simpa using ho3
  · rcases List.mem_append.1 hy with hy | hy
    · exact ⟨byt (hF y hy).1, fun k hk => .inl ((hF y hy).2 k hk)⟩
    · obtain rfl := List.mem_singleton.1 hy
      exact ⟨byt hx, fun k hk => .inr (.inl hk)⟩
def areaB (nb : Nat) (fr count : Int) : Bool := decide (1 ≤ count ∧ 0 ≤ fr ∧ fr ≤ nb ∧ count ≤ nb - fr)
set_option maxHeartbeats 1000000 in
theorem area (p : Nat) (m : Dm) (F : Nat → Prop) (fr count : Int) (w : World) (h : Dk w F p m) (hok : m.ok) :
    Calls Try.prog 23 #[.pointer (some ⟨p, 0, none⟩), .int .i64 fr, .int .i64 count] w fun e w' => e = .returned (.bool (areaB m.nb fr count)) ∧ w = w' := by
  have HB := hid (blocks p m F w h hok)
  have hnb := hok.2.2
  have hE : Hid (areaB m.nb fr count = decide (1 ≤ count ∧ 0 ≤ fr ∧ fr ≤ m.nb ∧ count ≤ m.nb - fr)) := hid rfl
  clear h hok
  generalize m.nb = nb at *
  by_cases h1 : 1 ≤ count
  · by_cases h2 : 0 ≤ fr
    · by_cases h3 : fr ≤ nb
      · by_cases h4 : count ≤ nb - fr
        · have hR : Hid (areaB nb fr count = true) := hid (by rw [hE.out, decide_eq_true ⟨h1, h2, h3, h4⟩])
          go_enter Try.func23, Try.ntmps23
          go_wp2_with (fail)
          refine HB.out.mono ?_
          rintro e w1 ⟨rfl, rfl⟩
          go_wp2_with (fail)
          refine HB.out.mono ?_
          rintro e w1 ⟨rfl, rfl⟩
          go_wp2
          go_ret
          exact ⟨by rw [hR.out]; rfl, rfl⟩
        · have hR : Hid (areaB nb fr count = false) := hid (by rw [hE.out, decide_eq_false (fun h => h4 h.2.2.2)])
          go_enter Try.func23, Try.ntmps23
          go_wp2_with (fail)
          refine HB.out.mono ?_
          rintro e w1 ⟨rfl, rfl⟩
          go_wp2_with (fail)
          refine HB.out.mono ?_
          rintro e w1 ⟨rfl, rfl⟩
          go_wp2
          go_ret
          exact ⟨by rw [hR.out]; exact congrArg (fun z => Ending.returned (.bool z)) (show decide (count ≤ (nb : Int) - fr) = false from decide_eq_false (by omega)), rfl⟩
      · have hR : Hid (areaB nb fr count = false) := hid (by rw [hE.out, decide_eq_false (fun h => h3 h.2.2.1)])
        go_enter Try.func23, Try.ntmps23
        go_wp2_with (fail)
        refine HB.out.mono ?_
        rintro e w1 ⟨rfl, rfl⟩
        go_wp2
        go_ret
        exact ⟨by rw [hR.out]; rfl, rfl⟩
    · have hR : Hid (areaB nb fr count = false) := hid (by rw [hE.out, decide_eq_false (fun h => h2 h.2.1)])
      go_enter Try.func23, Try.ntmps23
      go_wp2
      go_ret
      exact ⟨by rw [hR.out]; rfl, rfl⟩
  · have hR : Hid (areaB nb fr count = false) := hid (by rw [hE.out, decide_eq_false (fun h => h1 h.1)])
    go_enter Try.func23, Try.ntmps23
    go_wp2
    go_ret
    exact ⟨by rw [hR.out]; rfl, rfl⟩
theorem area_nil (fr count : Int) (w : World) : Calls Try.prog 23 #[.pointer none, .int .i64 fr, .int .i64 count] w fun e w' => e = .returned (.bool false) ∧ w = w' := by
  go_enter Try.func23, Try.ntmps23
  go_wp2
  go_ret
  exact ⟨rfl, rfl⟩
/-- A header while it is written. -/
def hst (ep : Int) (j : Nat) : List Int := ((List.range j).map fun i => ep / 256 ^ i % 256) ++ List.replicate (9 - j) 0
theorem hst_len (ep : Int) (j : Nat) (hj : j ≤ 9) : (hst ep j).length = 9 := by simp [hst]; omega
theorem hst_succ (ep : Int) (j : Nat) (hj : j < 9) : (hst ep j).set j (ep / 256 ^ j % 256) = hst ep (j + 1) := by
  unfold hst
  obtain ⟨k, hk⟩ : ∃ k, 9 - j = k + 1 := ⟨8 - j, by omega⟩
  rw [hk, show List.replicate (k + 1) (0 : Int) = 0 :: List.replicate k 0 from rfl, set_at _ _ _ _ j (by simp), show 9 - (j + 1) = k from by omega, List.range_succ]
  simp
theorem hst_end (ep : Int) : hst ep 8 = hdr ep false ∧ (hst ep 8).set 8 1 = hdr ep true := by
  have e : hst ep 8 = le8 ep ++ [0] := rfl
  rw [e]
  refine ⟨rfl, ?_⟩
  rw [set_at _ _ _ _ 8 (by simp [le8_length])]
  rfl
theorem pow2 : ∀ j : Nat, j < 8 → (2 : Int) ^ (8 * j) = 256 ^ j := by decide
set_option maxHeartbeats 1000000 in
set_option maxRecDepth 100000 in
theorem header (q : Nat) (v0 v1 v2 v4 v5 v6 : Value) (ep : Int) (last : Bool) (w : World) (hb : Blk w q 56 #[v0, v1, v2, .int .u64 ep, v4, v5, v6]) (hep : 0 ≤ ep ∧ ep ≤ 18446744073709551615) :
    Calls Try.prog 27 #[.pointer (some ⟨q, 0, none⟩), .bool last] w fun e w' => ∃ g, e = .returned (.slice (some ⟨g, 0, none⟩) 9 9) ∧ Nb w' 5 g (hdr ep last) ∧ w.heap.size ≤ g ∧ Upd No w w' := by
  have HB := hid hb
  have he0 := hep.1
  have he1 := hep.2
  clear hb hep
  go_enter Try.func27, Try.ntmps27
  go_wp2_with (at_make; go_must (refine mk_nb rfl _ _ 31 5 rfl Try.underlying31 Sw.u8_info 9 9 rfl rfl rfl (by omega) ?_); intro w1 g hg1 hn1 hu1; have hg := Nat.le_of_eq hg1.symm; clear hg1)
  have HN : Hid (Nb w1 5 g (hst ep 0) ∧ Upd No w w1) := hid ⟨hn1, hu1⟩
  have HG := hid hg
  clear hn1 hu1
  go_loopw [8] (fun v8 wr => ∃ j : Nat, j ≤ 8 ∧ v8 = .int .i64 j ∧ Hid (Nb wr 5 g (hst ep j) ∧ Upd No w wr)) (fun v8 _ => 8 - (intOf v8).toNat)
  case atStart => exact ⟨0, by omega, rfl, HN⟩
  case round =>
    clear HN
    obtain ⟨j, hj, rfl, HW⟩ := hrel
    have hlen := hst_len ep j (by omega)
    by_cases hlt : j < 8
    · have hcj := HW.out.1.cell (i := j) (by omega)
      have hfj := Blk.free HW.out.1 j
      have hce : wr.cell? ⟨q, 3, none⟩ = some (.int .u64 ep) := by
        have := (HB.out.upd HW.out.2 (no_ _)).cell 3
        simpa using this
      have HW2 : Hid (∀ y, y = ep / 2 ^ (8 * j) % 256 → Nb (wr.setCell ⟨g, j, none⟩ (.int .u8 y)) 5 g (hst ep (j + 1)) ∧ Upd No w (wr.setCell ⟨g, j, none⟩ (.int .u8 y))) := hid fun y hy => by
        have h1 := HW.out.1.put j y
        rw [hy, pow2 j hlt, hst_succ ep j (by omega), ← pow2 j hlt, ← hy] at h1
        exact ⟨h1, HW.out.2.set (.inr HG.out) _⟩
      clear hlen hg
      go_wp2
      go_roundw
      case rel => exact ⟨j + 1, by omega, by go_num, hid (HW2.out _ rfl)⟩
      case measure => simp [intOf]; omega
    · obtain rfl : j = 8 := by omega
      have HE := hid (hst_end ep)
      rcases last with _ | _
      · have HN2 : Hid (Nb wr 5 g (hdr ep false)) := hid (by rw [← HE.out.1]; exact HW.out.1)
        clear hlen
        go_wp2
        go_ret
        exact ⟨g, rfl, HN2.out, HG.out, HW.out.2⟩
      · have hcj := HW.out.1.cell (i := 8) (by omega)
        have hfj := Blk.free HW.out.1 8
        have HN2 : Hid (Nb (wr.setCell ⟨g, 8, none⟩ (.int .u8 1)) 5 g (hdr ep true) ∧ Upd No w (wr.setCell ⟨g, 8, none⟩ (.int .u8 1))) := hid (by
          have h1 := HW.out.1.put 8 1
          rw [HE.out.2] at h1
          exact ⟨h1, HW.out.2.set (.inr HG.out) _⟩)
        clear hlen hg
        go_wp2
        go_ret
        exact ⟨g, rfl, HN2.out.1, HG.out, HN2.out.2⟩
/-- The cells of a log. -/
theorem Lg.cells {w : World} {q : Nat} {v0 v1 v2 v3 v4 v5 v6 : Value} (h : Blk w q 56 #[v0, v1, v2, v3, v4, v5, v6]) :
    w.cell? ⟨q, 0, none⟩ = some v0 ∧ w.cell? ⟨q, 1, none⟩ = some v1 ∧ w.cell? ⟨q, 2, none⟩ = some v2 ∧ w.cell? ⟨q, 3, none⟩ = some v3 ∧ w.cell? ⟨q, 4, none⟩ = some v4 ∧ w.cell? ⟨q, 5, none⟩ = some v5 ∧ w.cell? ⟨q, 6, none⟩ = some v6 := by
  have h0 := h.cell 0
  have h1 := h.cell 1
  have h2 := h.cell 2
  have h3 := h.cell 3
  have h4 := h.cell 4
  have h5 := h.cell 5
  have h6 := h.cell 6
  simp at h0 h1 h2 h3 h4 h5 h6
  exact ⟨h0, h1, h2, h3, h4, h5, h6⟩
/-- What holds of every log. -/
structure Lm.ok (m : Lm) : Prop where
  le : m.used ≤ m.count
  area : m.fr + m.count ≤ 65536
  ep : 0 ≤ m.ep ∧ m.ep ≤ 18446744073709551615
  many : m.us.length ≤ 65536
  long : ∀ u ∈ m.us, u.length ≤ 20000000
set_option maxHeartbeats 1000000 in
theorem room (q p : Nat) (m : Lm) (F : Nat → Prop) (w : World) (h : Lg w F q p m) (hok : m.ok) :
    Calls Try.prog 12 #[.pointer (some ⟨q, 0, none⟩)] w fun e w' => e = .returned (.int .i64 (m.count - m.used : Nat)) ∧ Upd No w w' := by
  obtain ⟨vu, h1, h2, h3, h4⟩ := h
  obtain ⟨hk1, hk2, _, _, _⟩ := hok
  have HC : Hid (∀ W, Upd No w W → W.cell? ⟨q, 2, none⟩ = some (.int .i64 m.count) ∧ W.cell? ⟨q, 5, none⟩ = some (.int .i64 m.used)) := hid fun W hu => by
    obtain ⟨_, _, c2, _, _, c5, _⟩ := Lg.cells (h1.upd hu (no_ _))
    exact ⟨c2, c5⟩
  have hs : (m.count : Int) - (m.used : Int) = ((m.count - m.used : Nat) : Int) := by omega
  have HS := hid hs
  clear h1 h2 h3 h4 hs
  generalize m.count = a at *
  generalize m.used = b at *
  go_enter Try.func12, Try.ntmps12
  go_wp2_with (fail)
  refine wp_region_held_drew (S := fun W => Upd No w W) (by kernel_rfl) (Upd.drew (Upd.refl _ _)) (fun hS => ?_)
  refine rg_at 0 (by decide) (fun oi hoi => ?_)
  have ho2 := hoi; simp only [List.getElem?_toArray, List.getElem?_cons_succ, List.getElem?_cons_zero, Option.some.injEq] at ho2; subst ho2
  refine rg_take (v := ?_) 0 hoi (by kernel_rfl) (by kernel_rfl) (by kernel_rfl) (fun _ _ _ h => h) (by rfl) ?_ hS ?_
  rotate_left
  · intro w _; go_simp; try with_reducible rfl
  clear hoi; try simp only [Act.put, List.setIfInBounds_toArray, List.set_cons_zero, List.set_cons_succ]
  refine rg_at 1 (by decide) (fun oi hoi => ?_)
  have ho2 := hoi; simp only [List.getElem?_toArray, List.getElem?_cons_succ, List.getElem?_cons_zero, Option.some.injEq] at ho2; subst ho2
  refine rg_take (v := ?_) 1 hoi (by kernel_rfl) (by kernel_rfl) (by kernel_rfl) (fun _ _ _ h => h) (by rfl) ?_ hS ?_
  rotate_left
  · intro w _; go_simp; try with_reducible rfl
  clear hoi; try simp only [Act.put, List.setIfInBounds_toArray, List.set_cons_zero, List.set_cons_succ]
  refine rg_at 2 (by decide) (fun oi hoi => ?_)
  have ho2 := hoi; simp only [List.getElem?_toArray, List.getElem?_cons_succ, List.getElem?_cons_zero, Option.some.injEq] at ho2; subst ho2
  refine rg_take (v := ?_) 2 hoi (by kernel_rfl) (by kernel_rfl) (by kernel_rfl) (fun _ _ _ h => h) (by rfl) ?_ hS ?_
  rotate_left
  · intro w _; go_simp; try with_reducible rfl
  clear hoi; try simp only [Act.put, List.setIfInBounds_toArray, List.set_cons_zero, List.set_cons_succ]
  refine rg_at 3 (by decide) (fun oi hoi => ?_)
  have ho2 := hoi; simp only [List.getElem?_toArray, List.getElem?_cons_succ, List.getElem?_cons_zero, Option.some.injEq] at ho2; subst ho2
  refine rg_take (v := ?_) 3 hoi (by kernel_rfl) (by kernel_rfl) (by kernel_rfl) (fun _ _ _ h => h) (by rfl) ?_ hS ?_
  rotate_left
  · intro w hw; have hf := (HC.out w hw).1; clear hw; go_simp; try with_reducible rfl
  clear hoi; try simp only [Act.put, List.setIfInBounds_toArray, List.set_cons_zero, List.set_cons_succ]
  refine rg_at 4 (by decide) (fun oi hoi => ?_)
  have ho2 := hoi; simp only [List.getElem?_toArray, List.getElem?_cons_succ, List.getElem?_cons_zero, Option.some.injEq] at ho2; subst ho2
  refine rg_take (v := ?_) 4 hoi (by kernel_rfl) (by kernel_rfl) (by kernel_rfl) (fun _ _ _ h => h) (by rfl) ?_ hS ?_
  rotate_left
  · intro w _; go_simp; try with_reducible rfl
  clear hoi; try simp only [Act.put, List.setIfInBounds_toArray, List.set_cons_zero, List.set_cons_succ]
  refine rg_at 5 (by decide) (fun oi hoi => ?_)
  have ho2 := hoi; simp only [List.getElem?_toArray, List.getElem?_cons_succ, List.getElem?_cons_zero, Option.some.injEq] at ho2; subst ho2
  refine rg_take (v := ?_) 5 hoi (by kernel_rfl) (by kernel_rfl) (by kernel_rfl) (fun _ _ _ h => h) (by rfl) ?_ hS ?_
  rotate_left
  · intro w _; go_simp; try with_reducible rfl
  clear hoi; try simp only [Act.put, List.setIfInBounds_toArray, List.set_cons_zero, List.set_cons_succ]
  refine rg_at 6 (by decide) (fun oi hoi => ?_)
  have ho2 := hoi; simp only [List.getElem?_toArray, List.getElem?_cons_succ, List.getElem?_cons_zero, Option.some.injEq] at ho2; subst ho2
  refine rg_take (v := ?_) 6 hoi (by kernel_rfl) (by kernel_rfl) (by kernel_rfl) (fun _ _ _ h => h) (by rfl) ?_ hS ?_
  rotate_left
  · intro w _; go_simp; try with_reducible rfl
  clear hoi; try simp only [Act.put, List.setIfInBounds_toArray, List.set_cons_zero, List.set_cons_succ]
  refine rg_at 7 (by decide) (fun oi hoi => ?_)
  have ho2 := hoi; simp only [List.getElem?_toArray, List.getElem?_cons_succ, List.getElem?_cons_zero, Option.some.injEq] at ho2; subst ho2
  refine rg_take (v := ?_) 7 hoi (by kernel_rfl) (by kernel_rfl) (by kernel_rfl) (fun _ _ _ h => h) (by rfl) ?_ hS ?_
  rotate_left
  · intro w hw; have hf := (HC.out w hw).2; clear hw; go_simp; try with_reducible rfl
  clear hoi; try simp only [Act.put, List.setIfInBounds_toArray, List.set_cons_zero, List.set_cons_succ]
  refine rg_at 8 (by decide) (fun oi hoi => ?_)
  have ho2 := hoi; simp only [List.getElem?_toArray, List.getElem?_cons_succ, List.getElem?_cons_zero, Option.some.injEq] at ho2; subst ho2
  refine rg_take (v := ?_) 8 hoi (by kernel_rfl) (by kernel_rfl) (by kernel_rfl) (fun _ _ _ h => h) (by rfl) ?_ hS ?_
  rotate_left
  · intro w _; go_simp; try with_reducible rfl
  clear hoi; try simp only [Act.put, List.setIfInBounds_toArray, List.set_cons_zero, List.set_cons_succ]
  refine rg_at 9 (by decide) (fun oi hoi => ?_)
  have ho2 := hoi; simp only [List.getElem?_toArray, List.getElem?_cons_succ, List.getElem?_cons_zero, Option.some.injEq] at ho2; subst ho2
  refine rg_take (v := ?_) 9 hoi (by kernel_rfl) (by kernel_rfl) (by kernel_rfl) (fun _ _ _ h => h) (by rfl) ?_ hS ?_
  rotate_left
  · intro w _; go_simp; try with_reducible rfl
  clear hoi; try simp only [Act.put, List.setIfInBounds_toArray, List.set_cons_zero, List.set_cons_succ]
  refine wpAnyH_done (by kernel_rfl) ?_ _
  go_wp2
  go_ret
  exact ⟨congrArg (fun z => Ending.returned (.int .i64 z)) (show IntKind.i64.wrap ((a : Int) - (b : Int)) = ((a - b : Nat) : Int) from (IntWalk.i64_in _ (by omega)).trans HS.out), hS⟩
theorem room_nil (w : World) : Calls Try.prog 12 #[.pointer none] w fun e w' => e = .returned (.int .i64 0) ∧ w = w' := by
  go_enter Try.func12, Try.ntmps12
  go_wp2
  go_ret
  exact ⟨rfl, rfl⟩
/-- What Reset answers, and the log behind it. -/
def Lm.rs (m : Lm) (e : Int) : Int × Lm := if m.over then (9, m) else if e ≤ m.ep then (3, m) else (0, { m with ep := e, us := [], used := 0 })
theorem reset_nil (n : Int) (w : World) : Calls Try.prog 16 #[.pointer none, .int .u64 n] w fun e w' => e = .returned (.int .i64 1) ∧ w = w' := by
  go_enter Try.func16, Try.ntmps16
  go_wp2
  go_ret
  exact ⟨rfl, rfl⟩
set_option maxHeartbeats 1000000 in
theorem reset (q p : Nat) (m : Lm) (F : Nat → Prop) (n : Int) (w : World) (h : Lg w F q p m) :
    Calls Try.prog 16 #[.pointer (some ⟨q, 0, none⟩), .int .u64 n] w fun e w' => e = .returned (.int .i64 (m.rs n).1) ∧ Lg w' F q p (m.rs n).2 ∧ Upd F w w' := by
  have HL := hid h
  obtain ⟨vu, h1, h2, h3, h4⟩ := h
  obtain ⟨c0, c1, c2, c3, c4, c5, c6⟩ := Lg.cells h1
  obtain ⟨fr, count, ep, us, used, over⟩ := m
  simp only at c0 c1 c2 c3 c4 c5 c6 h1 h2
  have f3 := h1.free 3
  have f4 := h1.free 4
  have f5 := h1.free 5
  rcases over with _ | _
  · by_cases hle : n ≤ ep
    · have hR : Hid (Lm.rs ⟨fr, count, ep, us, used, false⟩ n = (3, ⟨fr, count, ep, us, used, false⟩)) := hid (by simp [Lm.rs, hle])
      clear h1 h2 h3 h4
      go_enter Try.func16, Try.ntmps16
      go_wp2
      go_ret
      rw [hR.out]
      exact ⟨rfl, HL.out, Upd.refl _ _⟩
    · have hR : Hid (Lm.rs ⟨fr, count, ep, us, used, false⟩ n = (0, ⟨fr, count, n, [], 0, false⟩)) := hid (by simp [Lm.rs, hle])
      have hlt : ep < n := by omega
      have HE : Hid (Lg (((w.setCell ⟨q, 3, none⟩ (.int .u64 n)).setCell ⟨q, 4, none⟩ (.slice none 0 0)).setCell ⟨q, 5, none⟩ (.int .i64 0)) F q p ⟨fr, count, n, [], 0, false⟩ ∧ Upd F w (((w.setCell ⟨q, 3, none⟩ (.int .u64 n)).setCell ⟨q, 4, none⟩ (.slice none 0 0)).setCell ⟨q, 5, none⟩ (.int .i64 0))) := hid (by
        refine ⟨⟨.slice none 0 0, ?_, Uns.nil _ _, h3, fun k hk => ?_⟩, (((Upd.refl _ w).set (.inl h3) _).set (.inl h3) _).set (.inl h3) _⟩
        · have := ((h1.put 3 (.int .u64 n)).put 4 (.slice none 0 0)).put 5 (.int .i64 0)
          simpa using this
        · have := h4 k hk
          simpa [World.setCell] using this)
      clear h1 h2 h3 h4
      go_enter Try.func16, Try.ntmps16
      go_wp2
      go_ret
      rw [hR.out]
      exact ⟨rfl, HE.out⟩
  · have hR : Hid (Lm.rs ⟨fr, count, ep, us, used, true⟩ n = (9, ⟨fr, count, ep, us, used, true⟩)) := hid (by simp [Lm.rs])
    clear h1 h2 h3 h4
    go_enter Try.func16, Try.ntmps16
    go_wp2
    go_ret
    rw [hR.out]
    exact ⟨rfl, HL.out, Upd.refl _ _⟩
end Go.Proofs.Ytheopehhpoikdaa.Gl
