/-
  Journals: plain laws; the walks of fold, Fold, State, Base, Events, Version.
-/
import Derived.Test.YtjhmmffejfomkaaSl
import Derived.Test.YtjhmmffejfomkaaRg
import Derived.Test.YtjhmmffejfomkaaProg
import Derived.Lib.SliceRun
set_option linter.unusedVariables false
set_option linter.unusedSimpArgs false
namespace Go.Proofs.Ytjhmmffejfomkaa.Jn
open Go.RowKit Go.Proofs.Ytjhmmffejfomkaa.B
abbrev Ev := Int × Int
def ec (e : Ev) : List Value := [.int .i64 e.1, .int .i64 e.2]
def ecs (es : List Ev) : List Value := es.flatMap ec
def EvOk (e : Ev) : Prop := 0 ≤ e.1 ∧ e.1 ≤ 7
def st1 (b : List Int) (e : Ev) : List Int := b.set e.1.toNat e.2
def sts (b : List Int) (es : List Ev) : List Int := es.foldl st1 b
theorem sts_length (es : List Ev) : ∀ b : List Int, (sts b es).length = b.length := by
  induction es with
  | nil => exact fun _ => rfl
  | cons e r ih => intro b; rw [show sts b (e :: r) = sts (st1 b e) r from rfl, ih, st1, List.length_set]
theorem sts_snoc (b : List Int) (es : List Ev) (e : Ev) : sts b (es ++ [e]) = st1 (sts b es) e := by simp [sts]
theorem sts_append (b : List Int) (es fs : List Ev) : sts b (es ++ fs) = sts (sts b es) fs := by simp [sts]
theorem ecs_length (es : List Ev) : (ecs es).length = es.length * 2 := by
  induction es with
  | nil => rfl
  | cons e r ih => simp only [ecs, List.flatMap_cons, List.length_append, List.length_cons, List.length_nil, ec] at ih ⊢; omega
theorem ecs_append (ps qs : List Ev) : ecs (ps ++ qs) = ecs ps ++ ecs qs := by simp [ecs]
theorem ecs_get (ps : List Ev) : ∀ j (h : j < ps.length), (ecs ps)[j * 2]? = some (.int .i64 ps[j].1) ∧ (ecs ps)[j * 2 + 1]? = some (.int .i64 ps[j].2) := by
  induction ps with
  | nil => intro j h; simp at h
  | cons e r ih =>
    intro j h
    match j, h with
    | 0, _ => exact ⟨rfl, rfl⟩
    | j + 1, h =>
      have := ih j (by simpa using h)
      have e1 : ∀ k, (ecs (e :: r))[k + 2]? = (ecs r)[k]? := fun k => rfl
      rw [show (j + 1) * 2 = j * 2 + 2 from by omega, show j * 2 + 2 + 1 = j * 2 + 1 + 2 from by omega, e1, e1]
      simpa using this
theorem ecs_drop (ps : List Ev) (k : Nat) : (ecs ps).drop (k * 2) = ecs (ps.drop k) := by
  induction k generalizing ps with
  | zero => simp
  | succ k ih =>
    cases ps with
    | nil => simp [ecs]
    | cons e r =>
      rw [show (k + 1) * 2 = k * 2 + 2 from by omega]
      have : ecs (e :: r) = .int .i64 e.1 :: .int .i64 e.2 :: ecs r := rfl
      rw [this, List.drop_succ_cons, List.drop_succ_cons, ih]
      rfl
theorem ecs_take (ps : List Ev) (k : Nat) : (ecs ps).take (k * 2) = ecs (ps.take k) := by
  induction k generalizing ps with
  | zero => simp [ecs]
  | succ k ih =>
    cases ps with
    | nil => simp [ecs]
    | cons e r =>
      rw [show (k + 1) * 2 = k * 2 + 2 from by omega]
      have : ecs (e :: r) = .int .i64 e.1 :: .int .i64 e.2 :: ecs r := rfl
      rw [this, List.take_succ_cons, List.take_succ_cons, ih]
      rfl
theorem ecs_one (es : List Ev) : ∀ u ∈ ecs es, u.oneCell' = true := by
  intro u hu
  simp only [ecs, List.mem_flatMap] at hu
  obtain ⟨e, _, h⟩ := hu
  simp only [ec, List.mem_cons, List.not_mem_nil, or_false] at h
  rcases h with rfl | rfl <;> rfl
/-! eight registers -/
def arr (b : List Int) : Array Value := #[.int .i64 (gi b 0), .int .i64 (gi b 1), .int .i64 (gi b 2), .int .i64 (gi b 3), .int .i64 (gi b 4), .int .i64 (gi b 5), .int .i64 (gi b 6), .int .i64 (gi b 7)]
def jc (b : List Int) (v : Value) (n : Int) : Array Value := #[.int .i64 (gi b 0), .int .i64 (gi b 1), .int .i64 (gi b 2), .int .i64 (gi b 3), .int .i64 (gi b 4), .int .i64 (gi b 5), .int .i64 (gi b 6), .int .i64 (gi b 7), v, .int .u64 n]
theorem gi_set (b : List Int) (i j : Nat) (x : Int) (hb : b.length = 8) (hi : i < 8) : gi (b.set i x) j = if i = j then x else gi b j := by
  unfold gi
  rw [List.getD_eq_getElem?_getD, List.getD_eq_getElem?_getD, List.getElem?_set]
  by_cases h : i = j
  · subst h
    rw [if_pos rfl, if_pos rfl, if_pos (by omega)]
    rfl
  · rw [if_neg h, if_neg h]
theorem lt8 {P : Nat → Prop} (h0 : P 0) (h1 : P 1) (h2 : P 2) (h3 : P 3) (h4 : P 4) (h5 : P 5) (h6 : P 6) (h7 : P 7) : ∀ i, i < 8 → P i := by
  intro i hi
  match i, hi with
  | 0, _ => exact h0
  | 1, _ => exact h1
  | 2, _ => exact h2
  | 3, _ => exact h3
  | 4, _ => exact h4
  | 5, _ => exact h5
  | 6, _ => exact h6
  | 7, _ => exact h7
theorem jc_get (b : List Int) (v : Value) (n : Int) : ∀ i, i < 8 → (jc b v n)[i]? = some (.int .i64 (gi b i)) := lt8 rfl rfl rfl rfl rfl rfl rfl rfl
theorem arr_get (b : List Int) : ∀ i, i < 8 → (arr b)[i]? = some (.int .i64 (gi b i)) := lt8 rfl rfl rfl rfl rfl rfl rfl rfl
theorem jc_set (b : List Int) (v : Value) (n x : Int) (hb : b.length = 8) : ∀ i, i < 8 → (jc b v n).setIfInBounds i (.int .i64 x) = jc (b.set i x) v n := by
  have g := fun i j hi => gi_set b i j x hb hi
  refine lt8 ?_ ?_ ?_ ?_ ?_ ?_ ?_ ?_ <;> (unfold jc; simp [g])
theorem arr_set (b : List Int) (x : Int) (hb : b.length = 8) : ∀ i, i < 8 → (arr b).setIfInBounds i (.int .i64 x) = arr (b.set i x) := by
  have g := fun i j hi => gi_set b i j x hb hi
  refine lt8 ?_ ?_ ?_ ?_ ?_ ?_ ?_ ?_ <;> (unfold arr; simp [g])
theorem box2 {w : World} {g : Nat} {t : TypeId} {a b : Value} (h : Blk w g t #[a, b]) : w.cell? ⟨g, 0, none⟩ = some a ∧ w.cell? ⟨g, 1, none⟩ = some b := ⟨by simpa using h.cell 0, by simpa using h.cell 1⟩
section
variable {w w' : World} {F G : Nat → Prop} {p : Nat} {t : TypeId} {b : List Int} {v : Value} {n : Int}
theorem jbox (h : Blk w p t (jc b v n)) : (w.cell? ⟨p, 0, none⟩ = some (.int .i64 (gi b 0)) ∧ w.cell? ⟨p, 1, none⟩ = some (.int .i64 (gi b 1)) ∧ w.cell? ⟨p, 2, none⟩ = some (.int .i64 (gi b 2)) ∧ w.cell? ⟨p, 3, none⟩ = some (.int .i64 (gi b 3)) ∧
    w.cell? ⟨p, 4, none⟩ = some (.int .i64 (gi b 4)) ∧ w.cell? ⟨p, 5, none⟩ = some (.int .i64 (gi b 5)) ∧ w.cell? ⟨p, 6, none⟩ = some (.int .i64 (gi b 6)) ∧ w.cell? ⟨p, 7, none⟩ = some (.int .i64 (gi b 7))) ∧ w.cell? ⟨p, 8, none⟩ = some v ∧ w.cell? ⟨p, 9, none⟩ = some (.int .u64 n) :=
  ⟨⟨h.cell 0, h.cell 1, h.cell 2, h.cell 3, h.cell 4, h.cell 5, h.cell 6, h.cell 7⟩, h.cell 8, h.cell 9⟩
theorem abox (h : Blk w p t (arr b)) : w.cell? ⟨p, 0, none⟩ = some (.int .i64 (gi b 0)) ∧ w.cell? ⟨p, 1, none⟩ = some (.int .i64 (gi b 1)) ∧ w.cell? ⟨p, 2, none⟩ = some (.int .i64 (gi b 2)) ∧ w.cell? ⟨p, 3, none⟩ = some (.int .i64 (gi b 3)) ∧
    w.cell? ⟨p, 4, none⟩ = some (.int .i64 (gi b 4)) ∧ w.cell? ⟨p, 5, none⟩ = some (.int .i64 (gi b 5)) ∧ w.cell? ⟨p, 6, none⟩ = some (.int .i64 (gi b 6)) ∧ w.cell? ⟨p, 7, none⟩ = some (.int .i64 (gi b 7)) :=
  ⟨h.cell 0, h.cell 1, h.cell 2, h.cell 3, h.cell 4, h.cell 5, h.cell 6, h.cell 7⟩
theorem jput (h : Blk w p t (jc b v n)) (hb : b.length = 8) {i : Nat} (hi : i < 8) (x : Int) : Blk (w.setCell ⟨p, i, none⟩ (.int .i64 x)) p t (jc (b.set i x) v n) := by
  have := h.put i (.int .i64 x)
  rwa [jc_set b v n x hb i hi] at this
theorem jput8 (h : Blk w p t (jc b v n)) (u : Value) : Blk (w.setCell ⟨p, 8, none⟩ u) p t (jc b u n) := h.put 8 u
theorem jput9 (h : Blk w p t (jc b v n)) (m : Int) : Blk (w.setCell ⟨p, 9, none⟩ (.int .u64 m)) p t (jc b v m) := h.put 9 (.int .u64 m)
theorem aput (h : Blk w p t (arr b)) (hb : b.length = 8) {i : Nat} (hi : i < 8) (x : Int) : Blk (w.setCell ⟨p, i, none⟩ (.int .i64 x)) p t (arr (b.set i x)) := by
  have := h.put i (.int .i64 x)
  rwa [arr_set b x hb i hi] at this
end
theorem ev_at {w : World} {t : TypeId} {A : Option Addr} {c : Nat} {es : List Ev} (h : Sl w 0 t 2 (.slice A es.length c) es.length (ecs es)) {j : Nat} (hj : j < es.length) :
    ∃ g off, A = some ⟨g, off, none⟩ ∧ w.cell? ⟨g, off + j * 2, none⟩ = some (.int .i64 es[j].1) ∧ w.cell? ⟨g, off + j * 2 + 1, none⟩ = some (.int .i64 es[j].2) ∧ g < w.heap.size := by
  rcases h.2 with ⟨_, h⟩ | ⟨g, off, cap, cur, hv, _, hh, _, _, _, hc⟩
  · omega
  · simp only [Value.slice.injEq, true_and] at hv
    obtain ⟨rfl, rfl⟩ := hv
    obtain ⟨h1, h2⟩ := ecs_get es j hj
    exact ⟨g, off, rfl, by rw [hh.cell]; exact hc _ _ h1, by rw [hh.cell, Nat.add_assoc]; exact hc _ _ h2, hh.lt⟩
theorem Sl.cap {w : World} {base e size n c : Nat} {A : Option Addr} {xs : List Value} (h : Sl w base e size (.slice A n c) n xs) : n ≤ c ∧ c ≤ maxLen := by
  obtain ⟨_, _, he, h1, h2⟩ := B.Sl.shape h
  simp only [Value.slice.injEq, true_and] at he
  obtain ⟨_, rfl⟩ := he
  exact ⟨h1, h2⟩
theorem below_drew {B : Nat} {w w' : World} (h : Below B w w') : Below B w w'.drew := ⟨h.os, h.tape, h.output, h.size, h.block⟩
theorem clone_info : (Try.prog.info? 33).map (fun i => (i.zero, i.size, i.bytes)) = some (some (.agg #[.int .i64 0, .int .i64 0]), 2, 16) := by kernel_rfl
set_option maxHeartbeats 1000000 in
/-- slices.Clone. -/
theorem clone (A : Option Addr) (n c : Nat) (xs : List Value) (w : World) (hr : Rd w 2 A n xs) (h1 : ∀ u ∈ xs, u.oneCell' = true) (hn : n * 16 ≤ 140737488355328) :
    Calls Try.prog 26 #[.slice A n c] w fun e w' => ∃ A' c', e = .returned (.slice A' n c') ∧ w'.ownsRow w.heap.size 33 2 (.slice A' n c') n xs ∧ Upd No w w' ∧ (A = none → A' = none) := by
  have q : ∀ (w : World) (a : Option Addr) (n c n' c' : Nat), (binOp .eql 34 (.slice a n c) (.slice none n' c')).run Try.prog w = .ok (.bool a.isNone) w := fun w a n c n' c' => Go.Lib.run_eql_slice_nil w _ _ a n c n' c' Try.underlying34
  rcases A with _ | ad
  · obtain rfl : n = 0 := by
      rcases Nat.eq_zero_or_pos n with h0 | h0
      · exact h0
      · obtain ⟨ad, h, _⟩ := hr.2 h0
        cases h
    obtain rfl : xs = [] := List.eq_nil_of_length_eq_zero (by simpa using hr.1)
    go_enter Try.func26, Try.ntmps26
    go_wp2
    go_ret
    exact ⟨none, 0, rfl, ⟨by simp, .inl ⟨rfl, rfl⟩⟩, Upd.refl _ _, fun _ => rfl⟩
  · go_enter Try.func26, Try.ntmps26
    go_wp2_with (at_builtin; refine ap_row w.heap.size rfl _ _ 34 33 (.agg #[.int .i64 0, .int .i64 0]) 2 16 rfl Try.underlying34 clone_info rfl (by omega) (.slice (some ⟨w.heap.size, 0, none⟩) 0 0) 0 [] (some ad) n c xs rfl rfl (World.ownsRow_made w #[] 0 (Nat.le_refl _) (Nat.zero_le _) rfl) (Rd.alloc hr (by omega) _) h1 (by omega) (by omega) (by simp) ?_; intro A1 c1 w1 ho hg hat; rw [Nat.zero_add, List.nil_append] at ho; rw [Nat.zero_add])
    go_wp2
    go_ret
    refine ⟨A1, c1, rfl, ho, ?_, fun h => by cases h⟩
    have h5 : Upd No w (w.alloc (.cells #[] 33)) := (Upd.refl _ _).alloc _
    exact h5.grown hg fun k hk => by
      have : w.heap.size = k := by simpa [Value.ownBlock] using hk
      exact .inr (by omega)
/-! package journal -/
abbrev S := List Int × List Ev × Int
structure Jx (w : World) (F : Nat → Prop) (p : Nat) (s : S) (v : Value) : Prop where
  blk : Blk w p 46 (jc s.1 v s.2.2)
  row : Sl w 0 33 2 v s.2.1.length (ecs s.2.1)
  fp : F p
  fv : ∀ k, v.ownBlock = some k → F k
  lt : ∀ k, F k → k < w.heap.size
def Jd (w : World) (F : Nat → Prop) (p : Nat) (s : S) : Prop := ∃ v, Jx w F p s v
structure Ok (s : S) : Prop where
  b8 : s.1.length = 8
  le : s.2.1.length ≤ 600
  ev : ∀ e ∈ s.2.1, EvOk e
section
variable {w w' : World} {F H : Nat → Prop} {p : Nat} {s : S} {v : Value}
theorem Jx.upd (h : Jx w F p s v) (hu : Upd H w w') (hn : ∀ k, F k → ¬ H k) : Jx w' F p s v where
  blk := h.blk.upd hu (hn _ h.fp)
  row := h.row.upd hu fun g hg => hn _ (h.fv g hg)
  fp := h.fp
  fv := h.fv
  lt := fun k hk => Nat.lt_of_lt_of_le (h.lt k hk) hu.size
theorem Jd.upd (h : Jd w F p s) (hu : Upd H w w') (hn : ∀ k, F k → ¬ H k) : Jd w' F p s := by
  obtain ⟨v, h⟩ := h
  exact ⟨v, h.upd hu hn⟩
theorem Jd.lt (h : Jd w F p s) : ∀ k, F k → k < w.heap.size := by
  obtain ⟨v, h⟩ := h
  exact h.lt
theorem Jx.vp (h : Jx w F p s v) : ∀ k, v.ownBlock = some k → k ≠ p := fun k hk e => h.row.ne h.blk (by decide) (by rw [hk, e])
/-- Behind a store of the events. -/
theorem Jx.fin {wz : World} {vz : Value} {s' : S} (h : Jx w F p s v) (hu : Upd F w wz) (hB : Blk wz p 46 (jc s'.1 vz s'.2.2)) (hO : Sl wz 0 33 2 vz s'.2.1.length (ecs s'.2.1)) (hv : ∀ k, vz.ownBlock = some k → F k ∨ w.heap.size ≤ k) :
    ∃ F', Jd wz F' p s' ∧ Mv F F' w wz := by
  refine ⟨fun k => F k ∨ vz.ownBlock = some k, ⟨vz, hB, hO, .inl h.fp, fun k hk => .inr hk, fun k hk => ?_⟩, ⟨hu, fun k hk => ?_⟩⟩
  · rcases hk with hk | hk
    · exact Nat.lt_of_lt_of_le (h.lt k hk) hu.size
    · exact (hO.lt k hk).2
  · rcases hk with hk | hk
    · exact .inl hk
    · exact hv k hk
end
/-- 's[:h]', whatever the elements' size. -/
theorem cut_upto {P : Program} (t e : TypeId) (s : Nat) (ht : P.underlying t = some (.slice e)) (hi : (P.info? e).map (·.size) = some s) (A : Option Addr) (n c h : Nat) (hh : h ≤ c) :
    ∀ W : World, (Instr.slice t (.slice A n c) none (some (.int .i64 (h : Int))) none).run P W = .ok (.slice A h c) W := by
  intro W
  obtain ⟨i, hi1, hi2⟩ := Option.map_eq_some_iff.1 hi
  have hel : P.elem t = e := by simp [Program.elem, ht]
  have hu : P.underlying t = some (.slice (P.elem t)) := by rw [hel]; exact ht
  rw [run_slice_h W t A n c hu .i64 (h : Int) (Int.natCast_nonneg _) (by omega), hel]
  have e0 : (A.map fun x => x.add 0) = A := by cases A <;> rfl
  simp [sizeOf, typeInfo, hi1, hi2, sliced, Result.andThen, e0]
/-- What fold does. -/
def foldS (s : S) (n : Nat) : S := (sts s.1 (s.2.1.take n), s.2.1.drop n, s.2.2)
def FoldOut (w : World) (F : Nat → Prop) (p : Nat) (s : S) (e : Ending) (w' : World) : Prop := e = .returned (.tuple #[]) ∧ ∃ F', Jd w' F' p s ∧ Mv F F' w w'
theorem FoldOut.of {w : World} {F : Nat → Prop} {p : Nat} {s : S} {e : Ending} {w' : World} (h : e = .returned (.tuple #[]) ∧ ∃ F', Jd w' F' p s ∧ Mv F F' w w') : FoldOut w F p s e w' := h
set_option maxHeartbeats 2000000 in
theorem fold {w : World} {F : Nat → Prop} {p : Nat} {s : S} (n : Nat) (h : Jd w F p s) (hok : Ok s) (hn : n ≤ s.2.1.length) :
    Calls Try.prog 25 #[.pointer (some ⟨p, 0, none⟩), .int .i64 n] w fun e w' => FoldOut w F p (foldS s n) e w' := by
  obtain ⟨v, h⟩ := h
  obtain ⟨bs, es, ver⟩ := s
  have hb8 := hok.b8
  have hle := hok.le
  have HEv := hid hok.ev
  simp only at hb8 hle hn
  obtain ⟨A, c, hv, hc1, hc2⟩ := h.row.shape
  subst hv
  simp only at hc1
  have hvp := h.vp
  obtain ⟨_, c8, c9⟩ := jbox h.blk
  simp only at c8 c9
  have hcut := cut_upto (P := Try.prog) 34 33 2 Try.underlying34 (by kernel_rfl) A es.length c n (by omega)
  have HX := hid h
  have HH := hid (And.intro h.blk (And.intro h.row (And.intro h.fp hvp)))
  have hn600 : n ≤ 600 := by omega
  clear h hvp hok
  go_enter Try.func25, Try.ntmps25
  go_wp2_with (fail)
  clear hcut c8 c9
  go_loopw [13] (fun v13 W => ∃ j : Nat, j ≤ n ∧ v13 = .int .i64 j ∧ Hid (Blk W p 46 (jc (sts bs (es.take j)) (.slice A es.length c) ver)) ∧ Hid (Upd (fun k => k = p) w W)) (fun v13 _ => n - (intOf v13).toNat)
  case atStart => exact ⟨0, by omega, rfl, hid (by simpa [sts] using HH.out.1), hid (Upd.refl _ _)⟩
  case round =>
    obtain ⟨j, hj, rfl, HB, HU⟩ := hrel
    by_cases hlt : j < n
    · have hje : j < es.length := by omega
      obtain ⟨g, off, rfl, d0, d1, hgl⟩ := ev_at (HH.out.2.1.upd HU.out fun k hk => HH.out.2.2.2 k hk) hje
      have hev := HEv.out _ (List.getElem_mem hje)
      have HN : Hid (sts bs (es.take (j + 1)) = st1 (sts bs (es.take j)) es[j] ∧ (sts bs (es.take j)).length = 8) := hid ⟨by rw [List.take_succ_eq_append_getElem hje, sts_snoc], by rw [sts_length, hb8]⟩
      have hj2 : (j : Int) < (n : Int) := by omega
      generalize es[j] = e0 at *
      obtain ⟨r, y⟩ := e0
      obtain ⟨r, rfl⟩ : ∃ t : Nat, r = t := ⟨r.toNat, by have := hev.1; simp only at this; omega⟩
      have hr8 : r < 8 := by have := hev.2; simp only at this; omega
      have hr8' : (r : Int) < 8 := by omega
      simp only [st1, Int.toNat_natCast] at HN
      simp only at d0 d1
      have hpl := HB.out.lt
      generalize sts bs (es.take j) = b at *
      go_wp2_with (fail)
      have hw2 : ∃ w2, w2 = wr.alloc (.cells #[.int .i64 (r : Int), .int .i64 y] 33) := ⟨_, rfl⟩
      obtain ⟨w2, hw2⟩ := hw2
      have hD : Blk w2 wr.heap.size 33 #[.int .i64 (r : Int), .int .i64 y] := by rw [hw2]; exact Blk.fresh _ _ _
      have hB2 : Blk w2 p 46 (jc b (.slice (some ⟨g, off, none⟩) es.length c) ver) := by rw [hw2]; exact HB.out.alloc _
      have HU2 : Hid (Upd (fun k => k = p) w w2) := hid (by rw [hw2]; exact HU.out.alloc _)
      rw [← hw2]
      clear hw2 d0 d1
      have hbr := jc_get b (.slice (some ⟨g, off, none⟩) es.length c) ver r hr8
      have k0 := hB2.drew.cell r
      have f0 := hB2.drew.free r
      rw [hbr] at k0
      have HE : Hid (Blk (w2.drew.setCell ⟨p, r, none⟩ (.int .i64 y)) p 46 (jc (sts bs (es.take (j + 1))) (.slice (some ⟨g, off, none⟩) es.length c) ver) ∧ Upd (fun k => k = p) w (w2.drew.setCell ⟨p, r, none⟩ (.int .i64 y))) := hid ⟨by rw [HN.out.1]; exact jput hB2.drew HN.out.2 hr8 y, HU2.out.drew.set1 r _⟩
      clear hbr hB2
      refine wp_region_held_drew (S := fun W => Blk W wr.heap.size 33 #[.int .i64 (r : Int), .int .i64 y]) (by kernel_rfl) hD.drew (fun hS => ?_)
      refine rg_at 0 (by decide) (fun oi hoi => ?_)
      have ho2 := hoi; simp only [List.getElem?_toArray, List.getElem?_cons_succ, List.getElem?_cons_zero, Option.some.injEq] at ho2; subst ho2
      refine rg_take (v := ?_) 0 hoi (by kernel_rfl) (by kernel_rfl) (by kernel_rfl) (fun _ _ _ h => h) (by rfl) ?_ hS ?_
      rotate_left
      · intro w _; go_simp; try with_reducible rfl
      clear hoi; try simp only [Act.put, List.setIfInBounds_toArray, List.set_cons_zero, List.set_cons_succ]
      refine rg_at 1 (by decide) (fun oi hoi => ?_)
      have ho2 := hoi; simp only [List.getElem?_toArray, List.getElem?_cons_succ, List.getElem?_cons_zero, Option.some.injEq] at ho2; subst ho2
      refine rg_take (v := ?_) 1 hoi (by kernel_rfl) (by kernel_rfl) (by kernel_rfl) (fun _ _ _ h => h) (by rfl) ?_ hS ?_
      rotate_left
      · intro w _; go_simp; try with_reducible rfl
      clear hoi; try simp only [Act.put, List.setIfInBounds_toArray, List.set_cons_zero, List.set_cons_succ]
      refine rg_at 2 (by decide) (fun oi hoi => ?_)
      have ho2 := hoi; simp only [List.getElem?_toArray, List.getElem?_cons_succ, List.getElem?_cons_zero, Option.some.injEq] at ho2; subst ho2
      refine rg_take (v := ?_) 2 hoi (by kernel_rfl) (by kernel_rfl) (by kernel_rfl) (fun _ _ _ h => h) (by rfl) ?_ hS ?_
      rotate_left
      · intro w hw; have hf := (box2 hw).1; clear hw; go_simp; try with_reducible rfl
      clear hoi; try simp only [Act.put, List.setIfInBounds_toArray, List.set_cons_zero, List.set_cons_succ]
      refine rg_at 3 (by decide) (fun oi hoi => ?_)
      have ho2 := hoi; simp only [List.getElem?_toArray, List.getElem?_cons_succ, List.getElem?_cons_zero, Option.some.injEq] at ho2; subst ho2
      refine rg_take (v := ?_) 3 hoi (by kernel_rfl) (by kernel_rfl) (by kernel_rfl) (fun _ _ _ h => h) (by rfl) ?_ hS ?_
      rotate_left
      · intro w _; go_simp; try with_reducible rfl
      clear hoi; try simp only [Act.put, List.setIfInBounds_toArray, List.set_cons_zero, List.set_cons_succ]
      refine rg_at 4 (by decide) (fun oi hoi => ?_)
      have ho2 := hoi; simp only [List.getElem?_toArray, List.getElem?_cons_succ, List.getElem?_cons_zero, Option.some.injEq] at ho2; subst ho2
      refine rg_take (v := ?_) 4 hoi (by kernel_rfl) (by kernel_rfl) (by kernel_rfl) (fun _ _ _ h => h) (by rfl) ?_ hS ?_
      rotate_left
      · intro w hw; have hf := (box2 hw).2; clear hw; go_simp; try with_reducible rfl
      clear hoi; try simp only [Act.put, List.setIfInBounds_toArray, List.set_cons_zero, List.set_cons_succ]
      refine rg_at 5 (by decide) (fun oi hoi => ?_)
      have ho2 := hoi; simp only [List.getElem?_toArray, List.getElem?_cons_succ, List.getElem?_cons_zero, Option.some.injEq] at ho2; subst ho2
      refine rg_take (v := ?_) 5 hoi (by kernel_rfl) (by kernel_rfl) (by kernel_rfl) (fun _ _ _ h => h) (by rfl) ?_ hS ?_
      rotate_left
      · intro w _; go_simp; try with_reducible rfl
      clear hoi; try simp only [Act.put, List.setIfInBounds_toArray, List.set_cons_zero, List.set_cons_succ]
      refine rg_at 6 (by decide) (fun oi hoi => ?_)
      have ho2 := hoi; simp only [List.getElem?_toArray, List.getElem?_cons_succ, List.getElem?_cons_zero, Option.some.injEq] at ho2; subst ho2
      refine rg_take (v := ?_) 6 hoi (by kernel_rfl) (by kernel_rfl) (by kernel_rfl) (fun _ _ _ h => h) (by rfl) ?_ hS ?_
      rotate_left
      · intro w _; go_simp; try with_reducible rfl
      clear hoi; try simp only [Act.put, List.setIfInBounds_toArray, List.set_cons_zero, List.set_cons_succ]
      refine rg_at 7 (by decide) (fun oi hoi => ?_)
      have ho2 := hoi; simp only [List.getElem?_toArray, List.getElem?_cons_succ, List.getElem?_cons_zero, Option.some.injEq] at ho2; subst ho2
      refine rg_take (v := ?_) 7 hoi (by kernel_rfl) (by kernel_rfl) (by kernel_rfl) (fun _ _ _ h => h) (by rfl) ?_ hS ?_
      rotate_left
      · intro w _; go_simp; try with_reducible rfl
      clear hoi; try simp only [Act.put, List.setIfInBounds_toArray, List.set_cons_zero, List.set_cons_succ]
      refine rg_at 8 (by decide) (fun oi hoi => ?_)
      have ho2 := hoi; simp only [List.getElem?_toArray, List.getElem?_cons_succ, List.getElem?_cons_zero, Option.some.injEq] at ho2; subst ho2
      refine rg_call 8 (by kernel_rfl) hoi (by rfl) (fun K hK => ?_)
      clear hoi
      skip
      go_simp
      refine hK.out _ _ ((by exact hD.drew.far (by simp; omega) _)) (fun hS => ?_)
      clear hK K
      try simp only [Act.put, List.setIfInBounds_toArray, List.set_cons_zero, List.set_cons_succ]
      refine wpAnyH_done (by kernel_rfl) ?_ _
      clear hS k0 f0 hD
      go_wp2
      go_roundw
      case rel => exact ⟨j + 1, by omega, by go_num, hid HE.out.1, hid HE.out.2⟩
      case measure => simp [intOf]; omega
    · obtain rfl : j = n := by omega
      have hrow := HH.out.2.1.upd HU.out fun k hk => HH.out.2.2.2 k hk
      obtain ⟨_, c8, c9⟩ := jbox HB.out
      obtain ⟨A5, hA5, hcut⟩ := cut_tail (P := Try.prog) 34 33 .i64 2 Try.underlying34 (by kernel_rfl) A es.length c j (j : Int) rfl (by omega)
      have hr5 : Rd wr 2 A5 (es.length - j) (ecs (es.drop j)) := by
        have := Rd.drop (k := j) (Sl.rd hrow) (by omega) hc1
        rw [ecs_drop] at this
        rw [hA5]
        exact this
      have HC := hid (clone A5 (es.length - j) (c - j) (ecs (es.drop j)) wr hr5 (ecs_one _) (by omega))
      have HA5 := hid hA5
      clear hrow hr5 hA5
      go_wp2_with (fail)
      refine Calls.mono HC.out ?_
      rintro e w5 ⟨A6, c6, rfl, ho6, hu6, _⟩
      have b5 := HB.out.upd hu6 (no_ _)
      obtain ⟨_, y8, y9⟩ := jbox b5
      have f8 := b5.free 8
      have HE : Hid (∃ F', Jd (w5.setCell ⟨p, 8, none⟩ (.slice A6 (es.length - j) c6)) F' p (foldS (bs, es, ver) j) ∧ Mv F F' w (w5.setCell ⟨p, 8, none⟩ (.slice A6 (es.length - j) c6))) := by
        have hus := HU.out.size
        have hpl := HX.out.lt p HX.out.fp
        refine hid (HX.out.fin (((HU.out.mono fun k _ e => by rw [e]; exact HX.out.fp).next (hu6.mono fun _ _ h => h.elim)).set (p := ⟨p, 8, none⟩) (.inl HX.out.fp) _) (jput8 b5 _) ?_ (fun k hk => .inr (by have := (ho6.lt k hk).1; omega)))
        have hOz : Sl w5 0 33 2 (.slice A6 (es.length - j) c6) (es.length - j) (ecs (es.drop j)) := Sl.of_own (own_base ho6 (Nat.zero_le _))
        have := hOz.upd ((Upd.refl (fun k => k = p) _).set1 8 (.slice A6 (es.length - j) c6)) fun k hk e => by
          have := (ho6.lt k hk).1
          omega
        simpa [foldS] using this
      have HO := hid (And.intro ho6 hu6)
      clear ho6 hu6 c8 c9
      go_wp2
      exact bodyPost_ret (results_none rfl _ _ _) rfl (.of ⟨rfl, HE.out⟩)
end Go.Proofs.Ytjhmmffejfomkaa.Jn
