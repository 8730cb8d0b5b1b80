/-
  The walks of the reference's disk.
-/
import Derived.Test.YtehdobagglondaaDq
set_option linter.unusedVariables false
set_option linter.unusedSimpArgs false
namespace Go.Proofs.Ytehdobagglondaa.Dr
open Go.RowKit Go.Proofs.Ytehdobagglondaa.B Go.Proofs.Ytehdobagglondaa.Sm Go.Proofs.Ytehdobagglondaa.Dk
abbrev Rec := Nat × List Int
def rcells (l : List Rec) : List Value := l.flatMap fun x => [.int .i64 x.1, .string (strOfNums x.2)]
theorem rcells_length (ps : List Rec) : (rcells ps).length = ps.length * 2 := by
  induction ps with
  | nil => rfl
  | cons p r ih => simp only [rcells, List.flatMap_cons, List.length_append] at *; simp [ih]; omega
theorem rcells_get (ps : List Rec) (i : Nat) (x : Rec) (hi : ps[i]? = some x) : (rcells ps)[i * 2]? = some (.int .i64 x.1) ∧ (rcells ps)[i * 2 + 1]? = some (.string (strOfNums x.2)) := by
  induction ps generalizing i with
  | nil => simp at hi
  | cons p r ih =>
    match i with
    | 0 =>
      simp at hi
      subst hi
      exact ⟨rfl, rfl⟩
    | i + 1 =>
      have := ih i (by simpa using hi)
      have e : rcells (p :: r) = [Value.int .i64 p.1, .string (strOfNums p.2)] ++ rcells r := rfl
      have e2 : ∀ k, (rcells (p :: r))[k + 2]? = (rcells r)[k]? := fun k => by rw [e, List.getElem?_append_right (by simp)]; simp
      rw [show (i + 1) * 2 = i * 2 + 2 from by omega, e2, show i * 2 + 2 + 1 = i * 2 + 1 + 2 from by omega, e2]
      exact this
theorem rcells_one (ps : List Rec) : ∀ u ∈ rcells ps, u.oneCell' = true := by
  intro u hu
  simp only [rcells, List.mem_flatMap, List.mem_cons, List.not_mem_nil, or_false] at hu
  obtain ⟨p, _, rfl | rfl⟩ := hu <;> rfl
theorem rcells_take (ps : List Rec) (k : Nat) : rcells (ps.take k) = (rcells ps).take (k * 2) := by
  induction ps generalizing k with
  | nil => simp [rcells]
  | cons p r ih =>
    match k with
    | 0 => simp [rcells]
    | k + 1 =>
      have e : rcells (p :: r) = [Value.int .i64 p.1, .string (strOfNums p.2)] ++ rcells r := rfl
      have e' : rcells ((p :: r).take (k + 1)) = [Value.int .i64 p.1, .string (strOfNums p.2)] ++ rcells (r.take k) := rfl
      rw [e, e', ih, show (k + 1) * 2 = k * 2 + 2 from by omega, List.take_append]
      simp
theorem wr_info : (Try.prog.info? 56).map (fun i => (i.zero, i.size, i.bytes)) = some (some (.agg #[.int .i64 0, .string ⟨#[]⟩]), 2, 24) := by kernel_rfl
def Fits (l : List Rec) : Prop := ∀ x ∈ l, x.2.length = 256 ∧ ∀ c ∈ x.2, 0 ≤ c ∧ c ≤ 255
/-- The reference's disk at q is m. -/
def Dr (w : World) (F : Nat → Prop) (q : Nat) (m : Dm) : Prop :=
  ∃ (vl : Value), Blk w q 54 #[.int .i64 m.nb, vl, .int .i64 m.fuse, .bool m.down] ∧
    w.ownsRow 0 56 2 vl m.log.length (rcells m.log) ∧ F q ∧ (∀ k, vl.ownBlock = some k → F k) ∧ (∀ k, F k → k < w.heap.size)
section
variable {w w' : World} {F G : Nat → Prop} {q : Nat} {m : Dm}
theorem Dr.upd (h : Dr w F q m) (hu : Upd G w w') (hn : ∀ k, F k → ¬ G k) : Dr w' F q m := by
  obtain ⟨vl, h2, h4, h6, h8, h9⟩ := h
  exact ⟨vl, h2.upd hu (hn _ h6), own_upd h4 hu fun k hk => hn k (h8 k hk), h6, h8, fun k hk => Nat.lt_of_lt_of_le (h9 k hk) hu.size⟩
theorem Dr.lt (h : Dr w F q m) : ∀ k, F k → k < w.heap.size := by
  obtain ⟨vl, h2, h4, h6, h8, h9⟩ := h
  exact h9
theorem Dr.word (h : Dr w F q m) (f : Int) (d : Bool) (hb : ∀ b, Blk w q 54 #[.int .i64 m.nb, b, .int .i64 m.fuse, .bool m.down] → Blk w' q 54 #[.int .i64 m.nb, b, .int .i64 f, .bool d]) (hu : Upd (fun k => k = q) w w') :
    Dr w' F q { m with fuse := f, down := d } := by
  obtain ⟨vl, h2, h4, h6, h8, h9⟩ := h
  refine ⟨vl, hb _ h2, own_upd h4 hu fun k hk => ?_, h6, h8, fun k hk => Nat.lt_of_lt_of_le (h9 k hk) hu.size⟩
  rintro rfl
  exact own_blk_ne h4 h2 (by decide) hk
end
/-- Behind an append to the log. -/
theorem Dr.wrote {w w2 w3 : World} {F : Nat → Prop} {q : Nat} {m : Dm} {vl : Value} {r : List Rec} {A3 : Option Addr} {c3 : Nat}
    (h2 : Blk w q 54 #[.int .i64 m.nb, vl, .int .i64 m.fuse, .bool m.down]) (h4 : w.ownsRow 0 56 2 vl m.log.length (rcells m.log)) (h6 : F q) (h8 : ∀ k, vl.ownBlock = some k → F k) (h9 : ∀ k, F k → k < w.heap.size)
    (hu2 : Upd No w w2) (ho : w3.ownsRow 0 56 2 (.slice A3 (m.log.length + r.length) c3) (m.log.length + r.length) (rcells m.log ++ rcells r)) (hg : w2.grownBy w3 vl.ownBlock)
    (hat : ∀ k, (Value.slice A3 (m.log.length + r.length) c3).ownBlock = some k → vl.ownBlock = some k ∨ w2.heap.size ≤ k) :
    ∃ F', Dr (w3.setCell ⟨q, 1, none⟩ (.slice A3 (m.log.length + r.length) c3)) F' q { m with log := m.log ++ r } ∧ Mv F F' w (w3.setCell ⟨q, 1, none⟩ (.slice A3 (m.log.length + r.length) c3)) := by
  have hb2 := h2.upd hu2 (no_ _)
  have hp3 := hb2.grown hg (own_blk_ne h4 h2 (by decide)).symm
  have hnep := own_blk_ne ho hp3 (by decide)
  have hsz : w.heap.size ≤ (w3.setCell ⟨q, 1, none⟩ (.slice A3 (m.log.length + r.length) c3)).heap.size := by
    have h1 := hu2.size
    have h2 := hg.size
    simp [World.setCell]
    omega
  have hup : Upd F w (w3.setCell ⟨q, 1, none⟩ (.slice A3 (m.log.length + r.length) c3)) := ((hu2.mono fun _ _ h => h.elim).grown hg fun k hk => .inl (h8 k hk)).set (.inl h6) _
  have e : rcells (m.log ++ r) = rcells m.log ++ rcells r := by simp [rcells]
  refine ⟨fun k => F k ∨ (Value.slice A3 (m.log.length + r.length) c3).ownBlock = some k, ⟨.slice A3 (m.log.length + r.length) c3, ?_, ?_, .inl h6, fun k hk => .inr hk, ?_⟩, hup, ?_⟩
  · have := hp3.put 1 (.slice A3 (m.log.length + r.length) c3)
    simpa using this
  · simp only [List.length_append, e]
    exact own_keep ho fun k hk => Below.heap_setCell _ _ _ _ (by rintro rfl; exact hnep hk)
  · rintro k (hk | hk)
    · exact Nat.lt_of_lt_of_le (h9 k hk) hsz
    · have := (ho.lt k hk).2
      simpa [World.setCell] using this
  · rintro k (hk | hk)
    · exact .inl hk
    · exact (hat k hk).imp (fun h => h8 k h) fun h => Nat.le_trans hu2.size h
set_option maxHeartbeats 1000000 in
theorem new_ (n : Int) (w : World) : Calls Try.prog 17 #[.int .i64 n] w fun e w' => e = .returned (.pointer (some ⟨w.heap.size, 0, none⟩)) ∧ Dr w' (fun k => k = w.heap.size) w.heap.size ⟨(min (max n 0) 65536).toNat, [], -1, false⟩ ∧ Below w.heap.size w w' := by
  have fin : ∀ N : Nat, Hid (Dr (w.alloc (.cells #[.int .i64 N, .slice none 0 0, .int .i64 (-1), .bool false] 54)) (fun k => k = w.heap.size) w.heap.size ⟨N, [], -1, false⟩ ∧ Below w.heap.size w (w.alloc (.cells #[.int .i64 N, .slice none 0 0, .int .i64 (-1), .bool false] 54))) := fun N =>
    hid ⟨⟨_, Blk.fresh _ _ _, World.ownsRow_nil _ _ _ _, rfl, fun k hk => by simp [Value.ownBlock] at hk, fun k hk => by subst hk; simp⟩, (Below.refl _ _).alloc (Nat.le_refl _) _⟩
  have hcase : n < 0 ∨ (0 ≤ n ∧ 65536 < n) ∨ (0 ≤ n ∧ n ≤ 65536) := by omega
  rcases hcase with h0 | ⟨h0, h1⟩ | ⟨h0, h1⟩
  · rw [show (min (max n 0) 65536).toNat = 0 from by omega]
    go_enter Try.func17, Try.ntmps17
    go_wp2
    go_ret
    exact ⟨rfl, (fin 0).out⟩
  · rw [show (min (max n 0) 65536).toNat = 65536 from by omega]
    go_enter Try.func17, Try.ntmps17
    go_wp2
    go_ret
    exact ⟨rfl, (fin 65536).out⟩
  · obtain ⟨N, rfl⟩ : ∃ N : Nat, n = (N : Int) := ⟨n.toNat, by omega⟩
    rw [show (min (max (N : Int) 0) 65536).toNat = N from by omega]
    go_enter Try.func17, Try.ntmps17
    go_wp2
    go_ret
    exact ⟨rfl, (fin N).out⟩
set_option maxHeartbeats 1000000 in
theorem blocks (p : Nat) (m : Dm) (F : Nat → Prop) (w : World) (h : Dr w F p m) (hok : m.ok) :
    Calls Try.prog 29 #[.pointer (some ⟨p, 0, none⟩)] w fun e w' => e = .returned (.int .i64 m.nb) ∧ w = w' := by
  obtain ⟨vl, h2, h4, h6, h8, h9⟩ := h
  obtain ⟨nb, log, fuse, down⟩ := m
  simp only at h2 h4
  have hlog := own_len h4
  have hc0 := h2.cell 0
  have hc1 := h2.cell 1
  have hc3 := h2.cell 3
  simp at hc0 hc1 hc3
  obtain ⟨A, c, rfl, hlc, hcm⟩ := own_shape h4
  obtain ⟨hk1, hk2, hk3⟩ := hok
  simp only at hk1 hk2 hk3
  simp only [maxLen] at hlog
  go_enter Try.func29, Try.ntmps29
  go_wp2
  go_ret
  exact ⟨rfl, rfl⟩
set_option maxHeartbeats 1000000 in
theorem writes (p : Nat) (m : Dm) (F : Nat → Prop) (w : World) (h : Dr w F p m) (hok : m.ok) :
    Calls Try.prog 30 #[.pointer (some ⟨p, 0, none⟩)] w fun e w' => e = .returned (.int .i64 m.log.length) ∧ w = w' := by
  obtain ⟨vl, h2, h4, h6, h8, h9⟩ := h
  obtain ⟨nb, log, fuse, down⟩ := m
  simp only at h2 h4
  have hlog := own_len h4
  have hc0 := h2.cell 0
  have hc1 := h2.cell 1
  have hc3 := h2.cell 3
  simp at hc0 hc1 hc3
  obtain ⟨A, c, rfl, hlc, hcm⟩ := own_shape h4
  obtain ⟨hk1, hk2, hk3⟩ := hok
  simp only at hk1 hk2 hk3
  simp only [maxLen] at hlog
  go_enter Try.func30, Try.ntmps30
  go_wp2
  go_ret
  exact ⟨rfl, rfl⟩
set_option maxHeartbeats 1000000 in
theorem down (p : Nat) (m : Dm) (F : Nat → Prop) (w : World) (h : Dr w F p m) (hok : m.ok) :
    Calls Try.prog 31 #[.pointer (some ⟨p, 0, none⟩)] w fun e w' => e = .returned (.bool m.down) ∧ w = w' := by
  obtain ⟨vl, h2, h4, h6, h8, h9⟩ := h
  obtain ⟨nb, log, fuse, down⟩ := m
  simp only at h2 h4
  have hlog := own_len h4
  have hc0 := h2.cell 0
  have hc1 := h2.cell 1
  have hc3 := h2.cell 3
  simp at hc0 hc1 hc3
  obtain ⟨A, c, rfl, hlc, hcm⟩ := own_shape h4
  obtain ⟨hk1, hk2, hk3⟩ := hok
  simp only at hk1 hk2 hk3
  simp only [maxLen] at hlog
  go_enter Try.func31, Try.ntmps31
  go_wp2
  go_ret
  exact ⟨rfl, rfl⟩
set_option maxHeartbeats 1000000 in
theorem written (p : Nat) (m : Dm) (F : Nat → Prop) (n : Int) (w : World) (h : Dr w F p m) (hok : m.ok) :
    Calls Try.prog 27 #[.pointer (some ⟨p, 0, none⟩), .int .i64 n] w fun e w' => e = .returned (.int .i64 (m.at_ n)) ∧ w = w' := by
  obtain ⟨vl, h2, h4, h6, h8, h9⟩ := h
  obtain ⟨nb, log, fuse, down⟩ := m
  simp only at h2 h4
  have hlog := own_len h4
  have hc0 := h2.cell 0
  have hc1 := h2.cell 1
  have hc3 := h2.cell 3
  simp at hc0 hc1 hc3
  obtain ⟨A, c, rfl, hlc, hcm⟩ := own_shape h4
  obtain ⟨hk1, hk2, hk3⟩ := hok
  simp only at hk1 hk2 hk3
  simp only [maxLen] at hlog
  by_cases hbad : n < 0 ∨ (log.length : Int) ≤ n
  · rw [show Dm.at_ ⟨nb, log, fuse, down⟩ n = -1 from by simp [Dm.at_, hbad]]
    rcases hbad with hb | hb
    · go_enter Try.func27, Try.ntmps27
      go_wp2
      go_ret
      exact ⟨rfl, rfl⟩
    · have hb0 : ¬ n < 0 := by omega
      go_enter Try.func27, Try.ntmps27
      go_wp2
      go_ret
      exact ⟨rfl, rfl⟩
  · obtain ⟨j, rfl⟩ : ∃ j : Nat, n = (j : Int) := ⟨n.toNat, by omega⟩
    have hj : j < log.length := by omega
    have e1 : Dm.at_ ⟨nb, log, fuse, down⟩ j = (log[j].1 : Int) := by
      unfold Dm.at_
      rw [if_neg hbad]
      have : (log.getD j (0, [])).1 = log[j].1 := by simp [List.getD_eq_getElem?_getD, hj]
      exact congrArg (fun x : Nat => (x : Int)) this
    rw [e1]
    obtain ⟨ad, rfl, hcl⟩ := (Rd.of_own h4).2 (by omega)
    have hx := hcl _ _ (rcells_get log j log[j] (List.getElem?_eq_getElem hj)).1
    have hj1 : (0 : Int) ≤ (j : Int) := by omega
    have hj2 : (j : Int) < (log.length : Int) := by omega
    generalize log[j].1 = y at *
    clear hbad e1 hcl
    go_enter Try.func27, Try.ntmps27
    go_wp2
    go_ret
    exact ⟨rfl, rfl⟩
set_option maxHeartbeats 1000000 in
theorem setFuse (p : Nat) (m : Dm) (F : Nat → Prop) (n : Int) (w : World) (h : Dr w F p m) (hn : -9223372036854775808 ≤ n ∧ n ≤ 9223372036854775807) :
    Calls Try.prog 25 #[.pointer (some ⟨p, 0, none⟩), .int .i64 n] w fun e w' => Hid (e = .returned (.tuple #[]) ∧ Dr w' F p { m with fuse := max n (-1) } ∧ Upd (fun k => k = p) w w') := by
  have h' : Hid (∀ v, v = max n (-1) → Dr (w.setCell ⟨p, 2, none⟩ (.int .i64 v)) F p { m with fuse := v }) := hid fun v _ => h.word v m.down (fun b hb => by simpa using hb.put 2 (.int .i64 v)) ((Upd.refl _ _).set1 _ _)
  obtain ⟨vl, h2, h4, h6, h8, h9⟩ := h
  have hc2 := h2.cell 2
  have hf2 := h2.free 2
  simp at hc2
  by_cases hm : -1 ≤ n
  · rw [show max n (-1) = n from by omega] at *
    go_enter Try.func25, Try.ntmps25
    go_wp2
    go_end0
    exact hid ⟨rfl, h'.out _ rfl, (Upd.refl _ _).set1 _ _⟩
  · rw [show max n (-1) = -1 from by omega] at *
    go_enter Try.func25, Try.ntmps25
    go_wp2
    go_end0
    exact hid ⟨rfl, h'.out _ rfl, (Upd.refl _ _).set1 _ _⟩
set_option maxHeartbeats 1000000 in
theorem restart (p : Nat) (m : Dm) (F : Nat → Prop) (w : World) (h : Dr w F p m) :
    Calls Try.prog 26 #[.pointer (some ⟨p, 0, none⟩)] w fun e w' => Hid (e = .returned (.tuple #[]) ∧ Dr w' F p { m with fuse := -1, down := false } ∧ Upd (fun k => k = p) w w') := by
  have hu : Hid (Upd (fun k => k = p) w ((w.setCell ⟨p, 3, none⟩ (.bool false)).setCell ⟨p, 2, none⟩ (.int .i64 (-1)))) := hid (((Upd.refl _ _).set1 _ _).set1 _ _)
  have h' := hid (h.word (-1) false (fun b hb => by simpa using (hb.put 3 (.bool false)).put 2 (.int .i64 (-1))) hu.out)
  obtain ⟨vl, h2, h4, h6, h8, h9⟩ := h
  have hc2 := h2.cell 2
  have hf2 := h2.free 2
  have hc3 := h2.cell 3
  have hf3 := h2.free 3
  simp at hc2 hc3
  go_enter Try.func26, Try.ntmps26
  go_wp2
  go_end0
  exact hid ⟨rfl, h'.out, hu.out⟩
end Go.Proofs.Ytehdobagglondaa.Dr
