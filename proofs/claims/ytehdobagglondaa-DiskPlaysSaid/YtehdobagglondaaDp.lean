/-
  The walks of layer 5's laws: step, alike; DiskPlays.
-/
import Derived.Test.YtehdobagglondaaDs
import Derived.Test.YtehdobagglondaaDl
set_option linter.unusedVariables false
set_option linter.unusedSimpArgs false
namespace Go.Proofs.Ytehdobagglondaa.Dp
open Go.RowKit Go.Proofs.Ytehdobagglondaa.B Go.Proofs.Ytehdobagglondaa.Sm Go.Proofs.Ytehdobagglondaa.Dk Go.Proofs.Ytehdobagglondaa.Dr Go.Proofs.Ytehdobagglondaa.Dl
theorem dk_drew {w : World} {F : Nat → Prop} {p : Nat} {m : Dm} (h : Dk w F p m) : Dk w.drew F p m := h
theorem dr_drew {w : World} {F : Nat → Prop} {p : Nat} {m : Dm} (h : Dr w F p m) : Dr w.drew F p m := h
theorem below_drew {B : Nat} {w w' : World} (h : Below B w w') : Below B w w'.drew := ⟨h.os, h.tape, h.output, h.size, h.block⟩
/-- Both disks are m. -/
def B2 (w : World) (F : Nat → Prop) (p q : Nat) (m : Dm) : Prop := ∃ F1 G1 : Nat → Prop, Dk w F1 p m ∧ Dr w G1 q m ∧ (∀ k, F1 k → ¬ G1 k) ∧ (∀ k, F k ↔ F1 k ∨ G1 k)
theorem B2.upd {w w' : World} {F G : Nat → Prop} {p q : Nat} {m : Dm} (h : B2 w F p q m) (hu : Upd G w w') (hn : ∀ k, F k → ¬ G k) : B2 w' F p q m := by
  obtain ⟨F1, G1, h1, h2, h3, h4⟩ := h
  exact ⟨F1, G1, h1.upd hu fun k hk => hn k ((h4 k).2 (.inl hk)), h2.upd hu fun k hk => hn k ((h4 k).2 (.inr hk)), h3, h4⟩
theorem B2.lt {w : World} {F : Nat → Prop} {p q : Nat} {m : Dm} (h : B2 w F p q m) : ∀ k, F k → k < w.heap.size := by
  obtain ⟨F1, G1, h1, h2, h3, h4⟩ := h
  exact fun k hk => ((h4 k).1 hk).elim (h1.lt k) (h2.lt k)
/-- A disk that may be written. -/
def Good (n : Nat) (m : Dm) : Prop := m.ok ∧ Fits m.log ∧ m.log.length ≤ n ∧ ∀ x ∈ m.log, x.1 < m.nb
def stepD (m : Dm) (K I b : Int) (odd : Bool) : Dm :=
  if K = 1 then (m.wr I (blk b odd)).2 else if K = 3 then { m with fuse := max I (-1) } else if K = 4 then { m with fuse := -1, down := false } else m
theorem wr_good {n : Nat} {m : Dm} (h : Good n m) (I b : Int) (odd : Bool) (hb : 0 ≤ b ∧ b ≤ 255) : Good (n + 1) (m.wr I (blk b odd)).2 := by
  obtain ⟨⟨h1, h2, h3⟩, h4, h5, hx⟩ := h
  unfold Dm.wr
  split
  · exact ⟨⟨h1, h2, h3⟩, h4, by simp only; omega, hx⟩
  · split
    · exact ⟨⟨h1, h2, h3⟩, h4, by simp only; omega, hx⟩
    · split
      · exact ⟨⟨h1, h2, h3⟩, h4, by simp only; omega, hx⟩
      · rename_i h6 _
        refine ⟨⟨?_, ?_, h3⟩, ?_, by simp; omega, ?_⟩
        · simp only; split <;> omega
        · simp only; split <;> omega
        · intro x hx
          simp only [List.mem_append, List.mem_singleton] at hx
          rcases hx with hx | rfl
          · exact h4 x hx
          · refine ⟨by simp only; omega, fun c hc => ?_⟩
            simp only [blk, List.mem_replicate] at hc
            omega
        · intro x hx'
          simp only [List.mem_append, List.mem_singleton] at hx'
          rcases hx' with hx' | rfl
          · exact hx x hx'
          · simp only; omega
theorem step_good {n : Nat} {m : Dm} (h : Good n m) (K I b : Int) (odd : Bool) (hb : 0 ≤ b ∧ b ≤ 255) (hI : -9223372036854775808 ≤ I ∧ I ≤ 9223372036854775807) : Good (n + 1) (stepD m K I b odd) := by
  unfold stepD
  have h' := h
  obtain ⟨⟨h1, h2, h3⟩, h4, h5, hx⟩ := h'
  split
  · exact wr_good h I b odd hb
  · split
    · exact ⟨⟨by simp only; omega, by simp only; omega, h3⟩, h4, by simp only; omega, hx⟩
    · split
      · exact ⟨⟨by simp only; omega, by simp only; omega, h3⟩, h4, by simp only; omega, hx⟩
      · exact ⟨⟨h1, h2, h3⟩, h4, by omega, hx⟩
theorem Good.mono {n k : Nat} {m : Dm} (h : Good n m) (hk : n ≤ k) : Good k m := ⟨h.1, h.2.1, Nat.le_trans h.2.2.1 hk, h.2.2.2⟩
theorem box_cells {w : World} {b : Nat} {K I Bv : Int} {odd : Bool} (h : Blk w b 30 #[.int .i64 K, .int .i64 I, .int .u8 Bv, .bool odd]) :
    w.cell? ⟨b, 0, none⟩ = some (.int .i64 K) ∧ w.cell? ⟨b, 1, none⟩ = some (.int .i64 I) ∧ w.cell? ⟨b, 2, none⟩ = some (.int .u8 Bv) ∧ w.cell? ⟨b, 3, none⟩ = some (.bool odd) := by
  have h0 := h.cell 0
  have h1 := h.cell 1
  have h2 := h.cell 2
  have h3 := h.cell 3
  simp at h0 h1 h2 h3
  exact ⟨h0, h1, h2, h3⟩
set_option maxHeartbeats 1000000 in
set_option maxRecDepth 100000 in
theorem step1 (p q : Nat) (F : Nat → Prop) (m : Dm) (I Bv : Int) (odd : Bool) (w : World) (h : B2 w F p q m) (hg : Good 100000 m) (hb : 0 ≤ Bv ∧ Bv ≤ 255) :
    Calls Try.prog 18 #[.pointer (some ⟨p, 0, none⟩), .pointer (some ⟨q, 0, none⟩), .agg #[.int .i64 1, .int .i64 I, .int .u8 Bv, .bool odd]] w fun e w' => e = .returned (.bool true) ∧ ∃ F', B2 w' F' p q (m.wr I (blk Bv odd)).2 ∧ Mv F F' w w' := by
  obtain ⟨F1, G1, h1, h2, h3, h4⟩ := h
  go_enter Try.func18, Try.ntmps18
  go_wp2_with (fail)
  have hbx := Blk.fresh w 30 #[.int .i64 1, .int .i64 I, .int .u8 Bv, .bool odd]
  have hu1 : Upd No w (w.alloc (.cells #[.int .i64 1, .int .i64 I, .int .u8 Bv, .bool odd] 30)) := (Upd.refl _ _).alloc _
  have hD1 := h1.upd hu1 (fun _ _ => no_ _)
  have hR1 := h2.upd hu1 (fun _ _ => no_ _)
  have hbl := hbx.lt
  have hbF : Hid (∀ k, F k → k ≠ w.heap.size) := hid fun k hk e => by have := ((h4 k).1 hk).elim (h1.lt k) (h2.lt k); omega
  obtain ⟨hok, hfit, hlen, _⟩ := hg
  have hlr := h1.lt
  have hls := h2.lt
  generalize hw1 : w.alloc (.cells #[.int .i64 1, .int .i64 I, .int .u8 Bv, .bool odd] 30) = w1 at *
  clear hw1
  refine wp_region_held_drew (S := fun W => Blk W w.heap.size 30 #[.int .i64 1, .int .i64 I, .int .u8 Bv, .bool odd]) (by kernel_rfl) hbx.drew (fun hS => ?_)
  refine rg_at 0 (by decide) (fun oi hoi => ?_)
  have ho2 := hoi; simp only [List.getElem?_toArray, List.getElem?_cons_succ, List.getElem?_cons_zero, Option.some.injEq] at ho2; subst ho2
  refine rg_take (v := ?_) 0 hoi (by kernel_rfl) (by kernel_rfl) (by kernel_rfl) (fun _ _ _ h => h) (by rfl) ?_ hS ?_
  rotate_left
  · intro w _; go_simp; try with_reducible rfl
  clear hoi; try simp only [Act.put, List.setIfInBounds_toArray, List.set_cons_zero, List.set_cons_succ]
  refine rg_at 1 (by decide) (fun oi hoi => ?_)
  have ho2 := hoi; simp only [List.getElem?_toArray, List.getElem?_cons_succ, List.getElem?_cons_zero, Option.some.injEq] at ho2; subst ho2
  refine rg_take (v := ?_) 1 hoi (by kernel_rfl) (by kernel_rfl) (by kernel_rfl) (fun _ _ _ h => h) (by rfl) ?_ hS ?_
  rotate_left
  · intro w _; go_simp; try with_reducible rfl
  clear hoi; try simp only [Act.put, List.setIfInBounds_toArray, List.set_cons_zero, List.set_cons_succ]
  refine rg_at 2 (by decide) (fun oi hoi => ?_)
  have ho2 := hoi; simp only [List.getElem?_toArray, List.getElem?_cons_succ, List.getElem?_cons_zero, Option.some.injEq] at ho2; subst ho2
  refine rg_take (v := ?_) 2 hoi (by kernel_rfl) (by kernel_rfl) (by kernel_rfl) (fun _ _ _ h => h) (by rfl) ?_ hS ?_
  rotate_left
  · intro w hw; have hf := (box_cells hw).2.1; clear hw; go_simp; try with_reducible rfl
  clear hoi; try simp only [Act.put, List.setIfInBounds_toArray, List.set_cons_zero, List.set_cons_succ]
  refine rg_at 3 (by decide) (fun oi hoi => ?_)
  have ho2 := hoi; simp only [List.getElem?_toArray, List.getElem?_cons_succ, List.getElem?_cons_zero, Option.some.injEq] at ho2; subst ho2
  refine rg_take (v := ?_) 3 hoi (by kernel_rfl) (by kernel_rfl) (by kernel_rfl) (fun _ _ _ h => h) (by rfl) ?_ hS ?_
  rotate_left
  · intro w hw; have hf := box_cells hw; clear hw; go_simp; try with_reducible rfl
  clear hoi; try simp only [Act.put, List.setIfInBounds_toArray, List.set_cons_zero, List.set_cons_succ]
  refine rg_at 6 (by decide) (fun oi hoi => ?_)
  have ho2 := hoi; simp only [List.getElem?_toArray, List.getElem?_cons_succ, List.getElem?_cons_zero, Option.some.injEq] at ho2; subst ho2
  refine rg_take (v := ?_) 6 hoi (by kernel_rfl) (by kernel_rfl) (by kernel_rfl) (fun _ _ _ h => h) (by rfl) ?_ hS ?_
  rotate_left
  · intro w _; go_simp; try with_reducible rfl
  clear hoi; try simp only [Act.put, List.setIfInBounds_toArray, List.set_cons_zero, List.set_cons_succ]
  refine rg_at 7 (by decide) (fun oi hoi => ?_)
  have ho2 := hoi; simp only [List.getElem?_toArray, List.getElem?_cons_succ, List.getElem?_cons_zero, Option.some.injEq] at ho2; subst ho2
  refine rg_take (v := ?_) 7 hoi (by kernel_rfl) (by kernel_rfl) (by kernel_rfl) (fun _ _ _ h => h) (by rfl) ?_ hS ?_
  rotate_left
  · intro w _; go_simp; try with_reducible rfl
  clear hoi; try simp only [Act.put, List.setIfInBounds_toArray, List.set_cons_zero, List.set_cons_succ]
  refine rg_at 8 (by decide) (fun oi hoi => ?_)
  have ho2 := hoi; simp only [List.getElem?_toArray, List.getElem?_cons_succ, List.getElem?_cons_zero, Option.some.injEq] at ho2; subst ho2
  refine rg_take (v := ?_) 8 hoi (by kernel_rfl) (by kernel_rfl) (by kernel_rfl) (fun _ _ _ h => h) (by rfl) ?_ hS ?_
  rotate_left
  · intro w hw; have hf := (box_cells hw).2.1; clear hw; go_simp; try with_reducible rfl
  clear hoi; try simp only [Act.put, List.setIfInBounds_toArray, List.set_cons_zero, List.set_cons_succ]
  refine rg_at 9 (by decide) (fun oi hoi => ?_)
  have ho2 := hoi; simp only [List.getElem?_toArray, List.getElem?_cons_succ, List.getElem?_cons_zero, Option.some.injEq] at ho2; subst ho2
  refine rg_take (v := ?_) 9 hoi (by kernel_rfl) (by kernel_rfl) (by kernel_rfl) (fun _ _ _ h => h) (by rfl) ?_ hS ?_
  rotate_left
  · intro w hw; have hf := box_cells hw; clear hw; go_simp; try with_reducible rfl
  clear hoi; try simp only [Act.put, List.setIfInBounds_toArray, List.set_cons_zero, List.set_cons_succ]
  refine rg_at 4 (by decide) (fun oi hoi => ?_)
  have ho2 := hoi; simp only [List.getElem?_toArray, List.getElem?_cons_succ, List.getElem?_cons_zero, Option.some.injEq] at ho2; subst ho2
  refine rg_call 4 (by kernel_rfl) hoi (by rfl) (fun K hK => ?_)
  clear hoi
  go_simp
  refine Calls.mono (block 1 I Bv odd _) ?_
  rintro e w2 ⟨A2, c2, rfl, hr2, hu2, hfr2⟩
  go_wp2_with (fail)
  refine hK.out _ _ (hbx.upd (Upd.of_drew hu2) (no_ _)) (fun hS => ?_)
  clear hK K
  try simp only [Act.put, List.setIfInBounds_toArray, List.set_cons_zero, List.set_cons_succ]
  refine rg_at 5 (by decide) (fun oi hoi => ?_)
  have ho2 := hoi; simp only [List.getElem?_toArray, List.getElem?_cons_succ, List.getElem?_cons_zero, Option.some.injEq] at ho2; subst ho2
  refine rg_call 5 (by kernel_rfl) hoi (by rfl) (fun K hK => ?_)
  clear hoi
  go_simp
  refine Calls.mono (write p m F1 A2 c2 _ I _ ((dk_drew hD1).upd hu2 (fun _ _ => no_ _)) hr2 (fun ad e hk => by have := hfr2 ad e; have := (dk_drew hD1).lt _ hk; omega) hok (by omega)) ?_
  rintro e w3 ⟨rfl, F3, hD3, hM3⟩
  go_wp2_with (fail)
  refine hK.out _ _ (‹Blk w2 _ _ _›.upd hM3.upd (fun hk => absurd rfl (hbF.out _ ((h4 _).2 (.inl hk))))) (fun hS => ?_)
  clear hK K
  try simp only [Act.put, List.setIfInBounds_toArray, List.set_cons_zero, List.set_cons_succ]
  refine rg_at 10 (by decide) (fun oi hoi => ?_)
  have ho2 := hoi; simp only [List.getElem?_toArray, List.getElem?_cons_succ, List.getElem?_cons_zero, Option.some.injEq] at ho2; subst ho2
  refine rg_call 10 (by kernel_rfl) hoi (by rfl) (fun K hK => ?_)
  clear hoi
  go_simp
  refine Calls.mono (block 1 I Bv odd _) ?_
  rintro e w4 ⟨A4, c4, rfl, hr4, hu4, hfr4⟩
  go_wp2_with (fail)
  refine hK.out _ _ (‹Blk w3 _ _ _›.upd hu4 (no_ _)) (fun hS => ?_)
  clear hK K
  try simp only [Act.put, List.setIfInBounds_toArray, List.set_cons_zero, List.set_cons_succ]
  refine rg_at 11 (by decide) (fun oi hoi => ?_)
  have ho2 := hoi; simp only [List.getElem?_toArray, List.getElem?_cons_succ, List.getElem?_cons_zero, Option.some.injEq] at ho2; subst ho2
  refine rg_call 11 (by kernel_rfl) hoi (by rfl) (fun K hK => ?_)
  clear hoi
  go_simp
  refine Calls.mono (Dr.write q m G1 A4 c4 _ I _ ((((dr_drew hR1).upd hu2 (fun _ _ => no_ _)).upd hM3.upd (fun k hk hf => h3 k hf hk)).upd hu4 (fun _ _ => no_ _)) hr4 (fun ad e hk => by have := hfr4 ad e; have := hls _ hk; have := hu2.size; have := hM3.upd.size; have := hu1.size; simp at *; omega) hok (by omega)) ?_
  rintro e w5 ⟨rfl, G5, hR5, hM5⟩
  go_wp2_with (fail)
  refine hK.out _ _ (‹Blk w4 _ _ _›.upd hM5.upd (fun hk => absurd rfl (hbF.out _ ((h4 _).2 (.inr hk))))) (fun hS => ?_)
  clear hK K
  try simp only [Act.put, List.setIfInBounds_toArray, List.set_cons_zero, List.set_cons_succ]
  refine rg_at 12 (by decide) (fun oi hoi => ?_)
  have ho2 := hoi; simp only [List.getElem?_toArray, List.getElem?_cons_succ, List.getElem?_cons_zero, Option.some.injEq] at ho2; subst ho2
  refine rg_take (v := ?_) 12 hoi (by kernel_rfl) (by kernel_rfl) (by kernel_rfl) (fun _ _ _ h => h) (by rfl) ?_ hS ?_
  rotate_left
  · intro w _; go_simp; try with_reducible rfl
  clear hoi; try simp only [Act.put, List.setIfInBounds_toArray, List.set_cons_zero, List.set_cons_succ]
  refine rg_at 13 (by decide) (fun oi hoi => ?_)
  have ho2 := hoi; simp only [List.getElem?_toArray, List.getElem?_cons_succ, List.getElem?_cons_zero, Option.some.injEq] at ho2; subst ho2
  refine rg_take (v := ?_) 13 hoi (by kernel_rfl) (by kernel_rfl) (by kernel_rfl) (fun _ _ _ h => h) (by rfl) ?_ hS ?_
  rotate_left
  · intro w _; go_simp; try with_reducible rfl
  clear hoi; try simp only [Act.put, List.setIfInBounds_toArray, List.set_cons_zero, List.set_cons_succ]
  refine wpAnyH_done (by kernel_rfl) ?_ _
  have hM : Mv F1 F3 w w3 := Mv.trans (Mv.quiet ((hu1.next (Upd.of_drew hu2)).old (Nat.le_refl _))) hM3
  have hM' : Mv G1 G5 w3 w5 := Mv.trans (Mv.quiet (hu4.old (Nat.le_refl _))) hM5
  have hd35 : ∀ k, F3 k → ¬ G1 k := fun k hk hg => (hM.sub k hk).elim (fun h => h3 k h hg) fun h => absurd (hls k hg) (by omega)
  have hB := hid (show ∃ F', B2 w5 F' p q (m.wr I (blk Bv odd)).2 ∧ Mv F F' w w5 from
    ⟨fun k => F3 k ∨ G5 k, ⟨F3, G5, hD3.upd hM'.upd hd35, hR5, fun k hk hg => (hM'.sub k hg).elim (fun h => hd35 k hk h) fun h => absurd (hD3.lt k hk) (by omega), fun _ => Iff.rfl⟩,
      ⟨(hM.upd.mono fun k _ hk => (h4 k).2 (.inl hk)).next ((hM'.upd).mono fun k _ hk => (h4 k).2 (.inr hk)),
        fun k hk => hk.elim (fun h => (hM.sub k h).imp (fun h => (h4 k).2 (.inl h)) id) fun h => (hM'.sub k h).elim (fun h => .inl ((h4 k).2 (.inr h))) fun h => .inr (Nat.le_trans hM.upd.size h)⟩⟩)
  clear hM hM' hd35 hD3 hR5 hM3 hM5
  go_wp2
  go_ret
  exact ⟨rfl, hB.out⟩
set_option maxHeartbeats 1000000 in
set_option maxRecDepth 100000 in
theorem step2 (p q : Nat) (F : Nat → Prop) (m : Dm) (I Bv : Int) (odd : Bool) (w : World) (h : B2 w F p q m) (hg : Good 100000 m) (hI : -9223372036854775808 ≤ I ∧ I ≤ 9223372036854775807) :
    Calls Try.prog 18 #[.pointer (some ⟨p, 0, none⟩), .pointer (some ⟨q, 0, none⟩), .agg #[.int .i64 2, .int .i64 I, .int .u8 Bv, .bool odd]] w fun e w' => e = .returned (.bool true) ∧ ∃ F', B2 w' F' p q m ∧ Mv F F' w w' := by
  obtain ⟨F1, G1, h1, h2, h3, h4⟩ := h
  go_enter Try.func18, Try.ntmps18
  go_wp2_with (fail)
  have hbx := Blk.fresh w 30 #[.int .i64 2, .int .i64 I, .int .u8 Bv, .bool odd]
  have hu1 : Upd No w (w.alloc (.cells #[.int .i64 2, .int .i64 I, .int .u8 Bv, .bool odd] 30)) := (Upd.refl _ _).alloc _
  have hD1 := h1.upd hu1 (fun _ _ => no_ _)
  have hR1 := h2.upd hu1 (fun _ _ => no_ _)
  have hbl := hbx.lt
  have hbF : Hid (∀ k, F k → k ≠ w.heap.size) := hid fun k hk e => by have := ((h4 k).1 hk).elim (h1.lt k) (h2.lt k); omega
  obtain ⟨hok, hfit, hlen, _⟩ := hg
  have hlr := h1.lt
  have hls := h2.lt
  generalize hw1 : w.alloc (.cells #[.int .i64 2, .int .i64 I, .int .u8 Bv, .bool odd] 30) = w1 at *
  clear hw1
  obtain ⟨x0, x1, x2, x3⟩ := box_cells hbx
  have hfin : ∀ w5, Upd No w1 w5 → Hid (B2 w5 F p q m ∧ Mv F F w w5) := fun w5 hu => hid ⟨⟨F1, G1, hD1.upd hu (fun _ _ => no_ _), hR1.upd hu (fun _ _ => no_ _), h3, h4⟩, Mv.quiet ((hu1.next hu).old (Nat.le_refl _))⟩
  have HR := hid (read p m F1 I w1 hD1 hok)
  have HR2 := hid (fun W (hu : Upd No w1 W) => Dr.read q m G1 I W (hR1.upd hu (fun _ _ => no_ _)) hok hfit)
  have hB := hid hbx
  clear hD1 hR1 h1 h2 hbx
  go_wp2_with (fail)
  refine Calls.mono HR.out ?_
  rintro e w2 ⟨A2, c2, rfl, hr2, hu2⟩
  obtain ⟨y0, y1, y2, y3⟩ := box_cells (hB.out.upd hu2 (no_ _))
  go_wp2_with (fail)
  refine Calls.mono (HR2.out w2 hu2) ?_
  rintro e w3 ⟨A3, c3, rfl, hr3, hu3⟩
  have hr2' : Rn w3 .u8 A2 (m.rd I).1 := Rd.upd hr2 (by omega) hu3 (fun _ _ => no_ _)
  generalize m.rd I = oo at *
  obtain ⟨o, oc⟩ := oo
  have hq2 : Rn w3 .u8 A2 o := hr2'
  have hq3 : Rn w3 .u8 A3 o := hr3
  have hc1 := conv_str (P := Try.prog) hq2 22 9 5 c2 Try.underlying22 Try.underlying5 Try.underlying9
  have hc2 := conv_str (P := Try.prog) hq3 22 9 5 c3 Try.underlying22 Try.underlying5 Try.underlying9
  have hf := hfin w3 (hu2.next hu3)
  clear hq2 hq3 hr2 hr2' hr3 HR HR2
  go_wp2
  go_ret
  exact ⟨rfl, F, hf.out⟩
set_option maxHeartbeats 1000000 in
set_option maxRecDepth 100000 in
theorem step5 (p q : Nat) (F : Nat → Prop) (m : Dm) (I Bv : Int) (odd : Bool) (w : World) (h : B2 w F p q m) (hg : Good 100000 m) (hI : -9223372036854775808 ≤ I ∧ I ≤ 9223372036854775807) :
    Calls Try.prog 18 #[.pointer (some ⟨p, 0, none⟩), .pointer (some ⟨q, 0, none⟩), .agg #[.int .i64 5, .int .i64 I, .int .u8 Bv, .bool odd]] w fun e w' => e = .returned (.bool true) ∧ ∃ F', B2 w' F' p q m ∧ Mv F F' w w' := by
  obtain ⟨F1, G1, h1, h2, h3, h4⟩ := h
  go_enter Try.func18, Try.ntmps18
  go_wp2_with (fail)
  have hbx := Blk.fresh w 30 #[.int .i64 5, .int .i64 I, .int .u8 Bv, .bool odd]
  have hu1 : Upd No w (w.alloc (.cells #[.int .i64 5, .int .i64 I, .int .u8 Bv, .bool odd] 30)) := (Upd.refl _ _).alloc _
  have hD1 := h1.upd hu1 (fun _ _ => no_ _)
  have hR1 := h2.upd hu1 (fun _ _ => no_ _)
  have hbl := hbx.lt
  have hbF : Hid (∀ k, F k → k ≠ w.heap.size) := hid fun k hk e => by have := ((h4 k).1 hk).elim (h1.lt k) (h2.lt k); omega
  obtain ⟨hok, hfit, hlen, _⟩ := hg
  have hlr := h1.lt
  have hls := h2.lt
  generalize hw1 : w.alloc (.cells #[.int .i64 5, .int .i64 I, .int .u8 Bv, .bool odd] 30) = w1 at *
  clear hw1
  obtain ⟨x0, x1, x2, x3⟩ := box_cells hbx
  have hfin : ∀ w5, Upd No w1 w5 → Hid (B2 w5 F p q m ∧ Mv F F w w5) := fun w5 hu => hid ⟨⟨F1, G1, hD1.upd hu (fun _ _ => no_ _), hR1.upd hu (fun _ _ => no_ _), h3, h4⟩, Mv.quiet ((hu1.next hu).old (Nat.le_refl _))⟩
  have HR := hid (Dk.written p m F1 I w1.drew (dk_drew hD1) hok)
  have HR2 := hid (Dr.written q m G1 I w1.drew (dr_drew hR1) hok)
  clear hD1 hR1 h1 h2
  have HX1 : Hid (∀ W, W = w1.drew → W.cell? ⟨w.heap.size, 1, none⟩ = some (.int .i64 I)) := hid (by rintro W rfl; exact x1)
  refine wp_region_held_drew (S := fun W => W = w1.drew) (by kernel_rfl) rfl (fun hS => ?_)
  refine rg_at 0 (by decide) (fun oi hoi => ?_)
  have ho2 := hoi; simp only [List.getElem?_toArray, List.getElem?_cons_succ, List.getElem?_cons_zero, Option.some.injEq] at ho2; subst ho2
  refine rg_take (v := ?_) 0 hoi (by kernel_rfl) (by kernel_rfl) (by kernel_rfl) (fun _ _ _ h => h) (by rfl) ?_ hS ?_
  rotate_left
  · intro w _; go_simp; try with_reducible rfl
  clear hoi; try simp only [Act.put, List.setIfInBounds_toArray, List.set_cons_zero, List.set_cons_succ]
  refine rg_at 1 (by decide) (fun oi hoi => ?_)
  have ho2 := hoi; simp only [List.getElem?_toArray, List.getElem?_cons_succ, List.getElem?_cons_zero, Option.some.injEq] at ho2; subst ho2
  refine rg_take (v := ?_) 1 hoi (by kernel_rfl) (by kernel_rfl) (by kernel_rfl) (fun _ _ _ h => h) (by rfl) ?_ hS ?_
  rotate_left
  · intro w _; go_simp; try with_reducible rfl
  clear hoi; try simp only [Act.put, List.setIfInBounds_toArray, List.set_cons_zero, List.set_cons_succ]
  refine rg_at 2 (by decide) (fun oi hoi => ?_)
  have ho2 := hoi; simp only [List.getElem?_toArray, List.getElem?_cons_succ, List.getElem?_cons_zero, Option.some.injEq] at ho2; subst ho2
  refine rg_take (v := ?_) 2 hoi (by kernel_rfl) (by kernel_rfl) (by kernel_rfl) (fun _ _ _ h => h) (by rfl) ?_ hS ?_
  rotate_left
  · intro w hw; have hf := HX1.out w hw; clear hw; go_simp; try with_reducible rfl
  clear hoi; try simp only [Act.put, List.setIfInBounds_toArray, List.set_cons_zero, List.set_cons_succ]
  refine rg_at 4 (by decide) (fun oi hoi => ?_)
  have ho2 := hoi; simp only [List.getElem?_toArray, List.getElem?_cons_succ, List.getElem?_cons_zero, Option.some.injEq] at ho2; subst ho2
  refine rg_take (v := ?_) 4 hoi (by kernel_rfl) (by kernel_rfl) (by kernel_rfl) (fun _ _ _ h => h) (by rfl) ?_ hS ?_
  rotate_left
  · intro w _; go_simp; try with_reducible rfl
  clear hoi; try simp only [Act.put, List.setIfInBounds_toArray, List.set_cons_zero, List.set_cons_succ]
  refine rg_at 5 (by decide) (fun oi hoi => ?_)
  have ho2 := hoi; simp only [List.getElem?_toArray, List.getElem?_cons_succ, List.getElem?_cons_zero, Option.some.injEq] at ho2; subst ho2
  refine rg_take (v := ?_) 5 hoi (by kernel_rfl) (by kernel_rfl) (by kernel_rfl) (fun _ _ _ h => h) (by rfl) ?_ hS ?_
  rotate_left
  · intro w _; go_simp; try with_reducible rfl
  clear hoi; try simp only [Act.put, List.setIfInBounds_toArray, List.set_cons_zero, List.set_cons_succ]
  refine rg_at 6 (by decide) (fun oi hoi => ?_)
  have ho2 := hoi; simp only [List.getElem?_toArray, List.getElem?_cons_succ, List.getElem?_cons_zero, Option.some.injEq] at ho2; subst ho2
  refine rg_take (v := ?_) 6 hoi (by kernel_rfl) (by kernel_rfl) (by kernel_rfl) (fun _ _ _ h => h) (by rfl) ?_ hS ?_
  rotate_left
  · intro w hw; have hf := HX1.out w hw; clear hw; go_simp; try with_reducible rfl
  clear hoi; try simp only [Act.put, List.setIfInBounds_toArray, List.set_cons_zero, List.set_cons_succ]
  refine rg_at 3 (by decide) (fun oi hoi => ?_)
  have ho2 := hoi; simp only [List.getElem?_toArray, List.getElem?_cons_succ, List.getElem?_cons_zero, Option.some.injEq] at ho2; subst ho2
  refine rg_call 3 (by kernel_rfl) hoi (by rfl) (fun K hK => ?_)
  clear hoi
  go_simp
  refine Calls.mono HR.out ?_
  rintro e w' ⟨rfl, hw'⟩
  subst hw'
  go_wp2_with (fail)
  refine hK.out _ _ (rfl) (fun hS => ?_)
  clear hK K
  try simp only [Act.put, List.setIfInBounds_toArray, List.set_cons_zero, List.set_cons_succ]
  refine rg_at 7 (by decide) (fun oi hoi => ?_)
  have ho2 := hoi; simp only [List.getElem?_toArray, List.getElem?_cons_succ, List.getElem?_cons_zero, Option.some.injEq] at ho2; subst ho2
  refine rg_call 7 (by kernel_rfl) hoi (by rfl) (fun K hK => ?_)
  clear hoi
  go_simp
  refine Calls.mono HR2.out ?_
  rintro e w' ⟨rfl, hw'⟩
  subst hw'
  go_wp2_with (fail)
  refine hK.out _ _ (rfl) (fun hS => ?_)
  clear hK K
  try simp only [Act.put, List.setIfInBounds_toArray, List.set_cons_zero, List.set_cons_succ]
  refine rg_at 8 (by decide) (fun oi hoi => ?_)
  have ho2 := hoi; simp only [List.getElem?_toArray, List.getElem?_cons_succ, List.getElem?_cons_zero, Option.some.injEq] at ho2; subst ho2
  refine rg_take (v := ?_) 8 hoi (by kernel_rfl) (by kernel_rfl) (by kernel_rfl) (fun _ _ _ h => h) (by rfl) ?_ hS ?_
  rotate_left
  · intro w _; go_simp; try with_reducible rfl
  clear hoi; try simp only [Act.put, List.setIfInBounds_toArray, List.set_cons_zero, List.set_cons_succ]
  refine rg_at 9 (by decide) (fun oi hoi => ?_)
  have ho2 := hoi; simp only [List.getElem?_toArray, List.getElem?_cons_succ, List.getElem?_cons_zero, Option.some.injEq] at ho2; subst ho2
  refine rg_take (v := ?_) 9 hoi (by kernel_rfl) (by kernel_rfl) (by kernel_rfl) (fun _ _ _ h => h) (by rfl) ?_ hS ?_
  rotate_left
  · intro w _; go_simp; try with_reducible rfl
  clear hoi; try simp only [Act.put, List.setIfInBounds_toArray, List.set_cons_zero, List.set_cons_succ]
  refine wpAnyH_done (by kernel_rfl) ?_ _
  go_wp2
  go_ret
  exact ⟨rfl, F, (hfin _ (Upd.refl _ _).drew).out⟩
set_option maxHeartbeats 1000000 in
set_option maxRecDepth 100000 in
theorem step3 (p q : Nat) (F : Nat → Prop) (m : Dm) (I Bv : Int) (odd : Bool) (w : World) (h : B2 w F p q m) (hg : Good 100000 m) (hI : -9223372036854775808 ≤ I ∧ I ≤ 9223372036854775807) :
    Calls Try.prog 18 #[.pointer (some ⟨p, 0, none⟩), .pointer (some ⟨q, 0, none⟩), .agg #[.int .i64 3, .int .i64 I, .int .u8 Bv, .bool odd]] w fun e w' => e = .returned (.bool true) ∧ ∃ F', B2 w' F' p q { m with fuse := max I (-1) } ∧ Mv F F' w w' := by
  obtain ⟨F1, G1, h1, h2, h3, h4⟩ := h
  go_enter Try.func18, Try.ntmps18
  go_wp2_with (fail)
  have hbx := Blk.fresh w 30 #[.int .i64 3, .int .i64 I, .int .u8 Bv, .bool odd]
  have hu1 : Upd No w (w.alloc (.cells #[.int .i64 3, .int .i64 I, .int .u8 Bv, .bool odd] 30)) := (Upd.refl _ _).alloc _
  have hD1 := h1.upd hu1 (fun _ _ => no_ _)
  have hR1 := h2.upd hu1 (fun _ _ => no_ _)
  have hbl := hbx.lt
  have hbF : Hid (∀ k, F k → k ≠ w.heap.size) := hid fun k hk e => by have := ((h4 k).1 hk).elim (h1.lt k) (h2.lt k); omega
  obtain ⟨hok, hfit, hlen, _⟩ := hg
  have hlr := h1.lt
  have hls := h2.lt
  generalize hw1 : w.alloc (.cells #[.int .i64 3, .int .i64 I, .int .u8 Bv, .bool odd] 30) = w1 at *
  clear hw1
  obtain ⟨x0, x1, x2, x3⟩ := box_cells hbx
  have HR := hid (setFuse p m F1 I w1 hD1 hI)
  have HR2 := hid (fun W (hu : Upd F1 w1 W) => Dr.setFuse q m G1 I W (hR1.upd hu (fun k hk hf => h3 k hf hk)) hI)
  have hB := hid hbx
  have hp : F1 p := by
    obtain ⟨_, _, _, _, _, _, _, _, h, _⟩ := hD1
    exact h
  have hq : G1 q := by
    obtain ⟨_, _, _, h, _⟩ := hR1
    exact h
  clear hD1 hR1 h1 h2 hbx
  go_wp2_with (fail)
  refine Calls.mono HR.out ?_
  rintro e w2 ⟨rfl, hD2, hu2⟩
  have hu2' := hu2.mono (G := F1) (fun k _ hk => hk ▸ hp)
  obtain ⟨y0, y1, y2, y3⟩ := box_cells (hB.out.upd hu2 (fun e => absurd rfl (hbF.out _ ((h4 _).2 (.inl (e ▸ hp))))))
  go_wp2_with (fail)
  refine Calls.mono (HR2.out w2 hu2') ?_
  rintro e w3 ⟨rfl, hD3, hu3⟩
  have hu3' := hu3.mono (G := G1) (fun k _ hk => hk ▸ hq)
  have hf : Hid (B2 w3 F p q { m with fuse := max I (-1) } ∧ Mv F F w w3) := hid ⟨⟨F1, G1, hD2.upd hu3' (fun k hk hg => h3 k hk hg), hD3, h3, h4⟩, ⟨((hu1.mono fun _ _ h => h.elim).next (hu2'.mono fun k _ hk => (h4 k).2 (.inl hk))).next (hu3'.mono fun k _ hk => (h4 k).2 (.inr hk)), fun k hk => .inl hk⟩⟩
  clear hD2 hD3 HR HR2
  go_wp2
  go_ret
  exact ⟨rfl, F, hf.out⟩
set_option maxHeartbeats 1000000 in
set_option maxRecDepth 100000 in
theorem step4 (p q : Nat) (F : Nat → Prop) (m : Dm) (I Bv : Int) (odd : Bool) (w : World) (h : B2 w F p q m) (hg : Good 100000 m) (hI : -9223372036854775808 ≤ I ∧ I ≤ 9223372036854775807) :
    Calls Try.prog 18 #[.pointer (some ⟨p, 0, none⟩), .pointer (some ⟨q, 0, none⟩), .agg #[.int .i64 4, .int .i64 I, .int .u8 Bv, .bool odd]] w fun e w' => e = .returned (.bool true) ∧ ∃ F', B2 w' F' p q { m with fuse := -1, down := false } ∧ Mv F F' w w' := by
  obtain ⟨F1, G1, h1, h2, h3, h4⟩ := h
  go_enter Try.func18, Try.ntmps18
  go_wp2_with (fail)
  have hbx := Blk.fresh w 30 #[.int .i64 4, .int .i64 I, .int .u8 Bv, .bool odd]
  have hu1 : Upd No w (w.alloc (.cells #[.int .i64 4, .int .i64 I, .int .u8 Bv, .bool odd] 30)) := (Upd.refl _ _).alloc _
  have hD1 := h1.upd hu1 (fun _ _ => no_ _)
  have hR1 := h2.upd hu1 (fun _ _ => no_ _)
  have hbl := hbx.lt
  have hbF : Hid (∀ k, F k → k ≠ w.heap.size) := hid fun k hk e => by have := ((h4 k).1 hk).elim (h1.lt k) (h2.lt k); omega
  obtain ⟨hok, hfit, hlen, _⟩ := hg
  have hlr := h1.lt
  have hls := h2.lt
  generalize hw1 : w.alloc (.cells #[.int .i64 4, .int .i64 I, .int .u8 Bv, .bool odd] 30) = w1 at *
  clear hw1
  obtain ⟨x0, x1, x2, x3⟩ := box_cells hbx
  have HR := hid (restart p m F1 w1 hD1)
  have HR2 := hid (fun W (hu : Upd F1 w1 W) => Dr.restart q m G1 W (hR1.upd hu (fun k hk hf => h3 k hf hk)))
  have hB := hid hbx
  have hp : F1 p := by
    obtain ⟨_, _, _, _, _, _, _, _, h, _⟩ := hD1
    exact h
  have hq : G1 q := by
    obtain ⟨_, _, _, h, _⟩ := hR1
    exact h
  clear hD1 hR1 h1 h2 hbx
  go_wp2_with (fail)
  refine Calls.mono HR.out ?_
  rintro e w2 ⟨rfl, hD2, hu2⟩
  have hu2' := hu2.mono (G := F1) (fun k _ hk => hk ▸ hp)
  obtain ⟨y0, y1, y2, y3⟩ := box_cells (hB.out.upd hu2 (fun e => absurd rfl (hbF.out _ ((h4 _).2 (.inl (e ▸ hp))))))
  go_wp2_with (fail)
  refine Calls.mono (HR2.out w2 hu2') ?_
  rintro e w3 ⟨rfl, hD3, hu3⟩
  have hu3' := hu3.mono (G := G1) (fun k _ hk => hk ▸ hq)
  have hf : Hid (B2 w3 F p q { m with fuse := -1, down := false } ∧ Mv F F w w3) := hid ⟨⟨F1, G1, hD2.upd hu3' (fun k hk hg => h3 k hk hg), hD3, h3, h4⟩, ⟨((hu1.mono fun _ _ h => h.elim).next (hu2'.mono fun k _ hk => (h4 k).2 (.inl hk))).next (hu3'.mono fun k _ hk => (h4 k).2 (.inr hk)), fun k hk => .inl hk⟩⟩
  clear hD2 hD3 HR HR2
  go_wp2
  go_ret
  exact ⟨rfl, F, hf.out⟩
set_option maxHeartbeats 1000000 in
set_option maxRecDepth 100000 in
theorem step0 (p q : Nat) (F : Nat → Prop) (m : Dm) (K I Bv : Int) (odd : Bool) (w : World) (h : B2 w F p q m) (hg : Good 100000 m) (hI : -9223372036854775808 ≤ I ∧ I ≤ 9223372036854775807) (n1 : (K == 1) = false) (n2 : (K == 2) = false) (n3 : (K == 3) = false) (n4 : (K == 4) = false) (n5 : (K == 5) = false) :
    Calls Try.prog 18 #[.pointer (some ⟨p, 0, none⟩), .pointer (some ⟨q, 0, none⟩), .agg #[.int .i64 K, .int .i64 I, .int .u8 Bv, .bool odd]] w fun e w' => e = .returned (.bool true) ∧ ∃ F', B2 w' F' p q m ∧ Mv F F' w w' := by
  obtain ⟨F1, G1, h1, h2, h3, h4⟩ := h
  go_enter Try.func18, Try.ntmps18
  go_wp2_with (fail)
  have hbx := Blk.fresh w 30 #[.int .i64 K, .int .i64 I, .int .u8 Bv, .bool odd]
  have hu1 : Upd No w (w.alloc (.cells #[.int .i64 K, .int .i64 I, .int .u8 Bv, .bool odd] 30)) := (Upd.refl _ _).alloc _
  have hD1 := h1.upd hu1 (fun _ _ => no_ _)
  have hR1 := h2.upd hu1 (fun _ _ => no_ _)
  have hbl := hbx.lt
  have hbF : Hid (∀ k, F k → k ≠ w.heap.size) := hid fun k hk e => by have := ((h4 k).1 hk).elim (h1.lt k) (h2.lt k); omega
  obtain ⟨hok, hfit, hlen, _⟩ := hg
  have hlr := h1.lt
  have hls := h2.lt
  generalize hw1 : w.alloc (.cells #[.int .i64 K, .int .i64 I, .int .u8 Bv, .bool odd] 30) = w1 at *
  clear hw1
  obtain ⟨x0, x1, x2, x3⟩ := box_cells hbx
  have hfin : ∀ w5, Upd No w1 w5 → Hid (B2 w5 F p q m ∧ Mv F F w w5) := fun w5 hu => hid ⟨⟨F1, G1, hD1.upd hu (fun _ _ => no_ _), hR1.upd hu (fun _ _ => no_ _), h3, h4⟩, Mv.quiet ((hu1.next hu).old (Nat.le_refl _))⟩
  go_wp2
  go_ret
  exact ⟨rfl, F, (hfin w1 (Upd.refl _ _)).out⟩
/-- A step keeps the disks alike. -/
theorem step_ (p q : Nat) (F : Nat → Prop) (m : Dm) (K I Bv : Int) (odd : Bool) (w : World) (h : B2 w F p q m) (hg : Good 100000 m) (hb : 0 ≤ Bv ∧ Bv ≤ 255) (hI : -9223372036854775808 ≤ I ∧ I ≤ 9223372036854775807) :
    Calls Try.prog 18 #[.pointer (some ⟨p, 0, none⟩), .pointer (some ⟨q, 0, none⟩), .agg #[.int .i64 K, .int .i64 I, .int .u8 Bv, .bool odd]] w fun e w' => e = .returned (.bool true) ∧ ∃ F', B2 w' F' p q (stepD m K I Bv odd) ∧ Mv F F' w w' := by
  unfold stepD
  by_cases h1 : K = 1
  · subst h1
    exact step1 p q F m I Bv odd w h hg hb
  · rw [if_neg h1]
    by_cases h3 : K = 3
    · subst h3
      exact step3 p q F m I Bv odd w h hg hI
    · rw [if_neg h3]
      by_cases h4 : K = 4
      · subst h4
        exact step4 p q F m I Bv odd w h hg hI
      · rw [if_neg h4]
        by_cases h2 : K = 2
        · subst h2
          exact step2 p q F m I Bv odd w h hg hI
        · by_cases h5 : K = 5
          · subst h5
            exact step5 p q F m I Bv odd w h hg hI
          · exact step0 p q F m K I Bv odd w h hg hI (by simp [h1]) (by simp [h2]) (by simp [h3]) (by simp [h4]) (by simp [h5])
set_option maxHeartbeats 1000000 in
set_option maxRecDepth 100000 in
theorem alike (p q : Nat) (F : Nat → Prop) (m : Dm) (w : World) (h : B2 w F p q m) (hg : Good 100000 m) :
    Calls Try.prog 19 #[.pointer (some ⟨p, 0, none⟩), .pointer (some ⟨q, 0, none⟩)] w fun e w' => e = .returned (.bool true) ∧ Upd No w w' := by
  obtain ⟨F1, G1, h1, h2, h3, h4⟩ := h
  obtain ⟨hok, hfit, hlen, _⟩ := hg
  have hnb := hok.2.2
  by_cases h8 : m.nb ≤ 8
  · have h8' : (m.nb : Int) ≤ 8 := by omega
    go_enter Try.func19, Try.ntmps19
    go_wp2_with (fail)
    refine (Dk.blocks p m F1 w h1 hok).mono ?_
    rintro e w' ⟨rfl, rfl⟩
    go_wp2_with (fail)
    refine (Dr.blocks q m G1 w h2 hok).mono ?_
    rintro e w' ⟨rfl, rfl⟩
    go_wp2_with (fail)
    refine (Dk.writes p m F1 w h1 hok).mono ?_
    rintro e w' ⟨rfl, rfl⟩
    go_wp2_with (fail)
    refine (Dr.writes q m G1 w h2 hok).mono ?_
    rintro e w' ⟨rfl, rfl⟩
    go_wp2_with (fail)
    refine (Dk.down p m F1 w h1 hok).mono ?_
    rintro e w' ⟨rfl, rfl⟩
    go_wp2_with (fail)
    refine (Dr.down q m G1 w h2 hok).mono ?_
    rintro e w' ⟨rfl, rfl⟩
    go_wp2_with (fail)
    refine (Dr.blocks q m G1 w h2 hok).mono ?_
    rintro e w' ⟨rfl, rfl⟩
    go_wp2_with (fail)
    go_loopw [32] (fun v32 W => ∃ j : Nat, j ≤ m.nb ∧ v32 = .int .i64 j ∧ Hid (Upd No w W)) (fun v32 _ => m.nb - (intOf v32).toNat)
    case atStart => exact ⟨0, by omega, rfl, hid (Upd.refl _ _)⟩
    case round =>
      obtain ⟨j, hj, rfl, hu⟩ := hrel
      by_cases hlt : j < m.nb
      · have HR := hid (read p m F1 (j : Int) wr (h1.upd hu.out (fun _ _ => no_ _)) hok)
        have HR2 := hid (fun W (h : Upd No wr W) => Dr.read q m G1 (j : Int) W ((h2.upd hu.out (fun _ _ => no_ _)).upd h (fun _ _ => no_ _)) hok hfit)
        have hj1 : (j : Int) < (m.nb : Int) := by omega
        go_wp2_with (fail)
        refine Calls.mono HR.out ?_
        rintro e w2 ⟨A2, c2, rfl, hr2, hu2⟩
        go_wp2_with (fail)
        refine Calls.mono (HR2.out w2 hu2) ?_
        rintro e w3 ⟨A3, c3, rfl, hr3, hu3⟩
        have hr2' : Rn w3 .u8 A2 (m.rd j).1 := Rd.upd hr2 (by omega) hu3 (fun _ _ => no_ _)
        generalize m.rd j = oo at *
        obtain ⟨o, oc⟩ := oo
        have hq2 : Rn w3 .u8 A2 o := hr2'
        have hq3 : Rn w3 .u8 A3 o := hr3
        have hc1 := conv_str (P := Try.prog) hq2 22 9 5 c2 Try.underlying22 Try.underlying5 Try.underlying9
        have hc2 := conv_str (P := Try.prog) hq3 22 9 5 c3 Try.underlying22 Try.underlying5 Try.underlying9
        have hf := hid ((hu.out.next hu2).next hu3)
        clear hq2 hq3 hr2 hr2' hr3 HR HR2 hu2 hu3
        go_wp2
        go_roundw
        case rel => exact ⟨j + 1, by omega, by go_num, hf⟩
        case measure => simp [intOf]; omega
      · obtain rfl : j = m.nb := by omega
        go_wp2
        go_ret
        exact ⟨rfl, hu.out⟩
  · have h8' : ¬ (m.nb : Int) ≤ 8 := by omega
    go_enter Try.func19, Try.ntmps19
    go_wp2_with (fail)
    refine (Dk.blocks p m F1 w h1 hok).mono ?_
    rintro e w' ⟨rfl, rfl⟩
    go_wp2_with (fail)
    refine (Dr.blocks q m G1 w h2 hok).mono ?_
    rintro e w' ⟨rfl, rfl⟩
    go_wp2_with (fail)
    refine (Dk.writes p m F1 w h1 hok).mono ?_
    rintro e w' ⟨rfl, rfl⟩
    go_wp2_with (fail)
    refine (Dr.writes q m G1 w h2 hok).mono ?_
    rintro e w' ⟨rfl, rfl⟩
    go_wp2_with (fail)
    refine (Dk.down p m F1 w h1 hok).mono ?_
    rintro e w' ⟨rfl, rfl⟩
    go_wp2_with (fail)
    refine (Dr.down q m G1 w h2 hok).mono ?_
    rintro e w' ⟨rfl, rfl⟩
    go_wp2_with (fail)
    refine (Dr.blocks q m G1 w h2 hok).mono ?_
    rintro e w' ⟨rfl, rfl⟩
    go_wp2_with (fail)
    go_loopw [32] (fun v32 W => ∃ j : Nat, j ≤ 8 ∧ v32 = .int .i64 j ∧ Hid (Upd No w W)) (fun v32 _ => 8 - (intOf v32).toNat)
    case atStart => exact ⟨0, by omega, rfl, hid (Upd.refl _ _)⟩
    case round =>
      obtain ⟨j, hj, rfl, hu⟩ := hrel
      by_cases hlt : j < 8
      · have HR := hid (read p m F1 (j : Int) wr (h1.upd hu.out (fun _ _ => no_ _)) hok)
        have HR2 := hid (fun W (h : Upd No wr W) => Dr.read q m G1 (j : Int) W ((h2.upd hu.out (fun _ _ => no_ _)).upd h (fun _ _ => no_ _)) hok hfit)
        have hj1 : (j : Int) < 8 := by omega
        go_wp2_with (fail)
        refine Calls.mono HR.out ?_
        rintro e w2 ⟨A2, c2, rfl, hr2, hu2⟩
        go_wp2_with (fail)
        refine Calls.mono (HR2.out w2 hu2) ?_
        rintro e w3 ⟨A3, c3, rfl, hr3, hu3⟩
        have hr2' : Rn w3 .u8 A2 (m.rd j).1 := Rd.upd hr2 (by omega) hu3 (fun _ _ => no_ _)
        generalize m.rd j = oo at *
        obtain ⟨o, oc⟩ := oo
        have hq2 : Rn w3 .u8 A2 o := hr2'
        have hq3 : Rn w3 .u8 A3 o := hr3
        have hc1 := conv_str (P := Try.prog) hq2 22 9 5 c2 Try.underlying22 Try.underlying5 Try.underlying9
        have hc2 := conv_str (P := Try.prog) hq3 22 9 5 c3 Try.underlying22 Try.underlying5 Try.underlying9
        have hf := hid ((hu.out.next hu2).next hu3)
        clear hq2 hq3 hr2 hr2' hr3 HR HR2 hu2 hu3
        go_wp2
        go_roundw
        case rel => exact ⟨j + 1, by omega, by go_num, hf⟩
        case measure => simp [intOf]; omega
      · obtain rfl : j = 8 := by omega
        go_wp2
        go_ret
        exact ⟨rfl, hu.out⟩
end Go.Proofs.Ytehdobagglondaa.Dp
