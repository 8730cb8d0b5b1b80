/-
  The reference's journal: drop, Fold, State.
-/
import Derived.Test.YtjhmmffejfomkaaJs
set_option linter.unusedVariables false
set_option linter.unusedSimpArgs false
namespace Go.Proofs.Ytjhmmffejfomkaa.Jn
open Go.RowKit Go.Proofs.Ytjhmmffejfomkaa.B
structure Rx (w : World) (F : Nat → Prop) (p : Nat) (s : S) (v : Value) : Prop where
  blk : Blk w p 44 (jc s.1 v s.2.2)
  row : Sl w 0 29 2 v s.2.1.length (ecs s.2.1)
  fp : F p
  fv : ∀ k, v.ownBlock = some k → F k
  lt : ∀ k, F k → k < w.heap.size
def Rj (w : World) (F : Nat → Prop) (p : Nat) (s : S) : Prop := ∃ v, Rx w F p s v
section
variable {w w' : World} {F H : Nat → Prop} {p : Nat} {s : S} {v : Value}
theorem Rx.upd (h : Rx w F p s v) (hu : Upd H w w') (hn : ∀ k, F k → ¬ H k) : Rx w' F p s v where
  blk := h.blk.upd hu (hn _ h.fp)
  row := h.row.upd hu fun g hg => hn _ (h.fv g hg)
  fp := h.fp
  fv := h.fv
  lt := fun k hk => Nat.lt_of_lt_of_le (h.lt k hk) hu.size
theorem Rj.upd (h : Rj w F p s) (hu : Upd H w w') (hn : ∀ k, F k → ¬ H k) : Rj w' F p s := by
  obtain ⟨v, h⟩ := h
  exact ⟨v, h.upd hu hn⟩
theorem Rj.lt (h : Rj w F p s) : ∀ k, F k → k < w.heap.size := by
  obtain ⟨v, h⟩ := h
  exact h.lt
theorem Rx.vp (h : Rx w F p s v) : ∀ k, v.ownBlock = some k → k ≠ p := fun k hk e => h.row.ne h.blk (by decide) (by rw [hk, e])
theorem Rx.fin {wz : World} {vz : Value} {s' : S} (h : Rx w F p s v) (hu : Upd F w wz) (hB : Blk wz p 44 (jc s'.1 vz s'.2.2)) (hO : Sl wz 0 29 2 vz s'.2.1.length (ecs s'.2.1)) (hv : ∀ k, vz.ownBlock = some k → F k ∨ w.heap.size ≤ k) :
    ∃ F', Rj wz F' p s' ∧ Mv F F' w wz := by
  refine ⟨fun k => F k ∨ vz.ownBlock = some k, ⟨vz, hB, hO, .inl h.fp, fun k hk => .inr hk, fun k hk => ?_⟩, ⟨hu, fun k hk => ?_⟩⟩
  · rcases hk with hk | hk
    · exact Nat.lt_of_lt_of_le (h.lt k hk) hu.size
    · exact (hO.lt k hk).2
  · rcases hk with hk | hk
    · exact .inl hk
    · exact hv k hk
end
theorem Rj.new {w : World} {o : Obj} (ho : o = .cells (jc s0.1 (.slice none 0 0) 0) 44) : Rj (w.alloc o) (fun k => k = w.heap.size) w.heap.size s0 := by
  subst ho
  exact ⟨.slice none 0 0, Blk.fresh _ _ _, Sl.nil _ _ _ _, rfl, fun k hk => by simp [Value.ownBlock] at hk, fun k hk => by subst hk; simp⟩
theorem rev_info : (Try.prog.info? 29).map (fun i => (i.zero, i.size, i.bytes)) = some (some (.agg #[.int .i64 0, .int .i64 0]), 2, 16) := by kernel_rfl
def RFoldOut (w : World) (F : Nat → Prop) (p : Nat) (s : S) (v : Array Value) (e : Ending) (w' : World) : Prop := e = .returned (.tuple v) ∧ ∃ F', Rj w' F' p s ∧ Mv F F' w w'
theorem RFoldOut.of {w : World} {F : Nat → Prop} {p : Nat} {s : S} {v : Array Value} {e : Ending} {w' : World} (h : e = .returned (.tuple v) ∧ ∃ F', Rj w' F' p s ∧ Mv F F' w w') : RFoldOut w F p s v e w' := h
set_option maxHeartbeats 2000000 in
theorem rdrop {w : World} {F : Nat → Prop} {p : Nat} {bs : List Int} {r y ver : Int} {es : List Ev} (h : Rj w F p (bs, (r, y) :: es, ver)) (he : EvOk (r, y)) (hb8 : bs.length = 8) (hl : es.length ≤ 1000) :
    Calls Try.prog 27 #[.pointer (some ⟨p, 0, none⟩)] w fun e w' => RFoldOut w F p (bs.set r.toNat y, es, ver) #[] e w' := by
  obtain ⟨v, h⟩ := h
  obtain ⟨A, c, hv, hc1, hc2⟩ := h.row.shape
  subst hv
  obtain ⟨r, rfl⟩ : ∃ t : Nat, r = t := ⟨r.toNat, by have := he.1; simp only at this; omega⟩
  have hr8 : r < 8 := by have := he.2; simp only at this; omega
  have hr8' : (r : Int) < 8 := by omega
  rw [Int.toNat_natCast]
  obtain ⟨g, off, rfl, d0, d1, hgl⟩ := ev_at h.row (j := 0) (by simp)
  simp only [List.getElem_cons_zero, Nat.zero_mul, Nat.add_zero] at d0 d1
  obtain ⟨_, c8, _⟩ := jbox h.blk
  have f0 := h.blk.drew.free r
  have k0 := h.blk.drew.cell r
  rw [jc_get _ _ _ r hr8] at k0
  have hgp : g ≠ p := h.vp g rfl
  have hB1 := jput h.blk.drew hb8 hr8 y
  have hu1 : Upd (fun k => k = p) w.drew (w.drew.setCell ⟨p, r, none⟩ (.int .i64 y)) := (Upd.refl _ _).set1 r _
  have hs1 : ∀ x : Nat, (w.drew.setCell ⟨p, r, none⟩ (.int .i64 y)).cell? ⟨g, x, none⟩ = w.cell? ⟨g, x, none⟩ := fun x => hu1.cell (p := ⟨g, x, none⟩) hgl hgp
  have c8' := (jbox hB1).2.1
  simp only at c8 hB1 c8'
  have HX := hid h
  have HW : Hid (∃ w1, w1 = (w.setCell ⟨p, r, none⟩ (.int .i64 y)).drew ∧ Blk w1 p 44 (jc (bs.set r y) (.slice (some ⟨g, off, none⟩) (es.length + 1) c) ver) ∧ Upd (fun k => k = p) w w1) := hid ⟨_, rfl, by simp only [List.length_cons] at hB1; exact hB1, ((Upd.refl _ _).set1 r _).drew⟩
  have hpl := h.lt p h.fp
  clear h hB1
  simp only [List.length_cons] at hc1 c8 c8'
  go_enter Try.func27, Try.ntmps27
  go_wp2_with (fail)
  refine wp_region_held_drew (S := fun W => W.cell? ⟨p, 8, none⟩ = some (.slice (some ⟨g, off, none⟩) (es.length + 1) c) ∧ W.cell? ⟨g, off, none⟩ = some (.int .i64 (r : Int)) ∧ W.cell? ⟨g, off + 1, none⟩ = some (.int .i64 y)) (by kernel_rfl) ⟨c8, d0, d1⟩ (fun hS => ?_)
  refine rg_at 0 (by decide) (fun oi hoi => ?_)
  have ho2 := hoi; simp only [List.getElem?_toArray, List.getElem?_cons_succ, List.getElem?_cons_zero, Option.some.injEq] at ho2; subst ho2
  refine rg_take (v := ?_) 0 hoi (by kernel_rfl) (by kernel_rfl) (by kernel_rfl) (fun _ _ _ h => h) (by rfl) ?_ hS ?_
  rotate_left
  · intro w _; go_simp; try with_reducible rfl
  clear hoi; try simp only [Act.put, List.setIfInBounds_toArray, List.set_cons_zero, List.set_cons_succ]
  refine rg_at 1 (by decide) (fun oi hoi => ?_)
  have ho2 := hoi; simp only [List.getElem?_toArray, List.getElem?_cons_succ, List.getElem?_cons_zero, Option.some.injEq] at ho2; subst ho2
  refine rg_take (v := ?_) 1 hoi (by kernel_rfl) (by kernel_rfl) (by kernel_rfl) (fun _ _ _ h => h) (by rfl) ?_ hS ?_
  rotate_left
  · intro w _; go_simp; try with_reducible rfl
  clear hoi; try simp only [Act.put, List.setIfInBounds_toArray, List.set_cons_zero, List.set_cons_succ]
  refine rg_at 2 (by decide) (fun oi hoi => ?_)
  have ho2 := hoi; simp only [List.getElem?_toArray, List.getElem?_cons_succ, List.getElem?_cons_zero, Option.some.injEq] at ho2; subst ho2
  refine rg_take (v := ?_) 2 hoi (by kernel_rfl) (by kernel_rfl) (by kernel_rfl) (fun _ _ _ h => h) (by rfl) ?_ hS ?_
  rotate_left
  · intro w _; go_simp; try with_reducible rfl
  clear hoi; try simp only [Act.put, List.setIfInBounds_toArray, List.set_cons_zero, List.set_cons_succ]
  refine rg_at 3 (by decide) (fun oi hoi => ?_)
  have ho2 := hoi; simp only [List.getElem?_toArray, List.getElem?_cons_succ, List.getElem?_cons_zero, Option.some.injEq] at ho2; subst ho2
  refine rg_take (v := ?_) 3 hoi (by kernel_rfl) (by kernel_rfl) (by kernel_rfl) (fun _ _ _ h => h) (by rfl) ?_ hS ?_
  rotate_left
  · intro w _; go_simp; try with_reducible rfl
  clear hoi; try simp only [Act.put, List.setIfInBounds_toArray, List.set_cons_zero, List.set_cons_succ]
  refine rg_at 4 (by decide) (fun oi hoi => ?_)
  have ho2 := hoi; simp only [List.getElem?_toArray, List.getElem?_cons_succ, List.getElem?_cons_zero, Option.some.injEq] at ho2; subst ho2
  refine rg_take (v := ?_) 4 hoi (by kernel_rfl) (by kernel_rfl) (by kernel_rfl) (fun _ _ _ h => h) (by rfl) ?_ hS ?_
  rotate_left
  · intro w hw; have hf := hw.1; clear hw; go_simp; try with_reducible rfl
  clear hoi; try simp only [Act.put, List.setIfInBounds_toArray, List.set_cons_zero, List.set_cons_succ]
  refine rg_at 5 (by decide) (fun oi hoi => ?_)
  have ho2 := hoi; simp only [List.getElem?_toArray, List.getElem?_cons_succ, List.getElem?_cons_zero, Option.some.injEq] at ho2; subst ho2
  refine rg_take (v := ?_) 5 hoi (by kernel_rfl) (by kernel_rfl) (by kernel_rfl) (fun _ _ _ h => h) (by rfl) ?_ hS ?_
  rotate_left
  · intro w _; go_simp; try with_reducible rfl
  clear hoi; try simp only [Act.put, List.setIfInBounds_toArray, List.set_cons_zero, List.set_cons_succ]
  refine rg_at 6 (by decide) (fun oi hoi => ?_)
  have ho2 := hoi; simp only [List.getElem?_toArray, List.getElem?_cons_succ, List.getElem?_cons_zero, Option.some.injEq] at ho2; subst ho2
  refine rg_take (v := ?_) 6 hoi (by kernel_rfl) (by kernel_rfl) (by kernel_rfl) (fun _ _ _ h => h) (by rfl) ?_ hS ?_
  rotate_left
  · intro w _; go_simp; try with_reducible rfl
  clear hoi; try simp only [Act.put, List.setIfInBounds_toArray, List.set_cons_zero, List.set_cons_succ]
  refine rg_at 7 (by decide) (fun oi hoi => ?_)
  have ho2 := hoi; simp only [List.getElem?_toArray, List.getElem?_cons_succ, List.getElem?_cons_zero, Option.some.injEq] at ho2; subst ho2
  refine rg_take (v := ?_) 7 hoi (by kernel_rfl) (by kernel_rfl) (by kernel_rfl) (fun _ _ _ h => h) (by rfl) ?_ hS ?_
  rotate_left
  · intro w hw; have hf := hw.2.1; clear hw; go_simp; try with_reducible rfl
  clear hoi; try simp only [Act.put, List.setIfInBounds_toArray, List.set_cons_zero, List.set_cons_succ]
  refine rg_at 8 (by decide) (fun oi hoi => ?_)
  have ho2 := hoi; simp only [List.getElem?_toArray, List.getElem?_cons_succ, List.getElem?_cons_zero, Option.some.injEq] at ho2; subst ho2
  refine rg_take (v := ?_) 8 hoi (by kernel_rfl) (by kernel_rfl) (by kernel_rfl) (fun _ _ _ h => h) (by rfl) ?_ hS ?_
  rotate_left
  · intro w _; go_simp; try with_reducible rfl
  clear hoi; try simp only [Act.put, List.setIfInBounds_toArray, List.set_cons_zero, List.set_cons_succ]
  refine rg_at 9 (by decide) (fun oi hoi => ?_)
  have ho2 := hoi; simp only [List.getElem?_toArray, List.getElem?_cons_succ, List.getElem?_cons_zero, Option.some.injEq] at ho2; subst ho2
  refine rg_take (v := ?_) 9 hoi (by kernel_rfl) (by kernel_rfl) (by kernel_rfl) (fun _ _ _ h => h) (by rfl) ?_ hS ?_
  rotate_left
  · intro w _; go_simp; try with_reducible rfl
  clear hoi; try simp only [Act.put, List.setIfInBounds_toArray, List.set_cons_zero, List.set_cons_succ]
  refine rg_at 10 (by decide) (fun oi hoi => ?_)
  have ho2 := hoi; simp only [List.getElem?_toArray, List.getElem?_cons_succ, List.getElem?_cons_zero, Option.some.injEq] at ho2; subst ho2
  refine rg_take (v := ?_) 10 hoi (by kernel_rfl) (by kernel_rfl) (by kernel_rfl) (fun _ _ _ h => h) (by rfl) ?_ hS ?_
  rotate_left
  · intro w _; go_simp; try with_reducible rfl
  clear hoi; try simp only [Act.put, List.setIfInBounds_toArray, List.set_cons_zero, List.set_cons_succ]
  refine rg_at 11 (by decide) (fun oi hoi => ?_)
  have ho2 := hoi; simp only [List.getElem?_toArray, List.getElem?_cons_succ, List.getElem?_cons_zero, Option.some.injEq] at ho2; subst ho2
  refine rg_take (v := ?_) 11 hoi (by kernel_rfl) (by kernel_rfl) (by kernel_rfl) (fun _ _ _ h => h) (by rfl) ?_ hS ?_
  rotate_left
  · intro w hw; have hf := hw.1; clear hw; go_simp; try with_reducible rfl
  clear hoi; try simp only [Act.put, List.setIfInBounds_toArray, List.set_cons_zero, List.set_cons_succ]
  refine rg_at 12 (by decide) (fun oi hoi => ?_)
  have ho2 := hoi; simp only [List.getElem?_toArray, List.getElem?_cons_succ, List.getElem?_cons_zero, Option.some.injEq] at ho2; subst ho2
  refine rg_take (v := ?_) 12 hoi (by kernel_rfl) (by kernel_rfl) (by kernel_rfl) (fun _ _ _ h => h) (by rfl) ?_ hS ?_
  rotate_left
  · intro w _; go_simp; try with_reducible rfl
  clear hoi; try simp only [Act.put, List.setIfInBounds_toArray, List.set_cons_zero, List.set_cons_succ]
  refine rg_at 13 (by decide) (fun oi hoi => ?_)
  have ho2 := hoi; simp only [List.getElem?_toArray, List.getElem?_cons_succ, List.getElem?_cons_zero, Option.some.injEq] at ho2; subst ho2
  refine rg_take (v := ?_) 13 hoi (by kernel_rfl) (by kernel_rfl) (by kernel_rfl) (fun _ _ _ h => h) (by rfl) ?_ hS ?_
  rotate_left
  · intro w _; go_simp; try with_reducible rfl
  clear hoi; try simp only [Act.put, List.setIfInBounds_toArray, List.set_cons_zero, List.set_cons_succ]
  refine rg_at 14 (by decide) (fun oi hoi => ?_)
  have ho2 := hoi; simp only [List.getElem?_toArray, List.getElem?_cons_succ, List.getElem?_cons_zero, Option.some.injEq] at ho2; subst ho2
  refine rg_take (v := ?_) 14 hoi (by kernel_rfl) (by kernel_rfl) (by kernel_rfl) (fun _ _ _ h => h) (by rfl) ?_ hS ?_
  rotate_left
  · intro w hw; have hf := hw.2.2; clear hw; go_simp; try with_reducible rfl
  clear hoi; try simp only [Act.put, List.setIfInBounds_toArray, List.set_cons_zero, List.set_cons_succ]
  refine rg_at 15 (by decide) (fun oi hoi => ?_)
  have ho2 := hoi; simp only [List.getElem?_toArray, List.getElem?_cons_succ, List.getElem?_cons_zero, Option.some.injEq] at ho2; subst ho2
  refine rg_take (v := ?_) 15 hoi (by kernel_rfl) (by kernel_rfl) (by kernel_rfl) (fun _ _ _ h => h) (by rfl) ?_ hS ?_
  rotate_left
  · intro w _; go_simp; try with_reducible rfl
  clear hoi; try simp only [Act.put, List.setIfInBounds_toArray, List.set_cons_zero, List.set_cons_succ]
  refine rg_at 16 (by decide) (fun oi hoi => ?_)
  have ho2 := hoi; simp only [List.getElem?_toArray, List.getElem?_cons_succ, List.getElem?_cons_zero, Option.some.injEq] at ho2; subst ho2
  refine rg_take (v := ?_) 16 hoi (by kernel_rfl) (by kernel_rfl) (by kernel_rfl) (fun _ _ _ h => h) (by rfl) ?_ hS ?_
  rotate_left
  · intro w _; go_simp; try with_reducible rfl
  clear hoi; try simp only [Act.put, List.setIfInBounds_toArray, List.set_cons_zero, List.set_cons_succ]
  refine rg_at 17 (by decide) (fun oi hoi => ?_)
  have ho2 := hoi; simp only [List.getElem?_toArray, List.getElem?_cons_succ, List.getElem?_cons_zero, Option.some.injEq] at ho2; subst ho2
  refine rg_take (v := ?_) 17 hoi (by kernel_rfl) (by kernel_rfl) (by kernel_rfl) (fun _ _ _ h => h) (by rfl) ?_ hS ?_
  rotate_left
  · intro w _; go_simp; try with_reducible rfl
  clear hoi; try simp only [Act.put, List.setIfInBounds_toArray, List.set_cons_zero, List.set_cons_succ]
  refine rg_at 18 (by decide) (fun oi hoi => ?_)
  have ho2 := hoi; simp only [List.getElem?_toArray, List.getElem?_cons_succ, List.getElem?_cons_zero, Option.some.injEq] at ho2; subst ho2
  refine rg_call 18 (by kernel_rfl) hoi (by rfl) (fun K hK => ?_)
  clear hoi
  skip
  go_simp
  refine hK.out _ _ ((by exact ⟨c8', (hs1 off).trans d0, (hs1 (off + 1)).trans d1⟩)) (fun hS => ?_)
  clear hK K
  try simp only [Act.put, List.setIfInBounds_toArray, List.set_cons_zero, List.set_cons_succ]
  refine wpAnyH_done (by kernel_rfl) ?_ _
  clear hS hs1 d0 d1 k0 f0 c8 c8'
  obtain ⟨w1, hw1, hB1, hu1⟩ := HW.out
  rw [← hw1]
  clear hw1
  have hx1 := HX.out.row.upd hu1 fun k hk => HX.out.vp k hk
  obtain ⟨A5, hA5, hcut⟩ := cut_tail (P := Try.prog) 22 29 .i64 2 Try.underlying22 (by kernel_rfl) (some ⟨g, off, none⟩) (es.length + 1) c 1 1 rfl (by omega)
  have hr5 : Rd w1 2 A5 es.length (ecs es) := by
    have := Rd.drop (k := 1) (Sl.rd hx1) (by simp) hc1
    rw [ecs_drop] at this
    rw [hA5]
    exact this
  have HR5 := hid hr5
  have y8 : ∀ o, (w1.alloc o).cell? ⟨p, 8, none⟩ = some (.slice (some ⟨g, off, none⟩) (es.length + 1) c) := fun o => (jbox (hB1.alloc o)).2.1
  have HB2 := hid (And.intro hB1 hu1)
  clear hB1 hx1 hr5 hA5 hu1 HW
  go_wp2_with (at_builtin; go_must (refine ap_sl 0 rfl (.tmp 21) (.tmp 26) 22 29 (.agg #[.int .i64 0, .int .i64 0]) 2 16 rfl Try.underlying22 rev_info rfl (by omega) (.slice (some ⟨w1.heap.size, 0, none⟩) 0 0) 0 [] A5 es.length (c - 1) (ecs es) rfl rfl (Sl.of_own (World.ownsRow_made w1 #[] 0 (Nat.zero_le _) (Nat.zero_le _) rfl)) (Rd.alloc HR5.out (by omega) _) (ecs_one _) (by omega) (by omega) (by simp) ?_); intro A6 c6 w5 ho6 hg6 hat6; rw [Nat.zero_add, List.nil_append] at ho6; rw [Nat.zero_add]; have b5 := (HB2.out.1.alloc (.cells #[] 29)).upd hg6 (fun e => by have h := HB2.out.1.lt; simp [Value.ownBlock] at e; omega); obtain ⟨_, x8, _⟩ := jbox b5; have xf := b5.free 8)
  have HE : Hid (∃ F', Rj (w5.setCell ⟨p, 8, none⟩ (.slice A6 es.length c6)) F' p (bs.set r y, es, ver) ∧ Mv F F' w (w5.setCell ⟨p, 8, none⟩ (.slice A6 es.length c6))) := by
    have hu6 : Upd No w1 w5 := ((Upd.refl No w1).alloc _).trans (hg6.mono fun k hk h => h) (fun i hi h => by simp [Value.ownBlock] at h; omega)
    have hus := HB2.out.2.size
    have hat : ∀ k, (Value.slice A6 es.length c6).ownBlock = some k → w1.heap.size ≤ k := fun k hk => by
      rw [Nat.zero_add] at hat6
      rcases hat6 k hk with h | h
      · simp [Value.ownBlock] at h; omega
      · simp at h; omega
    refine hid (HX.out.fin (((HB2.out.2.mono fun k _ e => by rw [e]; exact HX.out.fp).next (hu6.mono fun _ _ h => h.elim)).set (p := ⟨p, 8, none⟩) (.inl HX.out.fp) _) (jput8 b5 _) ?_ (fun k hk => .inr (by have := hat k hk; omega)))
    exact ho6.upd ((Upd.refl (fun k => k = p) _).set1 8 (.slice A6 es.length c6)) fun k hk e => by
      have := hat k hk
      omega
  clear ho6 hg6 hat6 b5
  go_wp2
  exact bodyPost_ret (results_none rfl _ _ _) rfl (.of ⟨rfl, HE.out⟩)

theorem foldS_zero (s : S) : foldS s 0 = s := by simp [foldS, sts]
theorem foldS_step {s : S} (hok : Ok s) {j : Nat} (hj : j < s.2.1.length) :
    ∃ bs r y es, foldS s j = (bs, (r, y) :: es, s.2.2) ∧ foldS s (j + 1) = (bs.set r.toNat y, es, s.2.2) ∧ EvOk (r, y) ∧ bs.length = 8 ∧ es.length + j + 1 = s.2.1.length := by
  refine ⟨sts s.1 (s.2.1.take j), s.2.1[j].1, s.2.1[j].2, s.2.1.drop (j + 1), ?_, ?_, hok.ev _ (List.getElem_mem hj), by rw [sts_length, hok.b8], by simp; omega⟩
  · unfold foldS
    rw [List.drop_eq_getElem_cons hj]
  · unfold foldS
    rw [List.take_succ_eq_append_getElem hj, sts_snoc]
    rfl
def lenAt (W : World) (p : Nat) : Nat := match W.cell? ⟨p, 8, none⟩ with
  | some (.slice _ n _) => n
  | _ => 0
theorem Rj.len {w : World} {F : Nat → Prop} {p : Nat} {s : S} (h : Rj w F p s) : lenAt w p = s.2.1.length := by
  obtain ⟨v, h⟩ := h
  obtain ⟨A, c, hv, _, _⟩ := h.row.shape
  subst hv
  unfold lenAt
  rw [(jbox h.blk).2.1]
set_option maxHeartbeats 2000000 in
theorem rFold {w : World} {F : Nat → Prop} {p : Nat} {s : S} (h : Rj w F p s) (hok : Ok s) :
    Calls Try.prog 19 #[.pointer (some ⟨p, 0, none⟩)] w fun e w' => e = .returned (.int .i64 s.2.1.length) ∧ ∃ F', Rj w' F' p (foldS s s.2.1.length) ∧ Mv F F' w w' := by
  obtain ⟨n, hn⟩ : ∃ n, n = s.2.1.length := ⟨_, rfl⟩
  rw [← hn]
  have HH := hid (And.intro h (And.intro hok hn))
  have hle := hok.le
  rw [← hn] at hle
  obtain ⟨v, h⟩ := h
  obtain ⟨A, c, hv, hc1, hc2⟩ := h.row.shape
  subst hv
  obtain ⟨_, c8, _⟩ := jbox h.blk
  rw [← hn] at c8
  clear h hok hn hc1
  go_enter Try.func19, Try.ntmps19
  go_wp2_with (fail)
  clear c8
  go_loopw [13] (fun _ W => ∃ (j : Nat) (F' : Nat → Prop), j ≤ n ∧ Hid (Rj W F' p (foldS s j) ∧ Mv F F' w W)) (fun _ W => lenAt W p)
  case atStart => exact ⟨0, F, by omega, hid ⟨by rw [foldS_zero]; exact HH.out.1, Mv.refl _ _⟩⟩
  case round =>
    obtain ⟨j, F', hj, HR⟩ := hrel
    have hR := HR.out.1
    by_cases hlt : j < n
    · obtain ⟨bs, r, y, es, e1, e2, e3, e4, e5⟩ := foldS_step HH.out.2.1 (by rw [← HH.out.2.2]; exact hlt)
      rw [← HH.out.2.2] at e5
      rw [e1] at hR
      have HD := hid (rdrop hR e3 e4 (by omega))
      have HL := hid hR.len
      have HE := hid (And.intro e2 e5)
      unfold RFoldOut at HD
      obtain ⟨v, hx⟩ := hR
      obtain ⟨A1, c1, hv, hc1, hc2⟩ := hx.row.shape
      subst hv
      obtain ⟨_, c8, _⟩ := jbox hx.blk
      simp only [List.length_cons] at c8
      clear hx e1 e2 e3 e4 e5 hc1
      go_wp2_with (fail)
      refine Calls.mono HD.out ?_
      rintro e w2 ⟨rfl, F2, h2, hm2⟩
      have HZ := hid (And.intro h2 hm2)
      clear h2 hm2 c8
      go_wp2
      go_roundw
      case rel => exact ⟨j + 1, F2, by omega, hid ⟨by rw [HE.out.1]; exact HZ.out.1, HR.out.2.trans HZ.out.2⟩⟩
      case measure => rw [HZ.out.1.len, HL.out]; simp
    · obtain rfl : j = n := by omega
      obtain ⟨v, hx⟩ := hR
      obtain ⟨A1, c1, hv, hc1, hc2⟩ := hx.row.shape
      subst hv
      have hz : (foldS s j).2.1.length = 0 := by
        have := HH.out.2.2
        simp [foldS]; omega
      obtain ⟨_, c8, _⟩ := jbox hx.blk
      rw [hz] at c8
      clear hx hc1 hz
      go_wp2
      go_ret
      exact ⟨rfl, F', HR.out⟩
set_option maxHeartbeats 2000000 in
theorem rstate {w : World} {F : Nat → Prop} {p : Nat} {s : S} (h : Rj w F p s) (hok : Ok s) :
    Calls Try.prog 28 #[.pointer (some ⟨p, 0, none⟩)] w fun e w' => e = .returned (.agg (arr (sts s.1 s.2.1))) ∧ Upd No w w' := by
  obtain ⟨v, h⟩ := h
  obtain ⟨bs, es, ver⟩ := s
  obtain ⟨z0, z1, z2, z3, z4, z5, z6, z7⟩ := jboxA h.blk
  simp only at z0 z1 z2 z3 z4 z5 z6 z7
  have z8 := jbox8 h.blk
  have hb8 := hok.b8
  have hle := hok.le
  have HEv := hid hok.ev
  simp only at hb8 hle
  obtain ⟨A, c, hv, hc1, hc2⟩ := h.row.shape
  subst hv
  simp only at hc1 z8
  have HX := hid h
  have hpl := h.lt p h.fp
  clear h hok
  go_enter Try.func28, Try.ntmps28
  go_wp2_with (fail)
  have HW0 : Hid (∃ (w2 : World) (g3 : Nat), w2 = (w.alloc (.cells (arr s0.1) 27)).alloc (.cells (arr bs) 27) ∧ g3 = w.heap.size + 1 ∧ Blk w2 w.heap.size 27 (arr s0.1) ∧ Blk w2 g3 27 (arr bs) ∧ Upd No w w2) :=
    hid ⟨_, _, rfl, rfl, (Blk.fresh _ _ _).alloc _, by
      have := Blk.fresh (w.alloc (.cells (arr s0.1) 27)) 27 (arr bs)
      simpa using this, ((Upd.refl _ _).alloc _).alloc _⟩
  obtain ⟨w2, g3, hw2, hg3, hA2, hB2, hU2⟩ := HW0.out
  simp only [arr, s0] at hw2
  change _ = ((w.alloc (.cells #[.int .i64 0, .int .i64 0, .int .i64 0, .int .i64 0, .int .i64 0, .int .i64 0, .int .i64 0, .int .i64 0] 27)).alloc _) at hw2
  rw [← hw2, ← hg3]
  have HA2 := hid (And.intro hA2 hU2)
  have HB2 := hid hB2
  have hgl : w.heap.size < g3 := by omega
  clear z0 z1 z2 z3 z4 z5 z6 z7 z8 hw2 hg3 hA2 hB2 hU2 HW0
  go_loopw [14] (fun v14 W => ∃ j : Nat, j ≤ es.length ∧ v14 = .int .i64 j ∧ Hid (Blk W g3 27 (arr (sts bs (es.take j)))) ∧ Hid (Blk W w.heap.size 27 (arr s0.1)) ∧ Hid (Upd No w W)) (fun v14 _ => es.length - (intOf v14).toNat)
  case atStart => exact ⟨0, by omega, rfl, hid (by simpa [sts] using HB2.out), hid HA2.out.1, hid HA2.out.2⟩
  case round =>
    obtain ⟨j, hj, rfl, HB, HC, HU⟩ := hrel
    by_cases hje : j < es.length
    · have hX := HX.out.upd HU.out (fun _ _ => no_ _)
      obtain ⟨g, off, rfl, d0, d1, hgw⟩ := ev_at hX.row hje
      obtain ⟨_, c8, _⟩ := jbox hX.blk
      have hev := HEv.out _ (List.getElem_mem hje)
      have HN : Hid (sts bs (es.take (j + 1)) = st1 (sts bs (es.take j)) es[j] ∧ (sts bs (es.take j)).length = 8) := hid ⟨by rw [List.take_succ_eq_append_getElem hje, sts_snoc], by rw [sts_length, hb8]⟩
      have hj2 : (j : Int) < (es.length : Int) := by omega
      generalize es[j] = e0 at *
      obtain ⟨r, y⟩ := e0
      obtain ⟨r, rfl⟩ : ∃ t : Nat, r = t := ⟨r.toNat, by have := hev.1; simp only at this; omega⟩
      have hr8 : r < 8 := by have := hev.2; simp only at this; omega
      have hr8' : (r : Int) < 8 := by omega
      simp only [st1, Int.toNat_natCast] at HN
      simp only at d0 d1
      have hgn : g ≠ g3 := by have := (HX.out.row.lt g rfl).2; omega
      have hpn : p ≠ g3 := by omega
      generalize sts bs (es.take j) = b at *
      have hbr := arr_get b r hr8
      have k0 := HB.out.cell r
      rw [hbr] at k0
      have f0 := HB.out.free r
      have hu1 : Upd (fun k => k = g3) wr (wr.drew.setCell ⟨g3, r, none⟩ (.int .i64 y)) := ((Upd.refl _ wr).drew).set1 r _
      have q8 := (hu1.cell (p := ⟨p, 8, none⟩) hX.blk.lt hpn).trans c8
      have q0 := (hu1.cell (p := ⟨g, off + j * 2, none⟩) hgw hgn).trans d0
      have q1 := (hu1.cell (p := ⟨g, off + j * 2 + 1, none⟩) hgw hgn).trans d1
      have HE : Hid (Blk (wr.setCell ⟨g3, r, none⟩ (.int .i64 y)).drew g3 27 (arr (sts bs (es.take (j + 1)))) ∧ Blk (wr.setCell ⟨g3, r, none⟩ (.int .i64 y)).drew w.heap.size 27 (arr s0.1) ∧ Upd No w (wr.setCell ⟨g3, r, none⟩ (.int .i64 y)).drew) := hid
        ⟨by rw [HN.out.1]; exact (aput HB.out HN.out.2 hr8 y).drew, (HC.out.far (by simp; omega) _).drew, (HU.out.set (.inr (by simp; omega)) _).drew⟩
      clear hbr hX
      go_wp2_with (fail)
      refine wp_region_held_drew (S := fun W => W.cell? ⟨p, 8, none⟩ = some (.slice (some ⟨g, off, none⟩) es.length c) ∧ W.cell? ⟨g, off + j * 2, none⟩ = some (.int .i64 (r : Int)) ∧ W.cell? ⟨g, off + j * 2 + 1, none⟩ = some (.int .i64 y)) (by kernel_rfl) ⟨c8, d0, d1⟩ (fun hS => ?_)
      refine rg_at 0 (by decide) (fun oi hoi => ?_)
      have ho2 := hoi; simp only [List.getElem?_toArray, List.getElem?_cons_succ, List.getElem?_cons_zero, Option.some.injEq] at ho2; subst ho2
      refine rg_take (v := ?_) 0 hoi (by kernel_rfl) (by kernel_rfl) (by kernel_rfl) (fun _ _ _ h => h) (by rfl) ?_ hS ?_
      rotate_left
      · intro w _; go_simp; try with_reducible rfl
      clear hoi; try simp only [Act.put, List.setIfInBounds_toArray, List.set_cons_zero, List.set_cons_succ]
      refine rg_at 1 (by decide) (fun oi hoi => ?_)
      have ho2 := hoi; simp only [List.getElem?_toArray, List.getElem?_cons_succ, List.getElem?_cons_zero, Option.some.injEq] at ho2; subst ho2
      refine rg_take (v := ?_) 1 hoi (by kernel_rfl) (by kernel_rfl) (by kernel_rfl) (fun _ _ _ h => h) (by rfl) ?_ hS ?_
      rotate_left
      · intro w _; go_simp; try with_reducible rfl
      clear hoi; try simp only [Act.put, List.setIfInBounds_toArray, List.set_cons_zero, List.set_cons_succ]
      refine rg_at 2 (by decide) (fun oi hoi => ?_)
      have ho2 := hoi; simp only [List.getElem?_toArray, List.getElem?_cons_succ, List.getElem?_cons_zero, Option.some.injEq] at ho2; subst ho2
      refine rg_take (v := ?_) 2 hoi (by kernel_rfl) (by kernel_rfl) (by kernel_rfl) (fun _ _ _ h => h) (by rfl) ?_ hS ?_
      rotate_left
      · intro w _; go_simp; try with_reducible rfl
      clear hoi; try simp only [Act.put, List.setIfInBounds_toArray, List.set_cons_zero, List.set_cons_succ]
      refine rg_at 3 (by decide) (fun oi hoi => ?_)
      have ho2 := hoi; simp only [List.getElem?_toArray, List.getElem?_cons_succ, List.getElem?_cons_zero, Option.some.injEq] at ho2; subst ho2
      refine rg_take (v := ?_) 3 hoi (by kernel_rfl) (by kernel_rfl) (by kernel_rfl) (fun _ _ _ h => h) (by rfl) ?_ hS ?_
      rotate_left
      · intro w hw; have hf := hw.1; clear hw; go_simp; try with_reducible rfl
      clear hoi; try simp only [Act.put, List.setIfInBounds_toArray, List.set_cons_zero, List.set_cons_succ]
      refine rg_at 4 (by decide) (fun oi hoi => ?_)
      have ho2 := hoi; simp only [List.getElem?_toArray, List.getElem?_cons_succ, List.getElem?_cons_zero, Option.some.injEq] at ho2; subst ho2
      refine rg_take (v := ?_) 4 hoi (by kernel_rfl) (by kernel_rfl) (by kernel_rfl) (fun _ _ _ h => h) (by rfl) ?_ hS ?_
      rotate_left
      · intro w _; go_simp; try with_reducible rfl
      clear hoi; try simp only [Act.put, List.setIfInBounds_toArray, List.set_cons_zero, List.set_cons_succ]
      refine rg_at 5 (by decide) (fun oi hoi => ?_)
      have ho2 := hoi; simp only [List.getElem?_toArray, List.getElem?_cons_succ, List.getElem?_cons_zero, Option.some.injEq] at ho2; subst ho2
      refine rg_take (v := ?_) 5 hoi (by kernel_rfl) (by kernel_rfl) (by kernel_rfl) (fun _ _ _ h => h) (by rfl) ?_ hS ?_
      rotate_left
      · intro w _; go_simp; try with_reducible rfl
      clear hoi; try simp only [Act.put, List.setIfInBounds_toArray, List.set_cons_zero, List.set_cons_succ]
      refine rg_at 6 (by decide) (fun oi hoi => ?_)
      have ho2 := hoi; simp only [List.getElem?_toArray, List.getElem?_cons_succ, List.getElem?_cons_zero, Option.some.injEq] at ho2; subst ho2
      refine rg_take (v := ?_) 6 hoi (by kernel_rfl) (by kernel_rfl) (by kernel_rfl) (fun _ _ _ h => h) (by rfl) ?_ hS ?_
      rotate_left
      · intro w _; go_simp; try with_reducible rfl
      clear hoi; try simp only [Act.put, List.setIfInBounds_toArray, List.set_cons_zero, List.set_cons_succ]
      refine rg_at 7 (by decide) (fun oi hoi => ?_)
      have ho2 := hoi; simp only [List.getElem?_toArray, List.getElem?_cons_succ, List.getElem?_cons_zero, Option.some.injEq] at ho2; subst ho2
      refine rg_take (v := ?_) 7 hoi (by kernel_rfl) (by kernel_rfl) (by kernel_rfl) (fun _ _ _ h => h) (by rfl) ?_ hS ?_
      rotate_left
      · intro w hw; have hf := hw.2.1; clear hw; go_simp; try with_reducible rfl
      clear hoi; try simp only [Act.put, List.setIfInBounds_toArray, List.set_cons_zero, List.set_cons_succ]
      refine rg_at 8 (by decide) (fun oi hoi => ?_)
      have ho2 := hoi; simp only [List.getElem?_toArray, List.getElem?_cons_succ, List.getElem?_cons_zero, Option.some.injEq] at ho2; subst ho2
      refine rg_take (v := ?_) 8 hoi (by kernel_rfl) (by kernel_rfl) (by kernel_rfl) (fun _ _ _ h => h) (by rfl) ?_ hS ?_
      rotate_left
      · intro w _; go_simp; try with_reducible rfl
      clear hoi; try simp only [Act.put, List.setIfInBounds_toArray, List.set_cons_zero, List.set_cons_succ]
      refine rg_at 9 (by decide) (fun oi hoi => ?_)
      have ho2 := hoi; simp only [List.getElem?_toArray, List.getElem?_cons_succ, List.getElem?_cons_zero, Option.some.injEq] at ho2; subst ho2
      refine rg_take (v := ?_) 9 hoi (by kernel_rfl) (by kernel_rfl) (by kernel_rfl) (fun _ _ _ h => h) (by rfl) ?_ hS ?_
      rotate_left
      · intro w _; go_simp; try with_reducible rfl
      clear hoi; try simp only [Act.put, List.setIfInBounds_toArray, List.set_cons_zero, List.set_cons_succ]
      refine rg_at 10 (by decide) (fun oi hoi => ?_)
      have ho2 := hoi; simp only [List.getElem?_toArray, List.getElem?_cons_succ, List.getElem?_cons_zero, Option.some.injEq] at ho2; subst ho2
      refine rg_take (v := ?_) 10 hoi (by kernel_rfl) (by kernel_rfl) (by kernel_rfl) (fun _ _ _ h => h) (by rfl) ?_ hS ?_
      rotate_left
      · intro w _; go_simp; try with_reducible rfl
      clear hoi; try simp only [Act.put, List.setIfInBounds_toArray, List.set_cons_zero, List.set_cons_succ]
      refine rg_at 11 (by decide) (fun oi hoi => ?_)
      have ho2 := hoi; simp only [List.getElem?_toArray, List.getElem?_cons_succ, List.getElem?_cons_zero, Option.some.injEq] at ho2; subst ho2
      refine rg_take (v := ?_) 11 hoi (by kernel_rfl) (by kernel_rfl) (by kernel_rfl) (fun _ _ _ h => h) (by rfl) ?_ hS ?_
      rotate_left
      · intro w hw; have hf := hw.1; clear hw; go_simp; try with_reducible rfl
      clear hoi; try simp only [Act.put, List.setIfInBounds_toArray, List.set_cons_zero, List.set_cons_succ]
      refine rg_at 12 (by decide) (fun oi hoi => ?_)
      have ho2 := hoi; simp only [List.getElem?_toArray, List.getElem?_cons_succ, List.getElem?_cons_zero, Option.some.injEq] at ho2; subst ho2
      refine rg_take (v := ?_) 12 hoi (by kernel_rfl) (by kernel_rfl) (by kernel_rfl) (fun _ _ _ h => h) (by rfl) ?_ hS ?_
      rotate_left
      · intro w _; go_simp; try with_reducible rfl
      clear hoi; try simp only [Act.put, List.setIfInBounds_toArray, List.set_cons_zero, List.set_cons_succ]
      refine rg_at 13 (by decide) (fun oi hoi => ?_)
      have ho2 := hoi; simp only [List.getElem?_toArray, List.getElem?_cons_succ, List.getElem?_cons_zero, Option.some.injEq] at ho2; subst ho2
      refine rg_take (v := ?_) 13 hoi (by kernel_rfl) (by kernel_rfl) (by kernel_rfl) (fun _ _ _ h => h) (by rfl) ?_ hS ?_
      rotate_left
      · intro w _; go_simp; try with_reducible rfl
      clear hoi; try simp only [Act.put, List.setIfInBounds_toArray, List.set_cons_zero, List.set_cons_succ]
      refine rg_at 14 (by decide) (fun oi hoi => ?_)
      have ho2 := hoi; simp only [List.getElem?_toArray, List.getElem?_cons_succ, List.getElem?_cons_zero, Option.some.injEq] at ho2; subst ho2
      refine rg_take (v := ?_) 14 hoi (by kernel_rfl) (by kernel_rfl) (by kernel_rfl) (fun _ _ _ h => h) (by rfl) ?_ hS ?_
      rotate_left
      · intro w _; go_simp; try with_reducible rfl
      clear hoi; try simp only [Act.put, List.setIfInBounds_toArray, List.set_cons_zero, List.set_cons_succ]
      refine rg_at 15 (by decide) (fun oi hoi => ?_)
      have ho2 := hoi; simp only [List.getElem?_toArray, List.getElem?_cons_succ, List.getElem?_cons_zero, Option.some.injEq] at ho2; subst ho2
      refine rg_take (v := ?_) 15 hoi (by kernel_rfl) (by kernel_rfl) (by kernel_rfl) (fun _ _ _ h => h) (by rfl) ?_ hS ?_
      rotate_left
      · intro w hw; have hf := hw.2.2; clear hw; go_simp; try with_reducible rfl
      clear hoi; try simp only [Act.put, List.setIfInBounds_toArray, List.set_cons_zero, List.set_cons_succ]
      refine rg_at 16 (by decide) (fun oi hoi => ?_)
      have ho2 := hoi; simp only [List.getElem?_toArray, List.getElem?_cons_succ, List.getElem?_cons_zero, Option.some.injEq] at ho2; subst ho2
      refine rg_take (v := ?_) 16 hoi (by kernel_rfl) (by kernel_rfl) (by kernel_rfl) (fun _ _ _ h => h) (by rfl) ?_ hS ?_
      rotate_left
      · intro w _; go_simp; try with_reducible rfl
      clear hoi; try simp only [Act.put, List.setIfInBounds_toArray, List.set_cons_zero, List.set_cons_succ]
      refine rg_at 17 (by decide) (fun oi hoi => ?_)
      have ho2 := hoi; simp only [List.getElem?_toArray, List.getElem?_cons_succ, List.getElem?_cons_zero, Option.some.injEq] at ho2; subst ho2
      refine rg_call 17 (by kernel_rfl) hoi (by rfl) (fun K hK => ?_)
      clear hoi
      skip
      go_simp
      refine hK.out _ _ ((by exact ⟨q8, q0, q1⟩)) (fun hS => ?_)
      clear hK K
      try simp only [Act.put, List.setIfInBounds_toArray, List.set_cons_zero, List.set_cons_succ]
      refine wpAnyH_done (by kernel_rfl) ?_ _
      clear hS c8 d0 d1 k0 f0 q8 q0 q1 hu1
      go_wp2
      go_roundw
      case rel => exact ⟨j + 1, by omega, by go_num, hid HE.out.1, hid HE.out.2.1, hid HE.out.2.2⟩
      case measure => simp [intOf]; omega
    · obtain rfl : j = es.length := by omega
      have HS : Hid (sts bs (es.take es.length) = sts bs es) := hid (by rw [List.take_length])
      rw [HS.out] at HB
      obtain ⟨b, hb⟩ : ∃ b, b = sts bs es := ⟨_, rfl⟩
      rw [← hb] at HB
      have HSB := hid hb
      clear hb HS
      obtain ⟨z0, z1, z2, z3, z4, z5, z6, z7⟩ := abox HB.out
      obtain ⟨y0, y1, y2, y3, y4, y5, y6, y7⟩ := abox HC.out
      have g0 := HC.out.free 0
      have g1 := HC.out.free 1
      have g2 := HC.out.free 2
      have g3' := HC.out.free 3
      have g4 := HC.out.free 4
      have g5 := HC.out.free 5
      have g6 := HC.out.free 6
      have g7 := HC.out.free 7
      have HF := hid (put8_blk (b := b) HC.out)
      have HG := hid (put8_upd HU.out (.inr (Nat.le_refl _)) b)
      go_wp2
      unfold put8 at HF HG
      generalize (((((((wr.setCell ⟨w.heap.size, 0, none⟩ (.int .i64 (gi b 0))).setCell ⟨w.heap.size, 1, none⟩ (.int .i64 (gi b 1))).setCell ⟨w.heap.size, 2, none⟩ (.int .i64 (gi b 2))).setCell ⟨w.heap.size, 3, none⟩ (.int .i64 (gi b 3))).setCell ⟨w.heap.size, 4, none⟩ (.int .i64 (gi b 4))).setCell ⟨w.heap.size, 5, none⟩ (.int .i64 (gi b 5))).setCell ⟨w.heap.size, 6, none⟩ (.int .i64 (gi b 6))).setCell ⟨w.heap.size, 7, none⟩ (.int .i64 (gi b 7)) = wz at *
      obtain ⟨q0, q1, q2, q3, q4, q5, q6, q7⟩ := abox HF.out
      exact bodyPost_ret (v := .agg (arr b)) (by simp [results, go_sem, arr, q0, q1, q2, q3, q4, q5, q6, q7]) rfl ⟨by rw [HSB.out], HG.out⟩
end Go.Proofs.Ytjhmmffejfomkaa.Jn
