/-
  The walks of Cut; DiskCuts.
-/
import Derived.Test.YtehdobagglondaaDv
set_option linter.unusedVariables false
set_option linter.unusedSimpArgs false
namespace Go.Proofs.Ytehdobagglondaa.Dw
open Go.RowKit Go.Proofs.Ytehdobagglondaa.B Go.Proofs.Ytehdobagglondaa.Sm Go.Proofs.Ytehdobagglondaa.Dk Go.Proofs.Ytehdobagglondaa.Dl Go.Proofs.Ytehdobagglondaa.Dp Go.Proofs.Ytehdobagglondaa.Do
/-- The first writes of a disk. -/
def cutD (m : Dm) (K : Nat) : Dm := ⟨m.nb, m.log.take K, -1, false⟩
theorem wcells_one (ps : List Pw) (h : ∀ x ∈ ps, x.2.2.oneCell' = true) : ∀ u ∈ wcells ps, u.oneCell' = true := by
  intro u hu
  simp only [wcells, List.mem_flatMap, List.mem_cons, List.not_mem_nil, or_false] at hu
  obtain ⟨p, hp, rfl | rfl⟩ := hu
  · rfl
  · exact h p hp
/-- 'xs[:h]', whatever the elements' size. -/
theorem cut_top {P : Program} (t e : TypeId) (kh : IntKind) (s : Nat) (ht : P.underlying t = some (.slice e)) (hi : (P.info? e).map (·.size) = some s) (A : Option Addr) (n c h : Nat) (hi' : Int) (hhi : hi' = (h : Int)) (hh : h ≤ c) :
    ∀ W : World, (Instr.slice t (.slice A n c) none (some (.int kh hi')) none).run P W = .ok (.slice A h c) W := by
  subst hhi
  intro W
  obtain ⟨i, hi1, hi2⟩ := Option.map_eq_some_iff.1 hi
  have hel : P.elem t = e := by simp [Program.elem, ht]
  have hu : P.underlying t = some (.slice (P.elem t)) := by rw [hel]; exact ht
  rw [run_slice_h W t A n c hu kh (h : Int) (Int.natCast_nonneg _) (by omega), hel]
  have e0 : (A.map fun x => x.add 0) = A := by cases A <;> rfl
  simp [sizeOf, typeInfo, hi1, sliced, Result.andThen, e0]
set_option maxHeartbeats 2000000 in
set_option maxRecDepth 100000 in
theorem cut_at (p : Nat) (m : Dm) (F : Nat → Prop) (n : Int) (K : Nat) (w : World) (h : Dk w F p m) (hg : Dp.Good 100000 m) (hK : (n < 0 ∧ K = 0) ∨ (0 ≤ n ∧ n ≤ m.log.length ∧ n = K) ∨ (0 ≤ n ∧ (m.log.length : Int) < n ∧ K = m.log.length)) :
    Calls Try.prog 20 #[.pointer (some ⟨p, 0, none⟩), .int .i64 n] w fun e w' => ∃ p' F', e = .returned (.pointer (some ⟨p', 0, none⟩)) ∧ Dk w' F' p' (cutD m K) ∧ (∀ k, F' k → w.heap.size ≤ k) ∧ Below w.heap.size w w' := by
  have hD := hid h
  obtain ⟨⟨_, _, hnb⟩, hfit, hlen, hat⟩ := hg
  have hlog := h.log
  obtain ⟨ps, g, vl, h1, h2, h3, h4, h5, h6, h7, h8, h9⟩ := h
  obtain ⟨nb, log, fuse, down⟩ := m
  simp only at h1 h2 h3 hlog hnb hlen hat hfit hK
  have hc0 := h2.cell 0
  simp at hc0
  have hpl : ps.length = log.length := by rw [← h1]; simp [ab]
  obtain ⟨A, cc, rfl, hlc, hcm⟩ := own_shape h4
  simp only [maxLen] at hcm
  have HN := hid (new_ (nb : Int) w)
  rw [show (min (max (nb : Int) 0) 65536).toNat = nb from by omega] at HN
  have hnb0 : (0 : Int) ≤ (nb : Int) := by omega
  go_enter Try.func20, Try.ntmps20
  go_wp2_with (fail)
  refine Calls.mono HN.out ?_
  rintro e w1 ⟨p1, F1, rfl, hD1, hb1, hF1⟩
  have hc1 : w1.cell? ⟨p, 1, none⟩ = some (.slice A ps.length cc) := by
    have := (h2.upd (Upd.of_below No hb1) (no_ _)).cell 1
    simpa using this
  rw [hpl] at hc1
  have HC1 : Hid (∀ W, W = w1.drew → W.cell? ⟨p, 1, none⟩ = some (.slice A log.length cc)) := hid (by rintro W rfl; exact hc1)
  have HD1 := hid (show Dk w1.drew F1 p1 ⟨nb, [], -1, false⟩ from hD1)
  have hl0 : (0 : Int) ≤ (log.length : Int) := by omega
  clear hD1
  rcases hK with ⟨k1, k2⟩ | ⟨k1, k2, k3⟩ | ⟨k1, k2, k3⟩
  · subst k2
    have hm1 : (if n < 0 then (0 : Int) else n) = 0 := if_pos k1
    have hm2 : (if (log.length : Int) < 0 then (log.length : Int) else 0) = 0 := if_neg (by omega)
    have hcs := cut_top (P := Try.prog) 46 51 .i64 2 Try.underlying46 (by kernel_rfl) A log.length cc 0 0 (by omega) (by omega)
    go_wp2_with (fail)
    refine wp_region_held_drew (S := fun W => W = w1.drew) (by kernel_rfl) rfl (fun hS => ?_)
    refine rg_at 0 (by decide) (fun oi hoi => ?_)
    have ho2 := hoi; simp only [List.getElem?_toArray, List.getElem?_cons_succ, List.getElem?_cons_zero, Option.some.injEq] at ho2; subst ho2
    refine rg_take (v := ?_) 0 hoi (by kernel_rfl) (by kernel_rfl) (by kernel_rfl) (fun _ _ _ h => h) (by rfl) ?_ hS ?_
    rotate_left
    · intro w _; go_simp; try with_reducible rfl
    clear hoi; try simp only [Act.put, List.setIfInBounds_toArray, List.set_cons_zero, List.set_cons_succ]
    refine rg_at 1 (by decide) (fun oi hoi => ?_)
    have ho2 := hoi; simp only [List.getElem?_toArray, List.getElem?_cons_succ, List.getElem?_cons_zero, Option.some.injEq] at ho2; subst ho2
    refine rg_take (v := ?_) 1 hoi (by kernel_rfl) (by kernel_rfl) (by kernel_rfl) (fun _ _ _ h => h) (by rfl) ?_ hS ?_
    rotate_left
    · intro w _; go_simp; try with_reducible rfl
    clear hoi; try simp only [Act.put, List.setIfInBounds_toArray, List.set_cons_zero, List.set_cons_succ]
    refine rg_at 2 (by decide) (fun oi hoi => ?_)
    have ho2 := hoi; simp only [List.getElem?_toArray, List.getElem?_cons_succ, List.getElem?_cons_zero, Option.some.injEq] at ho2; subst ho2
    refine rg_take (v := ?_) 2 hoi (by kernel_rfl) (by kernel_rfl) (by kernel_rfl) (fun _ _ _ h => h) (by rfl) ?_ hS ?_
    rotate_left
    · intro w _; go_simp; try with_reducible rfl
    clear hoi; try simp only [Act.put, List.setIfInBounds_toArray, List.set_cons_zero, List.set_cons_succ]
    refine rg_at 3 (by decide) (fun oi hoi => ?_)
    have ho2 := hoi; simp only [List.getElem?_toArray, List.getElem?_cons_succ, List.getElem?_cons_zero, Option.some.injEq] at ho2; subst ho2
    refine rg_take (v := ?_) 3 hoi (by kernel_rfl) (by kernel_rfl) (by kernel_rfl) (fun _ _ _ h => h) (by rfl) ?_ hS ?_
    rotate_left
    · intro w hw; have hf := HC1.out w hw; clear hw; go_simp; try with_reducible rfl
    clear hoi; try simp only [Act.put, List.setIfInBounds_toArray, List.set_cons_zero, List.set_cons_succ]
    refine rg_at 4 (by decide) (fun oi hoi => ?_)
    have ho2 := hoi; simp only [List.getElem?_toArray, List.getElem?_cons_succ, List.getElem?_cons_zero, Option.some.injEq] at ho2; subst ho2
    refine rg_take (v := ?_) 4 hoi (by kernel_rfl) (by kernel_rfl) (by kernel_rfl) (fun _ _ _ h => h) (by rfl) ?_ hS ?_
    rotate_left
    · intro w _; go_simp; try with_reducible rfl
    clear hoi; try simp only [Act.put, List.setIfInBounds_toArray, List.set_cons_zero, List.set_cons_succ]
    refine rg_at 5 (by decide) (fun oi hoi => ?_)
    have ho2 := hoi; simp only [List.getElem?_toArray, List.getElem?_cons_succ, List.getElem?_cons_zero, Option.some.injEq] at ho2; subst ho2
    refine rg_take (v := ?_) 5 hoi (by kernel_rfl) (by kernel_rfl) (by kernel_rfl) (fun _ _ _ h => h) (by rfl) ?_ hS ?_
    rotate_left
    · intro w hw; have hf := hm1; clear hw; go_simp; try with_reducible rfl
    clear hoi; try simp only [Act.put, List.setIfInBounds_toArray, List.set_cons_zero, List.set_cons_succ]
    refine rg_at 6 (by decide) (fun oi hoi => ?_)
    have ho2 := hoi; simp only [List.getElem?_toArray, List.getElem?_cons_succ, List.getElem?_cons_zero, Option.some.injEq] at ho2; subst ho2
    refine rg_take (v := ?_) 6 hoi (by kernel_rfl) (by kernel_rfl) (by kernel_rfl) (fun _ _ _ h => h) (by rfl) ?_ hS ?_
    rotate_left
    · intro w _; go_simp; try with_reducible rfl
    clear hoi; try simp only [Act.put, List.setIfInBounds_toArray, List.set_cons_zero, List.set_cons_succ]
    refine rg_at 7 (by decide) (fun oi hoi => ?_)
    have ho2 := hoi; simp only [List.getElem?_toArray, List.getElem?_cons_succ, List.getElem?_cons_zero, Option.some.injEq] at ho2; subst ho2
    refine rg_take (v := ?_) 7 hoi (by kernel_rfl) (by kernel_rfl) (by kernel_rfl) (fun _ _ _ h => h) (by rfl) ?_ hS ?_
    rotate_left
    · intro w _; go_simp; try with_reducible rfl
    clear hoi; try simp only [Act.put, List.setIfInBounds_toArray, List.set_cons_zero, List.set_cons_succ]
    refine rg_at 8 (by decide) (fun oi hoi => ?_)
    have ho2 := hoi; simp only [List.getElem?_toArray, List.getElem?_cons_succ, List.getElem?_cons_zero, Option.some.injEq] at ho2; subst ho2
    refine rg_take (v := ?_) 8 hoi (by kernel_rfl) (by kernel_rfl) (by kernel_rfl) (fun _ _ _ h => h) (by rfl) ?_ hS ?_
    rotate_left
    · intro w _; go_simp; try with_reducible rfl
    clear hoi; try simp only [Act.put, List.setIfInBounds_toArray, List.set_cons_zero, List.set_cons_succ]
    refine rg_at 9 (by decide) (fun oi hoi => ?_)
    have ho2 := hoi; simp only [List.getElem?_toArray, List.getElem?_cons_succ, List.getElem?_cons_zero, Option.some.injEq] at ho2; subst ho2
    refine rg_take (v := ?_) 9 hoi (by kernel_rfl) (by kernel_rfl) (by kernel_rfl) (fun _ _ _ h => h) (by rfl) ?_ hS ?_
    rotate_left
    · intro w hw; have hf := HC1.out w hw; clear hw; go_simp; try with_reducible rfl
    clear hoi; try simp only [Act.put, List.setIfInBounds_toArray, List.set_cons_zero, List.set_cons_succ]
    refine rg_at 10 (by decide) (fun oi hoi => ?_)
    have ho2 := hoi; simp only [List.getElem?_toArray, List.getElem?_cons_succ, List.getElem?_cons_zero, Option.some.injEq] at ho2; subst ho2
    refine rg_take (v := ?_) 10 hoi (by kernel_rfl) (by kernel_rfl) (by kernel_rfl) (fun _ _ _ h => h) (by rfl) ?_ hS ?_
    rotate_left
    · intro w _; go_simp; try with_reducible rfl
    clear hoi; try simp only [Act.put, List.setIfInBounds_toArray, List.set_cons_zero, List.set_cons_succ]
    refine rg_at 11 (by decide) (fun oi hoi => ?_)
    have ho2 := hoi; simp only [List.getElem?_toArray, List.getElem?_cons_succ, List.getElem?_cons_zero, Option.some.injEq] at ho2; subst ho2
    refine rg_take (v := ?_) 11 hoi (by kernel_rfl) (by kernel_rfl) (by kernel_rfl) (fun _ _ _ h => h) (by rfl) ?_ hS ?_
    rotate_left
    · intro w hw; have hf := hm2; clear hw; go_simp; try with_reducible rfl
    clear hoi; try simp only [Act.put, List.setIfInBounds_toArray, List.set_cons_zero, List.set_cons_succ]
    refine rg_at 12 (by decide) (fun oi hoi => ?_)
    have ho2 := hoi; simp only [List.getElem?_toArray, List.getElem?_cons_succ, List.getElem?_cons_zero, Option.some.injEq] at ho2; subst ho2
    refine rg_take (v := ?_) 12 hoi (by kernel_rfl) (by kernel_rfl) (by kernel_rfl) (fun _ _ _ h => h) (by rfl) ?_ hS ?_
    rotate_left
    · intro w hw; have hf := hcs w; clear hw; go_simp; try with_reducible rfl
    clear hoi; try simp only [Act.put, List.setIfInBounds_toArray, List.set_cons_zero, List.set_cons_succ]
    refine rg_at 13 (by decide) (fun oi hoi => ?_)
    have ho2 := hoi; simp only [List.getElem?_toArray, List.getElem?_cons_succ, List.getElem?_cons_zero, Option.some.injEq] at ho2; subst ho2
    refine rg_take (v := ?_) 13 hoi (by kernel_rfl) (by kernel_rfl) (by kernel_rfl) (fun _ _ _ h => h) (by rfl) ?_ hS ?_
    rotate_left
    · intro w _; go_simp; try with_reducible rfl
    clear hoi; try simp only [Act.put, List.setIfInBounds_toArray, List.set_cons_zero, List.set_cons_succ]
    refine rg_at 14 (by decide) (fun oi hoi => ?_)
    have ho2 := hoi; simp only [List.getElem?_toArray, List.getElem?_cons_succ, List.getElem?_cons_zero, Option.some.injEq] at ho2; subst ho2
    refine rg_take (v := ?_) 14 hoi (by kernel_rfl) (by kernel_rfl) (by kernel_rfl) (fun _ _ _ h => h) (by rfl) ?_ hS ?_
    rotate_left
    · intro w _; go_simp; try with_reducible rfl
    clear hoi; try simp only [Act.put, List.setIfInBounds_toArray, List.set_cons_zero, List.set_cons_succ]
    refine wpAnyH_done (by kernel_rfl) ?_ _
    go_wp2_with (fail)
    go_loopw [30] (fun v30 W => ∃ (k : Nat) (F' : Nat → Prop), k ≤ 0 ∧ v30 = .int .i64 k ∧ Dk W F' p1 ⟨nb, log.take k, -1, false⟩ ∧ (∀ k, F' k → w.heap.size ≤ k) ∧ Below w.heap.size w W) (fun v30 _ => 0 - (intOf v30).toNat)
    case atStart => exact ⟨0, F1, by omega, rfl, HD1.out, hF1, below_drew hb1⟩
    case round =>
      obtain ⟨k, F', hk, rfl, hDk, hF', hb⟩ := hrel
      by_cases hlt : k < 0
      · exact absurd hlt (Nat.not_lt_zero _)
      · obtain rfl : k = 0 := by omega
        go_wp2
        go_ret
        exact ⟨_, _, rfl, hDk, hF', hb⟩
  · subst k3
    have hm1 : (if (K : Int) < 0 then (0 : Int) else (K : Int)) = (K : Int) := if_neg (by omega)
    have hm2 : (if log.length < K then (log.length : Int) else (K : Int)) = (K : Int) := if_neg (by omega)
    have hcs := cut_top (P := Try.prog) 46 51 .i64 2 Try.underlying46 (by kernel_rfl) A log.length cc K (K : Int) (by omega) (by omega)
    go_wp2_with (fail)
    refine wp_region_held_drew (S := fun W => W = w1.drew) (by kernel_rfl) rfl (fun hS => ?_)
    refine rg_at 0 (by decide) (fun oi hoi => ?_)
    have ho2 := hoi; simp only [List.getElem?_toArray, List.getElem?_cons_succ, List.getElem?_cons_zero, Option.some.injEq] at ho2; subst ho2
    refine rg_take (v := ?_) 0 hoi (by kernel_rfl) (by kernel_rfl) (by kernel_rfl) (fun _ _ _ h => h) (by rfl) ?_ hS ?_
    rotate_left
    · intro w _; go_simp; try with_reducible rfl
    clear hoi; try simp only [Act.put, List.setIfInBounds_toArray, List.set_cons_zero, List.set_cons_succ]
    refine rg_at 1 (by decide) (fun oi hoi => ?_)
    have ho2 := hoi; simp only [List.getElem?_toArray, List.getElem?_cons_succ, List.getElem?_cons_zero, Option.some.injEq] at ho2; subst ho2
    refine rg_take (v := ?_) 1 hoi (by kernel_rfl) (by kernel_rfl) (by kernel_rfl) (fun _ _ _ h => h) (by rfl) ?_ hS ?_
    rotate_left
    · intro w _; go_simp; try with_reducible rfl
    clear hoi; try simp only [Act.put, List.setIfInBounds_toArray, List.set_cons_zero, List.set_cons_succ]
    refine rg_at 2 (by decide) (fun oi hoi => ?_)
    have ho2 := hoi; simp only [List.getElem?_toArray, List.getElem?_cons_succ, List.getElem?_cons_zero, Option.some.injEq] at ho2; subst ho2
    refine rg_take (v := ?_) 2 hoi (by kernel_rfl) (by kernel_rfl) (by kernel_rfl) (fun _ _ _ h => h) (by rfl) ?_ hS ?_
    rotate_left
    · intro w _; go_simp; try with_reducible rfl
    clear hoi; try simp only [Act.put, List.setIfInBounds_toArray, List.set_cons_zero, List.set_cons_succ]
    refine rg_at 3 (by decide) (fun oi hoi => ?_)
    have ho2 := hoi; simp only [List.getElem?_toArray, List.getElem?_cons_succ, List.getElem?_cons_zero, Option.some.injEq] at ho2; subst ho2
    refine rg_take (v := ?_) 3 hoi (by kernel_rfl) (by kernel_rfl) (by kernel_rfl) (fun _ _ _ h => h) (by rfl) ?_ hS ?_
    rotate_left
    · intro w hw; have hf := HC1.out w hw; clear hw; go_simp; try with_reducible rfl
    clear hoi; try simp only [Act.put, List.setIfInBounds_toArray, List.set_cons_zero, List.set_cons_succ]
    refine rg_at 4 (by decide) (fun oi hoi => ?_)
    have ho2 := hoi; simp only [List.getElem?_toArray, List.getElem?_cons_succ, List.getElem?_cons_zero, Option.some.injEq] at ho2; subst ho2
    refine rg_take (v := ?_) 4 hoi (by kernel_rfl) (by kernel_rfl) (by kernel_rfl) (fun _ _ _ h => h) (by rfl) ?_ hS ?_
    rotate_left
    · intro w _; go_simp; try with_reducible rfl
    clear hoi; try simp only [Act.put, List.setIfInBounds_toArray, List.set_cons_zero, List.set_cons_succ]
    refine rg_at 5 (by decide) (fun oi hoi => ?_)
    have ho2 := hoi; simp only [List.getElem?_toArray, List.getElem?_cons_succ, List.getElem?_cons_zero, Option.some.injEq] at ho2; subst ho2
    refine rg_take (v := ?_) 5 hoi (by kernel_rfl) (by kernel_rfl) (by kernel_rfl) (fun _ _ _ h => h) (by rfl) ?_ hS ?_
    rotate_left
    · intro w hw; have hf := hm1; clear hw; go_simp; try with_reducible rfl
    clear hoi; try simp only [Act.put, List.setIfInBounds_toArray, List.set_cons_zero, List.set_cons_succ]
    refine rg_at 6 (by decide) (fun oi hoi => ?_)
    have ho2 := hoi; simp only [List.getElem?_toArray, List.getElem?_cons_succ, List.getElem?_cons_zero, Option.some.injEq] at ho2; subst ho2
    refine rg_take (v := ?_) 6 hoi (by kernel_rfl) (by kernel_rfl) (by kernel_rfl) (fun _ _ _ h => h) (by rfl) ?_ hS ?_
    rotate_left
    · intro w _; go_simp; try with_reducible rfl
    clear hoi; try simp only [Act.put, List.setIfInBounds_toArray, List.set_cons_zero, List.set_cons_succ]
    refine rg_at 7 (by decide) (fun oi hoi => ?_)
    have ho2 := hoi; simp only [List.getElem?_toArray, List.getElem?_cons_succ, List.getElem?_cons_zero, Option.some.injEq] at ho2; subst ho2
    refine rg_take (v := ?_) 7 hoi (by kernel_rfl) (by kernel_rfl) (by kernel_rfl) (fun _ _ _ h => h) (by rfl) ?_ hS ?_
    rotate_left
    · intro w _; go_simp; try with_reducible rfl
    clear hoi; try simp only [Act.put, List.setIfInBounds_toArray, List.set_cons_zero, List.set_cons_succ]
    refine rg_at 8 (by decide) (fun oi hoi => ?_)
    have ho2 := hoi; simp only [List.getElem?_toArray, List.getElem?_cons_succ, List.getElem?_cons_zero, Option.some.injEq] at ho2; subst ho2
    refine rg_take (v := ?_) 8 hoi (by kernel_rfl) (by kernel_rfl) (by kernel_rfl) (fun _ _ _ h => h) (by rfl) ?_ hS ?_
    rotate_left
    · intro w _; go_simp; try with_reducible rfl
    clear hoi; try simp only [Act.put, List.setIfInBounds_toArray, List.set_cons_zero, List.set_cons_succ]
    refine rg_at 9 (by decide) (fun oi hoi => ?_)
    have ho2 := hoi; simp only [List.getElem?_toArray, List.getElem?_cons_succ, List.getElem?_cons_zero, Option.some.injEq] at ho2; subst ho2
    refine rg_take (v := ?_) 9 hoi (by kernel_rfl) (by kernel_rfl) (by kernel_rfl) (fun _ _ _ h => h) (by rfl) ?_ hS ?_
    rotate_left
    · intro w hw; have hf := HC1.out w hw; clear hw; go_simp; try with_reducible rfl
    clear hoi; try simp only [Act.put, List.setIfInBounds_toArray, List.set_cons_zero, List.set_cons_succ]
    refine rg_at 10 (by decide) (fun oi hoi => ?_)
    have ho2 := hoi; simp only [List.getElem?_toArray, List.getElem?_cons_succ, List.getElem?_cons_zero, Option.some.injEq] at ho2; subst ho2
    refine rg_take (v := ?_) 10 hoi (by kernel_rfl) (by kernel_rfl) (by kernel_rfl) (fun _ _ _ h => h) (by rfl) ?_ hS ?_
    rotate_left
    · intro w _; go_simp; try with_reducible rfl
    clear hoi; try simp only [Act.put, List.setIfInBounds_toArray, List.set_cons_zero, List.set_cons_succ]
    refine rg_at 11 (by decide) (fun oi hoi => ?_)
    have ho2 := hoi; simp only [List.getElem?_toArray, List.getElem?_cons_succ, List.getElem?_cons_zero, Option.some.injEq] at ho2; subst ho2
    refine rg_take (v := ?_) 11 hoi (by kernel_rfl) (by kernel_rfl) (by kernel_rfl) (fun _ _ _ h => h) (by rfl) ?_ hS ?_
    rotate_left
    · intro w hw; have hf := hm2; clear hw; go_simp; try with_reducible rfl
    clear hoi; try simp only [Act.put, List.setIfInBounds_toArray, List.set_cons_zero, List.set_cons_succ]
    refine rg_at 12 (by decide) (fun oi hoi => ?_)
    have ho2 := hoi; simp only [List.getElem?_toArray, List.getElem?_cons_succ, List.getElem?_cons_zero, Option.some.injEq] at ho2; subst ho2
    refine rg_take (v := ?_) 12 hoi (by kernel_rfl) (by kernel_rfl) (by kernel_rfl) (fun _ _ _ h => h) (by rfl) ?_ hS ?_
    rotate_left
    · intro w hw; have hf := hcs w; clear hw; go_simp; try with_reducible rfl
    clear hoi; try simp only [Act.put, List.setIfInBounds_toArray, List.set_cons_zero, List.set_cons_succ]
    refine rg_at 13 (by decide) (fun oi hoi => ?_)
    have ho2 := hoi; simp only [List.getElem?_toArray, List.getElem?_cons_succ, List.getElem?_cons_zero, Option.some.injEq] at ho2; subst ho2
    refine rg_take (v := ?_) 13 hoi (by kernel_rfl) (by kernel_rfl) (by kernel_rfl) (fun _ _ _ h => h) (by rfl) ?_ hS ?_
    rotate_left
    · intro w _; go_simp; try with_reducible rfl
    clear hoi; try simp only [Act.put, List.setIfInBounds_toArray, List.set_cons_zero, List.set_cons_succ]
    refine rg_at 14 (by decide) (fun oi hoi => ?_)
    have ho2 := hoi; simp only [List.getElem?_toArray, List.getElem?_cons_succ, List.getElem?_cons_zero, Option.some.injEq] at ho2; subst ho2
    refine rg_take (v := ?_) 14 hoi (by kernel_rfl) (by kernel_rfl) (by kernel_rfl) (fun _ _ _ h => h) (by rfl) ?_ hS ?_
    rotate_left
    · intro w _; go_simp; try with_reducible rfl
    clear hoi; try simp only [Act.put, List.setIfInBounds_toArray, List.set_cons_zero, List.set_cons_succ]
    refine wpAnyH_done (by kernel_rfl) ?_ _
    go_wp2_with (fail)
    go_loopw [30] (fun v30 W => ∃ (k : Nat) (F' : Nat → Prop), k ≤ K ∧ v30 = .int .i64 k ∧ Dk W F' p1 ⟨nb, log.take k, -1, false⟩ ∧ (∀ k, F' k → w.heap.size ≤ k) ∧ Below w.heap.size w W) (fun v30 _ => K - (intOf v30).toNat)
    case atStart => exact ⟨0, F1, by omega, rfl, HD1.out, hF1, below_drew hb1⟩
    case round =>
      obtain ⟨k, F', hk, rfl, hDk, hF', hb⟩ := hrel
      by_cases hlt : k < K
      · have hkp : k < ps.length := by omega
        have h4' : wr.ownsRow 0 51 2 (.slice A ps.length cc) ps.length (wcells ps) := own_keep h4 fun b hb' => hb.block b (h9 b (h8 b hb'))
        obtain ⟨ad, rfl, hcl⟩ := (Rd.of_own h4').2 (by omega)
        obtain ⟨x0, x1⟩ := wcells_get ps k ps[k] (List.getElem?_eq_getElem hkp)
        have hx0 := hcl _ _ x0
        have hx1 := hcl _ _ x1
        rw [Dr.add_field ad (k * 2) 1 (by omega)] at hx1
        obtain ⟨g', c', e, hFg, ho⟩ := h5 ps[k] (List.getElem_mem hkp)
        have hlg : log[k]? = some (ps[k].1, ps[k].2.1) := by rw [← h1]; simp [ab, hkp]
        have hkl : k < log.length := by omega
        have hmem : (ps[k].1, ps[k].2.1) ∈ log := List.mem_of_getElem? hlg
        have htk : log.take (k + 1) = log.take k ++ [(ps[k].1, ps[k].2.1)] := by
          rw [List.take_succ_eq_append_getElem hkl]
          rw [List.getElem?_eq_getElem hkl] at hlg
          injection hlg with hlg
          rw [hlg]
        have hfx := (hfit _ hmem).1
        have hax := hat _ hmem
        generalize ps[k] = x at *
        obtain ⟨a, l, v⟩ := x
        simp only at hx0 hx1 e ho htk hfx hax
        subst e
        have ho' : wr.ownsRow 0 5 1 (.slice (some ⟨g', 0, none⟩) 256 c') 256 (nums .u8 l) := own_keep ho fun b hb' => hb.block b (ho.lt b hb').2
        have hrn : Rn wr .u8 (some ⟨g', 0, none⟩) l := by
          have := Rd.of_own ho'
          rw [← hfx] at this
          exact this
        have hg' := (ho.lt g' rfl).2
        have HW : Hid (∀ W, Upd No wr W → Calls Try.prog 9 #[.pointer (some ⟨p1, 0, none⟩), .int .i64 a, .slice (some ⟨g', 0, none⟩) 256 c'] W fun e w' => e = .returned (.int .i64 0) ∧ ∃ F2, Dk w' F2 p1 ⟨nb, log.take (k + 1), -1, false⟩ ∧ Mv F' F2 W w') := hid fun W hu => by
          have hwr := write p1 _ F' (some ⟨g', 0, none⟩) c' l (a : Int) W (hDk.upd hu (fun _ _ => no_ _)) (Rd.upd hrn (by omega) hu (fun _ _ => no_ _)) (fun ad e hk => by injection e with e; subst e; have := hF' _ hk; simp only at this; omega) ⟨by simp, by simp, hnb⟩ (by simp only [List.length_take]; omega)
          rw [wr_ok nb (log.take k) (-1) a l hax hfx (by decide), hfx] at hwr
          rw [htk]
          exact hwr
        have hj1 : (0 : Int) ≤ (k : Int) := by omega
        have hj2 : (k : Int) < (K : Int) := by omega
        have hsz := hb.size
        have HF := hid hF'
        have HB := hid hb
        clear hcl x0 x1 ho ho' hrn hlg hmem htk hDk h4' hF' hb
        go_wp2_with (fail)
        refine Calls.mono (HW.out _ ((Upd.refl _ _).alloc _)) ?_
        rintro e w5 ⟨rfl, F5, hD5, hM5⟩
        have hM6 : Mv F' F5 wr w5 := Mv.trans (Mv.quiet (((Upd.refl No wr).alloc _).old (Nat.le_refl _))) hM5
        have hf := hid (And.intro hD5 (And.intro (show ∀ k, F5 k → w.heap.size ≤ k from fun k hk => (hM6.sub k hk).elim (HF.out k) fun h => by omega) (HB.out.trans (hM6.upd.below hsz HF.out))))
        clear hD5 hM5 hM6
        go_wp2
        go_roundw
        case rel => exact ⟨k + 1, F5, by omega, by go_num, hf.out.1, hf.out.2.1, hf.out.2.2⟩
        case measure => simp [intOf]; omega
      · obtain rfl : k = K := by omega
        go_wp2
        go_ret
        exact ⟨_, _, rfl, hDk, hF', hb⟩
  · subst k3
    have hm1 : (if n < 0 then (0 : Int) else n) = n := if_neg (by omega)
    have hm2 : (if (log.length : Int) < n then (log.length : Int) else n) = (log.length : Int) := if_pos k2
    have hcs := cut_top (P := Try.prog) 46 51 .i64 2 Try.underlying46 (by kernel_rfl) A log.length cc log.length (log.length : Int) (by omega) (by omega)
    go_wp2_with (fail)
    refine wp_region_held_drew (S := fun W => W = w1.drew) (by kernel_rfl) rfl (fun hS => ?_)
    refine rg_at 0 (by decide) (fun oi hoi => ?_)
    have ho2 := hoi; simp only [List.getElem?_toArray, List.getElem?_cons_succ, List.getElem?_cons_zero, Option.some.injEq] at ho2; subst ho2
    refine rg_take (v := ?_) 0 hoi (by kernel_rfl) (by kernel_rfl) (by kernel_rfl) (fun _ _ _ h => h) (by rfl) ?_ hS ?_
    rotate_left
    · intro w _; go_simp; try with_reducible rfl
    clear hoi; try simp only [Act.put, List.setIfInBounds_toArray, List.set_cons_zero, List.set_cons_succ]
    refine rg_at 1 (by decide) (fun oi hoi => ?_)
    have ho2 := hoi; simp only [List.getElem?_toArray, List.getElem?_cons_succ, List.getElem?_cons_zero, Option.some.injEq] at ho2; subst ho2
    refine rg_take (v := ?_) 1 hoi (by kernel_rfl) (by kernel_rfl) (by kernel_rfl) (fun _ _ _ h => h) (by rfl) ?_ hS ?_
    rotate_left
    · intro w _; go_simp; try with_reducible rfl
    clear hoi; try simp only [Act.put, List.setIfInBounds_toArray, List.set_cons_zero, List.set_cons_succ]
    refine rg_at 2 (by decide) (fun oi hoi => ?_)
    have ho2 := hoi; simp only [List.getElem?_toArray, List.getElem?_cons_succ, List.getElem?_cons_zero, Option.some.injEq] at ho2; subst ho2
    refine rg_take (v := ?_) 2 hoi (by kernel_rfl) (by kernel_rfl) (by kernel_rfl) (fun _ _ _ h => h) (by rfl) ?_ hS ?_
    rotate_left
    · intro w _; go_simp; try with_reducible rfl
    clear hoi; try simp only [Act.put, List.setIfInBounds_toArray, List.set_cons_zero, List.set_cons_succ]
    refine rg_at 3 (by decide) (fun oi hoi => ?_)
    have ho2 := hoi; simp only [List.getElem?_toArray, List.getElem?_cons_succ, List.getElem?_cons_zero, Option.some.injEq] at ho2; subst ho2
    refine rg_take (v := ?_) 3 hoi (by kernel_rfl) (by kernel_rfl) (by kernel_rfl) (fun _ _ _ h => h) (by rfl) ?_ hS ?_
    rotate_left
    · intro w hw; have hf := HC1.out w hw; clear hw; go_simp; try with_reducible rfl
    clear hoi; try simp only [Act.put, List.setIfInBounds_toArray, List.set_cons_zero, List.set_cons_succ]
    refine rg_at 4 (by decide) (fun oi hoi => ?_)
    have ho2 := hoi; simp only [List.getElem?_toArray, List.getElem?_cons_succ, List.getElem?_cons_zero, Option.some.injEq] at ho2; subst ho2
    refine rg_take (v := ?_) 4 hoi (by kernel_rfl) (by kernel_rfl) (by kernel_rfl) (fun _ _ _ h => h) (by rfl) ?_ hS ?_
    rotate_left
    · intro w _; go_simp; try with_reducible rfl
    clear hoi; try simp only [Act.put, List.setIfInBounds_toArray, List.set_cons_zero, List.set_cons_succ]
    refine rg_at 5 (by decide) (fun oi hoi => ?_)
    have ho2 := hoi; simp only [List.getElem?_toArray, List.getElem?_cons_succ, List.getElem?_cons_zero, Option.some.injEq] at ho2; subst ho2
    refine rg_take (v := ?_) 5 hoi (by kernel_rfl) (by kernel_rfl) (by kernel_rfl) (fun _ _ _ h => h) (by rfl) ?_ hS ?_
    rotate_left
    · intro w hw; have hf := hm1; clear hw; go_simp; try with_reducible rfl
    clear hoi; try simp only [Act.put, List.setIfInBounds_toArray, List.set_cons_zero, List.set_cons_succ]
    refine rg_at 6 (by decide) (fun oi hoi => ?_)
    have ho2 := hoi; simp only [List.getElem?_toArray, List.getElem?_cons_succ, List.getElem?_cons_zero, Option.some.injEq] at ho2; subst ho2
    refine rg_take (v := ?_) 6 hoi (by kernel_rfl) (by kernel_rfl) (by kernel_rfl) (fun _ _ _ h => h) (by rfl) ?_ hS ?_
    rotate_left
    · intro w _; go_simp; try with_reducible rfl
    clear hoi; try simp only [Act.put, List.setIfInBounds_toArray, List.set_cons_zero, List.set_cons_succ]
    refine rg_at 7 (by decide) (fun oi hoi => ?_)
    have ho2 := hoi; simp only [List.getElem?_toArray, List.getElem?_cons_succ, List.getElem?_cons_zero, Option.some.injEq] at ho2; subst ho2
    refine rg_take (v := ?_) 7 hoi (by kernel_rfl) (by kernel_rfl) (by kernel_rfl) (fun _ _ _ h => h) (by rfl) ?_ hS ?_
    rotate_left
    · intro w _; go_simp; try with_reducible rfl
    clear hoi; try simp only [Act.put, List.setIfInBounds_toArray, List.set_cons_zero, List.set_cons_succ]
    refine rg_at 8 (by decide) (fun oi hoi => ?_)
    have ho2 := hoi; simp only [List.getElem?_toArray, List.getElem?_cons_succ, List.getElem?_cons_zero, Option.some.injEq] at ho2; subst ho2
    refine rg_take (v := ?_) 8 hoi (by kernel_rfl) (by kernel_rfl) (by kernel_rfl) (fun _ _ _ h => h) (by rfl) ?_ hS ?_
    rotate_left
    · intro w _; go_simp; try with_reducible rfl
    clear hoi; try simp only [Act.put, List.setIfInBounds_toArray, List.set_cons_zero, List.set_cons_succ]
    refine rg_at 9 (by decide) (fun oi hoi => ?_)
    have ho2 := hoi; simp only [List.getElem?_toArray, List.getElem?_cons_succ, List.getElem?_cons_zero, Option.some.injEq] at ho2; subst ho2
    refine rg_take (v := ?_) 9 hoi (by kernel_rfl) (by kernel_rfl) (by kernel_rfl) (fun _ _ _ h => h) (by rfl) ?_ hS ?_
    rotate_left
    · intro w hw; have hf := HC1.out w hw; clear hw; go_simp; try with_reducible rfl
    clear hoi; try simp only [Act.put, List.setIfInBounds_toArray, List.set_cons_zero, List.set_cons_succ]
    refine rg_at 10 (by decide) (fun oi hoi => ?_)
    have ho2 := hoi; simp only [List.getElem?_toArray, List.getElem?_cons_succ, List.getElem?_cons_zero, Option.some.injEq] at ho2; subst ho2
    refine rg_take (v := ?_) 10 hoi (by kernel_rfl) (by kernel_rfl) (by kernel_rfl) (fun _ _ _ h => h) (by rfl) ?_ hS ?_
    rotate_left
    · intro w _; go_simp; try with_reducible rfl
    clear hoi; try simp only [Act.put, List.setIfInBounds_toArray, List.set_cons_zero, List.set_cons_succ]
    refine rg_at 11 (by decide) (fun oi hoi => ?_)
    have ho2 := hoi; simp only [List.getElem?_toArray, List.getElem?_cons_succ, List.getElem?_cons_zero, Option.some.injEq] at ho2; subst ho2
    refine rg_take (v := ?_) 11 hoi (by kernel_rfl) (by kernel_rfl) (by kernel_rfl) (fun _ _ _ h => h) (by rfl) ?_ hS ?_
    rotate_left
    · intro w hw; have hf := hm2; clear hw; go_simp; try with_reducible rfl
    clear hoi; try simp only [Act.put, List.setIfInBounds_toArray, List.set_cons_zero, List.set_cons_succ]
    refine rg_at 12 (by decide) (fun oi hoi => ?_)
    have ho2 := hoi; simp only [List.getElem?_toArray, List.getElem?_cons_succ, List.getElem?_cons_zero, Option.some.injEq] at ho2; subst ho2
    refine rg_take (v := ?_) 12 hoi (by kernel_rfl) (by kernel_rfl) (by kernel_rfl) (fun _ _ _ h => h) (by rfl) ?_ hS ?_
    rotate_left
    · intro w hw; have hf := hcs w; clear hw; go_simp; try with_reducible rfl
    clear hoi; try simp only [Act.put, List.setIfInBounds_toArray, List.set_cons_zero, List.set_cons_succ]
    refine rg_at 13 (by decide) (fun oi hoi => ?_)
    have ho2 := hoi; simp only [List.getElem?_toArray, List.getElem?_cons_succ, List.getElem?_cons_zero, Option.some.injEq] at ho2; subst ho2
    refine rg_take (v := ?_) 13 hoi (by kernel_rfl) (by kernel_rfl) (by kernel_rfl) (fun _ _ _ h => h) (by rfl) ?_ hS ?_
    rotate_left
    · intro w _; go_simp; try with_reducible rfl
    clear hoi; try simp only [Act.put, List.setIfInBounds_toArray, List.set_cons_zero, List.set_cons_succ]
    refine rg_at 14 (by decide) (fun oi hoi => ?_)
    have ho2 := hoi; simp only [List.getElem?_toArray, List.getElem?_cons_succ, List.getElem?_cons_zero, Option.some.injEq] at ho2; subst ho2
    refine rg_take (v := ?_) 14 hoi (by kernel_rfl) (by kernel_rfl) (by kernel_rfl) (fun _ _ _ h => h) (by rfl) ?_ hS ?_
    rotate_left
    · intro w _; go_simp; try with_reducible rfl
    clear hoi; try simp only [Act.put, List.setIfInBounds_toArray, List.set_cons_zero, List.set_cons_succ]
    refine wpAnyH_done (by kernel_rfl) ?_ _
    go_wp2_with (fail)
    go_loopw [30] (fun v30 W => ∃ (k : Nat) (F' : Nat → Prop), k ≤ log.length ∧ v30 = .int .i64 k ∧ Dk W F' p1 ⟨nb, log.take k, -1, false⟩ ∧ (∀ k, F' k → w.heap.size ≤ k) ∧ Below w.heap.size w W) (fun v30 _ => log.length - (intOf v30).toNat)
    case atStart => exact ⟨0, F1, by omega, rfl, HD1.out, hF1, below_drew hb1⟩
    case round =>
      obtain ⟨k, F', hk, rfl, hDk, hF', hb⟩ := hrel
      by_cases hlt : k < log.length
      · have hkp : k < ps.length := by omega
        have h4' : wr.ownsRow 0 51 2 (.slice A ps.length cc) ps.length (wcells ps) := own_keep h4 fun b hb' => hb.block b (h9 b (h8 b hb'))
        obtain ⟨ad, rfl, hcl⟩ := (Rd.of_own h4').2 (by omega)
        obtain ⟨x0, x1⟩ := wcells_get ps k ps[k] (List.getElem?_eq_getElem hkp)
        have hx0 := hcl _ _ x0
        have hx1 := hcl _ _ x1
        rw [Dr.add_field ad (k * 2) 1 (by omega)] at hx1
        obtain ⟨g', c', e, hFg, ho⟩ := h5 ps[k] (List.getElem_mem hkp)
        have hlg : log[k]? = some (ps[k].1, ps[k].2.1) := by rw [← h1]; simp [ab, hkp]
        have hkl : k < log.length := by omega
        have hmem : (ps[k].1, ps[k].2.1) ∈ log := List.mem_of_getElem? hlg
        have htk : log.take (k + 1) = log.take k ++ [(ps[k].1, ps[k].2.1)] := by
          rw [List.take_succ_eq_append_getElem hkl]
          rw [List.getElem?_eq_getElem hkl] at hlg
          injection hlg with hlg
          rw [hlg]
        have hfx := (hfit _ hmem).1
        have hax := hat _ hmem
        generalize ps[k] = x at *
        obtain ⟨a, l, v⟩ := x
        simp only at hx0 hx1 e ho htk hfx hax
        subst e
        have ho' : wr.ownsRow 0 5 1 (.slice (some ⟨g', 0, none⟩) 256 c') 256 (nums .u8 l) := own_keep ho fun b hb' => hb.block b (ho.lt b hb').2
        have hrn : Rn wr .u8 (some ⟨g', 0, none⟩) l := by
          have := Rd.of_own ho'
          rw [← hfx] at this
          exact this
        have hg' := (ho.lt g' rfl).2
        have HW : Hid (∀ W, Upd No wr W → Calls Try.prog 9 #[.pointer (some ⟨p1, 0, none⟩), .int .i64 a, .slice (some ⟨g', 0, none⟩) 256 c'] W fun e w' => e = .returned (.int .i64 0) ∧ ∃ F2, Dk w' F2 p1 ⟨nb, log.take (k + 1), -1, false⟩ ∧ Mv F' F2 W w') := hid fun W hu => by
          have hwr := write p1 _ F' (some ⟨g', 0, none⟩) c' l (a : Int) W (hDk.upd hu (fun _ _ => no_ _)) (Rd.upd hrn (by omega) hu (fun _ _ => no_ _)) (fun ad e hk => by injection e with e; subst e; have := hF' _ hk; simp only at this; omega) ⟨by simp, by simp, hnb⟩ (by simp only [List.length_take]; omega)
          rw [wr_ok nb (log.take k) (-1) a l hax hfx (by decide), hfx] at hwr
          rw [htk]
          exact hwr
        have hj1 : (0 : Int) ≤ (k : Int) := by omega
        have hj2 : (k : Int) < (log.length : Int) := by omega
        have hsz := hb.size
        have HF := hid hF'
        have HB := hid hb
        clear hcl x0 x1 ho ho' hrn hlg hmem htk hDk h4' hF' hb
        go_wp2_with (fail)
        refine Calls.mono (HW.out _ ((Upd.refl _ _).alloc _)) ?_
        rintro e w5 ⟨rfl, F5, hD5, hM5⟩
        have hM6 : Mv F' F5 wr w5 := Mv.trans (Mv.quiet (((Upd.refl No wr).alloc _).old (Nat.le_refl _))) hM5
        have hf := hid (And.intro hD5 (And.intro (show ∀ k, F5 k → w.heap.size ≤ k from fun k hk => (hM6.sub k hk).elim (HF.out k) fun h => by omega) (HB.out.trans (hM6.upd.below hsz HF.out))))
        clear hD5 hM5 hM6
        go_wp2
        go_roundw
        case rel => exact ⟨k + 1, F5, by omega, by go_num, hf.out.1, hf.out.2.1, hf.out.2.2⟩
        case measure => simp [intOf]; omega
      · obtain rfl : k = log.length := by omega
        go_wp2
        go_ret
        exact ⟨_, _, rfl, hDk, hF', hb⟩
theorem blk_cell1 {W : World} {p : Nat} {t : TypeId} {a b c d : Value} (h : Blk W p t #[a, b, c, d]) : W.cell? ⟨p, 1, none⟩ = some b := by
  have := h.cell 1
  simpa using this
set_option maxHeartbeats 1000000 in
theorem rnew (n : Int) (w : World) : Calls Try.prog 17 #[.int .i64 n] w fun e w' => e = .returned (.pointer (some ⟨w.heap.size, 0, none⟩)) ∧ Blk w' w.heap.size 54 #[.int .i64 ((min (max n 0) 65536).toNat : Nat), .slice none 0 0, .int .i64 (-1), .bool false] ∧ Below w.heap.size w w' ∧ w.heap.size < w'.heap.size := by
  have hcase : n < 0 ∨ (0 ≤ n ∧ 65536 < n) ∨ (0 ≤ n ∧ n ≤ 65536) := by omega
  have fin : ∀ v : Int, Hid (Blk (w.alloc (.cells #[.int .i64 v, .slice none 0 0, .int .i64 (-1), .bool false] 54)) w.heap.size 54 #[.int .i64 v, .slice none 0 0, .int .i64 (-1), .bool false] ∧ Below w.heap.size w (w.alloc (.cells #[.int .i64 v, .slice none 0 0, .int .i64 (-1), .bool false] 54)) ∧ w.heap.size < (w.alloc (.cells #[.int .i64 v, .slice none 0 0, .int .i64 (-1), .bool false] 54)).heap.size) := fun v =>
    hid ⟨Blk.fresh _ _ _, (Below.refl _ _).alloc (Nat.le_refl _) _, by simp⟩
  rcases hcase with h0 | ⟨h0, h1⟩ | ⟨h0, h1⟩
  · rw [show (min (max n 0) 65536).toNat = 0 from by omega]
    go_enter Try.func17, Try.ntmps17
    go_wp2
    go_ret
    exact ⟨rfl, (fin 0).out⟩
  · rw [show (min (max n 0) 65536).toNat = 65536 from by omega]
    go_enter Try.func17, Try.ntmps17
    go_wp2
    go_ret
    exact ⟨rfl, (fin 65536).out⟩
  · obtain ⟨N, rfl⟩ : ∃ N : Nat, n = (N : Int) := ⟨n.toNat, by omega⟩
    rw [show (min (max (N : Int) 0) 65536).toNat = N from by omega]
    go_enter Try.func17, Try.ntmps17
    go_wp2
    go_ret
    exact ⟨rfl, (fin N).out⟩
set_option maxHeartbeats 2000000 in
set_option maxRecDepth 100000 in
theorem rcut_at (p : Nat) (m : Dm) (F : Nat → Prop) (n : Int) (kc : Nat) (w : World) (h : Dr.Dr w F p m) (hg : Dp.Good 100000 m) (hK : (n < 0 ∧ kc = 0) ∨ (0 ≤ n ∧ n ≤ m.log.length ∧ n = kc) ∨ (0 ≤ n ∧ (m.log.length : Int) < n ∧ kc = m.log.length)) :
    Calls Try.prog 21 #[.pointer (some ⟨p, 0, none⟩), .int .i64 n] w fun e w' => e = .returned (.pointer (some ⟨w.heap.size, 0, none⟩)) ∧ ∃ F', Dr.Dr w' F' w.heap.size (cutD m kc) ∧ (∀ k, F' k → w.heap.size ≤ k) ∧ Below w.heap.size w w' := by
  obtain ⟨⟨_, _, hnb⟩, hfit, hlen, hat⟩ := hg
  obtain ⟨vl, h2, h4, h6, h8, h9⟩ := h
  obtain ⟨nb, log, fuse, down⟩ := m
  simp only at h2 h4 hnb hlen hat hfit hK
  have hc0 := h2.cell 0
  simp at hc0
  obtain ⟨A, cc, rfl, hlc, hcm⟩ := own_shape h4
  simp only [maxLen] at hcm
  have HN := hid (rnew (nb : Int) w)
  rw [show (min (max (nb : Int) 0) 65536).toNat = nb from by omega] at HN
  have hnb0 : (0 : Int) ≤ (nb : Int) := by omega
  go_enter Try.func21, Try.ntmps21
  go_wp2_with (fail)
  refine Calls.mono HN.out ?_
  rintro e w1 ⟨rfl, hq1, hb1, hqs⟩
  have hqlt : ∀ k, k = w.heap.size → k < w1.heap.size := fun k hk => by omega
  have hc1 : w1.cell? ⟨p, 1, none⟩ = some (.slice A log.length cc) := by
    have := (h2.upd (Upd.of_below No hb1) (no_ _)).cell 1
    simpa using this
  have hbp := h2.upd (Upd.of_below No hb1) (no_ _)
  have hpq : p ≠ w.heap.size := fun e => by have := h2.lt; omega
  have hq5 := hq1.cell 1
  simp at hq5
  have hl0 : (0 : Int) ≤ (log.length : Int) := by omega
  rcases hK with ⟨k1, k2⟩ | ⟨k1, k2, k3⟩ | ⟨k1, k2, k3⟩
  · subst k2
    have hm1 : (if n < 0 then (0 : Int) else n) = 0 := if_pos k1
    have hm2 : (if (log.length : Int) < 0 then (log.length : Int) else 0) = 0 := if_neg (by omega)
    have hcs := cut_top (P := Try.prog) 52 56 .i64 2 Try.underlying52 (by kernel_rfl) A log.length cc 0 0 (by omega) (by omega)
    have HRd : Hid (Rd w1 2 A 0 (Dr.rcells (log.take 0))) := hid (by
      rw [Dr.rcells_take]
      exact (Rd.of_own (own_upd h4 (Upd.of_below No hb1) (fun _ _ => no_ _))).take (by omega))
    have hle : 0 ≤ 100000 := by omega
    have HL := hid (show (log.take 0).length = 0 from by rw [List.length_take]; omega)
    go_wp2_with (fail)
    refine wp_region_held_drew (S := fun W => Blk W p 54 #[.int .i64 nb, .slice A log.length cc, .int .i64 fuse, .bool down]) (by kernel_rfl) hbp.drew (fun hS => ?_)
    refine rg_at 0 (by decide) (fun oi hoi => ?_)
    have ho2 := hoi; simp only [List.getElem?_toArray, List.getElem?_cons_succ, List.getElem?_cons_zero, Option.some.injEq] at ho2; subst ho2
    refine rg_take (v := ?_) 0 hoi (by kernel_rfl) (by kernel_rfl) (by kernel_rfl) (fun _ _ _ h => h) (by rfl) ?_ hS ?_
    rotate_left
    · intro w _; go_simp; try with_reducible rfl
    clear hoi; try simp only [Act.put, List.setIfInBounds_toArray, List.set_cons_zero, List.set_cons_succ]
    refine rg_at 1 (by decide) (fun oi hoi => ?_)
    have ho2 := hoi; simp only [List.getElem?_toArray, List.getElem?_cons_succ, List.getElem?_cons_zero, Option.some.injEq] at ho2; subst ho2
    refine rg_take (v := ?_) 1 hoi (by kernel_rfl) (by kernel_rfl) (by kernel_rfl) (fun _ _ _ h => h) (by rfl) ?_ hS ?_
    rotate_left
    · intro w _; go_simp; try with_reducible rfl
    clear hoi; try simp only [Act.put, List.setIfInBounds_toArray, List.set_cons_zero, List.set_cons_succ]
    refine rg_at 2 (by decide) (fun oi hoi => ?_)
    have ho2 := hoi; simp only [List.getElem?_toArray, List.getElem?_cons_succ, List.getElem?_cons_zero, Option.some.injEq] at ho2; subst ho2
    refine rg_take (v := ?_) 2 hoi (by kernel_rfl) (by kernel_rfl) (by kernel_rfl) (fun _ _ _ h => h) (by rfl) ?_ hS ?_
    rotate_left
    · intro w _; go_simp; try with_reducible rfl
    clear hoi; try simp only [Act.put, List.setIfInBounds_toArray, List.set_cons_zero, List.set_cons_succ]
    refine rg_at 3 (by decide) (fun oi hoi => ?_)
    have ho2 := hoi; simp only [List.getElem?_toArray, List.getElem?_cons_succ, List.getElem?_cons_zero, Option.some.injEq] at ho2; subst ho2
    refine rg_take (v := ?_) 3 hoi (by kernel_rfl) (by kernel_rfl) (by kernel_rfl) (fun _ _ _ h => h) (by rfl) ?_ hS ?_
    rotate_left
    · intro w _; go_simp; try with_reducible rfl
    clear hoi; try simp only [Act.put, List.setIfInBounds_toArray, List.set_cons_zero, List.set_cons_succ]
    refine rg_at 5 (by decide) (fun oi hoi => ?_)
    have ho2 := hoi; simp only [List.getElem?_toArray, List.getElem?_cons_succ, List.getElem?_cons_zero, Option.some.injEq] at ho2; subst ho2
    refine rg_take (v := ?_) 5 hoi (by kernel_rfl) (by kernel_rfl) (by kernel_rfl) (fun _ _ _ h => h) (by rfl) ?_ hS ?_
    rotate_left
    · intro w _; go_simp; try with_reducible rfl
    clear hoi; try simp only [Act.put, List.setIfInBounds_toArray, List.set_cons_zero, List.set_cons_succ]
    refine rg_at 6 (by decide) (fun oi hoi => ?_)
    have ho2 := hoi; simp only [List.getElem?_toArray, List.getElem?_cons_succ, List.getElem?_cons_zero, Option.some.injEq] at ho2; subst ho2
    refine rg_take (v := ?_) 6 hoi (by kernel_rfl) (by kernel_rfl) (by kernel_rfl) (fun _ _ _ h => h) (by rfl) ?_ hS ?_
    rotate_left
    · intro w _; go_simp; try with_reducible rfl
    clear hoi; try simp only [Act.put, List.setIfInBounds_toArray, List.set_cons_zero, List.set_cons_succ]
    refine rg_at 7 (by decide) (fun oi hoi => ?_)
    have ho2 := hoi; simp only [List.getElem?_toArray, List.getElem?_cons_succ, List.getElem?_cons_zero, Option.some.injEq] at ho2; subst ho2
    refine rg_take (v := ?_) 7 hoi (by kernel_rfl) (by kernel_rfl) (by kernel_rfl) (fun _ _ _ h => h) (by rfl) ?_ hS ?_
    rotate_left
    · intro w _; go_simp; try with_reducible rfl
    clear hoi; try simp only [Act.put, List.setIfInBounds_toArray, List.set_cons_zero, List.set_cons_succ]
    refine rg_at 8 (by decide) (fun oi hoi => ?_)
    have ho2 := hoi; simp only [List.getElem?_toArray, List.getElem?_cons_succ, List.getElem?_cons_zero, Option.some.injEq] at ho2; subst ho2
    refine rg_take (v := ?_) 8 hoi (by kernel_rfl) (by kernel_rfl) (by kernel_rfl) (fun _ _ _ h => h) (by rfl) ?_ hS ?_
    rotate_left
    · intro w hw; have hf := blk_cell1 hw; clear hw; go_simp; try with_reducible rfl
    clear hoi; try simp only [Act.put, List.setIfInBounds_toArray, List.set_cons_zero, List.set_cons_succ]
    refine rg_at 9 (by decide) (fun oi hoi => ?_)
    have ho2 := hoi; simp only [List.getElem?_toArray, List.getElem?_cons_succ, List.getElem?_cons_zero, Option.some.injEq] at ho2; subst ho2
    refine rg_take (v := ?_) 9 hoi (by kernel_rfl) (by kernel_rfl) (by kernel_rfl) (fun _ _ _ h => h) (by rfl) ?_ hS ?_
    rotate_left
    · intro w _; go_simp; try with_reducible rfl
    clear hoi; try simp only [Act.put, List.setIfInBounds_toArray, List.set_cons_zero, List.set_cons_succ]
    refine rg_at 10 (by decide) (fun oi hoi => ?_)
    have ho2 := hoi; simp only [List.getElem?_toArray, List.getElem?_cons_succ, List.getElem?_cons_zero, Option.some.injEq] at ho2; subst ho2
    refine rg_take (v := ?_) 10 hoi (by kernel_rfl) (by kernel_rfl) (by kernel_rfl) (fun _ _ _ h => h) (by rfl) ?_ hS ?_
    rotate_left
    · intro w hw; have hf := hm1; clear hw; go_simp; try with_reducible rfl
    clear hoi; try simp only [Act.put, List.setIfInBounds_toArray, List.set_cons_zero, List.set_cons_succ]
    refine rg_at 11 (by decide) (fun oi hoi => ?_)
    have ho2 := hoi; simp only [List.getElem?_toArray, List.getElem?_cons_succ, List.getElem?_cons_zero, Option.some.injEq] at ho2; subst ho2
    refine rg_take (v := ?_) 11 hoi (by kernel_rfl) (by kernel_rfl) (by kernel_rfl) (fun _ _ _ h => h) (by rfl) ?_ hS ?_
    rotate_left
    · intro w _; go_simp; try with_reducible rfl
    clear hoi; try simp only [Act.put, List.setIfInBounds_toArray, List.set_cons_zero, List.set_cons_succ]
    refine rg_at 12 (by decide) (fun oi hoi => ?_)
    have ho2 := hoi; simp only [List.getElem?_toArray, List.getElem?_cons_succ, List.getElem?_cons_zero, Option.some.injEq] at ho2; subst ho2
    refine rg_take (v := ?_) 12 hoi (by kernel_rfl) (by kernel_rfl) (by kernel_rfl) (fun _ _ _ h => h) (by rfl) ?_ hS ?_
    rotate_left
    · intro w _; go_simp; try with_reducible rfl
    clear hoi; try simp only [Act.put, List.setIfInBounds_toArray, List.set_cons_zero, List.set_cons_succ]
    refine rg_at 13 (by decide) (fun oi hoi => ?_)
    have ho2 := hoi; simp only [List.getElem?_toArray, List.getElem?_cons_succ, List.getElem?_cons_zero, Option.some.injEq] at ho2; subst ho2
    refine rg_take (v := ?_) 13 hoi (by kernel_rfl) (by kernel_rfl) (by kernel_rfl) (fun _ _ _ h => h) (by rfl) ?_ hS ?_
    rotate_left
    · intro w _; go_simp; try with_reducible rfl
    clear hoi; try simp only [Act.put, List.setIfInBounds_toArray, List.set_cons_zero, List.set_cons_succ]
    refine rg_at 14 (by decide) (fun oi hoi => ?_)
    have ho2 := hoi; simp only [List.getElem?_toArray, List.getElem?_cons_succ, List.getElem?_cons_zero, Option.some.injEq] at ho2; subst ho2
    refine rg_take (v := ?_) 14 hoi (by kernel_rfl) (by kernel_rfl) (by kernel_rfl) (fun _ _ _ h => h) (by rfl) ?_ hS ?_
    rotate_left
    · intro w hw; have hf := blk_cell1 hw; clear hw; go_simp; try with_reducible rfl
    clear hoi; try simp only [Act.put, List.setIfInBounds_toArray, List.set_cons_zero, List.set_cons_succ]
    refine rg_at 15 (by decide) (fun oi hoi => ?_)
    have ho2 := hoi; simp only [List.getElem?_toArray, List.getElem?_cons_succ, List.getElem?_cons_zero, Option.some.injEq] at ho2; subst ho2
    refine rg_take (v := ?_) 15 hoi (by kernel_rfl) (by kernel_rfl) (by kernel_rfl) (fun _ _ _ h => h) (by rfl) ?_ hS ?_
    rotate_left
    · intro w _; go_simp; try with_reducible rfl
    clear hoi; try simp only [Act.put, List.setIfInBounds_toArray, List.set_cons_zero, List.set_cons_succ]
    refine rg_at 16 (by decide) (fun oi hoi => ?_)
    have ho2 := hoi; simp only [List.getElem?_toArray, List.getElem?_cons_succ, List.getElem?_cons_zero, Option.some.injEq] at ho2; subst ho2
    refine rg_take (v := ?_) 16 hoi (by kernel_rfl) (by kernel_rfl) (by kernel_rfl) (fun _ _ _ h => h) (by rfl) ?_ hS ?_
    rotate_left
    · intro w hw; have hf := hm2; clear hw; go_simp; try with_reducible rfl
    clear hoi; try simp only [Act.put, List.setIfInBounds_toArray, List.set_cons_zero, List.set_cons_succ]
    refine rg_at 17 (by decide) (fun oi hoi => ?_)
    have ho2 := hoi; simp only [List.getElem?_toArray, List.getElem?_cons_succ, List.getElem?_cons_zero, Option.some.injEq] at ho2; subst ho2
    refine rg_take (v := ?_) 17 hoi (by kernel_rfl) (by kernel_rfl) (by kernel_rfl) (fun _ _ _ h => h) (by rfl) ?_ hS ?_
    rotate_left
    · intro w hw; have hf := hcs w; clear hw; go_simp; try with_reducible rfl
    clear hoi; try simp only [Act.put, List.setIfInBounds_toArray, List.set_cons_zero, List.set_cons_succ]
    refine rg_at 4 (by decide) (fun oi hoi => ?_)
    have ho2 := hoi; simp only [List.getElem?_toArray, List.getElem?_cons_succ, List.getElem?_cons_zero, Option.some.injEq] at ho2; subst ho2
    refine rg_call 4 (by kernel_rfl) hoi (by rfl) (fun K hK => ?_)
    clear hoi
    have hf := hq5
    go_simp
    refine hK.out _ _ (hS) (fun hS => ?_)
    clear hK K
    try simp only [Act.put, List.setIfInBounds_toArray, List.set_cons_zero, List.set_cons_succ]
    refine rg_at 18 (by decide) (fun oi hoi => ?_)
    have ho2 := hoi; simp only [List.getElem?_toArray, List.getElem?_cons_succ, List.getElem?_cons_zero, Option.some.injEq] at ho2; subst ho2
    refine rg_call 18 (by kernel_rfl) hoi (by rfl) (fun K hK => ?_)
    clear hoi
    refine wp_ap_row 0 (.tmp 15) (.tmp 28) 52 56 (.agg #[.int .i64 0, .string ⟨#[]⟩]) 2 24 (by rfl) Try.underlying52 Dr.wr_info rfl (by omega) (.slice none 0 0) 0 [] A 0 cc (Dr.rcells (log.take 0)) (by rfl) (by rfl) (World.ownsRow_nil _ _ _ _) (Rd.drew HRd.out) (Dr.rcells_one _) (by omega) (by omega) (Nat.zero_le _) ?_
    intro A3 c3 w4 ho4 hg4 hat4
    have p4 := (hq1.drew).grown hg4 (by simp [Value.ownBlock])
    have hf4 := p4.free 1
    have hc4 := p4.cell 1
    simp at hc4
    have bp4 := (hbp.drew).grown hg4 (by simp [Value.ownBlock])
    refine hK.out _ _ (bp4) (fun hS => ?_)
    clear hK K
    try simp only [Act.put, List.setIfInBounds_toArray, List.set_cons_zero, List.set_cons_succ]
    refine rg_at 19 (by decide) (fun oi hoi => ?_)
    have ho2 := hoi; simp only [List.getElem?_toArray, List.getElem?_cons_succ, List.getElem?_cons_zero, Option.some.injEq] at ho2; subst ho2
    refine rg_take (v := ?_) 19 hoi (by kernel_rfl) (by kernel_rfl) (by kernel_rfl) (fun _ _ _ h => h) (by rfl) ?_ hS ?_
    rotate_left
    · intro w _; go_simp; try with_reducible rfl
    clear hoi; try simp only [Act.put, List.setIfInBounds_toArray, List.set_cons_zero, List.set_cons_succ]
    refine rg_at 20 (by decide) (fun oi hoi => ?_)
    have ho2 := hoi; simp only [List.getElem?_toArray, List.getElem?_cons_succ, List.getElem?_cons_zero, Option.some.injEq] at ho2; subst ho2
    refine rg_take (v := ?_) 20 hoi (by kernel_rfl) (by kernel_rfl) (by kernel_rfl) (fun _ _ _ h => h) (by rfl) ?_ hS ?_
    rotate_left
    · intro w _; go_simp; try with_reducible rfl
    clear hoi; try simp only [Act.put, List.setIfInBounds_toArray, List.set_cons_zero, List.set_cons_succ]
    refine rg_at 21 (by decide) (fun oi hoi => ?_)
    have ho2 := hoi; simp only [List.getElem?_toArray, List.getElem?_cons_succ, List.getElem?_cons_zero, Option.some.injEq] at ho2; subst ho2
    refine rg_call 21 (by kernel_rfl) hoi (by rfl) (fun K hK => ?_)
    clear hoi
    skip
    go_simp
    refine hK.out _ _ (bp4.far (by simp; exact hpq) _) (fun hS => ?_)
    clear hK K
    try simp only [Act.put, List.setIfInBounds_toArray, List.set_cons_zero, List.set_cons_succ]
    refine wpAnyH_done (by kernel_rfl) ?_ _
    have ho5 : w4.ownsRow 0 56 2 (.slice A3 (0 + (log.take 0).length) c3) (0 + (log.take 0).length) (Dr.rcells [] ++ Dr.rcells (log.take 0)) := by
      rw [HL.out]
      exact ho4
    have hat5 : ∀ k, (Value.slice A3 (0 + (log.take 0).length) c3).ownBlock = some k → (Value.slice none 0 0).ownBlock = some k ∨ w1.drew.heap.size ≤ k := by
      rw [HL.out]
      exact hat4
    obtain ⟨F', hD, hM⟩ := Dr.Dr.wrote (w := w1) (w2 := w1.drew) (m := ⟨nb, [], -1, false⟩) (r := log.take 0) (F := fun k => k = w.heap.size) hq1 (World.ownsRow_nil _ _ _ _) rfl (fun k hk => by simp [Value.ownBlock] at hk) hqlt (Upd.refl No w1).drew ho5 hg4 hat5
    have e0 : ([] : List Dr.Rec).length + (log.take 0).length = 0 := by rw [HL.out]; exact Nat.zero_add _
    rw [e0] at hD hM
    have H := hid (show Dr.Dr _ F' w.heap.size (cutD ⟨nb, log, fuse, down⟩ 0) ∧ (∀ k, F' k → w.heap.size ≤ k) ∧ Below w.heap.size w _ from ⟨hD, fun k hk => (hM.sub k hk).elim (fun h => by rw [h]; exact Nat.le_refl _) fun h => Nat.le_trans hb1.size h, hb1.trans (hM.upd.below hb1.size (fun k hk => by rw [hk]; exact Nat.le_refl _))⟩)
    clear hD hM ho5 hat5
    go_wp2
    go_ret
    exact ⟨rfl, F', H.out⟩
  · subst k3
    have hm1 : (if (kc : Int) < 0 then (0 : Int) else (kc : Int)) = (kc : Int) := if_neg (by omega)
    have hm2 : (if log.length < kc then (log.length : Int) else (kc : Int)) = (kc : Int) := if_neg (by omega)
    have hcs := cut_top (P := Try.prog) 52 56 .i64 2 Try.underlying52 (by kernel_rfl) A log.length cc kc (kc : Int) (by omega) (by omega)
    have HRd : Hid (Rd w1 2 A kc (Dr.rcells (log.take kc))) := hid (by
      rw [Dr.rcells_take]
      exact (Rd.of_own (own_upd h4 (Upd.of_below No hb1) (fun _ _ => no_ _))).take (by omega))
    have hle : kc ≤ 100000 := by omega
    have HL := hid (show (log.take kc).length = kc from by rw [List.length_take]; omega)
    go_wp2_with (fail)
    refine wp_region_held_drew (S := fun W => Blk W p 54 #[.int .i64 nb, .slice A log.length cc, .int .i64 fuse, .bool down]) (by kernel_rfl) hbp.drew (fun hS => ?_)
    refine rg_at 0 (by decide) (fun oi hoi => ?_)
    have ho2 := hoi; simp only [List.getElem?_toArray, List.getElem?_cons_succ, List.getElem?_cons_zero, Option.some.injEq] at ho2; subst ho2
    refine rg_take (v := ?_) 0 hoi (by kernel_rfl) (by kernel_rfl) (by kernel_rfl) (fun _ _ _ h => h) (by rfl) ?_ hS ?_
    rotate_left
    · intro w _; go_simp; try with_reducible rfl
    clear hoi; try simp only [Act.put, List.setIfInBounds_toArray, List.set_cons_zero, List.set_cons_succ]
    refine rg_at 1 (by decide) (fun oi hoi => ?_)
    have ho2 := hoi; simp only [List.getElem?_toArray, List.getElem?_cons_succ, List.getElem?_cons_zero, Option.some.injEq] at ho2; subst ho2
    refine rg_take (v := ?_) 1 hoi (by kernel_rfl) (by kernel_rfl) (by kernel_rfl) (fun _ _ _ h => h) (by rfl) ?_ hS ?_
    rotate_left
    · intro w _; go_simp; try with_reducible rfl
    clear hoi; try simp only [Act.put, List.setIfInBounds_toArray, List.set_cons_zero, List.set_cons_succ]
    refine rg_at 2 (by decide) (fun oi hoi => ?_)
    have ho2 := hoi; simp only [List.getElem?_toArray, List.getElem?_cons_succ, List.getElem?_cons_zero, Option.some.injEq] at ho2; subst ho2
    refine rg_take (v := ?_) 2 hoi (by kernel_rfl) (by kernel_rfl) (by kernel_rfl) (fun _ _ _ h => h) (by rfl) ?_ hS ?_
    rotate_left
    · intro w _; go_simp; try with_reducible rfl
    clear hoi; try simp only [Act.put, List.setIfInBounds_toArray, List.set_cons_zero, List.set_cons_succ]
    refine rg_at 3 (by decide) (fun oi hoi => ?_)
    have ho2 := hoi; simp only [List.getElem?_toArray, List.getElem?_cons_succ, List.getElem?_cons_zero, Option.some.injEq] at ho2; subst ho2
    refine rg_take (v := ?_) 3 hoi (by kernel_rfl) (by kernel_rfl) (by kernel_rfl) (fun _ _ _ h => h) (by rfl) ?_ hS ?_
    rotate_left
    · intro w _; go_simp; try with_reducible rfl
    clear hoi; try simp only [Act.put, List.setIfInBounds_toArray, List.set_cons_zero, List.set_cons_succ]
    refine rg_at 5 (by decide) (fun oi hoi => ?_)
    have ho2 := hoi; simp only [List.getElem?_toArray, List.getElem?_cons_succ, List.getElem?_cons_zero, Option.some.injEq] at ho2; subst ho2
    refine rg_take (v := ?_) 5 hoi (by kernel_rfl) (by kernel_rfl) (by kernel_rfl) (fun _ _ _ h => h) (by rfl) ?_ hS ?_
    rotate_left
    · intro w _; go_simp; try with_reducible rfl
    clear hoi; try simp only [Act.put, List.setIfInBounds_toArray, List.set_cons_zero, List.set_cons_succ]
    refine rg_at 6 (by decide) (fun oi hoi => ?_)
    have ho2 := hoi; simp only [List.getElem?_toArray, List.getElem?_cons_succ, List.getElem?_cons_zero, Option.some.injEq] at ho2; subst ho2
    refine rg_take (v := ?_) 6 hoi (by kernel_rfl) (by kernel_rfl) (by kernel_rfl) (fun _ _ _ h => h) (by rfl) ?_ hS ?_
    rotate_left
    · intro w _; go_simp; try with_reducible rfl
    clear hoi; try simp only [Act.put, List.setIfInBounds_toArray, List.set_cons_zero, List.set_cons_succ]
    refine rg_at 7 (by decide) (fun oi hoi => ?_)
    have ho2 := hoi; simp only [List.getElem?_toArray, List.getElem?_cons_succ, List.getElem?_cons_zero, Option.some.injEq] at ho2; subst ho2
    refine rg_take (v := ?_) 7 hoi (by kernel_rfl) (by kernel_rfl) (by kernel_rfl) (fun _ _ _ h => h) (by rfl) ?_ hS ?_
    rotate_left
    · intro w _; go_simp; try with_reducible rfl
    clear hoi; try simp only [Act.put, List.setIfInBounds_toArray, List.set_cons_zero, List.set_cons_succ]
    refine rg_at 8 (by decide) (fun oi hoi => ?_)
    have ho2 := hoi; simp only [List.getElem?_toArray, List.getElem?_cons_succ, List.getElem?_cons_zero, Option.some.injEq] at ho2; subst ho2
    refine rg_take (v := ?_) 8 hoi (by kernel_rfl) (by kernel_rfl) (by kernel_rfl) (fun _ _ _ h => h) (by rfl) ?_ hS ?_
    rotate_left
    · intro w hw; have hf := blk_cell1 hw; clear hw; go_simp; try with_reducible rfl
    clear hoi; try simp only [Act.put, List.setIfInBounds_toArray, List.set_cons_zero, List.set_cons_succ]
    refine rg_at 9 (by decide) (fun oi hoi => ?_)
    have ho2 := hoi; simp only [List.getElem?_toArray, List.getElem?_cons_succ, List.getElem?_cons_zero, Option.some.injEq] at ho2; subst ho2
    refine rg_take (v := ?_) 9 hoi (by kernel_rfl) (by kernel_rfl) (by kernel_rfl) (fun _ _ _ h => h) (by rfl) ?_ hS ?_
    rotate_left
    · intro w _; go_simp; try with_reducible rfl
    clear hoi; try simp only [Act.put, List.setIfInBounds_toArray, List.set_cons_zero, List.set_cons_succ]
    refine rg_at 10 (by decide) (fun oi hoi => ?_)
    have ho2 := hoi; simp only [List.getElem?_toArray, List.getElem?_cons_succ, List.getElem?_cons_zero, Option.some.injEq] at ho2; subst ho2
    refine rg_take (v := ?_) 10 hoi (by kernel_rfl) (by kernel_rfl) (by kernel_rfl) (fun _ _ _ h => h) (by rfl) ?_ hS ?_
    rotate_left
    · intro w hw; have hf := hm1; clear hw; go_simp; try with_reducible rfl
    clear hoi; try simp only [Act.put, List.setIfInBounds_toArray, List.set_cons_zero, List.set_cons_succ]
    refine rg_at 11 (by decide) (fun oi hoi => ?_)
    have ho2 := hoi; simp only [List.getElem?_toArray, List.getElem?_cons_succ, List.getElem?_cons_zero, Option.some.injEq] at ho2; subst ho2
    refine rg_take (v := ?_) 11 hoi (by kernel_rfl) (by kernel_rfl) (by kernel_rfl) (fun _ _ _ h => h) (by rfl) ?_ hS ?_
    rotate_left
    · intro w _; go_simp; try with_reducible rfl
    clear hoi; try simp only [Act.put, List.setIfInBounds_toArray, List.set_cons_zero, List.set_cons_succ]
    refine rg_at 12 (by decide) (fun oi hoi => ?_)
    have ho2 := hoi; simp only [List.getElem?_toArray, List.getElem?_cons_succ, List.getElem?_cons_zero, Option.some.injEq] at ho2; subst ho2
    refine rg_take (v := ?_) 12 hoi (by kernel_rfl) (by kernel_rfl) (by kernel_rfl) (fun _ _ _ h => h) (by rfl) ?_ hS ?_
    rotate_left
    · intro w _; go_simp; try with_reducible rfl
    clear hoi; try simp only [Act.put, List.setIfInBounds_toArray, List.set_cons_zero, List.set_cons_succ]
    refine rg_at 13 (by decide) (fun oi hoi => ?_)
    have ho2 := hoi; simp only [List.getElem?_toArray, List.getElem?_cons_succ, List.getElem?_cons_zero, Option.some.injEq] at ho2; subst ho2
    refine rg_take (v := ?_) 13 hoi (by kernel_rfl) (by kernel_rfl) (by kernel_rfl) (fun _ _ _ h => h) (by rfl) ?_ hS ?_
    rotate_left
    · intro w _; go_simp; try with_reducible rfl
    clear hoi; try simp only [Act.put, List.setIfInBounds_toArray, List.set_cons_zero, List.set_cons_succ]
    refine rg_at 14 (by decide) (fun oi hoi => ?_)
    have ho2 := hoi; simp only [List.getElem?_toArray, List.getElem?_cons_succ, List.getElem?_cons_zero, Option.some.injEq] at ho2; subst ho2
    refine rg_take (v := ?_) 14 hoi (by kernel_rfl) (by kernel_rfl) (by kernel_rfl) (fun _ _ _ h => h) (by rfl) ?_ hS ?_
    rotate_left
    · intro w hw; have hf := blk_cell1 hw; clear hw; go_simp; try with_reducible rfl
    clear hoi; try simp only [Act.put, List.setIfInBounds_toArray, List.set_cons_zero, List.set_cons_succ]
    refine rg_at 15 (by decide) (fun oi hoi => ?_)
    have ho2 := hoi; simp only [List.getElem?_toArray, List.getElem?_cons_succ, List.getElem?_cons_zero, Option.some.injEq] at ho2; subst ho2
    refine rg_take (v := ?_) 15 hoi (by kernel_rfl) (by kernel_rfl) (by kernel_rfl) (fun _ _ _ h => h) (by rfl) ?_ hS ?_
    rotate_left
    · intro w _; go_simp; try with_reducible rfl
    clear hoi; try simp only [Act.put, List.setIfInBounds_toArray, List.set_cons_zero, List.set_cons_succ]
    refine rg_at 16 (by decide) (fun oi hoi => ?_)
    have ho2 := hoi; simp only [List.getElem?_toArray, List.getElem?_cons_succ, List.getElem?_cons_zero, Option.some.injEq] at ho2; subst ho2
    refine rg_take (v := ?_) 16 hoi (by kernel_rfl) (by kernel_rfl) (by kernel_rfl) (fun _ _ _ h => h) (by rfl) ?_ hS ?_
    rotate_left
    · intro w hw; have hf := hm2; clear hw; go_simp; try with_reducible rfl
    clear hoi; try simp only [Act.put, List.setIfInBounds_toArray, List.set_cons_zero, List.set_cons_succ]
    refine rg_at 17 (by decide) (fun oi hoi => ?_)
    have ho2 := hoi; simp only [List.getElem?_toArray, List.getElem?_cons_succ, List.getElem?_cons_zero, Option.some.injEq] at ho2; subst ho2
    refine rg_take (v := ?_) 17 hoi (by kernel_rfl) (by kernel_rfl) (by kernel_rfl) (fun _ _ _ h => h) (by rfl) ?_ hS ?_
    rotate_left
    · intro w hw; have hf := hcs w; clear hw; go_simp; try with_reducible rfl
    clear hoi; try simp only [Act.put, List.setIfInBounds_toArray, List.set_cons_zero, List.set_cons_succ]
    refine rg_at 4 (by decide) (fun oi hoi => ?_)
    have ho2 := hoi; simp only [List.getElem?_toArray, List.getElem?_cons_succ, List.getElem?_cons_zero, Option.some.injEq] at ho2; subst ho2
    refine rg_call 4 (by kernel_rfl) hoi (by rfl) (fun K hK => ?_)
    clear hoi
    have hf := hq5
    go_simp
    refine hK.out _ _ (hS) (fun hS => ?_)
    clear hK K
    try simp only [Act.put, List.setIfInBounds_toArray, List.set_cons_zero, List.set_cons_succ]
    refine rg_at 18 (by decide) (fun oi hoi => ?_)
    have ho2 := hoi; simp only [List.getElem?_toArray, List.getElem?_cons_succ, List.getElem?_cons_zero, Option.some.injEq] at ho2; subst ho2
    refine rg_call 18 (by kernel_rfl) hoi (by rfl) (fun K hK => ?_)
    clear hoi
    refine wp_ap_row 0 (.tmp 15) (.tmp 28) 52 56 (.agg #[.int .i64 0, .string ⟨#[]⟩]) 2 24 (by rfl) Try.underlying52 Dr.wr_info rfl (by omega) (.slice none 0 0) 0 [] A kc cc (Dr.rcells (log.take kc)) (by rfl) (by rfl) (World.ownsRow_nil _ _ _ _) (Rd.drew HRd.out) (Dr.rcells_one _) (by omega) (by omega) (Nat.zero_le _) ?_
    intro A3 c3 w4 ho4 hg4 hat4
    have p4 := (hq1.drew).grown hg4 (by simp [Value.ownBlock])
    have hf4 := p4.free 1
    have hc4 := p4.cell 1
    simp at hc4
    have bp4 := (hbp.drew).grown hg4 (by simp [Value.ownBlock])
    refine hK.out _ _ (bp4) (fun hS => ?_)
    clear hK K
    try simp only [Act.put, List.setIfInBounds_toArray, List.set_cons_zero, List.set_cons_succ]
    refine rg_at 19 (by decide) (fun oi hoi => ?_)
    have ho2 := hoi; simp only [List.getElem?_toArray, List.getElem?_cons_succ, List.getElem?_cons_zero, Option.some.injEq] at ho2; subst ho2
    refine rg_take (v := ?_) 19 hoi (by kernel_rfl) (by kernel_rfl) (by kernel_rfl) (fun _ _ _ h => h) (by rfl) ?_ hS ?_
    rotate_left
    · intro w _; go_simp; try with_reducible rfl
    clear hoi; try simp only [Act.put, List.setIfInBounds_toArray, List.set_cons_zero, List.set_cons_succ]
    refine rg_at 20 (by decide) (fun oi hoi => ?_)
    have ho2 := hoi; simp only [List.getElem?_toArray, List.getElem?_cons_succ, List.getElem?_cons_zero, Option.some.injEq] at ho2; subst ho2
    refine rg_take (v := ?_) 20 hoi (by kernel_rfl) (by kernel_rfl) (by kernel_rfl) (fun _ _ _ h => h) (by rfl) ?_ hS ?_
    rotate_left
    · intro w _; go_simp; try with_reducible rfl
    clear hoi; try simp only [Act.put, List.setIfInBounds_toArray, List.set_cons_zero, List.set_cons_succ]
    refine rg_at 21 (by decide) (fun oi hoi => ?_)
    have ho2 := hoi; simp only [List.getElem?_toArray, List.getElem?_cons_succ, List.getElem?_cons_zero, Option.some.injEq] at ho2; subst ho2
    refine rg_call 21 (by kernel_rfl) hoi (by rfl) (fun K hK => ?_)
    clear hoi
    skip
    go_simp
    refine hK.out _ _ (bp4.far (by simp; exact hpq) _) (fun hS => ?_)
    clear hK K
    try simp only [Act.put, List.setIfInBounds_toArray, List.set_cons_zero, List.set_cons_succ]
    refine wpAnyH_done (by kernel_rfl) ?_ _
    have ho5 : w4.ownsRow 0 56 2 (.slice A3 (0 + (log.take kc).length) c3) (0 + (log.take kc).length) (Dr.rcells [] ++ Dr.rcells (log.take kc)) := by
      rw [HL.out]
      exact ho4
    have hat5 : ∀ k, (Value.slice A3 (0 + (log.take kc).length) c3).ownBlock = some k → (Value.slice none 0 0).ownBlock = some k ∨ w1.drew.heap.size ≤ k := by
      rw [HL.out]
      exact hat4
    obtain ⟨F', hD, hM⟩ := Dr.Dr.wrote (w := w1) (w2 := w1.drew) (m := ⟨nb, [], -1, false⟩) (r := log.take kc) (F := fun k => k = w.heap.size) hq1 (World.ownsRow_nil _ _ _ _) rfl (fun k hk => by simp [Value.ownBlock] at hk) hqlt (Upd.refl No w1).drew ho5 hg4 hat5
    have e0 : ([] : List Dr.Rec).length + (log.take kc).length = kc := by rw [HL.out]; exact Nat.zero_add _
    rw [e0] at hD hM
    have H := hid (show Dr.Dr _ F' w.heap.size (cutD ⟨nb, log, fuse, down⟩ kc) ∧ (∀ k, F' k → w.heap.size ≤ k) ∧ Below w.heap.size w _ from ⟨hD, fun k hk => (hM.sub k hk).elim (fun h => by rw [h]; exact Nat.le_refl _) fun h => Nat.le_trans hb1.size h, hb1.trans (hM.upd.below hb1.size (fun k hk => by rw [hk]; exact Nat.le_refl _))⟩)
    clear hD hM ho5 hat5
    go_wp2
    go_ret
    exact ⟨rfl, F', H.out⟩
  · subst k3
    have hm1 : (if n < 0 then (0 : Int) else n) = n := if_neg (by omega)
    have hm2 : (if (log.length : Int) < n then (log.length : Int) else n) = (log.length : Int) := if_pos k2
    have hcs := cut_top (P := Try.prog) 52 56 .i64 2 Try.underlying52 (by kernel_rfl) A log.length cc log.length (log.length : Int) (by omega) (by omega)
    have HRd : Hid (Rd w1 2 A log.length (Dr.rcells (log.take log.length))) := hid (by
      rw [Dr.rcells_take]
      exact (Rd.of_own (own_upd h4 (Upd.of_below No hb1) (fun _ _ => no_ _))).take (by omega))
    have hle : log.length ≤ 100000 := by omega
    have HL := hid (show (log.take log.length).length = log.length from by rw [List.length_take]; omega)
    go_wp2_with (fail)
    refine wp_region_held_drew (S := fun W => Blk W p 54 #[.int .i64 nb, .slice A log.length cc, .int .i64 fuse, .bool down]) (by kernel_rfl) hbp.drew (fun hS => ?_)
    refine rg_at 0 (by decide) (fun oi hoi => ?_)
    have ho2 := hoi; simp only [List.getElem?_toArray, List.getElem?_cons_succ, List.getElem?_cons_zero, Option.some.injEq] at ho2; subst ho2
    refine rg_take (v := ?_) 0 hoi (by kernel_rfl) (by kernel_rfl) (by kernel_rfl) (fun _ _ _ h => h) (by rfl) ?_ hS ?_
    rotate_left
    · intro w _; go_simp; try with_reducible rfl
    clear hoi; try simp only [Act.put, List.setIfInBounds_toArray, List.set_cons_zero, List.set_cons_succ]
    refine rg_at 1 (by decide) (fun oi hoi => ?_)
    have ho2 := hoi; simp only [List.getElem?_toArray, List.getElem?_cons_succ, List.getElem?_cons_zero, Option.some.injEq] at ho2; subst ho2
    refine rg_take (v := ?_) 1 hoi (by kernel_rfl) (by kernel_rfl) (by kernel_rfl) (fun _ _ _ h => h) (by rfl) ?_ hS ?_
    rotate_left
    · intro w _; go_simp; try with_reducible rfl
    clear hoi; try simp only [Act.put, List.setIfInBounds_toArray, List.set_cons_zero, List.set_cons_succ]
    refine rg_at 2 (by decide) (fun oi hoi => ?_)
    have ho2 := hoi; simp only [List.getElem?_toArray, List.getElem?_cons_succ, List.getElem?_cons_zero, Option.some.injEq] at ho2; subst ho2
    refine rg_take (v := ?_) 2 hoi (by kernel_rfl) (by kernel_rfl) (by kernel_rfl) (fun _ _ _ h => h) (by rfl) ?_ hS ?_
    rotate_left
    · intro w _; go_simp; try with_reducible rfl
    clear hoi; try simp only [Act.put, List.setIfInBounds_toArray, List.set_cons_zero, List.set_cons_succ]
    refine rg_at 3 (by decide) (fun oi hoi => ?_)
    have ho2 := hoi; simp only [List.getElem?_toArray, List.getElem?_cons_succ, List.getElem?_cons_zero, Option.some.injEq] at ho2; subst ho2
    refine rg_take (v := ?_) 3 hoi (by kernel_rfl) (by kernel_rfl) (by kernel_rfl) (fun _ _ _ h => h) (by rfl) ?_ hS ?_
    rotate_left
    · intro w _; go_simp; try with_reducible rfl
    clear hoi; try simp only [Act.put, List.setIfInBounds_toArray, List.set_cons_zero, List.set_cons_succ]
    refine rg_at 5 (by decide) (fun oi hoi => ?_)
    have ho2 := hoi; simp only [List.getElem?_toArray, List.getElem?_cons_succ, List.getElem?_cons_zero, Option.some.injEq] at ho2; subst ho2
    refine rg_take (v := ?_) 5 hoi (by kernel_rfl) (by kernel_rfl) (by kernel_rfl) (fun _ _ _ h => h) (by rfl) ?_ hS ?_
    rotate_left
    · intro w _; go_simp; try with_reducible rfl
    clear hoi; try simp only [Act.put, List.setIfInBounds_toArray, List.set_cons_zero, List.set_cons_succ]
    refine rg_at 6 (by decide) (fun oi hoi => ?_)
    have ho2 := hoi; simp only [List.getElem?_toArray, List.getElem?_cons_succ, List.getElem?_cons_zero, Option.some.injEq] at ho2; subst ho2
    refine rg_take (v := ?_) 6 hoi (by kernel_rfl) (by kernel_rfl) (by kernel_rfl) (fun _ _ _ h => h) (by rfl) ?_ hS ?_
    rotate_left
    · intro w _; go_simp; try with_reducible rfl
    clear hoi; try simp only [Act.put, List.setIfInBounds_toArray, List.set_cons_zero, List.set_cons_succ]
    refine rg_at 7 (by decide) (fun oi hoi => ?_)
    have ho2 := hoi; simp only [List.getElem?_toArray, List.getElem?_cons_succ, List.getElem?_cons_zero, Option.some.injEq] at ho2; subst ho2
    refine rg_take (v := ?_) 7 hoi (by kernel_rfl) (by kernel_rfl) (by kernel_rfl) (fun _ _ _ h => h) (by rfl) ?_ hS ?_
    rotate_left
    · intro w _; go_simp; try with_reducible rfl
    clear hoi; try simp only [Act.put, List.setIfInBounds_toArray, List.set_cons_zero, List.set_cons_succ]
    refine rg_at 8 (by decide) (fun oi hoi => ?_)
    have ho2 := hoi; simp only [List.getElem?_toArray, List.getElem?_cons_succ, List.getElem?_cons_zero, Option.some.injEq] at ho2; subst ho2
    refine rg_take (v := ?_) 8 hoi (by kernel_rfl) (by kernel_rfl) (by kernel_rfl) (fun _ _ _ h => h) (by rfl) ?_ hS ?_
    rotate_left
    · intro w hw; have hf := blk_cell1 hw; clear hw; go_simp; try with_reducible rfl
    clear hoi; try simp only [Act.put, List.setIfInBounds_toArray, List.set_cons_zero, List.set_cons_succ]
    refine rg_at 9 (by decide) (fun oi hoi => ?_)
    have ho2 := hoi; simp only [List.getElem?_toArray, List.getElem?_cons_succ, List.getElem?_cons_zero, Option.some.injEq] at ho2; subst ho2
    refine rg_take (v := ?_) 9 hoi (by kernel_rfl) (by kernel_rfl) (by kernel_rfl) (fun _ _ _ h => h) (by rfl) ?_ hS ?_
    rotate_left
    · intro w _; go_simp; try with_reducible rfl
    clear hoi; try simp only [Act.put, List.setIfInBounds_toArray, List.set_cons_zero, List.set_cons_succ]
    refine rg_at 10 (by decide) (fun oi hoi => ?_)
    have ho2 := hoi; simp only [List.getElem?_toArray, List.getElem?_cons_succ, List.getElem?_cons_zero, Option.some.injEq] at ho2; subst ho2
    refine rg_take (v := ?_) 10 hoi (by kernel_rfl) (by kernel_rfl) (by kernel_rfl) (fun _ _ _ h => h) (by rfl) ?_ hS ?_
    rotate_left
    · intro w hw; have hf := hm1; clear hw; go_simp; try with_reducible rfl
    clear hoi; try simp only [Act.put, List.setIfInBounds_toArray, List.set_cons_zero, List.set_cons_succ]
    refine rg_at 11 (by decide) (fun oi hoi => ?_)
    have ho2 := hoi; simp only [List.getElem?_toArray, List.getElem?_cons_succ, List.getElem?_cons_zero, Option.some.injEq] at ho2; subst ho2
    refine rg_take (v := ?_) 11 hoi (by kernel_rfl) (by kernel_rfl) (by kernel_rfl) (fun _ _ _ h => h) (by rfl) ?_ hS ?_
    rotate_left
    · intro w _; go_simp; try with_reducible rfl
    clear hoi; try simp only [Act.put, List.setIfInBounds_toArray, List.set_cons_zero, List.set_cons_succ]
    refine rg_at 12 (by decide) (fun oi hoi => ?_)
    have ho2 := hoi; simp only [List.getElem?_toArray, List.getElem?_cons_succ, List.getElem?_cons_zero, Option.some.injEq] at ho2; subst ho2
    refine rg_take (v := ?_) 12 hoi (by kernel_rfl) (by kernel_rfl) (by kernel_rfl) (fun _ _ _ h => h) (by rfl) ?_ hS ?_
    rotate_left
    · intro w _; go_simp; try with_reducible rfl
    clear hoi; try simp only [Act.put, List.setIfInBounds_toArray, List.set_cons_zero, List.set_cons_succ]
    refine rg_at 13 (by decide) (fun oi hoi => ?_)
    have ho2 := hoi; simp only [List.getElem?_toArray, List.getElem?_cons_succ, List.getElem?_cons_zero, Option.some.injEq] at ho2; subst ho2
    refine rg_take (v := ?_) 13 hoi (by kernel_rfl) (by kernel_rfl) (by kernel_rfl) (fun _ _ _ h => h) (by rfl) ?_ hS ?_
    rotate_left
    · intro w _; go_simp; try with_reducible rfl
    clear hoi; try simp only [Act.put, List.setIfInBounds_toArray, List.set_cons_zero, List.set_cons_succ]
    refine rg_at 14 (by decide) (fun oi hoi => ?_)
    have ho2 := hoi; simp only [List.getElem?_toArray, List.getElem?_cons_succ, List.getElem?_cons_zero, Option.some.injEq] at ho2; subst ho2
    refine rg_take (v := ?_) 14 hoi (by kernel_rfl) (by kernel_rfl) (by kernel_rfl) (fun _ _ _ h => h) (by rfl) ?_ hS ?_
    rotate_left
    · intro w hw; have hf := blk_cell1 hw; clear hw; go_simp; try with_reducible rfl
    clear hoi; try simp only [Act.put, List.setIfInBounds_toArray, List.set_cons_zero, List.set_cons_succ]
    refine rg_at 15 (by decide) (fun oi hoi => ?_)
    have ho2 := hoi; simp only [List.getElem?_toArray, List.getElem?_cons_succ, List.getElem?_cons_zero, Option.some.injEq] at ho2; subst ho2
    refine rg_take (v := ?_) 15 hoi (by kernel_rfl) (by kernel_rfl) (by kernel_rfl) (fun _ _ _ h => h) (by rfl) ?_ hS ?_
    rotate_left
    · intro w _; go_simp; try with_reducible rfl
    clear hoi; try simp only [Act.put, List.setIfInBounds_toArray, List.set_cons_zero, List.set_cons_succ]
    refine rg_at 16 (by decide) (fun oi hoi => ?_)
    have ho2 := hoi; simp only [List.getElem?_toArray, List.getElem?_cons_succ, List.getElem?_cons_zero, Option.some.injEq] at ho2; subst ho2
    refine rg_take (v := ?_) 16 hoi (by kernel_rfl) (by kernel_rfl) (by kernel_rfl) (fun _ _ _ h => h) (by rfl) ?_ hS ?_
    rotate_left
    · intro w hw; have hf := hm2; clear hw; go_simp; try with_reducible rfl
    clear hoi; try simp only [Act.put, List.setIfInBounds_toArray, List.set_cons_zero, List.set_cons_succ]
    refine rg_at 17 (by decide) (fun oi hoi => ?_)
    have ho2 := hoi; simp only [List.getElem?_toArray, List.getElem?_cons_succ, List.getElem?_cons_zero, Option.some.injEq] at ho2; subst ho2
    refine rg_take (v := ?_) 17 hoi (by kernel_rfl) (by kernel_rfl) (by kernel_rfl) (fun _ _ _ h => h) (by rfl) ?_ hS ?_
    rotate_left
    · intro w hw; have hf := hcs w; clear hw; go_simp; try with_reducible rfl
    clear hoi; try simp only [Act.put, List.setIfInBounds_toArray, List.set_cons_zero, List.set_cons_succ]
    refine rg_at 4 (by decide) (fun oi hoi => ?_)
    have ho2 := hoi; simp only [List.getElem?_toArray, List.getElem?_cons_succ, List.getElem?_cons_zero, Option.some.injEq] at ho2; subst ho2
    refine rg_call 4 (by kernel_rfl) hoi (by rfl) (fun K hK => ?_)
    clear hoi
    have hf := hq5
    go_simp
    refine hK.out _ _ (hS) (fun hS => ?_)
    clear hK K
    try simp only [Act.put, List.setIfInBounds_toArray, List.set_cons_zero, List.set_cons_succ]
    refine rg_at 18 (by decide) (fun oi hoi => ?_)
    have ho2 := hoi; simp only [List.getElem?_toArray, List.getElem?_cons_succ, List.getElem?_cons_zero, Option.some.injEq] at ho2; subst ho2
    refine rg_call 18 (by kernel_rfl) hoi (by rfl) (fun K hK => ?_)
    clear hoi
    refine wp_ap_row 0 (.tmp 15) (.tmp 28) 52 56 (.agg #[.int .i64 0, .string ⟨#[]⟩]) 2 24 (by rfl) Try.underlying52 Dr.wr_info rfl (by omega) (.slice none 0 0) 0 [] A log.length cc (Dr.rcells (log.take log.length)) (by rfl) (by rfl) (World.ownsRow_nil _ _ _ _) (Rd.drew HRd.out) (Dr.rcells_one _) (by omega) (by omega) (Nat.zero_le _) ?_
    intro A3 c3 w4 ho4 hg4 hat4
    have p4 := (hq1.drew).grown hg4 (by simp [Value.ownBlock])
    have hf4 := p4.free 1
    have hc4 := p4.cell 1
    simp at hc4
    have bp4 := (hbp.drew).grown hg4 (by simp [Value.ownBlock])
    refine hK.out _ _ (bp4) (fun hS => ?_)
    clear hK K
    try simp only [Act.put, List.setIfInBounds_toArray, List.set_cons_zero, List.set_cons_succ]
    refine rg_at 19 (by decide) (fun oi hoi => ?_)
    have ho2 := hoi; simp only [List.getElem?_toArray, List.getElem?_cons_succ, List.getElem?_cons_zero, Option.some.injEq] at ho2; subst ho2
    refine rg_take (v := ?_) 19 hoi (by kernel_rfl) (by kernel_rfl) (by kernel_rfl) (fun _ _ _ h => h) (by rfl) ?_ hS ?_
    rotate_left
    · intro w _; go_simp; try with_reducible rfl
    clear hoi; try simp only [Act.put, List.setIfInBounds_toArray, List.set_cons_zero, List.set_cons_succ]
    refine rg_at 20 (by decide) (fun oi hoi => ?_)
    have ho2 := hoi; simp only [List.getElem?_toArray, List.getElem?_cons_succ, List.getElem?_cons_zero, Option.some.injEq] at ho2; subst ho2
    refine rg_take (v := ?_) 20 hoi (by kernel_rfl) (by kernel_rfl) (by kernel_rfl) (fun _ _ _ h => h) (by rfl) ?_ hS ?_
    rotate_left
    · intro w _; go_simp; try with_reducible rfl
    clear hoi; try simp only [Act.put, List.setIfInBounds_toArray, List.set_cons_zero, List.set_cons_succ]
    refine rg_at 21 (by decide) (fun oi hoi => ?_)
    have ho2 := hoi; simp only [List.getElem?_toArray, List.getElem?_cons_succ, List.getElem?_cons_zero, Option.some.injEq] at ho2; subst ho2
    refine rg_call 21 (by kernel_rfl) hoi (by rfl) (fun K hK => ?_)
    clear hoi
    skip
    go_simp
    refine hK.out _ _ (bp4.far (by simp; exact hpq) _) (fun hS => ?_)
    clear hK K
    try simp only [Act.put, List.setIfInBounds_toArray, List.set_cons_zero, List.set_cons_succ]
    refine wpAnyH_done (by kernel_rfl) ?_ _
    have ho5 : w4.ownsRow 0 56 2 (.slice A3 (0 + (log.take log.length).length) c3) (0 + (log.take log.length).length) (Dr.rcells [] ++ Dr.rcells (log.take log.length)) := by
      rw [HL.out]
      exact ho4
    have hat5 : ∀ k, (Value.slice A3 (0 + (log.take log.length).length) c3).ownBlock = some k → (Value.slice none 0 0).ownBlock = some k ∨ w1.drew.heap.size ≤ k := by
      rw [HL.out]
      exact hat4
    obtain ⟨F', hD, hM⟩ := Dr.Dr.wrote (w := w1) (w2 := w1.drew) (m := ⟨nb, [], -1, false⟩) (r := log.take log.length) (F := fun k => k = w.heap.size) hq1 (World.ownsRow_nil _ _ _ _) rfl (fun k hk => by simp [Value.ownBlock] at hk) hqlt (Upd.refl No w1).drew ho5 hg4 hat5
    have e0 : ([] : List Dr.Rec).length + (log.take log.length).length = log.length := by rw [HL.out]; exact Nat.zero_add _
    rw [e0] at hD hM
    have H := hid (show Dr.Dr _ F' w.heap.size (cutD ⟨nb, log, fuse, down⟩ log.length) ∧ (∀ k, F' k → w.heap.size ≤ k) ∧ Below w.heap.size w _ from ⟨hD, fun k hk => (hM.sub k hk).elim (fun h => by rw [h]; exact Nat.le_refl _) fun h => Nat.le_trans hb1.size h, hb1.trans (hM.upd.below hb1.size (fun k hk => by rw [hk]; exact Nat.le_refl _))⟩)
    clear hD hM ho5 hat5
    go_wp2
    go_ret
    exact ⟨rfl, F', H.out⟩
end Go.Proofs.Ytehdobagglondaa.Dw
