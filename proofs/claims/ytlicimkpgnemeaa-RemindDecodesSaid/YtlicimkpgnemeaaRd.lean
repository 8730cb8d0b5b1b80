/-
  reevelaw15.ours, reeveref15.Same, reevelaw15.same.
-/
import Derived.Test.YtlicimkpgnemeaaRc
set_option linter.unusedVariables false
set_option linter.unusedSimpArgs false
namespace Go.Proofs.Ytlicimkpgnemeaa.Nd
open Go.RowKit Go.Proofs.Ytlicimkpgnemeaa.B Go.Proofs.Ytlicimkpgnemeaa.Op
def RdO (w : World) (l : List Rm) (e : Ending) (w' : World) : Prop := ∃ A c, e = .returned (.slice A l.length c) ∧ Rd w' 5 A l.length (l.flatMap rc) ∧ Upd No w w'
theorem RdO.of {w : World} {l : List Rm} {e : Ending} {w' : World} (h : ∃ A c, e = .returned (.slice A l.length c) ∧ Rd w' 5 A l.length (l.flatMap rc) ∧ Upd No w w') : RdO w l e w' := h
set_option maxHeartbeats 2000000 in
set_option maxRecDepth 100000 in
theorem ours_ {w : World} {A : Option Addr} {c : Nat} {l : List Rm} (hr : Rd w 5 A l.length (l.flatMap rc)) (hl : l.length ≤ 1000) :
    Calls Try.prog 57 #[.slice A l.length c] w fun e w' => RdO w l e w' := by
  have HR := hid hr
  clear hr
  go_enter Try.func57, Try.ntmps57
  go_wp2_with (fail)
  go_loopw [3, 7] (fun v3 v7 W => ∃ (j : Nat) (A' : Option Addr) (k' : Nat), j ≤ l.length ∧ v7 = .int .i64 j ∧ v3 = .slice A' j k' ∧ Hid (W.ownsRow w.heap.size 27 5 (.slice A' j k') j ((l.take j).flatMap rc)) ∧ Hid (Upd No w W)) (fun _ v7 _ => l.length - (intOf v7).toNat)
  case atStart => exact ⟨0, none, 0, by omega, rfl, rfl, hid (by rw [List.take_zero]; exact World.ownsRow_nil _ _ _ _), hid (Upd.refl _ _)⟩
  case round =>
    obtain ⟨j, A', k', hj, rfl, rfl, HO, HU⟩ := hrel
    by_cases hlt : j < l.length
    · obtain ⟨ad, rfl, hat⟩ := rm_at (HR.out.upd (by omega) HU.out fun _ _ => no_ _) hlt
      have HN : Hid ((l.take (j + 1)).flatMap rc = (l.take j).flatMap rc ++ rc l[j]) := hid (by rw [List.take_succ_eq_append_getElem hlt, List.flatMap_append]; simp)
      have hj2 : (j : Int) < (l.length : Int) := by omega
      have hj1 : (0 : Int) ≤ (j : Int) := by omega
      have hus := HU.out.size
      generalize l[j] = x at *
      obtain ⟨xa, xn, xd, xp, xk⟩ := x
      obtain ⟨x0, x1, x2, x3, x4⟩ := hat
      simp only at x0 x1 x2 x3 x4
      have HAp := hid (own_upd HO.out ((Upd.refl No wr).alloc (.cells (rc ⟨xa, xn, xd, xp, xk⟩).toArray 27)) fun _ _ => no_ _)
      go_wp2_with (at_builtin; go_must (refine ap_row w.heap.size rfl (.tmp 10) (.tmp 15) 22 27 (.agg #[.string ⟨#[]⟩, .string ⟨#[]⟩, .int .i64 0, .int .i64 0, .int .i64 0]) 5 56 rfl Try.underlying22 rf_info rfl (by omega) (.slice A' j k') j ((l.take j).flatMap rc) (some ⟨wr.heap.size, 0, none⟩) 1 1 (rc ⟨xa, xn, xd, xp, xk⟩) rfl rfl HAp.out (Rd_lit wr _ 5 1 (rc ⟨xa, xn, xd, xp, xk⟩) rfl) (rc_ones _) (by omega) (by omega) (by simp; omega) ?_); intro A3 c3 w3 ho3 hg3 hat3)
      have HO2 : Hid (w3.ownsRow w.heap.size 27 5 (.slice A3 (j + 1) c3) (j + 1) ((l.take (j + 1)).flatMap rc)) := hid (by rw [HN.out]; exact ho3)
      have HU2 : Hid (Upd No w w3) := hid ((HU.out.alloc _).grown hg3 fun kk hk => .inr (HO.out.lt kk hk).1)
      clear ho3 hg3 hat3 x0 x1 x2 x3 x4
      go_wp2
      go_roundw
      case rel => exact ⟨j + 1, A3, c3, by omega, by go_num, rfl, HO2, HU2⟩
      case measure => simp [intOf]; omega
    · obtain rfl : j = l.length := by omega
      have HO2 : Hid (Rd wr 5 A' l.length (l.flatMap rc)) := hid (by have := Rd.of_own HO.out; rwa [List.take_length] at this)
      go_wp2
      go_ret
      exact .of ⟨A', k', rfl, HO2.out, HU.out⟩
set_option maxHeartbeats 1000000 in
theorem sameL {w : World} {A B : Option Addr} {c d : Nat} {l : List Rm} (ha : Rd w 5 A l.length (l.flatMap rc)) (hb : Rd w 5 B l.length (l.flatMap rc)) (hl : l.length ≤ 1000) :
    Calls Try.prog 56 #[.slice A l.length c, .slice B l.length d] w fun e w' => e = .returned (.bool true) ∧ Upd No w w' := by
  have HA := hid ha
  have HB := hid hb
  clear ha hb
  go_enter Try.func56, Try.ntmps56
  go_wp2_with (fail)
  go_loopw [13] (fun v13 W => ∃ j : Nat, j ≤ l.length ∧ v13 = .int .i64 j ∧ Hid (Upd No w W)) (fun v13 _ => l.length - (intOf v13).toNat)
  case atStart => exact ⟨0, by omega, rfl, hid (Upd.refl _ _)⟩
  case round =>
    obtain ⟨j, hj, rfl, HU⟩ := hrel
    by_cases hlt : j < l.length
    · obtain ⟨ad, rfl, hat⟩ := rm_at (HA.out.upd (by omega) HU.out fun _ _ => no_ _) hlt
      obtain ⟨bd, rfl, hbt⟩ := rm_at (HB.out.upd (by omega) HU.out fun _ _ => no_ _) hlt
      have hj2 : (j : Int) < (l.length : Int) := by omega
      have hj1 : (0 : Int) ≤ (j : Int) := by omega
      generalize l[j] = x at *
      obtain ⟨xa, xn, xd, xp, xk⟩ := x
      have h1 := hat.all
      have h2 := hbt.all
      simp only at h1 h2
      clear hat hbt
      go_wp2_with (fail)
      refine wp_region_held_drew (S := fun W => (W.cell? (ad.add (j * 5)) = some (.string xa) ∧ W.cell? ⟨(ad.add (j * 5)).block, (ad.add (j * 5)).off + 1, none⟩ = some (.string xn) ∧ W.cell? ⟨(ad.add (j * 5)).block, (ad.add (j * 5)).off + 2, none⟩ = some (.int .i64 xd) ∧ W.cell? ⟨(ad.add (j * 5)).block, (ad.add (j * 5)).off + 3, none⟩ = some (.int .i64 xp) ∧ W.cell? ⟨(ad.add (j * 5)).block, (ad.add (j * 5)).off + 4, none⟩ = some (.int .i64 xk)) ∧ (W.cell? (bd.add (j * 5)) = some (.string xa) ∧ W.cell? ⟨(bd.add (j * 5)).block, (bd.add (j * 5)).off + 1, none⟩ = some (.string xn) ∧ W.cell? ⟨(bd.add (j * 5)).block, (bd.add (j * 5)).off + 2, none⟩ = some (.int .i64 xd) ∧ W.cell? ⟨(bd.add (j * 5)).block, (bd.add (j * 5)).off + 3, none⟩ = some (.int .i64 xp) ∧ W.cell? ⟨(bd.add (j * 5)).block, (bd.add (j * 5)).off + 4, none⟩ = some (.int .i64 xk))) (by kernel_rfl) ⟨h1, h2⟩ (fun hS => ?_)
      refine rg_at 0 (by decide) (fun oi hoi => ?_)
      have ho2 := hoi; simp only [List.getElem?_toArray, List.getElem?_cons_succ, List.getElem?_cons_zero, Option.some.injEq] at ho2; subst ho2
      refine rg_take (v := ?_) 0 hoi (by kernel_rfl) (by kernel_rfl) (by kernel_rfl) (fun _ _ _ h => h) (by rfl) ?_ hS ?_
      rotate_left
      · intro w _; go_simp; try with_reducible rfl
      clear hoi; try simp only [Act.put, List.setIfInBounds_toArray, List.set_cons_zero, List.set_cons_succ]
      refine rg_at 1 (by decide) (fun oi hoi => ?_)
      have ho2 := hoi; simp only [List.getElem?_toArray, List.getElem?_cons_succ, List.getElem?_cons_zero, Option.some.injEq] at ho2; subst ho2
      refine rg_take (v := ?_) 1 hoi (by kernel_rfl) (by kernel_rfl) (by kernel_rfl) (fun _ _ _ h => h) (by rfl) ?_ hS ?_
      rotate_left
      · intro w _; go_simp; try with_reducible rfl
      clear hoi; try simp only [Act.put, List.setIfInBounds_toArray, List.set_cons_zero, List.set_cons_succ]
      refine rg_at 2 (by decide) (fun oi hoi => ?_)
      have ho2 := hoi; simp only [List.getElem?_toArray, List.getElem?_cons_succ, List.getElem?_cons_zero, Option.some.injEq] at ho2; subst ho2
      refine rg_take (v := ?_) 2 hoi (by kernel_rfl) (by kernel_rfl) (by kernel_rfl) (fun _ _ _ h => h) (by rfl) ?_ hS ?_
      rotate_left
      · intro w _; go_simp; try with_reducible rfl
      clear hoi; try simp only [Act.put, List.setIfInBounds_toArray, List.set_cons_zero, List.set_cons_succ]
      refine rg_at 3 (by decide) (fun oi hoi => ?_)
      have ho2 := hoi; simp only [List.getElem?_toArray, List.getElem?_cons_succ, List.getElem?_cons_zero, Option.some.injEq] at ho2; subst ho2
      refine rg_take (v := ?_) 3 hoi (by kernel_rfl) (by kernel_rfl) (by kernel_rfl) (fun _ _ _ h => h) (by rfl) ?_ hS ?_
      rotate_left
      · intro w hw; have hf := hw.1; clear hw; go_simp; try with_reducible rfl
      clear hoi; try simp only [Act.put, List.setIfInBounds_toArray, List.set_cons_zero, List.set_cons_succ]
      refine rg_at 4 (by decide) (fun oi hoi => ?_)
      have ho2 := hoi; simp only [List.getElem?_toArray, List.getElem?_cons_succ, List.getElem?_cons_zero, Option.some.injEq] at ho2; subst ho2
      refine rg_take (v := ?_) 4 hoi (by kernel_rfl) (by kernel_rfl) (by kernel_rfl) (fun _ _ _ h => h) (by rfl) ?_ hS ?_
      rotate_left
      · intro w _; go_simp; try with_reducible rfl
      clear hoi; try simp only [Act.put, List.setIfInBounds_toArray, List.set_cons_zero, List.set_cons_succ]
      refine rg_at 5 (by decide) (fun oi hoi => ?_)
      have ho2 := hoi; simp only [List.getElem?_toArray, List.getElem?_cons_succ, List.getElem?_cons_zero, Option.some.injEq] at ho2; subst ho2
      refine rg_take (v := ?_) 5 hoi (by kernel_rfl) (by kernel_rfl) (by kernel_rfl) (fun _ _ _ h => h) (by rfl) ?_ hS ?_
      rotate_left
      · intro w _; go_simp; try with_reducible rfl
      clear hoi; try simp only [Act.put, List.setIfInBounds_toArray, List.set_cons_zero, List.set_cons_succ]
      refine rg_at 6 (by decide) (fun oi hoi => ?_)
      have ho2 := hoi; simp only [List.getElem?_toArray, List.getElem?_cons_succ, List.getElem?_cons_zero, Option.some.injEq] at ho2; subst ho2
      refine rg_take (v := ?_) 6 hoi (by kernel_rfl) (by kernel_rfl) (by kernel_rfl) (fun _ _ _ h => h) (by rfl) ?_ hS ?_
      rotate_left
      · intro w _; go_simp; try with_reducible rfl
      clear hoi; try simp only [Act.put, List.setIfInBounds_toArray, List.set_cons_zero, List.set_cons_succ]
      refine rg_at 7 (by decide) (fun oi hoi => ?_)
      have ho2 := hoi; simp only [List.getElem?_toArray, List.getElem?_cons_succ, List.getElem?_cons_zero, Option.some.injEq] at ho2; subst ho2
      refine rg_take (v := ?_) 7 hoi (by kernel_rfl) (by kernel_rfl) (by kernel_rfl) (fun _ _ _ h => h) (by rfl) ?_ hS ?_
      rotate_left
      · intro w hw; have hf := hw.2; clear hw; go_simp; try with_reducible rfl
      clear hoi; try simp only [Act.put, List.setIfInBounds_toArray, List.set_cons_zero, List.set_cons_succ]
      refine rg_at 8 (by decide) (fun oi hoi => ?_)
      have ho2 := hoi; simp only [List.getElem?_toArray, List.getElem?_cons_succ, List.getElem?_cons_zero, Option.some.injEq] at ho2; subst ho2
      refine rg_take (v := ?_) 8 hoi (by kernel_rfl) (by kernel_rfl) (by kernel_rfl) (fun _ _ _ h => h) (by rfl) ?_ hS ?_
      rotate_left
      · intro w _; go_simp; try with_reducible rfl
      clear hoi; try simp only [Act.put, List.setIfInBounds_toArray, List.set_cons_zero, List.set_cons_succ]
      refine wpAnyH_done (by kernel_rfl) ?_ _
      clear hS h1 h2
      go_wp2
      go_roundw
      case rel => exact ⟨j + 1, by omega, by go_num, hid HU.out.drew⟩
      case measure => simp [intOf]; omega
    · obtain rfl : j = l.length := by omega
      go_wp2
      go_ret
      exact ⟨rfl, HU.out⟩
set_option maxHeartbeats 1000000 in
theorem same_ {w : World} {F G : Nat → Prop} {q p : Nat} {l : List Rm} (ha : Qo w F q l) (hb : Wq w G p l) (hl : l.length ≤ 1000) :
    Calls Try.prog 24 #[.pointer (some ⟨q, 0, none⟩), .pointer (some ⟨p, 0, none⟩)] w fun e w' => e = .returned (.bool true) ∧ Upd No w w' := by
  have HA := hid fun (W : World) (hu : Upd No w W) => all_ q F l W (ha.quiet hu) hl
  unfold NewR at HA
  obtain ⟨B, d, hc, hrd, _, _⟩ := hb.cell
  have HB : Hid (∀ W, Upd No w W → W.cell? ⟨p, 0, none⟩ = some (.slice B l.length d) ∧ Rd W 5 B l.length (l.flatMap rc)) := hid fun W hu => by
    obtain ⟨A, c, hb1, _⟩ := hb.parts
    have h0 := hb1.cell 0
    simp at h0
    rw [h0] at hc
    injection hc with hc
    rw [hc] at hb1
    have h1 := (hb1.upd hu (no_ _)).cell 0
    simp at h1
    exact ⟨h1, Rd.upd hrd (by omega) hu fun _ _ => no_ _⟩
  clear ha hb hc hrd
  go_enter Try.func24, Try.ntmps24
  go_wp2_with (fail)
  refine wp_region_held_drew (S := fun W => Upd No w W) (by kernel_rfl) (Upd.refl No w).drew (fun hS => ?_)
  refine rg_at 0 (by decide) (fun oi hoi => ?_)
  have ho2 := hoi; simp only [List.getElem?_toArray, List.getElem?_cons_succ, List.getElem?_cons_zero, Option.some.injEq] at ho2; subst ho2
  refine rg_take (v := ?_) 0 hoi (by kernel_rfl) (by kernel_rfl) (by kernel_rfl) (fun _ _ _ h => h) (by rfl) ?_ hS ?_
  rotate_left
  · intro w _; go_simp; try with_reducible rfl
  clear hoi; try simp only [Act.put, List.setIfInBounds_toArray, List.set_cons_zero, List.set_cons_succ]
  refine rg_at 3 (by decide) (fun oi hoi => ?_)
  have ho2 := hoi; simp only [List.getElem?_toArray, List.getElem?_cons_succ, List.getElem?_cons_zero, Option.some.injEq] at ho2; subst ho2
  refine rg_take (v := ?_) 3 hoi (by kernel_rfl) (by kernel_rfl) (by kernel_rfl) (fun _ _ _ h => h) (by rfl) ?_ hS ?_
  rotate_left
  · intro w _; go_simp; try with_reducible rfl
  clear hoi; try simp only [Act.put, List.setIfInBounds_toArray, List.set_cons_zero, List.set_cons_succ]
  refine rg_at 4 (by decide) (fun oi hoi => ?_)
  have ho2 := hoi; simp only [List.getElem?_toArray, List.getElem?_cons_succ, List.getElem?_cons_zero, Option.some.injEq] at ho2; subst ho2
  refine rg_take (v := ?_) 4 hoi (by kernel_rfl) (by kernel_rfl) (by kernel_rfl) (fun _ _ _ h => h) (by rfl) ?_ hS ?_
  rotate_left
  · intro w _; go_simp; try with_reducible rfl
  clear hoi; try simp only [Act.put, List.setIfInBounds_toArray, List.set_cons_zero, List.set_cons_succ]
  refine rg_at 5 (by decide) (fun oi hoi => ?_)
  have ho2 := hoi; simp only [List.getElem?_toArray, List.getElem?_cons_succ, List.getElem?_cons_zero, Option.some.injEq] at ho2; subst ho2
  refine rg_take (v := ?_) 5 hoi (by kernel_rfl) (by kernel_rfl) (by kernel_rfl) (fun _ _ _ h => h) (by rfl) ?_ hS ?_
  rotate_left
  · intro w _; go_simp; try with_reducible rfl
  clear hoi; try simp only [Act.put, List.setIfInBounds_toArray, List.set_cons_zero, List.set_cons_succ]
  refine rg_at 6 (by decide) (fun oi hoi => ?_)
  have ho2 := hoi; simp only [List.getElem?_toArray, List.getElem?_cons_succ, List.getElem?_cons_zero, Option.some.injEq] at ho2; subst ho2
  refine rg_take (v := ?_) 6 hoi (by kernel_rfl) (by kernel_rfl) (by kernel_rfl) (fun _ _ _ h => h) (by rfl) ?_ hS ?_
  rotate_left
  · intro w hw; have hf := (HB.out w hw).1; clear hw; go_simp; try with_reducible rfl
  clear hoi; try simp only [Act.put, List.setIfInBounds_toArray, List.set_cons_zero, List.set_cons_succ]
  refine rg_at 1 (by decide) (fun oi hoi => ?_)
  have ho2 := hoi; simp only [List.getElem?_toArray, List.getElem?_cons_succ, List.getElem?_cons_zero, Option.some.injEq] at ho2; subst ho2
  refine rg_call 1 (by kernel_rfl) hoi (by rfl) (fun K hK => ?_)
  clear hoi
  go_simp
  refine Calls.mono (HA.out _ hS) ?_
  rintro e w1 ⟨A1, c1, rfl, ho1, hu1⟩
  have hr1 := Rd.of_own ho1
  have hS1 := Upd.next hS hu1
  go_wp2_with (fail)
  refine hK.out _ _ ((by exact hS1)) (fun hS => ?_)
  clear hK K
  try simp only [Act.put, List.setIfInBounds_toArray, List.set_cons_zero, List.set_cons_succ]
  refine rg_at 2 (by decide) (fun oi hoi => ?_)
  have ho2 := hoi; simp only [List.getElem?_toArray, List.getElem?_cons_succ, List.getElem?_cons_zero, Option.some.injEq] at ho2; subst ho2
  refine rg_call 2 (by kernel_rfl) hoi (by rfl) (fun K hK => ?_)
  clear hoi
  go_simp
  refine Calls.mono (ours_ hr1 hl) ?_
  rintro e w2 ⟨A2, c2, rfl, hr2, hu2⟩
  have hS2 := Upd.next hS1 hu2
  go_wp2_with (fail)
  refine hK.out _ _ ((by exact hS2)) (fun hS => ?_)
  clear hK K
  try simp only [Act.put, List.setIfInBounds_toArray, List.set_cons_zero, List.set_cons_succ]
  refine rg_at 7 (by decide) (fun oi hoi => ?_)
  have ho2 := hoi; simp only [List.getElem?_toArray, List.getElem?_cons_succ, List.getElem?_cons_zero, Option.some.injEq] at ho2; subst ho2
  refine rg_call 7 (by kernel_rfl) hoi (by rfl) (fun K hK => ?_)
  clear hoi
  go_simp
  refine Calls.mono (sameL hr2 (HB.out _ hS2).2 hl) ?_
  rintro e w3 ⟨rfl, hu3⟩
  have hS3 := Upd.next hS2 hu3
  go_wp2_with (fail)
  refine hK.out _ _ ((by exact hS3)) (fun hS => ?_)
  clear hK K
  try simp only [Act.put, List.setIfInBounds_toArray, List.set_cons_zero, List.set_cons_succ]
  refine rg_at 8 (by decide) (fun oi hoi => ?_)
  have ho2 := hoi; simp only [List.getElem?_toArray, List.getElem?_cons_succ, List.getElem?_cons_zero, Option.some.injEq] at ho2; subst ho2
  refine rg_take (v := ?_) 8 hoi (by kernel_rfl) (by kernel_rfl) (by kernel_rfl) (fun _ _ _ h => h) (by rfl) ?_ hS ?_
  rotate_left
  · intro w _; go_simp; try with_reducible rfl
  clear hoi; try simp only [Act.put, List.setIfInBounds_toArray, List.set_cons_zero, List.set_cons_succ]
  refine wpAnyH_done (by kernel_rfl) ?_ _
  have HE := hid hS
  clear hS
  go_wp2
  go_ret
  exact ⟨rfl, HE.out⟩
end Go.Proofs.Ytlicimkpgnemeaa.Nd
