/-
  reevelaw16.theirs, same.
-/
import Derived.Test.YtjhmmffejfomkaaJq
set_option linter.unusedVariables false
set_option linter.unusedSimpArgs false
namespace Go.Proofs.Ytjhmmffejfomkaa.Jn
open Go.RowKit Go.Proofs.Ytjhmmffejfomkaa.B
def RdOut (w : World) (l : List Ev) (e : Ending) (w' : World) : Prop := ∃ A c, e = .returned (.slice A l.length c) ∧ Rd w' 2 A l.length (ecs l) ∧ Upd No w w'
theorem RdOut.of {w : World} {l : List Ev} {e : Ending} {w' : World} (h : ∃ A c, e = .returned (.slice A l.length c) ∧ Rd w' 2 A l.length (ecs l) ∧ Upd No w w') : RdOut w l e w' := h
set_option maxHeartbeats 2000000 in
theorem theirs {w : World} {A : Option Addr} {c : Nat} {l : List Ev} (hr : Rd w 2 A l.length (ecs l)) (hl : l.length ≤ 100000) :
    Calls Try.prog 16 #[.slice A l.length c] w fun e w' => RdOut w l e w' := by
  have HR := hid hr
  clear hr
  go_enter Try.func16, Try.ntmps16
  go_wp2_with (fail)
  go_loopw [3, 7] (fun v3 v7 W => ∃ (j : Nat) (A' : Option Addr) (k' : Nat), j ≤ l.length ∧ v7 = .int .i64 j ∧ v3 = .slice A' j k' ∧ Hid (Sl W w.heap.size 33 2 (.slice A' j k') j (ecs (l.take j))) ∧ Hid (Upd No w W)) (fun _ v7 _ => l.length - (intOf v7).toNat)
  case atStart => exact ⟨0, none, 0, by omega, rfl, rfl, hid (by rw [List.take_zero]; exact Sl.nil _ _ _ _), hid (Upd.refl _ _)⟩
  case round =>
    obtain ⟨j, A', k', hj, rfl, rfl, HO, HU⟩ := hrel
    by_cases hlt : j < l.length
    · obtain ⟨ad, rfl, d0, d1⟩ := rd_ev (HR.out.upd (by omega) HU.out fun _ _ => no_ _) hlt
      rw [add_field _ _ _ (by omega)] at d1
      have HN : Hid (ecs (l.take (j + 1)) = ecs (l.take j) ++ ecs [l[j]]) := hid (by rw [List.take_succ_eq_append_getElem hlt, ecs_append])
      have hj2 : (j : Int) < (l.length : Int) := by omega
      generalize l[j] = e0 at *
      obtain ⟨r, y⟩ := e0
      simp only at d0 d1
      go_wp2_with (at_builtin; go_must (refine ap_sl w.heap.size rfl (.tmp 10) (.tmp 15) 34 33 (.agg #[.int .i64 0, .int .i64 0]) 2 16 rfl Try.underlying34 ev_info rfl (by omega) (.slice A' j k') j (ecs (l.take j)) (some ⟨wr.heap.size, 0, none⟩) 1 1 (ecs [(r, y)]) rfl rfl (HO.out.alloc _) (Rd_lit wr _ 2 1 (ecs [(r, y)]) rfl) (ecs_one _) (by omega) (by omega) (by have := HU.out.size; simp; omega) ?_); intro A2 c2 w2 ho2 hu2 hat2)
      have hus := HU.out.size
      have HO2 : Hid (Sl w2 w.heap.size 33 2 (.slice A2 (j + 1) c2) (j + 1) (ecs (l.take (j + 1)))) := hid (by rw [HN.out]; exact ho2)
      have HU2 : Hid (Upd No w w2) := hid ((HU.out.alloc _).trans hu2 fun i hi h => by
        have := (HO.out.lt i h).1
        omega)
      clear ho2 hu2 hat2 d0 d1
      go_wp2
      go_roundw
      case rel => exact ⟨j + 1, A2, c2, by omega, by go_num, rfl, HO2, HU2⟩
      case measure => simp [intOf]; omega
    · obtain rfl : j = l.length := by omega
      have HO2 : Hid (Rd wr 2 A' l.length (ecs l)) := hid (by have := HO.out.rd; rwa [List.take_length] at this)
      go_wp2
      go_ret
      exact .of ⟨A', k', rfl, HO2.out, HU.out⟩
set_option maxHeartbeats 2000000 in
theorem same {w : World} {F G : Nat → Prop} {p q : Nat} {s : S} (ha : Jd w F p s) (hb : Rj w G q s) (hok : Ok s) :
    Calls Try.prog 18 #[.pointer (some ⟨p, 0, none⟩), .pointer (some ⟨q, 0, none⟩)] w fun e w' => e = .returned (.bool true) ∧ Upd No w w' := by
  have hle := hok.le
  have HE := hid (events ha (by omega))
  unfold RowOut at HE
  have HA := hid fun W (hu : Upd No w W) => ha.upd hu fun _ _ => no_ _
  have HB := hid fun W (hu : Upd No w W) => hb.upd hu fun _ _ => no_ _
  have HK := hid hok
  clear ha hok
  obtain ⟨v, hx⟩ := hb
  obtain ⟨Aq, cq, hv, hq1, hq2⟩ := hx.row.shape
  subst hv
  have HX := hid fun W (hu : Upd No w W) => hx.upd hu fun _ _ => no_ _
  clear hx
  go_enter Try.func18, Try.ntmps18
  go_wp2_with (fail)
  refine Calls.mono HE.out ?_
  rintro e w1 ⟨A1, c1, rfl, ho1, hu1⟩
  have HU1 := hid (And.intro (Rd.of_own ho1) hu1)
  have hS1 := fun W (hu : Upd No w1 W) => state (HA.out W (HU1.out.2.next hu)) HK.out
  have hS2 := fun W (hu : Upd No w1 W) => rstate (HB.out W (HU1.out.2.next hu)) HK.out
  have hBs := fun W (hu : Upd No w1 W) => base (HA.out W (HU1.out.2.next hu))
  have hV := fun W (hu : Upd No w1 W) => version (HA.out W (HU1.out.2.next hu))
  have HX1 := hid fun W (hu : Upd No w1 W) => HX.out W (HU1.out.2.next hu)
  have hE1 := fun w => eq_arr (sts s.1 s.2.1) w
  have hE2 := fun w => eq_arr s.1 w
  unfold arr at hS1 hS2 hBs hE1 hE2
  have HS1 := hid hS1
  have HS2 := hid hS2
  have HBs := hid hBs
  have HV := hid hV
  clear hS1 hS2 hBs hV ho1 hu1 HE
  go_wp2_with (fail)
  refine wp_region_held_drew (S := fun W => Upd No w1 W) (by kernel_rfl) (Upd.refl No w1).drew (fun hS => ?_)
  refine rg_at 0 (by decide) (fun oi hoi => ?_)
  have ho2 := hoi; simp only [List.getElem?_toArray, List.getElem?_cons_succ, List.getElem?_cons_zero, Option.some.injEq] at ho2; subst ho2
  refine rg_take (v := ?_) 0 hoi (by kernel_rfl) (by kernel_rfl) (by kernel_rfl) (fun _ _ _ h => h) (by rfl) ?_ hS ?_
  rotate_left
  · intro w _; go_simp; try with_reducible rfl
  clear hoi; try simp only [Act.put, List.setIfInBounds_toArray, List.set_cons_zero, List.set_cons_succ]
  refine rg_at 1 (by decide) (fun oi hoi => ?_)
  have ho2 := hoi; simp only [List.getElem?_toArray, List.getElem?_cons_succ, List.getElem?_cons_zero, Option.some.injEq] at ho2; subst ho2
  refine rg_take (v := ?_) 1 hoi (by kernel_rfl) (by kernel_rfl) (by kernel_rfl) (fun _ _ _ h => h) (by rfl) ?_ hS ?_
  rotate_left
  · intro w _; go_simp; try with_reducible rfl
  clear hoi; try simp only [Act.put, List.setIfInBounds_toArray, List.set_cons_zero, List.set_cons_succ]
  refine rg_at 2 (by decide) (fun oi hoi => ?_)
  have ho2 := hoi; simp only [List.getElem?_toArray, List.getElem?_cons_succ, List.getElem?_cons_zero, Option.some.injEq] at ho2; subst ho2
  refine rg_take (v := ?_) 2 hoi (by kernel_rfl) (by kernel_rfl) (by kernel_rfl) (fun _ _ _ h => h) (by rfl) ?_ hS ?_
  rotate_left
  · intro w _; go_simp; try with_reducible rfl
  clear hoi; try simp only [Act.put, List.setIfInBounds_toArray, List.set_cons_zero, List.set_cons_succ]
  refine rg_at 3 (by decide) (fun oi hoi => ?_)
  have ho2 := hoi; simp only [List.getElem?_toArray, List.getElem?_cons_succ, List.getElem?_cons_zero, Option.some.injEq] at ho2; subst ho2
  refine rg_take (v := ?_) 3 hoi (by kernel_rfl) (by kernel_rfl) (by kernel_rfl) (fun _ _ _ h => h) (by rfl) ?_ hS ?_
  rotate_left
  · intro w _; go_simp; try with_reducible rfl
  clear hoi; try simp only [Act.put, List.setIfInBounds_toArray, List.set_cons_zero, List.set_cons_succ]
  refine rg_at 4 (by decide) (fun oi hoi => ?_)
  have ho2 := hoi; simp only [List.getElem?_toArray, List.getElem?_cons_succ, List.getElem?_cons_zero, Option.some.injEq] at ho2; subst ho2
  refine rg_take (v := ?_) 4 hoi (by kernel_rfl) (by kernel_rfl) (by kernel_rfl) (fun _ _ _ h => h) (by rfl) ?_ hS ?_
  rotate_left
  · intro w _; go_simp; try with_reducible rfl
  clear hoi; try simp only [Act.put, List.setIfInBounds_toArray, List.set_cons_zero, List.set_cons_succ]
  refine rg_at 5 (by decide) (fun oi hoi => ?_)
  have ho2 := hoi; simp only [List.getElem?_toArray, List.getElem?_cons_succ, List.getElem?_cons_zero, Option.some.injEq] at ho2; subst ho2
  refine rg_take (v := ?_) 5 hoi (by kernel_rfl) (by kernel_rfl) (by kernel_rfl) (fun _ _ _ h => h) (by rfl) ?_ hS ?_
  rotate_left
  · intro w hw; have hf := (jbox (HX1.out _ hw).blk).2.1; clear hw; go_simp; try with_reducible rfl
  clear hoi; try simp only [Act.put, List.setIfInBounds_toArray, List.set_cons_zero, List.set_cons_succ]
  refine rg_at 6 (by decide) (fun oi hoi => ?_)
  have ho2 := hoi; simp only [List.getElem?_toArray, List.getElem?_cons_succ, List.getElem?_cons_zero, Option.some.injEq] at ho2; subst ho2
  refine rg_take (v := ?_) 6 hoi (by kernel_rfl) (by kernel_rfl) (by kernel_rfl) (fun _ _ _ h => h) (by rfl) ?_ hS ?_
  rotate_left
  · intro w _; go_simp; try with_reducible rfl
  clear hoi; try simp only [Act.put, List.setIfInBounds_toArray, List.set_cons_zero, List.set_cons_succ]
  refine rg_at 7 (by decide) (fun oi hoi => ?_)
  have ho2 := hoi; simp only [List.getElem?_toArray, List.getElem?_cons_succ, List.getElem?_cons_zero, Option.some.injEq] at ho2; subst ho2
  refine rg_take (v := ?_) 7 hoi (by kernel_rfl) (by kernel_rfl) (by kernel_rfl) (fun _ _ _ h => h) (by rfl) ?_ hS ?_
  rotate_left
  · intro w _; go_simp; try with_reducible rfl
  clear hoi; try simp only [Act.put, List.setIfInBounds_toArray, List.set_cons_zero, List.set_cons_succ]
  refine rg_at 8 (by decide) (fun oi hoi => ?_)
  have ho2 := hoi; simp only [List.getElem?_toArray, List.getElem?_cons_succ, List.getElem?_cons_zero, Option.some.injEq] at ho2; subst ho2
  refine rg_take (v := ?_) 8 hoi (by kernel_rfl) (by kernel_rfl) (by kernel_rfl) (fun _ _ _ h => h) (by rfl) ?_ hS ?_
  rotate_left
  · intro w _; go_simp; try with_reducible rfl
  clear hoi; try simp only [Act.put, List.setIfInBounds_toArray, List.set_cons_zero, List.set_cons_succ]
  refine rg_at 9 (by decide) (fun oi hoi => ?_)
  have ho2 := hoi; simp only [List.getElem?_toArray, List.getElem?_cons_succ, List.getElem?_cons_zero, Option.some.injEq] at ho2; subst ho2
  refine rg_take (v := ?_) 9 hoi (by kernel_rfl) (by kernel_rfl) (by kernel_rfl) (fun _ _ _ h => h) (by rfl) ?_ hS ?_
  rotate_left
  · intro w _; go_simp; try with_reducible rfl
  clear hoi; try simp only [Act.put, List.setIfInBounds_toArray, List.set_cons_zero, List.set_cons_succ]
  refine rg_at 11 (by decide) (fun oi hoi => ?_)
  have ho2 := hoi; simp only [List.getElem?_toArray, List.getElem?_cons_succ, List.getElem?_cons_zero, Option.some.injEq] at ho2; subst ho2
  refine rg_take (v := ?_) 11 hoi (by kernel_rfl) (by kernel_rfl) (by kernel_rfl) (fun _ _ _ h => h) (by rfl) ?_ hS ?_
  rotate_left
  · intro w _; go_simp; try with_reducible rfl
  clear hoi; try simp only [Act.put, List.setIfInBounds_toArray, List.set_cons_zero, List.set_cons_succ]
  refine rg_at 10 (by decide) (fun oi hoi => ?_)
  have ho2 := hoi; simp only [List.getElem?_toArray, List.getElem?_cons_succ, List.getElem?_cons_zero, Option.some.injEq] at ho2; subst ho2
  refine rg_call 10 (by kernel_rfl) hoi (by rfl) (fun K hK => ?_)
  clear hoi
  go_simp
  refine Calls.mono (HS1.out _ hS) ?_
  rintro e w2 ⟨rfl, hu2⟩
  have hS3 := Upd.next hS hu2
  go_wp2_with (fail)
  refine hK.out _ _ ((by exact hS3)) (fun hS => ?_)
  clear hK K
  try simp only [Act.put, List.setIfInBounds_toArray, List.set_cons_zero, List.set_cons_succ]
  refine rg_at 12 (by decide) (fun oi hoi => ?_)
  have ho2 := hoi; simp only [List.getElem?_toArray, List.getElem?_cons_succ, List.getElem?_cons_zero, Option.some.injEq] at ho2; subst ho2
  refine rg_call 12 (by kernel_rfl) hoi (by rfl) (fun K hK => ?_)
  clear hoi
  go_simp
  refine Calls.mono (HS2.out _ hS) ?_
  rintro e w3 ⟨rfl, hu3⟩
  have hS4 := Upd.next hS hu3
  go_wp2_with (fail)
  refine hK.out _ _ ((by exact hS4)) (fun hS => ?_)
  clear hK K
  try simp only [Act.put, List.setIfInBounds_toArray, List.set_cons_zero, List.set_cons_succ]
  refine rg_at 13 (by decide) (fun oi hoi => ?_)
  have ho2 := hoi; simp only [List.getElem?_toArray, List.getElem?_cons_succ, List.getElem?_cons_zero, Option.some.injEq] at ho2; subst ho2
  refine rg_take (v := ?_) 13 hoi (by kernel_rfl) (by kernel_rfl) (by kernel_rfl) (fun _ _ _ h => h) (by rfl) ?_ hS ?_
  rotate_left
  · intro w _; go_simp; try with_reducible rfl
  clear hoi; try simp only [Act.put, List.setIfInBounds_toArray, List.set_cons_zero, List.set_cons_succ]
  refine rg_at 14 (by decide) (fun oi hoi => ?_)
  have ho2 := hoi; simp only [List.getElem?_toArray, List.getElem?_cons_succ, List.getElem?_cons_zero, Option.some.injEq] at ho2; subst ho2
  refine rg_take (v := ?_) 14 hoi (by kernel_rfl) (by kernel_rfl) (by kernel_rfl) (fun _ _ _ h => h) (by rfl) ?_ hS ?_
  rotate_left
  · intro w _; go_simp; try with_reducible rfl
  clear hoi; try simp only [Act.put, List.setIfInBounds_toArray, List.set_cons_zero, List.set_cons_succ]
  refine rg_at 15 (by decide) (fun oi hoi => ?_)
  have ho2 := hoi; simp only [List.getElem?_toArray, List.getElem?_cons_succ, List.getElem?_cons_zero, Option.some.injEq] at ho2; subst ho2
  refine rg_take (v := ?_) 15 hoi (by kernel_rfl) (by kernel_rfl) (by kernel_rfl) (fun _ _ _ h => h) (by rfl) ?_ hS ?_
  rotate_left
  · intro w _; go_simp; try with_reducible rfl
  clear hoi; try simp only [Act.put, List.setIfInBounds_toArray, List.set_cons_zero, List.set_cons_succ]
  refine rg_at 16 (by decide) (fun oi hoi => ?_)
  have ho2 := hoi; simp only [List.getElem?_toArray, List.getElem?_cons_succ, List.getElem?_cons_zero, Option.some.injEq] at ho2; subst ho2
  refine rg_take (v := ?_) 16 hoi (by kernel_rfl) (by kernel_rfl) (by kernel_rfl) (fun _ _ _ h => h) (by rfl) ?_ hS ?_
  rotate_left
  · intro w _; go_simp; try with_reducible rfl
  clear hoi; try simp only [Act.put, List.setIfInBounds_toArray, List.set_cons_zero, List.set_cons_succ]
  refine rg_at 18 (by decide) (fun oi hoi => ?_)
  have ho2 := hoi; simp only [List.getElem?_toArray, List.getElem?_cons_succ, List.getElem?_cons_zero, Option.some.injEq] at ho2; subst ho2
  refine rg_take (v := ?_) 18 hoi (by kernel_rfl) (by kernel_rfl) (by kernel_rfl) (fun _ _ _ h => h) (by rfl) ?_ hS ?_
  rotate_left
  · intro w _; go_simp; try with_reducible rfl
  clear hoi; try simp only [Act.put, List.setIfInBounds_toArray, List.set_cons_zero, List.set_cons_succ]
  refine rg_at 19 (by decide) (fun oi hoi => ?_)
  have ho2 := hoi; simp only [List.getElem?_toArray, List.getElem?_cons_succ, List.getElem?_cons_zero, Option.some.injEq] at ho2; subst ho2
  refine rg_take (v := ?_) 19 hoi (by kernel_rfl) (by kernel_rfl) (by kernel_rfl) (fun _ _ _ h => h) (by rfl) ?_ hS ?_
  rotate_left
  · intro w _; go_simp; try with_reducible rfl
  clear hoi; try simp only [Act.put, List.setIfInBounds_toArray, List.set_cons_zero, List.set_cons_succ]
  refine rg_at 20 (by decide) (fun oi hoi => ?_)
  have ho2 := hoi; simp only [List.getElem?_toArray, List.getElem?_cons_succ, List.getElem?_cons_zero, Option.some.injEq] at ho2; subst ho2
  refine rg_take (v := ?_) 20 hoi (by kernel_rfl) (by kernel_rfl) (by kernel_rfl) (fun _ _ _ h => h) (by rfl) ?_ hS ?_
  rotate_left
  · intro w _; go_simp; try with_reducible rfl
  clear hoi; try simp only [Act.put, List.setIfInBounds_toArray, List.set_cons_zero, List.set_cons_succ]
  refine rg_at 21 (by decide) (fun oi hoi => ?_)
  have ho2 := hoi; simp only [List.getElem?_toArray, List.getElem?_cons_succ, List.getElem?_cons_zero, Option.some.injEq] at ho2; subst ho2
  refine rg_take (v := ?_) 21 hoi (by kernel_rfl) (by kernel_rfl) (by kernel_rfl) (fun _ _ _ h => h) (by rfl) ?_ hS ?_
  rotate_left
  · intro w hw; have hf := (jbox (HX1.out _ hw).blk).1; clear hw; go_simp; try with_reducible rfl
  clear hoi; try simp only [Act.put, List.setIfInBounds_toArray, List.set_cons_zero, List.set_cons_succ]
  refine rg_at 17 (by decide) (fun oi hoi => ?_)
  have ho2 := hoi; simp only [List.getElem?_toArray, List.getElem?_cons_succ, List.getElem?_cons_zero, Option.some.injEq] at ho2; subst ho2
  refine rg_call 17 (by kernel_rfl) hoi (by rfl) (fun K hK => ?_)
  clear hoi
  go_simp
  refine Calls.mono (HBs.out _ hS) ?_
  rintro e w4 ⟨rfl, hu4⟩
  have hS5 := Upd.next hS hu4
  go_wp2_with (fail)
  refine hK.out _ _ ((by exact hS5)) (fun hS => ?_)
  clear hK K
  try simp only [Act.put, List.setIfInBounds_toArray, List.set_cons_zero, List.set_cons_succ]
  refine rg_at 22 (by decide) (fun oi hoi => ?_)
  have ho2 := hoi; simp only [List.getElem?_toArray, List.getElem?_cons_succ, List.getElem?_cons_zero, Option.some.injEq] at ho2; subst ho2
  refine rg_take (v := ?_) 22 hoi (by kernel_rfl) (by kernel_rfl) (by kernel_rfl) (fun _ _ _ h => h) (by rfl) ?_ hS ?_
  rotate_left
  · intro w _; go_simp; try with_reducible rfl
  clear hoi; try simp only [Act.put, List.setIfInBounds_toArray, List.set_cons_zero, List.set_cons_succ]
  refine rg_at 23 (by decide) (fun oi hoi => ?_)
  have ho2 := hoi; simp only [List.getElem?_toArray, List.getElem?_cons_succ, List.getElem?_cons_zero, Option.some.injEq] at ho2; subst ho2
  refine rg_take (v := ?_) 23 hoi (by kernel_rfl) (by kernel_rfl) (by kernel_rfl) (fun _ _ _ h => h) (by rfl) ?_ hS ?_
  rotate_left
  · intro w _; go_simp; try with_reducible rfl
  clear hoi; try simp only [Act.put, List.setIfInBounds_toArray, List.set_cons_zero, List.set_cons_succ]
  refine rg_at 24 (by decide) (fun oi hoi => ?_)
  have ho2 := hoi; simp only [List.getElem?_toArray, List.getElem?_cons_succ, List.getElem?_cons_zero, Option.some.injEq] at ho2; subst ho2
  refine rg_take (v := ?_) 24 hoi (by kernel_rfl) (by kernel_rfl) (by kernel_rfl) (fun _ _ _ h => h) (by rfl) ?_ hS ?_
  rotate_left
  · intro w _; go_simp; try with_reducible rfl
  clear hoi; try simp only [Act.put, List.setIfInBounds_toArray, List.set_cons_zero, List.set_cons_succ]
  refine rg_at 25 (by decide) (fun oi hoi => ?_)
  have ho2 := hoi; simp only [List.getElem?_toArray, List.getElem?_cons_succ, List.getElem?_cons_zero, Option.some.injEq] at ho2; subst ho2
  refine rg_take (v := ?_) 25 hoi (by kernel_rfl) (by kernel_rfl) (by kernel_rfl) (fun _ _ _ h => h) (by rfl) ?_ hS ?_
  rotate_left
  · intro w _; go_simp; try with_reducible rfl
  clear hoi; try simp only [Act.put, List.setIfInBounds_toArray, List.set_cons_zero, List.set_cons_succ]
  refine rg_at 27 (by decide) (fun oi hoi => ?_)
  have ho2 := hoi; simp only [List.getElem?_toArray, List.getElem?_cons_succ, List.getElem?_cons_zero, Option.some.injEq] at ho2; subst ho2
  refine rg_take (v := ?_) 27 hoi (by kernel_rfl) (by kernel_rfl) (by kernel_rfl) (fun _ _ _ h => h) (by rfl) ?_ hS ?_
  rotate_left
  · intro w _; go_simp; try with_reducible rfl
  clear hoi; try simp only [Act.put, List.setIfInBounds_toArray, List.set_cons_zero, List.set_cons_succ]
  refine rg_at 28 (by decide) (fun oi hoi => ?_)
  have ho2 := hoi; simp only [List.getElem?_toArray, List.getElem?_cons_succ, List.getElem?_cons_zero, Option.some.injEq] at ho2; subst ho2
  refine rg_take (v := ?_) 28 hoi (by kernel_rfl) (by kernel_rfl) (by kernel_rfl) (fun _ _ _ h => h) (by rfl) ?_ hS ?_
  rotate_left
  · intro w _; go_simp; try with_reducible rfl
  clear hoi; try simp only [Act.put, List.setIfInBounds_toArray, List.set_cons_zero, List.set_cons_succ]
  refine rg_at 29 (by decide) (fun oi hoi => ?_)
  have ho2 := hoi; simp only [List.getElem?_toArray, List.getElem?_cons_succ, List.getElem?_cons_zero, Option.some.injEq] at ho2; subst ho2
  refine rg_take (v := ?_) 29 hoi (by kernel_rfl) (by kernel_rfl) (by kernel_rfl) (fun _ _ _ h => h) (by rfl) ?_ hS ?_
  rotate_left
  · intro w _; go_simp; try with_reducible rfl
  clear hoi; try simp only [Act.put, List.setIfInBounds_toArray, List.set_cons_zero, List.set_cons_succ]
  refine rg_at 30 (by decide) (fun oi hoi => ?_)
  have ho2 := hoi; simp only [List.getElem?_toArray, List.getElem?_cons_succ, List.getElem?_cons_zero, Option.some.injEq] at ho2; subst ho2
  refine rg_take (v := ?_) 30 hoi (by kernel_rfl) (by kernel_rfl) (by kernel_rfl) (fun _ _ _ h => h) (by rfl) ?_ hS ?_
  rotate_left
  · intro w hw; have hf := (jbox (HX1.out _ hw).blk).2.2; clear hw; go_simp; try with_reducible rfl
  clear hoi; try simp only [Act.put, List.setIfInBounds_toArray, List.set_cons_zero, List.set_cons_succ]
  refine rg_at 26 (by decide) (fun oi hoi => ?_)
  have ho2 := hoi; simp only [List.getElem?_toArray, List.getElem?_cons_succ, List.getElem?_cons_zero, Option.some.injEq] at ho2; subst ho2
  refine rg_call 26 (by kernel_rfl) hoi (by rfl) (fun K hK => ?_)
  clear hoi
  go_simp
  refine Calls.mono (HV.out _ hS) ?_
  rintro e w5 ⟨rfl, rfl⟩
  go_wp2_with (fail)
  refine hK.out _ _ ((by exact hS)) (fun hS => ?_)
  clear hK K
  try simp only [Act.put, List.setIfInBounds_toArray, List.set_cons_zero, List.set_cons_succ]
  refine rg_at 31 (by decide) (fun oi hoi => ?_)
  have ho2 := hoi; simp only [List.getElem?_toArray, List.getElem?_cons_succ, List.getElem?_cons_zero, Option.some.injEq] at ho2; subst ho2
  refine rg_take (v := ?_) 31 hoi (by kernel_rfl) (by kernel_rfl) (by kernel_rfl) (fun _ _ _ h => h) (by rfl) ?_ hS ?_
  rotate_left
  · intro w _; go_simp; try with_reducible rfl
  clear hoi; try simp only [Act.put, List.setIfInBounds_toArray, List.set_cons_zero, List.set_cons_succ]
  refine rg_at 32 (by decide) (fun oi hoi => ?_)
  have ho2 := hoi; simp only [List.getElem?_toArray, List.getElem?_cons_succ, List.getElem?_cons_zero, Option.some.injEq] at ho2; subst ho2
  refine rg_take (v := ?_) 32 hoi (by kernel_rfl) (by kernel_rfl) (by kernel_rfl) (fun _ _ _ h => h) (by rfl) ?_ hS ?_
  rotate_left
  · intro w _; go_simp; try with_reducible rfl
  clear hoi; try simp only [Act.put, List.setIfInBounds_toArray, List.set_cons_zero, List.set_cons_succ]
  refine wpAnyH_done (by kernel_rfl) ?_ _
  have HU2 := hid hS
  clear hS hE1 hE2 HS1 HS2 HBs HV HA HB
  go_wp2_with (fail)
  go_loopw [44] (fun v44 W => ∃ j : Nat, j ≤ s.2.1.length ∧ v44 = .int .i64 j ∧ Hid (Upd No w1 W)) (fun v44 _ => s.2.1.length - (intOf v44).toNat)
  case atStart => exact ⟨0, by omega, rfl, HU2⟩
  case round =>
    clear HU2
    obtain ⟨j, hj, rfl, HU⟩ := hrel
    by_cases hlt : j < s.2.1.length
    · obtain ⟨ad, rfl, d0, d1⟩ := rd_ev (HU1.out.1.upd (by omega) HU.out fun _ _ => no_ _) hlt
      rw [add_field _ _ _ (by omega)] at d1
      obtain ⟨g, off, rfl, e0, e1, hgw⟩ := ev_at (HX1.out _ HU.out).row hlt
      obtain ⟨_, c8, _⟩ := jbox (HX1.out _ HU.out).blk
      have hj2 : (j : Int) < (s.2.1.length : Int) := by omega
      generalize s.2.1[j] = e2 at *
      obtain ⟨r, y⟩ := e2
      simp only at d0 d1 e0 e1
      generalize s.2.1.length = n at *
      go_wp2_with (fail)
      refine wp_region_held_drew (S := fun W => (W.cell? (ad.add (j * 2)) = some (.int .i64 r) ∧ W.cell? ⟨(ad.add (j * 2)).block, (ad.add (j * 2)).off + 1, none⟩ = some (.int .i64 y)) ∧ W.cell? ⟨q, 8, none⟩ = some (.slice (some ⟨g, off, none⟩) n cq) ∧ W.cell? ⟨g, off + j * 2, none⟩ = some (.int .i64 r) ∧ W.cell? ⟨g, off + j * 2 + 1, none⟩ = some (.int .i64 y)) (by kernel_rfl) ⟨⟨d0, d1⟩, c8, e0, e1⟩ (fun hS => ?_)
      refine rg_at 0 (by decide) (fun oi hoi => ?_)
      have ho2 := hoi; simp only [List.getElem?_toArray, List.getElem?_cons_succ, List.getElem?_cons_zero, Option.some.injEq] at ho2; subst ho2
      refine rg_take (v := ?_) 0 hoi (by kernel_rfl) (by kernel_rfl) (by kernel_rfl) (fun _ _ _ h => h) (by rfl) ?_ hS ?_
      rotate_left
      · intro w _; go_simp; try with_reducible rfl
      clear hoi; try simp only [Act.put, List.setIfInBounds_toArray, List.set_cons_zero, List.set_cons_succ]
      refine rg_at 1 (by decide) (fun oi hoi => ?_)
      have ho2 := hoi; simp only [List.getElem?_toArray, List.getElem?_cons_succ, List.getElem?_cons_zero, Option.some.injEq] at ho2; subst ho2
      refine rg_take (v := ?_) 1 hoi (by kernel_rfl) (by kernel_rfl) (by kernel_rfl) (fun _ _ _ h => h) (by rfl) ?_ hS ?_
      rotate_left
      · intro w _; go_simp; try with_reducible rfl
      clear hoi; try simp only [Act.put, List.setIfInBounds_toArray, List.set_cons_zero, List.set_cons_succ]
      refine rg_at 2 (by decide) (fun oi hoi => ?_)
      have ho2 := hoi; simp only [List.getElem?_toArray, List.getElem?_cons_succ, List.getElem?_cons_zero, Option.some.injEq] at ho2; subst ho2
      refine rg_take (v := ?_) 2 hoi (by kernel_rfl) (by kernel_rfl) (by kernel_rfl) (fun _ _ _ h => h) (by rfl) ?_ hS ?_
      rotate_left
      · intro w _; go_simp; try with_reducible rfl
      clear hoi; try simp only [Act.put, List.setIfInBounds_toArray, List.set_cons_zero, List.set_cons_succ]
      refine rg_at 3 (by decide) (fun oi hoi => ?_)
      have ho2 := hoi; simp only [List.getElem?_toArray, List.getElem?_cons_succ, List.getElem?_cons_zero, Option.some.injEq] at ho2; subst ho2
      refine rg_take (v := ?_) 3 hoi (by kernel_rfl) (by kernel_rfl) (by kernel_rfl) (fun _ _ _ h => h) (by rfl) ?_ hS ?_
      rotate_left
      · intro w hw; have hf := hw.1; clear hw; go_simp; try with_reducible rfl
      clear hoi; try simp only [Act.put, List.setIfInBounds_toArray, List.set_cons_zero, List.set_cons_succ]
      refine rg_at 4 (by decide) (fun oi hoi => ?_)
      have ho2 := hoi; simp only [List.getElem?_toArray, List.getElem?_cons_succ, List.getElem?_cons_zero, Option.some.injEq] at ho2; subst ho2
      refine rg_take (v := ?_) 4 hoi (by kernel_rfl) (by kernel_rfl) (by kernel_rfl) (fun _ _ _ h => h) (by rfl) ?_ hS ?_
      rotate_left
      · intro w _; go_simp; try with_reducible rfl
      clear hoi; try simp only [Act.put, List.setIfInBounds_toArray, List.set_cons_zero, List.set_cons_succ]
      refine rg_at 5 (by decide) (fun oi hoi => ?_)
      have ho2 := hoi; simp only [List.getElem?_toArray, List.getElem?_cons_succ, List.getElem?_cons_zero, Option.some.injEq] at ho2; subst ho2
      refine rg_take (v := ?_) 5 hoi (by kernel_rfl) (by kernel_rfl) (by kernel_rfl) (fun _ _ _ h => h) (by rfl) ?_ hS ?_
      rotate_left
      · intro w _; go_simp; try with_reducible rfl
      clear hoi; try simp only [Act.put, List.setIfInBounds_toArray, List.set_cons_zero, List.set_cons_succ]
      refine rg_at 6 (by decide) (fun oi hoi => ?_)
      have ho2 := hoi; simp only [List.getElem?_toArray, List.getElem?_cons_succ, List.getElem?_cons_zero, Option.some.injEq] at ho2; subst ho2
      refine rg_take (v := ?_) 6 hoi (by kernel_rfl) (by kernel_rfl) (by kernel_rfl) (fun _ _ _ h => h) (by rfl) ?_ hS ?_
      rotate_left
      · intro w _; go_simp; try with_reducible rfl
      clear hoi; try simp only [Act.put, List.setIfInBounds_toArray, List.set_cons_zero, List.set_cons_succ]
      refine rg_at 7 (by decide) (fun oi hoi => ?_)
      have ho2 := hoi; simp only [List.getElem?_toArray, List.getElem?_cons_succ, List.getElem?_cons_zero, Option.some.injEq] at ho2; subst ho2
      refine rg_take (v := ?_) 7 hoi (by kernel_rfl) (by kernel_rfl) (by kernel_rfl) (fun _ _ _ h => h) (by rfl) ?_ hS ?_
      rotate_left
      · intro w hw; have hf := hw.2.1; clear hw; go_simp; try with_reducible rfl
      clear hoi; try simp only [Act.put, List.setIfInBounds_toArray, List.set_cons_zero, List.set_cons_succ]
      refine rg_at 8 (by decide) (fun oi hoi => ?_)
      have ho2 := hoi; simp only [List.getElem?_toArray, List.getElem?_cons_succ, List.getElem?_cons_zero, Option.some.injEq] at ho2; subst ho2
      refine rg_take (v := ?_) 8 hoi (by kernel_rfl) (by kernel_rfl) (by kernel_rfl) (fun _ _ _ h => h) (by rfl) ?_ hS ?_
      rotate_left
      · intro w _; go_simp; try with_reducible rfl
      clear hoi; try simp only [Act.put, List.setIfInBounds_toArray, List.set_cons_zero, List.set_cons_succ]
      refine rg_at 9 (by decide) (fun oi hoi => ?_)
      have ho2 := hoi; simp only [List.getElem?_toArray, List.getElem?_cons_succ, List.getElem?_cons_zero, Option.some.injEq] at ho2; subst ho2
      refine rg_take (v := ?_) 9 hoi (by kernel_rfl) (by kernel_rfl) (by kernel_rfl) (fun _ _ _ h => h) (by rfl) ?_ hS ?_
      rotate_left
      · intro w _; go_simp; try with_reducible rfl
      clear hoi; try simp only [Act.put, List.setIfInBounds_toArray, List.set_cons_zero, List.set_cons_succ]
      refine rg_at 10 (by decide) (fun oi hoi => ?_)
      have ho2 := hoi; simp only [List.getElem?_toArray, List.getElem?_cons_succ, List.getElem?_cons_zero, Option.some.injEq] at ho2; subst ho2
      refine rg_take (v := ?_) 10 hoi (by kernel_rfl) (by kernel_rfl) (by kernel_rfl) (fun _ _ _ h => h) (by rfl) ?_ hS ?_
      rotate_left
      · intro w hw; have hf := hw.2.2; clear hw; go_simp; try with_reducible rfl
      clear hoi; try simp only [Act.put, List.setIfInBounds_toArray, List.set_cons_zero, List.set_cons_succ]
      refine rg_at 11 (by decide) (fun oi hoi => ?_)
      have ho2 := hoi; simp only [List.getElem?_toArray, List.getElem?_cons_succ, List.getElem?_cons_zero, Option.some.injEq] at ho2; subst ho2
      refine rg_take (v := ?_) 11 hoi (by kernel_rfl) (by kernel_rfl) (by kernel_rfl) (fun _ _ _ h => h) (by rfl) ?_ hS ?_
      rotate_left
      · intro w _; go_simp; try with_reducible rfl
      clear hoi; try simp only [Act.put, List.setIfInBounds_toArray, List.set_cons_zero, List.set_cons_succ]
      refine wpAnyH_done (by kernel_rfl) ?_ _
      clear hS
      go_wp2
      go_roundw
      case rel => exact ⟨j + 1, by omega, by go_num, hid HU.out.drew⟩
      case measure => simp [intOf]; omega
    · obtain rfl : j = s.2.1.length := by omega
      have HE := hid (HU1.out.2.next HU.out)
      go_wp2
      go_ret
      exact ⟨rfl, HE.out⟩
end Go.Proofs.Ytjhmmffejfomkaa.Jn
