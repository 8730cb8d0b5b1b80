/-
  The reference's Clients; reeveref13.Same; reevelaw13.same, awake.
-/
import Derived.Test.YtogijfgfcdmbnaaWq
set_option linter.unusedVariables false
set_option linter.unusedSimpArgs false
namespace Go.Proofs.Ytogijfgfcdmbnaa.Ww
open Go.RowKit Go.Proofs.Ytogijfgfcdmbnaa.B Go.Proofs.Ytogijfgfcdmbnaa.Df Go.Proofs.Ytogijfgfcdmbnaa.Ws Go.Proofs.Ytogijfgfcdmbnaa.Mp Go.Proofs.Ytogijfgfcdmbnaa.Wp
theorem ks_take {x : St} {j : Nat} (hj : j < x.length) : ks (x.take (j + 1)) = ks (x.take j) ++ [x[j].1] := by
  unfold ks
  rw [List.take_succ_eq_append_getElem hj, List.map_append]
  rfl
set_option maxHeartbeats 1000000 in
theorem rclients {w : World} {F : Nat → Prop} {q : Nat} {x : St} (h : Rw w F q x) (hl : x.length ≤ 65) :
    Calls Try.prog 28 #[.pointer (some ⟨q, 0, none⟩)] w fun e w' => RowOut w (ks x) e w' := by
  obtain ⟨ps, v, G, hx, h⟩ := h
  have hpl : ps.length ≤ 65 := by rw [← hx, List.length_map] at hl; exact hl
  obtain ⟨A, k, hv, hk1, hk2⟩ := h.row.shape
  subst hv
  have hc0 := box1 h.blk
  have HX := hid (And.intro hx h)
  clear hx h
  go_enter Try.func28, Try.ntmps28
  go_wp2_with (fail)
  go_loopw [3, 10] (fun v3 v10 W => ∃ (j : Nat) (m : List Int) (A' : Option Addr) (k' : Nat), j ≤ ps.length ∧ v10 = .int .i64 j ∧ v3 = .slice A' m.length k' ∧ Hid (m = ks (x.take j)) ∧ m.length ≤ j ∧ Hid (W.ownsRow w.heap.size 22 1 (.slice A' m.length k') m.length (nums .u64 m)) ∧ Hid (Upd No w W)) (fun _ v10 _ => ps.length - (intOf v10).toNat)
  case atStart => exact ⟨0, [], none, 0, by omega, rfl, rfl, hid (by simp [ks]), by simp, hid (World.ownsRow_nil _ _ _ _), hid (Upd.refl _ _)⟩
  case round =>
    obtain ⟨j, m, A', k', hj, rfl, rfl, HM, hmj, HO, HU⟩ := hrel
    have hX := HX.out.2.upd HU.out (fun _ _ => no_ _)
    have hc0 := box1 hX.blk
    have hbase := HU.out.size
    by_cases hlt : j < ps.length
    · obtain ⟨g, off, hA, d0, _⟩ := rec_at hX.row hlt
      subst hA
      have hj2 : (j : Int) < (ps.length : Int) := by omega
      have HN : Hid (∀ y, y = ps[j].1.1 → m ++ [y] = ks (x.take (j + 1))) := hid fun y hy => by
        have hx := HX.out.1
        rw [ks_take (by rw [← hx, List.length_map]; exact hlt), ← HM.out, hy]
        congr 2
        simp only [← hx, List.getElem_map]
      clear hX
      obtain ⟨y, hy⟩ : ∃ y, y = ps[j].1.1 := ⟨_, rfl⟩
      rw [← hy] at d0
      replace HN := hid (HN.out y hy)
      clear hy
      go_wp2_with (at_builtin; go_must (refine ap_one rfl (.tmp 13) (.tmp 22) 27 22 (.int .u64 0) 8 rfl Try.underlying27 u64_info rfl (.slice A' m.length k') m.length (nums .u64 m) (.int .u64 y) rfl rfl (Blk.fresh _ _ _) rfl (HO.out.alloc _) (by omega) (by omega) ?_ (by simp; omega)); intro g4 k4 w4 ho4 hg4 hat4)
      have hu4 : Upd No w w4 := (HU.out.alloc _).grown hg4 fun k hk => .inr (HO.out.lt k hk).1
      have HO4 := hid ho4
      have HU4 := hid hu4
      clear ho4 hu4 hg4 hat4
      go_wp2
      go_roundw
      case rel => exact ⟨j + 1, m ++ [y], _, _, by omega, by go_num, by rw [List.length_append]; rfl, HN, by simp; omega, hid (by rw [List.length_append, nums_append]; exact HO4.out), HU4⟩
      case measure => simp [intOf]; omega
    · obtain rfl : j = ps.length := by omega
      have HE : Hid (m = ks x) := hid (by rw [HM.out, List.take_of_length_le (by rw [← HX.out.1]; simp)])
      clear hX
      go_wp2
      go_ret
      refine .of ?_
      rw [← HE.out]
      exact ⟨A', k', rfl, HO.out, HU.out⟩
set_option maxHeartbeats 1000000 in
/-- reeveref13.Same. -/
theorem same13 {w : World} {A B : Option Addr} {c d : Nat} {l m : List Int} (ha : Rn w .u64 A l) (hb : Rn w .u64 B m) (hl : l.length ≤ 9223372036854775807) (hm : m.length ≤ 9223372036854775807) :
    Calls Try.prog 14 #[.slice A l.length c, .slice B m.length d] w fun e w' => e = .returned (.bool (decide (l = m))) ∧ Upd No w w' := by
  by_cases hlm : l.length = m.length
  · have hb' : Rd w 1 B l.length (nums .u64 m) := by rw [hlm]; exact hb
    have HB := hid hb'
    have HL := hid hlm
    rw [← hlm]
    clear hlm hb hb'
    go_enter Try.func14, Try.ntmps14
    go_wp2_with (fail)
    go_loopw [13] (fun v13 W => ∃ j : Nat, j ≤ l.length ∧ v13 = .int .i64 j ∧ Hid (l.take j = m.take j) ∧ Hid (Upd No w W)) (fun v13 _ => l.length - (intOf v13).toNat)
    case atStart => exact ⟨0, by omega, rfl, hid (by simp), hid (Upd.refl _ _)⟩
    case round =>
      obtain ⟨j, hj, rfl, hH, HU⟩ := hrel
      by_cases hlt : j < l.length
      · obtain ⟨ad, u, rfl, hu, hc⟩ := Rd.at_ ha hlt
        obtain ⟨bd, u', rfl, hu', hc'⟩ := HB.out.at_ hlt
        have hltm : j < m.length := by have := HL.out; omega
        rw [nums, List.getElem?_map, List.getElem?_eq_getElem hlt] at hu
        rw [nums, List.getElem?_map, List.getElem?_eq_getElem hltm] at hu'
        simp only [Option.map_some, Option.some.injEq] at hu hu'
        subst hu hu'
        have HN : Hid (l[j] = m[j] → l.take (j + 1) = m.take (j + 1)) := hid fun h => by
          rw [List.take_succ_eq_append_getElem hlt, List.take_succ_eq_append_getElem hltm, hH.out, h]
        have HY : Hid (¬ l[j] = m[j] → decide (l = m) = false) := hid fun h => decide_eq_false fun e => h (by subst e; rfl)
        have hj1 : (0 : Int) ≤ (j : Int) := by omega
        have hj2 : (j : Int) < (l.length : Int) := by omega
        have hca := World.block_lt_of_cell? _ _ hc
        have hcb := World.block_lt_of_cell? _ _ hc'
        generalize l[j] = y at *
        generalize m[j] = z at *
        have HC : Hid (∀ W, Upd No w W → W.cell? (ad.add j) = some (.int .u64 y) ∧ W.cell? (bd.add j) = some (.int .u64 z)) := hid fun W hu => ⟨(hu.cell hca (no_ _)).trans hc, (hu.cell hcb (no_ _)).trans hc'⟩
        clear hc hc' hca hcb
        by_cases hy : y = z
        · subst hy
          replace HN := hid (HN.out rfl)
          clear HY
          go_wp2_with (fail)
          refine wp_region_held_drew (S := fun W => Upd No w W) (by kernel_rfl) HU.out.drew (fun hS => ?_)
          refine rg_at 0 (by decide) (fun oi hoi => ?_)
          have ho2 := hoi; simp only [List.getElem?_toArray, List.getElem?_cons_succ, List.getElem?_cons_zero, Option.some.injEq] at ho2; subst ho2
          refine rg_take (v := ?_) 0 hoi (by kernel_rfl) (by kernel_rfl) (by kernel_rfl) (fun _ _ _ h => h) (by rfl) ?_ hS ?_
          rotate_left
          · intro w _; go_simp; try with_reducible rfl
          clear hoi; try simp only [Act.put, List.setIfInBounds_toArray, List.set_cons_zero, List.set_cons_succ]
          refine rg_at 1 (by decide) (fun oi hoi => ?_)
          have ho2 := hoi; simp only [List.getElem?_toArray, List.getElem?_cons_succ, List.getElem?_cons_zero, Option.some.injEq] at ho2; subst ho2
          refine rg_take (v := ?_) 1 hoi (by kernel_rfl) (by kernel_rfl) (by kernel_rfl) (fun _ _ _ h => h) (by rfl) ?_ hS ?_
          rotate_left
          · intro w _; go_simp; try with_reducible rfl
          clear hoi; try simp only [Act.put, List.setIfInBounds_toArray, List.set_cons_zero, List.set_cons_succ]
          refine rg_at 2 (by decide) (fun oi hoi => ?_)
          have ho2 := hoi; simp only [List.getElem?_toArray, List.getElem?_cons_succ, List.getElem?_cons_zero, Option.some.injEq] at ho2; subst ho2
          refine rg_take (v := ?_) 2 hoi (by kernel_rfl) (by kernel_rfl) (by kernel_rfl) (fun _ _ _ h => h) (by rfl) ?_ hS ?_
          rotate_left
          · intro w _; go_simp; try with_reducible rfl
          clear hoi; try simp only [Act.put, List.setIfInBounds_toArray, List.set_cons_zero, List.set_cons_succ]
          refine rg_at 3 (by decide) (fun oi hoi => ?_)
          have ho2 := hoi; simp only [List.getElem?_toArray, List.getElem?_cons_succ, List.getElem?_cons_zero, Option.some.injEq] at ho2; subst ho2
          refine rg_take (v := ?_) 3 hoi (by kernel_rfl) (by kernel_rfl) (by kernel_rfl) (fun _ _ _ h => h) (by rfl) ?_ hS ?_
          rotate_left
          · intro w hw; have hf := (HC.out _ hw).1; clear hw; go_simp; try with_reducible rfl
          clear hoi; try simp only [Act.put, List.setIfInBounds_toArray, List.set_cons_zero, List.set_cons_succ]
          refine rg_at 4 (by decide) (fun oi hoi => ?_)
          have ho2 := hoi; simp only [List.getElem?_toArray, List.getElem?_cons_succ, List.getElem?_cons_zero, Option.some.injEq] at ho2; subst ho2
          refine rg_take (v := ?_) 4 hoi (by kernel_rfl) (by kernel_rfl) (by kernel_rfl) (fun _ _ _ h => h) (by rfl) ?_ hS ?_
          rotate_left
          · intro w _; go_simp; try with_reducible rfl
          clear hoi; try simp only [Act.put, List.setIfInBounds_toArray, List.set_cons_zero, List.set_cons_succ]
          refine rg_at 5 (by decide) (fun oi hoi => ?_)
          have ho2 := hoi; simp only [List.getElem?_toArray, List.getElem?_cons_succ, List.getElem?_cons_zero, Option.some.injEq] at ho2; subst ho2
          refine rg_take (v := ?_) 5 hoi (by kernel_rfl) (by kernel_rfl) (by kernel_rfl) (fun _ _ _ h => h) (by rfl) ?_ hS ?_
          rotate_left
          · intro w _; go_simp; try with_reducible rfl
          clear hoi; try simp only [Act.put, List.setIfInBounds_toArray, List.set_cons_zero, List.set_cons_succ]
          refine rg_at 6 (by decide) (fun oi hoi => ?_)
          have ho2 := hoi; simp only [List.getElem?_toArray, List.getElem?_cons_succ, List.getElem?_cons_zero, Option.some.injEq] at ho2; subst ho2
          refine rg_take (v := ?_) 6 hoi (by kernel_rfl) (by kernel_rfl) (by kernel_rfl) (fun _ _ _ h => h) (by rfl) ?_ hS ?_
          rotate_left
          · intro w _; go_simp; try with_reducible rfl
          clear hoi; try simp only [Act.put, List.setIfInBounds_toArray, List.set_cons_zero, List.set_cons_succ]
          refine rg_at 7 (by decide) (fun oi hoi => ?_)
          have ho2 := hoi; simp only [List.getElem?_toArray, List.getElem?_cons_succ, List.getElem?_cons_zero, Option.some.injEq] at ho2; subst ho2
          refine rg_take (v := ?_) 7 hoi (by kernel_rfl) (by kernel_rfl) (by kernel_rfl) (fun _ _ _ h => h) (by rfl) ?_ hS ?_
          rotate_left
          · intro w hw; have hf := (HC.out _ hw).2; clear hw; go_simp; try with_reducible rfl
          clear hoi; try simp only [Act.put, List.setIfInBounds_toArray, List.set_cons_zero, List.set_cons_succ]
          refine rg_at 8 (by decide) (fun oi hoi => ?_)
          have ho2 := hoi; simp only [List.getElem?_toArray, List.getElem?_cons_succ, List.getElem?_cons_zero, Option.some.injEq] at ho2; subst ho2
          refine rg_take (v := ?_) 8 hoi (by kernel_rfl) (by kernel_rfl) (by kernel_rfl) (fun _ _ _ h => h) (by rfl) ?_ hS ?_
          rotate_left
          · intro w _; go_simp; try with_reducible rfl
          clear hoi; try simp only [Act.put, List.setIfInBounds_toArray, List.set_cons_zero, List.set_cons_succ]
          refine wpAnyH_done (by kernel_rfl) ?_ _
          go_wp2
          go_roundw
          case rel => exact ⟨j + 1, by omega, by go_num, HN, hid hS⟩
          case measure => simp [intOf]; omega
        · replace HY := hid (HY.out hy)
          have n1 : (y != z) = true := by simp [hy]
          clear HN hy
          go_wp2_with (fail)
          refine wp_region_held_drew (S := fun W => Upd No w W) (by kernel_rfl) HU.out.drew (fun hS => ?_)
          refine rg_at 0 (by decide) (fun oi hoi => ?_)
          have ho2 := hoi; simp only [List.getElem?_toArray, List.getElem?_cons_succ, List.getElem?_cons_zero, Option.some.injEq] at ho2; subst ho2
          refine rg_take (v := ?_) 0 hoi (by kernel_rfl) (by kernel_rfl) (by kernel_rfl) (fun _ _ _ h => h) (by rfl) ?_ hS ?_
          rotate_left
          · intro w _; go_simp; try with_reducible rfl
          clear hoi; try simp only [Act.put, List.setIfInBounds_toArray, List.set_cons_zero, List.set_cons_succ]
          refine rg_at 1 (by decide) (fun oi hoi => ?_)
          have ho2 := hoi; simp only [List.getElem?_toArray, List.getElem?_cons_succ, List.getElem?_cons_zero, Option.some.injEq] at ho2; subst ho2
          refine rg_take (v := ?_) 1 hoi (by kernel_rfl) (by kernel_rfl) (by kernel_rfl) (fun _ _ _ h => h) (by rfl) ?_ hS ?_
          rotate_left
          · intro w _; go_simp; try with_reducible rfl
          clear hoi; try simp only [Act.put, List.setIfInBounds_toArray, List.set_cons_zero, List.set_cons_succ]
          refine rg_at 2 (by decide) (fun oi hoi => ?_)
          have ho2 := hoi; simp only [List.getElem?_toArray, List.getElem?_cons_succ, List.getElem?_cons_zero, Option.some.injEq] at ho2; subst ho2
          refine rg_take (v := ?_) 2 hoi (by kernel_rfl) (by kernel_rfl) (by kernel_rfl) (fun _ _ _ h => h) (by rfl) ?_ hS ?_
          rotate_left
          · intro w _; go_simp; try with_reducible rfl
          clear hoi; try simp only [Act.put, List.setIfInBounds_toArray, List.set_cons_zero, List.set_cons_succ]
          refine rg_at 3 (by decide) (fun oi hoi => ?_)
          have ho2 := hoi; simp only [List.getElem?_toArray, List.getElem?_cons_succ, List.getElem?_cons_zero, Option.some.injEq] at ho2; subst ho2
          refine rg_take (v := ?_) 3 hoi (by kernel_rfl) (by kernel_rfl) (by kernel_rfl) (fun _ _ _ h => h) (by rfl) ?_ hS ?_
          rotate_left
          · intro w hw; have hf := (HC.out _ hw).1; clear hw; go_simp; try with_reducible rfl
          clear hoi; try simp only [Act.put, List.setIfInBounds_toArray, List.set_cons_zero, List.set_cons_succ]
          refine rg_at 4 (by decide) (fun oi hoi => ?_)
          have ho2 := hoi; simp only [List.getElem?_toArray, List.getElem?_cons_succ, List.getElem?_cons_zero, Option.some.injEq] at ho2; subst ho2
          refine rg_take (v := ?_) 4 hoi (by kernel_rfl) (by kernel_rfl) (by kernel_rfl) (fun _ _ _ h => h) (by rfl) ?_ hS ?_
          rotate_left
          · intro w _; go_simp; try with_reducible rfl
          clear hoi; try simp only [Act.put, List.setIfInBounds_toArray, List.set_cons_zero, List.set_cons_succ]
          refine rg_at 5 (by decide) (fun oi hoi => ?_)
          have ho2 := hoi; simp only [List.getElem?_toArray, List.getElem?_cons_succ, List.getElem?_cons_zero, Option.some.injEq] at ho2; subst ho2
          refine rg_take (v := ?_) 5 hoi (by kernel_rfl) (by kernel_rfl) (by kernel_rfl) (fun _ _ _ h => h) (by rfl) ?_ hS ?_
          rotate_left
          · intro w _; go_simp; try with_reducible rfl
          clear hoi; try simp only [Act.put, List.setIfInBounds_toArray, List.set_cons_zero, List.set_cons_succ]
          refine rg_at 6 (by decide) (fun oi hoi => ?_)
          have ho2 := hoi; simp only [List.getElem?_toArray, List.getElem?_cons_succ, List.getElem?_cons_zero, Option.some.injEq] at ho2; subst ho2
          refine rg_take (v := ?_) 6 hoi (by kernel_rfl) (by kernel_rfl) (by kernel_rfl) (fun _ _ _ h => h) (by rfl) ?_ hS ?_
          rotate_left
          · intro w _; go_simp; try with_reducible rfl
          clear hoi; try simp only [Act.put, List.setIfInBounds_toArray, List.set_cons_zero, List.set_cons_succ]
          refine rg_at 7 (by decide) (fun oi hoi => ?_)
          have ho2 := hoi; simp only [List.getElem?_toArray, List.getElem?_cons_succ, List.getElem?_cons_zero, Option.some.injEq] at ho2; subst ho2
          refine rg_take (v := ?_) 7 hoi (by kernel_rfl) (by kernel_rfl) (by kernel_rfl) (fun _ _ _ h => h) (by rfl) ?_ hS ?_
          rotate_left
          · intro w hw; have hf := (HC.out _ hw).2; clear hw; go_simp; try with_reducible rfl
          clear hoi; try simp only [Act.put, List.setIfInBounds_toArray, List.set_cons_zero, List.set_cons_succ]
          refine rg_at 8 (by decide) (fun oi hoi => ?_)
          have ho2 := hoi; simp only [List.getElem?_toArray, List.getElem?_cons_succ, List.getElem?_cons_zero, Option.some.injEq] at ho2; subst ho2
          refine rg_take (v := ?_) 8 hoi (by kernel_rfl) (by kernel_rfl) (by kernel_rfl) (fun _ _ _ h => h) (by rfl) ?_ hS ?_
          rotate_left
          · intro w _; go_simp; try with_reducible rfl
          clear hoi; try simp only [Act.put, List.setIfInBounds_toArray, List.set_cons_zero, List.set_cons_succ]
          refine wpAnyH_done (by kernel_rfl) ?_ _
          go_wp2
          go_ret
          exact ⟨congrArg (fun z => Ending.returned (.bool z)) HY.out.symm, hS⟩
      · obtain rfl : j = l.length := by omega
        have HY : Hid (decide (l = m) = true) := hid (decide_eq_true (by
          have := hH.out
          rwa [List.take_length, HL.out, List.take_length] at this))
        go_wp2
        go_ret
        exact ⟨congrArg (fun z => Ending.returned (.bool z)) HY.out.symm, HU.out⟩
  · have HY : Hid (decide (l = m) = false) := hid (decide_eq_false fun h => hlm (by rw [h]))
    have n1 : decide ((l.length : Int) = (m.length : Int)) = false := decide_eq_false (by omega)
    have n2 : ((l.length : Int) != (m.length : Int)) = true := by simp; omega
    clear hlm
    go_enter Try.func14, Try.ntmps14
    go_wp2
    go_ret
    exact ⟨congrArg (fun z => Ending.returned (.bool z)) HY.out.symm, Upd.refl _ _⟩
set_option maxHeartbeats 2000000 in
/-- reevelaw13.same, of two windows that hold the same. -/
theorem same {w : World} {F G : Nat → Prop} {p q n : Nat} {x : St} (ha : Wd w F p x n) (hb : Rw w G q x) (hok : Ok x) :
    Calls Try.prog 16 #[.pointer (some ⟨p, 0, none⟩), .pointer (some ⟨q, 0, none⟩)] w fun e w' => e = .returned (.bool true) ∧ Upd No w w' := by
  have hlen := hok.len
  have HA := hid fun W (hu : Upd No w W) => ha.upd hu fun _ _ => no_ _
  have HB := hid fun W (hu : Upd No w W) => hb.upd hu fun _ _ => no_ _
  have hkl : (ks x).length ≤ 64 := by rw [ks_length]; exact hlen
  have hkey : ∀ i (hi : i < (ks x).length), Wp.Key (ks x)[i] := fun i hi => by
    obtain ⟨e, he, h⟩ := List.mem_map.1 (List.getElem_mem hi)
    rw [← h]
    exact hok.key e he
  have HK := hid hkey
  clear ha hb hkey
  go_enter Try.func16, Try.ntmps16
  go_wp2_with (fail)
  refine Calls.mono (clients (HA.out w (Upd.refl _ _)) (by omega)) ?_
  rintro e w1 ⟨A1, c1, rfl, ho1, hu1⟩
  have hR1 : Rn w1 .u64 A1 (ks x) := Rd.of_own ho1
  have HU1 := hid hu1
  clear ho1 hu1
  go_wp2_with (fail)
  refine Calls.mono (rclients (HB.out w1 HU1.out) (by omega)) ?_
  rintro e w2 ⟨A2, c2, rfl, ho2, hu2⟩
  have hR2 : Rn w2 .u64 A2 (ks x) := Rd.of_own ho2
  have hR12 := Rd.upd hR1 (by omega) hu2 (fun _ _ => no_ _)
  have HU2 := hid (HU1.out.next hu2)
  clear ho2 hu2 hR1
  have HS := same13 (c := c1) (d := c2) hR12 hR2 (by omega) (by omega)
  simp only [decide_true] at HS
  go_wp2_with (fail)
  refine Calls.mono HS ?_
  rintro e w3 ⟨rfl, hu3⟩
  have hR3 := Rd.upd hR12 (by omega) hu3 (fun _ _ => no_ _)
  have HU3 := hid (HU2.out.next hu3)
  clear hu3 HS hR12 hR2
  go_wp2_with (fail)
  go_loopw [16] (fun v16 W => ∃ j : Nat, j ≤ (ks x).length ∧ v16 = .int .i64 j ∧ Hid (Upd No w3 W)) (fun v16 _ => (ks x).length - (intOf v16).toNat)
  case atStart => exact ⟨0, by omega, rfl, hid (Upd.refl _ _)⟩
  case round =>
    obtain ⟨j, hj, rfl, HU⟩ := hrel
    by_cases hlt : j < (ks x).length
    · obtain ⟨ad, u, rfl, hu, hc⟩ := Rd.at_ hR3 hlt
      have hk := HK.out j hlt
      rw [nums, List.getElem?_map, List.getElem?_eq_getElem hlt] at hu
      simp only [Option.map_some, Option.some.injEq] at hu
      subst hu
      have hj1 : (0 : Int) ≤ (j : Int) := by omega
      have hj2 : (j : Int) < ((ks x).length : Int) := by omega
      have hca := World.block_lt_of_cell? _ _ hc
      generalize (ks x)[j] = y at *
      have HC : Hid (∀ W, Upd No w3 W → W.cell? (ad.add j) = some (.int .u64 y)) := hid fun W hu => (hu.cell hca (no_ _)).trans hc
      have hsl := hok.sr_le y
      have HS1 := hid fun W (hu : Upd No w3 W) => serials y (HA.out W (HU3.out.next hu)) hk hsl
      have HS2 := hid fun W (hu : Upd No w3 W) => rserials y (HB.out W (HU3.out.next hu)) hok
      generalize sr x y = l at *
      clear hc hca
      go_wp2_with (fail)
      refine wp_region_held_drew (S := fun W => Upd No w3 W) (by kernel_rfl) HU.out.drew (fun hS => ?_)
      refine rg_at 0 (by decide) (fun oi hoi => ?_)
      have ho2 := hoi; simp only [List.getElem?_toArray, List.getElem?_cons_succ, List.getElem?_cons_zero, Option.some.injEq] at ho2; subst ho2
      refine rg_take (v := ?_) 0 hoi (by kernel_rfl) (by kernel_rfl) (by kernel_rfl) (fun _ _ _ h => h) (by rfl) ?_ hS ?_
      rotate_left
      · intro w _; go_simp; try with_reducible rfl
      clear hoi; try simp only [Act.put, List.setIfInBounds_toArray, List.set_cons_zero, List.set_cons_succ]
      refine rg_at 1 (by decide) (fun oi hoi => ?_)
      have ho2 := hoi; simp only [List.getElem?_toArray, List.getElem?_cons_succ, List.getElem?_cons_zero, Option.some.injEq] at ho2; subst ho2
      refine rg_take (v := ?_) 1 hoi (by kernel_rfl) (by kernel_rfl) (by kernel_rfl) (fun _ _ _ h => h) (by rfl) ?_ hS ?_
      rotate_left
      · intro w _; go_simp; try with_reducible rfl
      clear hoi; try simp only [Act.put, List.setIfInBounds_toArray, List.set_cons_zero, List.set_cons_succ]
      refine rg_at 2 (by decide) (fun oi hoi => ?_)
      have ho2 := hoi; simp only [List.getElem?_toArray, List.getElem?_cons_succ, List.getElem?_cons_zero, Option.some.injEq] at ho2; subst ho2
      refine rg_take (v := ?_) 2 hoi (by kernel_rfl) (by kernel_rfl) (by kernel_rfl) (fun _ _ _ h => h) (by rfl) ?_ hS ?_
      rotate_left
      · intro w _; go_simp; try with_reducible rfl
      clear hoi; try simp only [Act.put, List.setIfInBounds_toArray, List.set_cons_zero, List.set_cons_succ]
      refine rg_at 3 (by decide) (fun oi hoi => ?_)
      have ho2 := hoi; simp only [List.getElem?_toArray, List.getElem?_cons_succ, List.getElem?_cons_zero, Option.some.injEq] at ho2; subst ho2
      refine rg_take (v := ?_) 3 hoi (by kernel_rfl) (by kernel_rfl) (by kernel_rfl) (fun _ _ _ h => h) (by rfl) ?_ hS ?_
      rotate_left
      · intro w _; go_simp; try with_reducible rfl
      clear hoi; try simp only [Act.put, List.setIfInBounds_toArray, List.set_cons_zero, List.set_cons_succ]
      refine rg_at 4 (by decide) (fun oi hoi => ?_)
      have ho2 := hoi; simp only [List.getElem?_toArray, List.getElem?_cons_succ, List.getElem?_cons_zero, Option.some.injEq] at ho2; subst ho2
      refine rg_take (v := ?_) 4 hoi (by kernel_rfl) (by kernel_rfl) (by kernel_rfl) (fun _ _ _ h => h) (by rfl) ?_ hS ?_
      rotate_left
      · intro w hw; have hf := HC.out _ hw; clear hw; go_simp; try with_reducible rfl
      clear hoi; try simp only [Act.put, List.setIfInBounds_toArray, List.set_cons_zero, List.set_cons_succ]
      refine rg_at 6 (by decide) (fun oi hoi => ?_)
      have ho2 := hoi; simp only [List.getElem?_toArray, List.getElem?_cons_succ, List.getElem?_cons_zero, Option.some.injEq] at ho2; subst ho2
      refine rg_take (v := ?_) 6 hoi (by kernel_rfl) (by kernel_rfl) (by kernel_rfl) (fun _ _ _ h => h) (by rfl) ?_ hS ?_
      rotate_left
      · intro w _; go_simp; try with_reducible rfl
      clear hoi; try simp only [Act.put, List.setIfInBounds_toArray, List.set_cons_zero, List.set_cons_succ]
      refine rg_at 7 (by decide) (fun oi hoi => ?_)
      have ho2 := hoi; simp only [List.getElem?_toArray, List.getElem?_cons_succ, List.getElem?_cons_zero, Option.some.injEq] at ho2; subst ho2
      refine rg_take (v := ?_) 7 hoi (by kernel_rfl) (by kernel_rfl) (by kernel_rfl) (fun _ _ _ h => h) (by rfl) ?_ hS ?_
      rotate_left
      · intro w _; go_simp; try with_reducible rfl
      clear hoi; try simp only [Act.put, List.setIfInBounds_toArray, List.set_cons_zero, List.set_cons_succ]
      refine rg_at 8 (by decide) (fun oi hoi => ?_)
      have ho2 := hoi; simp only [List.getElem?_toArray, List.getElem?_cons_succ, List.getElem?_cons_zero, Option.some.injEq] at ho2; subst ho2
      refine rg_take (v := ?_) 8 hoi (by kernel_rfl) (by kernel_rfl) (by kernel_rfl) (fun _ _ _ h => h) (by rfl) ?_ hS ?_
      rotate_left
      · intro w _; go_simp; try with_reducible rfl
      clear hoi; try simp only [Act.put, List.setIfInBounds_toArray, List.set_cons_zero, List.set_cons_succ]
      refine rg_at 9 (by decide) (fun oi hoi => ?_)
      have ho2 := hoi; simp only [List.getElem?_toArray, List.getElem?_cons_succ, List.getElem?_cons_zero, Option.some.injEq] at ho2; subst ho2
      refine rg_take (v := ?_) 9 hoi (by kernel_rfl) (by kernel_rfl) (by kernel_rfl) (fun _ _ _ h => h) (by rfl) ?_ hS ?_
      rotate_left
      · intro w _; go_simp; try with_reducible rfl
      clear hoi; try simp only [Act.put, List.setIfInBounds_toArray, List.set_cons_zero, List.set_cons_succ]
      refine rg_at 10 (by decide) (fun oi hoi => ?_)
      have ho2 := hoi; simp only [List.getElem?_toArray, List.getElem?_cons_succ, List.getElem?_cons_zero, Option.some.injEq] at ho2; subst ho2
      refine rg_take (v := ?_) 10 hoi (by kernel_rfl) (by kernel_rfl) (by kernel_rfl) (fun _ _ _ h => h) (by rfl) ?_ hS ?_
      rotate_left
      · intro w hw; have hf := HC.out _ hw; clear hw; go_simp; try with_reducible rfl
      clear hoi; try simp only [Act.put, List.setIfInBounds_toArray, List.set_cons_zero, List.set_cons_succ]
      refine rg_at 5 (by decide) (fun oi hoi => ?_)
      have ho2 := hoi; simp only [List.getElem?_toArray, List.getElem?_cons_succ, List.getElem?_cons_zero, Option.some.injEq] at ho2; subst ho2
      refine rg_call 5 (by kernel_rfl) hoi (by rfl) (fun K hK => ?_)
      clear hoi
      go_simp
      refine Calls.mono (HS1.out _ hS) ?_
      rintro e w4 ⟨A4, c4, rfl, ho4, hu4⟩
      have hS4 := Upd.next hS hu4
      go_wp2_with (fail)
      refine hK.out _ _ ((by exact hS4)) (fun hS => ?_)
      clear hK K
      try simp only [Act.put, List.setIfInBounds_toArray, List.set_cons_zero, List.set_cons_succ]
      refine rg_at 11 (by decide) (fun oi hoi => ?_)
      have ho2 := hoi; simp only [List.getElem?_toArray, List.getElem?_cons_succ, List.getElem?_cons_zero, Option.some.injEq] at ho2; subst ho2
      refine rg_call 11 (by kernel_rfl) hoi (by rfl) (fun K hK => ?_)
      clear hoi
      go_simp
      refine Calls.mono (HS2.out _ hS) ?_
      rintro e w5 ⟨A5, c5, rfl, ho5, hu5⟩
      have hR4 : Rn w5 .u64 A4 l := Rd.upd (Rd.of_own ho4) (by omega) hu5 (fun _ _ => no_ _)
      have hR5 : Rn w5 .u64 A5 l := Rd.of_own ho5
      have hS5 := Upd.next hS hu5
      go_wp2_with (fail)
      refine hK.out _ _ ((by exact hS5)) (fun hS => ?_)
      clear hK K
      try simp only [Act.put, List.setIfInBounds_toArray, List.set_cons_zero, List.set_cons_succ]
      refine rg_at 12 (by decide) (fun oi hoi => ?_)
      have ho2 := hoi; simp only [List.getElem?_toArray, List.getElem?_cons_succ, List.getElem?_cons_zero, Option.some.injEq] at ho2; subst ho2
      refine rg_call 12 (by kernel_rfl) hoi (by rfl) (fun K hK => ?_)
      clear hoi
      go_simp
      have HSm := same13 (c := c4) (d := c5) hR4 hR5 (by omega) (by omega)
      simp only [decide_true] at HSm
      refine Calls.mono HSm ?_
      rintro e w6 ⟨rfl, hu6⟩
      have hS6 := Upd.next hS hu6
      go_wp2_with (fail)
      refine hK.out _ _ ((by exact hS6)) (fun hS => ?_)
      clear hK K
      try simp only [Act.put, List.setIfInBounds_toArray, List.set_cons_zero, List.set_cons_succ]
      refine rg_at 13 (by decide) (fun oi hoi => ?_)
      have ho2 := hoi; simp only [List.getElem?_toArray, List.getElem?_cons_succ, List.getElem?_cons_zero, Option.some.injEq] at ho2; subst ho2
      refine rg_take (v := ?_) 13 hoi (by kernel_rfl) (by kernel_rfl) (by kernel_rfl) (fun _ _ _ h => h) (by rfl) ?_ hS ?_
      rotate_left
      · intro w _; go_simp; try with_reducible rfl
      clear hoi; try simp only [Act.put, List.setIfInBounds_toArray, List.set_cons_zero, List.set_cons_succ]
      refine wpAnyH_done (by kernel_rfl) ?_ _
      go_wp2
      go_roundw
      case rel => exact ⟨j + 1, by omega, by go_num, hid hS⟩
      case measure => simp [intOf]; omega
    · obtain rfl : j = (ks x).length := by omega
      go_wp2
      go_ret
      exact ⟨rfl, HU3.out.next HU.out⟩
end Go.Proofs.Ytogijfgfcdmbnaa.Ww
