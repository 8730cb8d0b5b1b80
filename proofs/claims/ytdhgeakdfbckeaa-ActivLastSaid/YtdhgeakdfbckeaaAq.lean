/-
  The walk of ActivLast.
-/
import Derived.Test.YtdhgeakdfbckeaaAn
set_option linter.unusedVariables false
set_option linter.unusedSimpArgs false
namespace Go.Proofs.Ytdhgeakdfbckeaa.At
open Go.RowKit Go.Proofs.Ytdhgeakdfbckeaa Go.Proofs.Ytdhgeakdfbckeaa.B Go.Proofs.Ytdhgeakdfbckeaa.Df Go.Proofs.Ytdhgeakdfbckeaa.Op
theorem dd_take (l : List ByteArray) (j : Nat) (M : Nat) (h : (dd (l.take j)).length = M) : dd (l.take j) = (dd l).take M := by
  obtain ⟨s, hs⟩ := dd_prefix (l.take j) (l.drop j)
  rw [List.take_append_drop] at hs
  rw [← hs, ← h, List.take_left']
  rfl
theorem dd_hit {l : List ByteArray} {j : Nat} (hj : j < l.length) (h : hasK (dd (l.take j)) l[j] = true) : dd (l.take (j + 1)) = dd (l.take j) := by
  rw [List.take_succ_eq_append_getElem hj, dd_snoc, dstep, if_pos h]
theorem dd_new {l : List ByteArray} {j : Nat} (hj : j < l.length) (h : hasK (dd (l.take j)) l[j] = false) : dd (l.take (j + 1)) = dd (l.take j) ++ [l[j]] := by
  rw [List.take_succ_eq_append_getElem hj, dd_snoc, dstep, if_neg (by rw [h]; simp)]
set_option maxHeartbeats 4000000 in
set_option maxRecDepth 100000 in
theorem law_last (N : Nat) (A : Option Addr) (c : Nat) (xs : List ByteArray) (w : World) (hN : N ≤ 255) (hr : Rd w 1 A xs.length (strs xs)) (hl : xs.length ≤ maxLen) :
    Calls Try.prog 4 #[.int .u8 N, .slice A xs.length c] w fun e w' => e = .returned (.bool true) ∧ Below w.heap.size w w' := by
  simp only [maxLen] at hl
  by_cases h300 : 300 < xs.length
  · have h300' : (300 : Int) < (xs.length : Int) := by omega
    go_enter Try.func4, Try.ntmps4
    go_wp2_with (fail)
    refine Calls.mono (awake w) ?_
    rintro e w1 ⟨rfl, hb1⟩
    have HB1 := hid hb1
    clear hb1
    go_wp2_with (fail)
    refine Calls.mono (awake w1) ?_
    rintro e w2 ⟨rfl, hb2⟩
    have HB2 := hid (HB1.out.trans (hb2.mono HB1.out.size))
    clear hb2
    go_wp2
    go_ret
    exact ⟨rfl, HB2.out⟩
  have hx300 : ¬ (300 : Int) < (xs.length : Int) := by omega
  have hxn : xs.length ≤ 300 := by omega
  clear h300
  obtain ⟨M, hM⟩ : ∃ M : Nat, M = max N 1 := ⟨_, rfl⟩
  have hM1 : 1 ≤ M ∧ M ≤ 255 := by omega
  have HC1 := hid fun W (hb : Below w.heap.size w W) => new2 (N : Int) w W hb
  rw [clip_nat N (by omega), ← hM] at HC1
  have hmx : (if (N : Int) < 1 then 1 else (N : Int)) = (M : Int) := by split <;> omega
  have HMX := hid hmx
  clear hM hmx
  go_enter Try.func4, Try.ntmps4
  go_wp2_with (fail)
  refine Calls.mono (awake w) ?_
  rintro e w1 ⟨rfl, hb1⟩
  have HB1 := hid hb1
  clear hb1
  go_wp2_with (fail)
  refine Calls.mono (HC1.out w1 HB1.out) ?_
  rintro e w2 ⟨rfl, hO2, hu2⟩
  have HO2 := hid hO2
  clear hO2 hu2
  obtain ⟨p, hp⟩ : ∃ p, p = w1.heap.size := ⟨_, rfl⟩
  rw [← hp] at HO2 ⊢
  clear hp
  go_wp2_with (fail)
  go_loopw [24] (fun v24 W => ∃ (j : Nat) (F : Nat → Prop), j ≤ xs.length ∧ v24 = .int .i64 j ∧ Hid (On w W F p M (stk M (xs.take j)))) (fun v24 _ => xs.length - (intOf v24).toNat)
  case atStart => exact ⟨0, _, by omega, rfl, HO2⟩
  case round =>
    obtain ⟨j, F, hj, rfl, HO⟩ := hrel
    by_cases hlt : j < xs.length
    · obtain ⟨ad, rfl, hc⟩ := st_at hr hlt
      have hj2 : (j : Int) < (xs.length : Int) := by omega
      have HN1 : Hid ((touchX (stk M (xs.take j)) (M : Int) xs[j]).1 = stk M (xs.take (j + 1))) := hid (by rw [List.take_succ_eq_append_getElem hlt, stk_snoc])
      have y0 : wr.cell? (ad.add j) = some (.string xs[j]) := (HO.out.bel.cell (World.block_lt_of_cell? _ _ hc)).trans hc
      have hA := touch xs[j] HO.out.ta HO.out.le
      rw [mst_nat M (by omega)] at hA
      unfold TouchOut at hA
      rw [HN1.out] at hA
      have hl1 := stk_le M (by omega) (xs.take (j + 1))
      generalize (touchX (stk M (xs.take j)) (M : Int) xs[j]).2 = ra at *
      have HA := hid hA
      clear hA hc HN1
      go_wp2_with (fail)
      refine Calls.mono HA.out ?_
      rintro e w4 ⟨rfl, F4, hw4, hm4⟩
      have HO4 := hid (HO.out.moved hw4 hm4 (by omega))
      clear hw4 hm4 y0
      go_wp2
      go_roundw
      case rel => exact ⟨j + 1, F4, by omega, by go_num, HO4⟩
      case measure => simp [intOf]; omega
    · obtain rfl : j = xs.length := by omega
      rw [List.take_length] at HO
      have HRV := hid (stk_rev M (by omega) xs)
      generalize stk M xs = x at *
      obtain ⟨wo, hwo⟩ : ∃ wo : World, wo = wr := ⟨_, rfl⟩
      rw [← hwo] at HO ⊢
      clear hwo wr
      have hR := Rd.below hr (by omega) HO.out.bel
      obtain ⟨zs, hzs⟩ : ∃ zs, zs = xs.reverse := ⟨_, rfl⟩
      have HZ : Hid (∀ (t : Nat) (ht : t < xs.length) (h2 : xs.length - 1 - t < zs.length), zs[xs.length - 1 - t] = xs[t]) := hid fun t ht h2 => by
        subst hzs
        rw [List.getElem_reverse]
        congr 1
        omega
      have hzl : zs.length = xs.length := by rw [hzs]; simp
      rw [← hzs] at HRV
      have HZL := hid hzl
      have HR := hid hR
      clear hzs hzl hr hR
      go_wp2_with (fail)
      go_loopw [7, 8] (fun v7 v8 W => ∃ (i : Int) (j : Nat) (m : List ByteArray) (A' : Option Addr) (k' : Nat), v8 = .int .i64 i ∧ Hid (i = (xs.length : Int) - 1 - j) ∧ j ≤ xs.length ∧ -1 ≤ i ∧ i ≤ 300 ∧ v7 = .slice A' m.length k' ∧ Hid (m = dd (zs.take j)) ∧ m.length ≤ M ∧ Hid (W.ownsRow wo.heap.size 9 1 (.slice A' m.length k') m.length (strs m)) ∧ Hid (Upd No wo W)) (fun _ v8 _ => (intOf v8 + 1).toNat)
      case atStart => exact ⟨_, 0, [], none, 0, rfl, hid (by omega), by omega, by omega, by omega, rfl, hid (by simp [dd]), by simp, hid (World.ownsRow_nil _ _ _ _), hid (Upd.refl _ _)⟩
      case round =>
        obtain ⟨i, j, m, A', k', rfl, HI, hj, hi1, hi2, rfl, HM, hmM, HOw, HU⟩ := hrel
        have hbase := HU.out.size
        have hmr := Rd.of_own HOw.out
        by_cases hgo : 0 ≤ i ∧ m.length < M
        · obtain ⟨hi0, hm⟩ := hgo
          obtain ⟨t, rfl⟩ : ∃ t : Nat, i = t := ⟨i.toNat, by omega⟩
          have hI := HI.out
          have htl : t < xs.length := by omega
          have hjl : j < zs.length := by have := HZL.out; omega
          obtain ⟨ad, rfl, hc⟩ := st_at (HR.out.upd (by omega) HU.out (fun _ _ => no_ _)) htl
          have hzt : zs[j] = xs[t] := by
            have := HZ.out t htl (by have := HZL.out; omega)
            rw [← this]
            congr 1
            omega
          have hj2 : (t : Int) < (xs.length : Int) := by omega
          have hmI : (m.length : Int) < (M : Int) := by omega
          have HN : Hid (∀ b, hasK m zs[j] = b → (b = true → m = dd (zs.take (j + 1))) ∧ (b = false → m ++ [zs[j]] = dd (zs.take (j + 1)))) := hid fun b hb => ⟨fun h => by
            rw [HM.out] at hb ⊢
            rw [dd_hit hjl (hb.trans h)], fun h => by
            rw [HM.out] at hb ⊢
            rw [dd_new hjl (hb.trans h)]⟩
          have hH := lhas (c := k') xs[t] hmr (by omega)
          have e9 := HMX.out
          rw [hzt] at HN
          clear hI hzt
          generalize xs[t] = y at *
          rcases hb : hasK m y with _ | _
          · have HN2 := hid ((HN.out false hb).2 rfl)
            rw [hb] at hH
            have HH := hid hH
            clear hH hb HN
            go_wp2_with (fail)
            refine Calls.mono HH.out ?_
            rintro e w' ⟨rfl, rfl⟩
            go_wp2_with (at_builtin; go_must (refine ap_one rfl (.tmp 56) (.tmp 61) 28 9 (.string ⟨#[]⟩) 16 rfl Try.underlying28 s_info rfl (.slice A' m.length k') m.length (strs m) (.string y) rfl rfl (Blk.fresh _ _ _) rfl (HOw.out.alloc _) (by omega) (by omega) ?_ (by simp; omega)); intro g4 k4 w4 ho4 hg4 hat4)
            have hu4 : Upd No wo w4 := (HU.out.alloc _).grown hg4 fun k hk => .inr (HOw.out.lt k hk).1
            have HO4 := hid ho4
            have HU4 := hid hu4
            clear ho4 hu4 hg4 hat4
            go_wp2
            go_roundw
            case rel => exact ⟨_, j + 1, m ++ [y], _, _, rfl, hid (by have := HI.out; omega), by have := HZL.out; omega, by omega, by omega, by rw [List.length_append]; rfl, HN2, by simp; omega, hid (by rw [List.length_append, strs_append]; exact HO4.out), HU4⟩
            case measure => simp [intOf]
          · have HN2 := hid ((HN.out true hb).1 rfl)
            rw [hb] at hH
            have HH := hid hH
            clear hH hb HN
            go_wp2_with (fail)
            refine Calls.mono HH.out ?_
            rintro e w' ⟨rfl, rfl⟩
            go_wp2
            go_roundw
            case rel => exact ⟨_, j + 1, m, A', k', rfl, hid (by have := HI.out; omega), by have := HZL.out; omega, by omega, by omega, rfl, HN2, by omega, HOw, HU⟩
            case measure => simp [intOf]
        · have HEx : Hid (m = x.reverse) := hid (by
            rw [HRV.out, HM.out]
            by_cases hi0 : 0 ≤ i
            · exact dd_take zs j M (by rw [← HM.out]; omega)
            · have h1 := HI.out
              have h2 := HZL.out
              rw [List.take_of_length_le (show zs.length ≤ j from by omega)]
              rw [HM.out, List.take_of_length_le (show zs.length ≤ j from by omega)] at hmM
              rw [List.take_of_length_le hmM])
          have hcase : (i < 0) ∨ (0 ≤ i ∧ M ≤ m.length) := by omega
          clear hgo
          have HL := hid fun W (hu : Upd No wo W) => list_ (HO.out.quiet hu).ta (by have := HO.out.le; omega)
          rcases hcase with hi0 | ⟨hi0, hm⟩
          case' inl =>
            have n1 : ¬ (0 ≤ i) := by omega
            clear hi0
            go_wp2_with (fail)
          case' inr =>
            have hmI : ¬ (m.length : Int) < (M : Int) := by omega
            have e9 := HMX.out
            clear hm
            go_wp2_with (fail)
            clear e9
          all_goals
            have hxl : x.length = m.length := by rw [HEx.out]; simp
            have HXL := hid hxl
            have HOwr := hid (HO.out.quiet HU.out)
            clear hxl HL
            go_wp2_with (fail)
            refine Calls.mono (list_ HOwr.out.ta (by have := HOwr.out.le; omega)) ?_
            rintro e w4 ⟨A4, c4, rfl, ho4, hu4⟩
            have HO4 := hid (HOwr.out.quiet hu4)
            have hRl := Rd.of_own ho4
            have HRm := hid (hmr.upd (by omega) hu4 (fun _ _ => no_ _))
            rw [HXL.out] at hRl ⊢
            have HRl := hid hRl
            have hm400 : m.length ≤ 400 := by omega
            clear ho4 hu4 hRl hmr
            obtain ⟨wq, hwq⟩ : ∃ wq : World, wq = wr := ⟨_, rfl⟩
            go_wp2_with (fail)
            clear hwq
            go_loopw [72] (fun v72 W => ∃ (j : Nat), j ≤ m.length ∧ v72 = .int .i64 j ∧ Hid (Upd No w4 W)) (fun v72 _ => m.length - (intOf v72).toNat)
            case atStart => exact ⟨0, by omega, rfl, hid (Upd.refl _ _)⟩
            case round =>
              obtain ⟨j', hj', rfl, HU4⟩ := hrel
              by_cases hlt : j' < m.length
              · obtain ⟨t, ht⟩ : ∃ t : Nat, t = m.length - 1 - j' := ⟨_, rfl⟩
                obtain ⟨ad, rfl, hc⟩ := st_at HRm.out hlt
                have hRl2 : Rd w4 1 A4 x.length (strs x) := by rw [HXL.out]; exact HRl.out
                have htx : t < x.length := by rw [HXL.out]; omega
                obtain ⟨bd, rfl, hc2⟩ := st_at hRl2 htx
                have hxy : x[t] = m[j'] := by
                  have h1 : m[j'] = x.reverse[j']'(by rw [← HEx.out]; exact hlt) := by first | (congr 1; exact HEx.out) | congr 1
                  rw [h1, List.getElem_reverse]
                  congr 1
                  rw [HXL.out, ht]
                have hmem : hasK x m[j'] = true := (hasK_iff _ _).2 (by rw [← hxy]; exact List.getElem_mem htx)
                rw [hxy] at hc2
                have hca := World.block_lt_of_cell? _ _ hc
                have hcb := World.block_lt_of_cell? _ _ hc2
                have hHas := fun W (hu : Upd No w4 W) => has_ m[j'] (HO4.out.quiet hu).ta
                rw [hmem] at hHas
                generalize m[j'] = y at *
                have HC : Hid (∀ W, Upd No w4 W → W.cell? (ad.add j') = some (.string y) ∧ W.cell? (bd.add t) = some (.string y)) := hid fun W hu => ⟨(hu.cell hca (no_ _)).trans hc, (hu.cell hcb (no_ _)).trans hc2⟩
                have HHas := hid hHas
                have e3 : IntKind.i64.wrap ((m.length : Int) - 1) = (m.length : Int) - 1 := IntWalk.i64_in _ (by omega)
                have e5 : IntKind.i64.wrap ((m.length : Int) - 1 - (j' : Int)) = (t : Int) := by
                  rw [IntWalk.i64_in _ (by omega)]
                  omega
                have hj1 : (0 : Int) ≤ (j' : Int) := by omega
                have hj2 : (j' : Int) < (m.length : Int) := by omega
                have ht1 : (0 : Int) ≤ (t : Int) := by omega
                have ht2 : (t : Int) < (m.length : Int) := by omega
                clear hxy hmem hc hc2 hca hcb hHas htx hRl2 ht
                go_wp2_with (fail)
                refine wp_region_held_drew (S := fun W => Upd No w4 W) (by kernel_rfl) HU4.out.drew (fun hS => ?_)
                refine rg_at 0 (by decide) (fun oi hoi => ?_)
                have ho2 := hoi; simp only [List.getElem?_toArray, List.getElem?_cons_succ, List.getElem?_cons_zero, Option.some.injEq] at ho2; subst ho2
                refine rg_take (v := ?_) 0 hoi (by kernel_rfl) (by kernel_rfl) (by kernel_rfl) (fun _ _ _ h => h) (by rfl) ?_ hS ?_
                rotate_left
                · intro w _; go_simp; try with_reducible rfl
                clear hoi; try simp only [Act.put, List.setIfInBounds_toArray, List.set_cons_zero, List.set_cons_succ]
                refine rg_at 1 (by decide) (fun oi hoi => ?_)
                have ho2 := hoi; simp only [List.getElem?_toArray, List.getElem?_cons_succ, List.getElem?_cons_zero, Option.some.injEq] at ho2; subst ho2
                refine rg_take (v := ?_) 1 hoi (by kernel_rfl) (by kernel_rfl) (by kernel_rfl) (fun _ _ _ h => h) (by rfl) ?_ hS ?_
                rotate_left
                · intro w _; go_simp; try with_reducible rfl
                clear hoi; try simp only [Act.put, List.setIfInBounds_toArray, List.set_cons_zero, List.set_cons_succ]
                refine rg_at 2 (by decide) (fun oi hoi => ?_)
                have ho2 := hoi; simp only [List.getElem?_toArray, List.getElem?_cons_succ, List.getElem?_cons_zero, Option.some.injEq] at ho2; subst ho2
                refine rg_take (v := ?_) 2 hoi (by kernel_rfl) (by kernel_rfl) (by kernel_rfl) (fun _ _ _ h => h) (by rfl) ?_ hS ?_
                rotate_left
                · intro w _; go_simp; try with_reducible rfl
                clear hoi; try simp only [Act.put, List.setIfInBounds_toArray, List.set_cons_zero, List.set_cons_succ]
                refine rg_at 3 (by decide) (fun oi hoi => ?_)
                have ho2 := hoi; simp only [List.getElem?_toArray, List.getElem?_cons_succ, List.getElem?_cons_zero, Option.some.injEq] at ho2; subst ho2
                refine rg_take (v := ?_) 3 hoi (by kernel_rfl) (by kernel_rfl) (by kernel_rfl) (fun _ _ _ h => h) (by rfl) ?_ hS ?_
                rotate_left
                · intro w _; go_simp; try with_reducible rfl
                clear hoi; try simp only [Act.put, List.setIfInBounds_toArray, List.set_cons_zero, List.set_cons_succ]
                refine rg_at 4 (by decide) (fun oi hoi => ?_)
                have ho2 := hoi; simp only [List.getElem?_toArray, List.getElem?_cons_succ, List.getElem?_cons_zero, Option.some.injEq] at ho2; subst ho2
                refine rg_take (v := ?_) 4 hoi (by kernel_rfl) (by kernel_rfl) (by kernel_rfl) (fun _ _ _ h => h) (by rfl) ?_ hS ?_
                rotate_left
                · intro w _; go_simp; try with_reducible rfl
                clear hoi; try simp only [Act.put, List.setIfInBounds_toArray, List.set_cons_zero, List.set_cons_succ]
                refine rg_at 5 (by decide) (fun oi hoi => ?_)
                have ho2 := hoi; simp only [List.getElem?_toArray, List.getElem?_cons_succ, List.getElem?_cons_zero, Option.some.injEq] at ho2; subst ho2
                refine rg_take (v := ?_) 5 hoi (by kernel_rfl) (by kernel_rfl) (by kernel_rfl) (fun _ _ _ h => h) (by rfl) ?_ hS ?_
                rotate_left
                · intro w _; go_simp; try with_reducible rfl
                clear hoi; try simp only [Act.put, List.setIfInBounds_toArray, List.set_cons_zero, List.set_cons_succ]
                refine rg_at 6 (by decide) (fun oi hoi => ?_)
                have ho2 := hoi; simp only [List.getElem?_toArray, List.getElem?_cons_succ, List.getElem?_cons_zero, Option.some.injEq] at ho2; subst ho2
                refine rg_take (v := ?_) 6 hoi (by kernel_rfl) (by kernel_rfl) (by kernel_rfl) (fun _ _ _ h => h) (by rfl) ?_ hS ?_
                rotate_left
                · intro w _; go_simp; try with_reducible rfl
                clear hoi; try simp only [Act.put, List.setIfInBounds_toArray, List.set_cons_zero, List.set_cons_succ]
                refine rg_at 7 (by decide) (fun oi hoi => ?_)
                have ho2 := hoi; simp only [List.getElem?_toArray, List.getElem?_cons_succ, List.getElem?_cons_zero, Option.some.injEq] at ho2; subst ho2
                refine rg_take (v := ?_) 7 hoi (by kernel_rfl) (by kernel_rfl) (by kernel_rfl) (fun _ _ _ h => h) (by rfl) ?_ hS ?_
                rotate_left
                · intro w hw; have hf := (HC.out _ hw).2; clear hw; go_simp; try with_reducible rfl
                clear hoi; try simp only [Act.put, List.setIfInBounds_toArray, List.set_cons_zero, List.set_cons_succ]
                refine rg_at 8 (by decide) (fun oi hoi => ?_)
                have ho2 := hoi; simp only [List.getElem?_toArray, List.getElem?_cons_succ, List.getElem?_cons_zero, Option.some.injEq] at ho2; subst ho2
                refine rg_take (v := ?_) 8 hoi (by kernel_rfl) (by kernel_rfl) (by kernel_rfl) (fun _ _ _ h => h) (by rfl) ?_ hS ?_
                rotate_left
                · intro w _; go_simp; try with_reducible rfl
                clear hoi; try simp only [Act.put, List.setIfInBounds_toArray, List.set_cons_zero, List.set_cons_succ]
                refine rg_at 9 (by decide) (fun oi hoi => ?_)
                have ho2 := hoi; simp only [List.getElem?_toArray, List.getElem?_cons_succ, List.getElem?_cons_zero, Option.some.injEq] at ho2; subst ho2
                refine rg_take (v := ?_) 9 hoi (by kernel_rfl) (by kernel_rfl) (by kernel_rfl) (fun _ _ _ h => h) (by rfl) ?_ hS ?_
                rotate_left
                · intro w _; go_simp; try with_reducible rfl
                clear hoi; try simp only [Act.put, List.setIfInBounds_toArray, List.set_cons_zero, List.set_cons_succ]
                refine rg_at 10 (by decide) (fun oi hoi => ?_)
                have ho2 := hoi; simp only [List.getElem?_toArray, List.getElem?_cons_succ, List.getElem?_cons_zero, Option.some.injEq] at ho2; subst ho2
                refine rg_take (v := ?_) 10 hoi (by kernel_rfl) (by kernel_rfl) (by kernel_rfl) (fun _ _ _ h => h) (by rfl) ?_ hS ?_
                rotate_left
                · intro w _; go_simp; try with_reducible rfl
                clear hoi; try simp only [Act.put, List.setIfInBounds_toArray, List.set_cons_zero, List.set_cons_succ]
                refine rg_at 11 (by decide) (fun oi hoi => ?_)
                have ho2 := hoi; simp only [List.getElem?_toArray, List.getElem?_cons_succ, List.getElem?_cons_zero, Option.some.injEq] at ho2; subst ho2
                refine rg_take (v := ?_) 11 hoi (by kernel_rfl) (by kernel_rfl) (by kernel_rfl) (fun _ _ _ h => h) (by rfl) ?_ hS ?_
                rotate_left
                · intro w hw; have hf := (HC.out _ hw).1; clear hw; go_simp; try with_reducible rfl
                clear hoi; try simp only [Act.put, List.setIfInBounds_toArray, List.set_cons_zero, List.set_cons_succ]
                refine rg_at 12 (by decide) (fun oi hoi => ?_)
                have ho2 := hoi; simp only [List.getElem?_toArray, List.getElem?_cons_succ, List.getElem?_cons_zero, Option.some.injEq] at ho2; subst ho2
                refine rg_take (v := ?_) 12 hoi (by kernel_rfl) (by kernel_rfl) (by kernel_rfl) (fun _ _ _ h => h) (by rfl) ?_ hS ?_
                rotate_left
                · intro w _; go_simp; try with_reducible rfl
                clear hoi; try simp only [Act.put, List.setIfInBounds_toArray, List.set_cons_zero, List.set_cons_succ]
                refine rg_at 13 (by decide) (fun oi hoi => ?_)
                have ho2 := hoi; simp only [List.getElem?_toArray, List.getElem?_cons_succ, List.getElem?_cons_zero, Option.some.injEq] at ho2; subst ho2
                refine rg_take (v := ?_) 13 hoi (by kernel_rfl) (by kernel_rfl) (by kernel_rfl) (fun _ _ _ h => h) (by rfl) ?_ hS ?_
                rotate_left
                · intro w _; go_simp; try with_reducible rfl
                clear hoi; try simp only [Act.put, List.setIfInBounds_toArray, List.set_cons_zero, List.set_cons_succ]
                refine rg_at 14 (by decide) (fun oi hoi => ?_)
                have ho2 := hoi; simp only [List.getElem?_toArray, List.getElem?_cons_succ, List.getElem?_cons_zero, Option.some.injEq] at ho2; subst ho2
                refine rg_take (v := ?_) 14 hoi (by kernel_rfl) (by kernel_rfl) (by kernel_rfl) (fun _ _ _ h => h) (by rfl) ?_ hS ?_
                rotate_left
                · intro w _; go_simp; try with_reducible rfl
                clear hoi; try simp only [Act.put, List.setIfInBounds_toArray, List.set_cons_zero, List.set_cons_succ]
                refine rg_at 15 (by decide) (fun oi hoi => ?_)
                have ho2 := hoi; simp only [List.getElem?_toArray, List.getElem?_cons_succ, List.getElem?_cons_zero, Option.some.injEq] at ho2; subst ho2
                refine rg_take (v := ?_) 15 hoi (by kernel_rfl) (by kernel_rfl) (by kernel_rfl) (fun _ _ _ h => h) (by rfl) ?_ hS ?_
                rotate_left
                · intro w _; go_simp; try with_reducible rfl
                clear hoi; try simp only [Act.put, List.setIfInBounds_toArray, List.set_cons_zero, List.set_cons_succ]
                refine rg_at 16 (by decide) (fun oi hoi => ?_)
                have ho2 := hoi; simp only [List.getElem?_toArray, List.getElem?_cons_succ, List.getElem?_cons_zero, Option.some.injEq] at ho2; subst ho2
                refine rg_take (v := ?_) 16 hoi (by kernel_rfl) (by kernel_rfl) (by kernel_rfl) (fun _ _ _ h => h) (by rfl) ?_ hS ?_
                rotate_left
                · intro w _; go_simp; try with_reducible rfl
                clear hoi; try simp only [Act.put, List.setIfInBounds_toArray, List.set_cons_zero, List.set_cons_succ]
                refine rg_at 17 (by decide) (fun oi hoi => ?_)
                have ho2 := hoi; simp only [List.getElem?_toArray, List.getElem?_cons_succ, List.getElem?_cons_zero, Option.some.injEq] at ho2; subst ho2
                refine rg_take (v := ?_) 17 hoi (by kernel_rfl) (by kernel_rfl) (by kernel_rfl) (fun _ _ _ h => h) (by rfl) ?_ hS ?_
                rotate_left
                · intro w _; go_simp; try with_reducible rfl
                clear hoi; try simp only [Act.put, List.setIfInBounds_toArray, List.set_cons_zero, List.set_cons_succ]
                refine rg_at 18 (by decide) (fun oi hoi => ?_)
                have ho2 := hoi; simp only [List.getElem?_toArray, List.getElem?_cons_succ, List.getElem?_cons_zero, Option.some.injEq] at ho2; subst ho2
                refine rg_take (v := ?_) 18 hoi (by kernel_rfl) (by kernel_rfl) (by kernel_rfl) (fun _ _ _ h => h) (by rfl) ?_ hS ?_
                rotate_left
                · intro w hw; have hf := (HC.out _ hw).1; clear hw; go_simp; try with_reducible rfl
                clear hoi; try simp only [Act.put, List.setIfInBounds_toArray, List.set_cons_zero, List.set_cons_succ]
                refine rg_at 19 (by decide) (fun oi hoi => ?_)
                have ho2 := hoi; simp only [List.getElem?_toArray, List.getElem?_cons_succ, List.getElem?_cons_zero, Option.some.injEq] at ho2; subst ho2
                refine rg_call 19 (by kernel_rfl) hoi (by rfl) (fun K hK => ?_)
                clear hoi
                go_simp
                refine Calls.mono (HHas.out _ hS) ?_
                rintro e w' ⟨rfl, rfl⟩
                go_wp2_with (fail)
                refine hK.out _ _ ((by exact hS)) (fun hS => ?_)
                clear hK K
                try simp only [Act.put, List.setIfInBounds_toArray, List.set_cons_zero, List.set_cons_succ]
                refine rg_at 20 (by decide) (fun oi hoi => ?_)
                have ho2 := hoi; simp only [List.getElem?_toArray, List.getElem?_cons_succ, List.getElem?_cons_zero, Option.some.injEq] at ho2; subst ho2
                refine rg_take (v := ?_) 20 hoi (by kernel_rfl) (by kernel_rfl) (by kernel_rfl) (fun _ _ _ h => h) (by rfl) ?_ hS ?_
                rotate_left
                · intro w _; go_simp; try with_reducible rfl
                clear hoi; try simp only [Act.put, List.setIfInBounds_toArray, List.set_cons_zero, List.set_cons_succ]
                refine rg_at 21 (by decide) (fun oi hoi => ?_)
                have ho2 := hoi; simp only [List.getElem?_toArray, List.getElem?_cons_succ, List.getElem?_cons_zero, Option.some.injEq] at ho2; subst ho2
                refine rg_take (v := ?_) 21 hoi (by kernel_rfl) (by kernel_rfl) (by kernel_rfl) (fun _ _ _ h => h) (by rfl) ?_ hS ?_
                rotate_left
                · intro w _; go_simp; try with_reducible rfl
                clear hoi; try simp only [Act.put, List.setIfInBounds_toArray, List.set_cons_zero, List.set_cons_succ]
                refine wpAnyH_done (by kernel_rfl) ?_ _
                clear e3 e5
                go_wp2
                go_roundw
                case rel => exact ⟨j' + 1, by omega, by go_num, hid hS⟩
                case measure => simp [intOf]; omega
              · obtain rfl : j' = m.length := by omega
                have HE := hid (HO4.out.quiet HU4.out).bel
                go_wp2
                go_ret
                exact ⟨rfl, HE.out⟩
theorem last (n : Int) (A : Option Addr) (c : Nat) (xs : List ByteArray) (w : World) (hn : 0 ≤ n ∧ n ≤ 255) (hr : Rd w 1 A xs.length (strs xs)) (hl : xs.length ≤ maxLen) :
    Calls Try.prog 4 #[.int .u8 n, .slice A xs.length c] w fun e w' => e = .returned (.bool true) ∧ Below w.heap.size w w' := by
  obtain ⟨N, rfl⟩ : ∃ N : Nat, n = N := ⟨n.toNat, by omega⟩
  exact law_last N A c xs w (by omega) hr hl
end Go.Proofs.Ytdhgeakdfbckeaa.At
