/-
  The walks of WindowMany and WindowNil.
-/
import Derived.Test.YtogijfgfcdmbnaaWo
set_option linter.unusedVariables false
set_option linter.unusedSimpArgs false
namespace Go.Proofs.Ytogijfgfcdmbnaa.Ww
open Go.RowKit Go.Proofs.Ytogijfgfcdmbnaa Go.Proofs.Ytogijfgfcdmbnaa.B Go.Proofs.Ytogijfgfcdmbnaa.Df Go.Proofs.Ytogijfgfcdmbnaa.Ws Go.Proofs.Ytogijfgfcdmbnaa.Mp Go.Proofs.Ytogijfgfcdmbnaa.Wp
def ent (i : Nat) : Int × List Int := ((i : Int), [7])
def mn (j : Nat) : St := ((List.range j).map ent).drop (j - 64)
theorem mn_len (j : Nat) : (mn j).length = min j 64 := by simp [mn]; omega
theorem mn_mem (j : Nat) (e : Int × List Int) : e ∈ mn j ↔ ∃ i, i < j ∧ j - 64 ≤ i ∧ e = ent i := by
  unfold mn
  rw [List.mem_drop_iff_getElem]
  simp only [List.getElem_map, List.getElem_range, List.length_map, List.length_range]
  constructor
  · rintro ⟨k, hk, e⟩
    exact ⟨j - 64 + k, by omega, by omega, e.symm⟩
  · rintro ⟨i, h1, h2, e⟩
    exact ⟨i - (j - 64), by omega, by rw [e]; congr 1; omega⟩
theorem mn_nd (j : Nat) : ((mn j).map (·.1)).Nodup := by
  unfold mn
  refine List.Nodup.sublist ((List.drop_sublist _ _).map _) ?_
  rw [List.map_map]
  exact List.Pairwise.map _ (fun a b (h : a ≠ b) => by simp [ent]; omega) List.nodup_range
theorem sr_in {x : St} (hn : (x.map (·.1)).Nodup) {e : Int × List Int} (he : e ∈ x) : sr x e.1 = e.2 := by
  induction x with
  | nil => cases he
  | cons a r ih =>
    simp only [List.map_cons, List.nodup_cons] at hn
    rw [sr_cons]
    rcases List.mem_cons.1 he with rfl | he
    · rw [if_pos rfl]
    · rw [if_neg fun (h : a.1 = e.1) => hn.1 (by rw [h]; exact List.mem_map_of_mem (f := (·.1)) he)]
      exact ih hn.2 he
theorem mn_out (j : Nat) (c : Int) (h : ¬ ((j : Int) - 64 ≤ c ∧ 0 ≤ c ∧ c < j)) : sr (mn j) c = [] :=
  sr_none _ _ fun e he hc => by
    obtain ⟨i, h1, h2, rfl⟩ := (mn_mem j e).1 he
    simp only [ent] at hc
    omega
theorem mn_in (j i : Nat) (h1 : i < j) (h2 : j - 64 ≤ i) : sr (mn j) i = [7] := sr_in (mn_nd j) ((mn_mem j (ent i)).2 ⟨i, h1, h2, rfl⟩)
theorem rest_self {x : St} {c : Int} (h : ∀ e ∈ x, e.1 ≠ c) : rest x c = x := by
  unfold rest
  rw [List.filter_eq_self]
  intro e he
  simpa using h e he
theorem mn_add (j : Nat) : addX (mn j) j 7 = (true, mn (j + 1)) := by
  have h0 : sr (mn j) j = [] := mn_out j j (by omega)
  have h1 : rest (mn j) j = mn j := rest_self fun e he hc => by
    obtain ⟨i, h1, h2, rfl⟩ := (mn_mem j e).1 he
    simp only [ent] at hc
    omega
  have h2 : laid (mn j) j 7 = ((List.range (j + 1)).map ent).drop (j - 64) := by
    unfold laid
    rw [h0, h1, List.range_succ, List.map_append, List.drop_append_of_le_length (by simp)]
    rfl
  have h3 : (laid (mn j) j 7).length = min j 64 + 1 := by simp only [laid, h1, List.length_append, mn_len, List.length_singleton]
  unfold addX
  rw [h0, if_neg (by simp), cut64, h3]
  congr 1
  rw [h2]
  unfold mn
  split
  · rw [List.drop_drop]; congr 1; omega
  · congr 1; omega
theorem filter_one_less {k : Int} : ∀ {l : List Int}, l.Nodup → k ∈ l → (l.filter fun y => !decide (y = k)).length + 1 = l.length
  | [], _, h => by cases h
  | a :: r, hn, h => by
    simp only [List.nodup_cons] at hn
    rw [List.filter_cons]
    by_cases ha : a = k
    · subst ha
      rw [if_neg (by simp), List.filter_eq_self.2 fun y hy => by simp only [Bool.not_eq_true', decide_eq_false_iff_not]; exact fun e => hn.1 (e ▸ hy)]
      rfl
    · rw [if_pos (by simpa using ha)]
      have := filter_one_less hn.2 ((List.mem_cons.1 h).resolve_left fun e => ha e.symm)
      simp only [List.length_cons]
      omega
theorem mn_key (j k : Nat) : (k : Int) ∈ (mn j).map (·.1) ↔ k < j ∧ j - 64 ≤ k := by
  rw [List.mem_map]
  constructor
  · rintro ⟨e, he, h⟩
    obtain ⟨i, h1, h2, rfl⟩ := (mn_mem j e).1 he
    simp only [ent] at h
    omega
  · rintro ⟨h1, h2⟩
    exact ⟨ent k, (mn_mem j _).2 ⟨k, h1, h2, rfl⟩, rfl⟩
theorem laid_len (N k : Nat) (s : Int) : (laid (mn N) k s).length = if k < N ∧ N - 64 ≤ k then min N 64 else min N 64 + 1 := by
  have h := laid_keys (mn N) k s
  have h1 := congrArg List.length h
  rw [List.length_map] at h1
  rw [h1, List.length_append, List.length_singleton]
  split
  · rename_i hk
    have := filter_one_less (mn_nd N) ((mn_key N k).2 hk)
    rw [List.length_map, mn_len] at this
    omega
  · rename_i hk
    rw [List.filter_eq_self.2 fun y hy => by
      simp only [Bool.not_eq_true', decide_eq_false_iff_not]
      rintro rfl
      exact hk ((mn_key N k).1 hy), List.length_map, mn_len]
theorem cut4_last (l : List Int) (s : Int) : s ∈ cut4 (l ++ [s]) := by
  unfold cut4
  rw [List.mem_drop_iff_getElem]
  refine ⟨l.length - ((l ++ [s]).length - 4), by simp, ?_⟩
  simp only [List.length_append, List.length_singleton]
  rw [List.getElem_append_right (by omega)]
  simp
/-- What is there behind N adds of 7 and one of 8 at k. -/
def zz (N k : Nat) : St := cut64 (laid (mn N) k 8)
def tot (N k : Nat) : Nat := if k = N then N + 1 else N
theorem zz_add (N k : Nat) (hk : k ≤ N) : addX (mn N) k 8 = (true, zz N k) := by
  unfold addX
  rw [if_neg]
  · rfl
  · by_cases h : k < N ∧ N - 64 ≤ k
    · rw [mn_in N k h.1 h.2]; simp
    · rw [mn_out N k (by omega)]; simp
theorem zz_len (N k : Nat) (hk : k ≤ N) : (zz N k).length = min (tot N k) 64 := by
  have h := laid_len N k 8
  unfold zz cut64 tot
  by_cases h1 : k < N ∧ N - 64 ≤ k
  · rw [if_pos h1] at h
    rw [if_neg (by omega), h, if_neg (by omega)]
  · rw [if_neg h1] at h
    by_cases h2 : k = N
    · rw [if_pos h2]
      split
      · rw [List.length_drop, h]; omega
      · rw [h]; omega
    · rw [if_neg h2, if_pos (by omega), List.length_drop, h]; omega
theorem zz_last (N k : Nat) : (ks (zz N k)).getLast? = some (k : Int) := by
  have h : (ks (laid (mn N) k 8)).getLast? = some (k : Int) := by
    rw [show ks (laid (mn N) k 8) = _ from laid_keys (mn N) k 8]
    simp
  unfold zz cut64
  split
  · rw [ks, List.map_drop, List.getLast?_drop, if_neg (by rw [List.length_map]; omega)]
    exact h
  · exact h
theorem zz_seen (N k : Nat) : (8 : Int) ∈ sr (zz N k) k := by
  have h0 : (8 : Int) ∈ sr (laid (mn N) k 8) k := by
    rw [sr_laid, if_pos rfl]
    exact cut4_last _ _
  unfold zz cut64
  split
  · rename_i h64
    rcases hl : laid (mn N) k 8 with _ | ⟨e, r⟩
    · rw [hl] at h64; simp at h64
    · rw [hl] at h0 h64
      have hne : e.1 ≠ (k : Int) := by
        have he : e ∈ rest (mn N) k := by
          unfold laid at hl
          rcases hr : rest (mn N) k with _ | ⟨a, b⟩
          · rw [hr] at hl
            simp at hl
            rw [hl.2] at h64
            simp at h64
          · rw [hr] at hl
            simp at hl
            rw [← hl.1]
            simp
        exact rest_ne e he
      rw [sr_cons, if_neg hne] at h0
      exact h0
  · exact h0
theorem zz_zero (N k : Nat) (hN : 1 ≤ N) (h64 : N ≤ 64) (hk : k ≠ 0) (hkN : k ≤ N) : decide ((7 : Int) ∈ sr (zz N k) 0) = decide (tot N k ≤ 64) := by
  have h0 : sr (laid (mn N) k 8) 0 = [7] := by
    rw [sr_laid, if_neg (by omega)]
    exact mn_in N 0 (by omega) (by omega)
  have hl := laid_len N k 8
  by_cases ht : tot N k ≤ 64
  · rw [decide_eq_true ht]
    have : ¬ 64 < (laid (mn N) k 8).length := by
      rw [hl]
      unfold tot at ht
      split <;> split at ht <;> omega
    rw [zz, cut64, if_neg this, h0]
    rfl
  · rw [decide_eq_false ht]
    have hkN' : k = N ∧ N = 64 := by
      unfold tot at ht
      split at ht <;> omega
    obtain ⟨rfl, rfl⟩ := hkN'
    rw [zz, cut64, if_pos (by rw [hl]; decide)]
    have hr : rest (mn 64) 64 = mn 64 := rest_self fun e he hc => by
      obtain ⟨i, h1, h2, rfl⟩ := (mn_mem 64 e).1 he
      simp only [ent] at hc
      omega
    have hsr : sr ((laid (mn 64) 64 8).drop 1) 0 = [] := by
      refine sr_none _ _ fun e he hc => ?_
      unfold laid at he
      rw [hr] at he
      rw [List.drop_append_of_le_length (by rw [mn_len]; omega)] at he
      rcases List.mem_append.1 he with he | he
      · rw [mn, List.drop_drop, List.mem_drop_iff_getElem] at he
        obtain ⟨i, hi, rfl⟩ := he
        simp [ent] at hc
        omega
      · obtain rfl := List.mem_singleton.1 he
        simp at hc
    rw [show (((64 : Nat) : Int)) = 64 from rfl] at *
    rw [hsr]
    rfl
set_option maxHeartbeats 2000000 in
theorem law_many (N M : Nat) (w : World) (hN : N ≤ 255) (hM : M ≤ 255) :
    Calls Try.prog 6 #[.int .u8 N, .int .u8 M] w fun e w' => e = .returned (.bool true) ∧ Below w.heap.size w w' := by
  have k8 : Wp.Key 8 := ⟨by omega, by omega⟩
  have k7 : Wp.Key 7 := ⟨by omega, by omega⟩
  obtain ⟨k, hk⟩ : ∃ k : Nat, k = M % (N + 1) := ⟨_, rfl⟩
  have hkN : k ≤ N := by rw [hk]; exact Nat.lt_succ_iff.1 (Nat.mod_lt _ (by omega))
  have HK := hid hk
  clear hk
  go_enter Try.func6, Try.ntmps6
  go_wp2_with (fail)
  refine Calls.mono (awake w) ?_
  rintro e w1 ⟨rfl, hb1⟩
  have HB1 := hid hb1
  clear hb1
  go_wp2_with (fail)
  refine Calls.mono (new2 w w1 HB1.out) ?_
  rintro e w2 ⟨rfl, hO2, _⟩
  have HO2 := hid hO2
  clear hO2
  obtain ⟨p, hp⟩ : ∃ p, p = w1.heap.size := ⟨_, rfl⟩
  rw [← hp] at HO2 ⊢
  clear hp
  go_wp2_with (fail)
  go_loopw [15] (fun v15 W => ∃ (j : Nat) (F : Nat → Prop), j ≤ N ∧ v15 = .int .i64 j ∧ Hid (On w W F p j (mn j))) (fun v15 _ => N - (intOf v15).toNat)
  case atStart => exact ⟨0, _, by omega, rfl, HO2⟩
  case round =>
    obtain ⟨j, F, hj, rfl, HO⟩ := hrel
    by_cases hlt : j < N
    · have hj2 : (j : Int) < (N : Int) := by omega
      have HA := hid (add (j : Int) 7 HO.out.wd (key_nat (by omega)) k7 HO.out.ok (by omega))
      rw [mn_add] at HA
      have HKk := hid (HO.out.ok.add (key_nat (j := j) (by omega)) k7)
      rw [mn_add] at HKk
      go_wp2_with (fail)
      refine Calls.mono HA.out ?_
      rintro e w3 ⟨rfl, F3, hw3, hm3⟩
      have HO3 := hid (HO.out.moved hw3 hm3 HKk.out)
      clear hw3 hm3
      go_wp2
      go_roundw
      case rel => exact ⟨j + 1, F3, by omega, by go_num, HO3⟩
      case measure => simp [intOf]; omega
    · obtain rfl : j = N := by omega
      have hw1 : IntKind.u64.wrap ((j : Int) + 1) = (j : Int) + 1 := by
        rw [show IntKind.u64.wrap ((j : Int) + 1) = ((j : Int) + 1) % 18446744073709551616 from rfl]
        omega
      have hmod : ((M : Int) % ((j : Int) + 1)) = (k : Int) := by rw [HK.out]; simp
      have HA := hid (add (k : Int) 8 HO.out.wd (key_nat (by omega)) k8 HO.out.ok (by omega))
      rw [zz_add j k hkN] at HA
      have HKk := hid (HO.out.ok.add (key_nat (j := k) (by omega)) k8)
      rw [zz_add j k hkN] at HKk
      have HLs := hid (zz_last j k)
      have HSn := hid (decide_eq_true (zz_seen j k))
      have hzl := zz_len j k hkN
      have HZ := hid fun h1 h2 h3 => zz_zero j k h1 h2 h3 hkN
      have hzn : ks (zz j k) = ks (zz j k) := rfl
      rw [← ks_length] at hzl
      have hzl64 : (zz j k).length ≤ 64 := by rw [← ks_length, hzl]; omega
      generalize zz j k = z at *
      go_wp2_with (fail)
      clear hmod hw1 hzn
      refine Calls.mono HA.out ?_
      rintro e w3 ⟨rfl, F3, hw3, hm3⟩
      have HO3 := hid (HO.out.moved hw3 hm3 HKk.out)
      have HCl := hid (clients HO3.out.wd (by show z.length ≤ 65; omega))
      clear hw3 hm3 HA hzl64
      have hcase : (k = j ∧ j + 1 ≤ 64) ∨ (k = j ∧ 64 < j + 1) ∨ (k ≠ j ∧ j ≤ 64) ∨ (k ≠ j ∧ 64 < j) := by omega
      rcases hcase with hcc | hcc | hcc | hcc
      · obtain ⟨hkj, hle⟩ := hcc
        subst hkj
        have htot : tot k k = k + 1 := by unfold tot; rw [if_pos rfl]
        rw [htot] at hzl HZ
        have HLen : Hid ((ks z).length = k + 1) := hid (by rw [hzl]; omega)
        have n2 : (((k : Int) + 1) == 0) = false := by simp; omega
        have n3 : ¬ (k : Int) + 1 < 1 := by omega
        have n4 : (k : Int) + 1 ≤ 64 := by omega
        clear htot hzl
        go_wp2_with (fail)
        refine Calls.mono HCl.out ?_
        rintro e w4 ⟨A4, c4, rfl, ho4, hu4⟩
        have HO4 := hid (HO3.out.quiet hu4)
        have hlst := HLs.out
        rw [List.getLast?_eq_getElem?, HLen.out] at hlst
        rw [HLen.out] at ho4 ⊢
        obtain ⟨g4, _, hv4, _, _⟩ := ho4.form (by omega)
        simp only [Value.slice.injEq, true_and] at hv4
        obtain ⟨rfl, rfl⟩ := hv4
        have hc := ho4.cells (g := g4) rfl (k) (.int .u64 (k : Int)) (by rw [nums, List.getElem?_map, show (k) = (k + 1) - 1 from by omega, hlst]; rfl)
        rw [add_plain] at hc
        clear ho4 hu4 hlst
        have HS8 := hid (seen (k : Int) 8 HO4.out.wd (key_nat (by omega)))
        rw [HSn.out] at HS8
        by_cases hs : k = 0
        · have m0 : ((k : Int) == 0) = true := by simp [hs]
          clear hs
          go_wp2_with (fail)
          refine Calls.mono HS8.out ?_
          rintro e w5 ⟨rfl, rfl⟩
          go_wp2
          go_ret
          exact ⟨rfl, HO4.out.bel⟩
        have m0 : ((k : Int) == 0) = false := by simp [hs]
        have m1 : ¬ (64 : Int) < (k : Int) := by omega
        have m2 : decide (k + 1 ≤ 64) = true := decide_eq_true (by omega)
        go_wp2_with (fail)
        refine Calls.mono HS8.out ?_
        rintro e w5 ⟨rfl, rfl⟩
        have HS0 := hid (seen 0 7 HO4.out.wd ⟨by omega, by omega⟩)
        have h0 := HZ.out (by omega) (by omega) (by omega)
        rw [h0] at HS0
        clear h0
        rw [m2] at HS0
        go_wp2_with (fail)
        refine Calls.mono HS0.out ?_
        rintro e w6 ⟨rfl, rfl⟩
        go_wp2
        go_ret
        exact ⟨rfl, HO4.out.bel⟩
      · obtain ⟨hkj, hle⟩ := hcc
        subst hkj
        have htot : tot k k = k + 1 := by unfold tot; rw [if_pos rfl]
        rw [htot] at hzl HZ
        have HLen : Hid ((ks z).length = 64) := hid (by rw [hzl]; omega)
        have n2 : (((k : Int) + 1) == 0) = false := by simp; omega
        have n3 : ¬ (k : Int) + 1 < 1 := by omega
        have n4 : ¬ (k : Int) + 1 ≤ 64 := by omega
        have m0 : ((k : Int) == 0) = false := by simp; omega
        clear htot hzl
        go_wp2_with (fail)
        refine Calls.mono HCl.out ?_
        rintro e w4 ⟨A4, c4, rfl, ho4, hu4⟩
        have HO4 := hid (HO3.out.quiet hu4)
        have hlst := HLs.out
        rw [List.getLast?_eq_getElem?, HLen.out] at hlst
        rw [HLen.out] at ho4 ⊢
        obtain ⟨g4, _, hv4, _, _⟩ := ho4.form (by omega)
        simp only [Value.slice.injEq, true_and] at hv4
        obtain ⟨rfl, rfl⟩ := hv4
        have hc := ho4.cells (g := g4) rfl (63) (.int .u64 (k : Int)) (by rw [nums, List.getElem?_map, show (63) = (64) - 1 from by omega, hlst]; rfl)
        rw [add_plain] at hc
        clear ho4 hu4 hlst
        have HS8 := hid (seen (k : Int) 8 HO4.out.wd (key_nat (by omega)))
        rw [HSn.out] at HS8
        by_cases hs : 64 < k
        · have m1 : (64 : Int) < (k : Int) := by omega
          go_wp2_with (fail)
          refine Calls.mono HS8.out ?_
          rintro e w5 ⟨rfl, rfl⟩
          go_wp2
          go_ret
          exact ⟨rfl, HO4.out.bel⟩
        have m1 : ¬ (64 : Int) < (k : Int) := by omega
        have m2 : decide (k + 1 ≤ 64) = false := decide_eq_false (by omega)
        have m3 : decide ((k : Int) + 1 ≤ 64) = false := decide_eq_false (by omega)
        go_wp2_with (fail)
        refine Calls.mono HS8.out ?_
        rintro e w5 ⟨rfl, rfl⟩
        have HS0 := hid (seen 0 7 HO4.out.wd ⟨by omega, by omega⟩)
        have h0 := HZ.out (by omega) (by omega) (by omega)
        rw [h0] at HS0
        clear h0
        rw [m2] at HS0
        go_wp2_with (fail)
        refine Calls.mono HS0.out ?_
        rintro e w6 ⟨rfl, rfl⟩
        go_wp2
        go_ret
        exact ⟨rfl, HO4.out.bel⟩
      · obtain ⟨hkj, hle⟩ := hcc
        obtain ⟨j, rfl⟩ : ∃ i, j = i + 1 := ⟨j - 1, by omega⟩
        have htot : tot (j + 1) k = j + 1 := by unfold tot; rw [if_neg hkj]
        rw [htot] at hzl HZ
        have HLen : Hid ((ks z).length = j + 1) := hid (by rw [hzl]; omega)
        have n1 : ((k : Int) == ((j : Int) + 1)) = false := by simp; omega
        have n2 : (((j : Int) + 1) == 0) = false := by simp; omega
        have n3 : ¬ (j : Int) + 1 < 1 := by omega
        have n4 : (j : Int) + 1 ≤ 64 := by omega
        clear htot hzl
        go_wp2_with (fail)
        refine Calls.mono HCl.out ?_
        rintro e w4 ⟨A4, c4, rfl, ho4, hu4⟩
        have HO4 := hid (HO3.out.quiet hu4)
        have hlst := HLs.out
        rw [List.getLast?_eq_getElem?, HLen.out] at hlst
        rw [HLen.out] at ho4 ⊢
        obtain ⟨g4, _, hv4, _, _⟩ := ho4.form (by omega)
        simp only [Value.slice.injEq, true_and] at hv4
        obtain ⟨rfl, rfl⟩ := hv4
        have hc := ho4.cells (g := g4) rfl (j) (.int .u64 (k : Int)) (by rw [nums, List.getElem?_map, show (j) = (j + 1) - 1 from by omega, hlst]; rfl)
        rw [add_plain] at hc
        clear ho4 hu4 hlst
        have HS8 := hid (seen (k : Int) 8 HO4.out.wd (key_nat (by omega)))
        rw [HSn.out] at HS8
        by_cases hs : k = 0
        · have m0 : ((k : Int) == 0) = true := by simp [hs]
          clear hs
          go_wp2_with (fail)
          refine Calls.mono HS8.out ?_
          rintro e w5 ⟨rfl, rfl⟩
          go_wp2
          go_ret
          exact ⟨rfl, HO4.out.bel⟩
        have m0 : ((k : Int) == 0) = false := by simp [hs]
        have m1 : ¬ (64 : Int) < (j : Int) + 1 := by omega
        have m2 : decide (j + 1 ≤ 64) = true := decide_eq_true (by omega)
        go_wp2_with (fail)
        refine Calls.mono HS8.out ?_
        rintro e w5 ⟨rfl, rfl⟩
        have HS0 := hid (seen 0 7 HO4.out.wd ⟨by omega, by omega⟩)
        have h0 := HZ.out (by omega) (by omega) (by omega)
        rw [h0] at HS0
        clear h0
        rw [m2] at HS0
        go_wp2_with (fail)
        refine Calls.mono HS0.out ?_
        rintro e w6 ⟨rfl, rfl⟩
        go_wp2
        go_ret
        exact ⟨rfl, HO4.out.bel⟩
      · obtain ⟨hkj, hle⟩ := hcc
        have htot : tot j k = j := by unfold tot; rw [if_neg hkj]
        rw [htot] at hzl HZ
        have HLen : Hid ((ks z).length = 64) := hid (by rw [hzl]; omega)
        have n1 : ((k : Int) == (j : Int)) = false := by simp; omega
        have n2 : ((j : Int) == 0) = false := by simp; omega
        have n3 : ¬ (j : Int) < 1 := by omega
        have n4 : ¬ (j : Int) ≤ 64 := by omega
        have n5 : (64 : Int) < (j : Int) := by omega
        clear htot hzl
        go_wp2_with (fail)
        refine Calls.mono HCl.out ?_
        rintro e w4 ⟨A4, c4, rfl, ho4, hu4⟩
        have HO4 := hid (HO3.out.quiet hu4)
        have hlst := HLs.out
        rw [List.getLast?_eq_getElem?, HLen.out] at hlst
        rw [HLen.out] at ho4 ⊢
        obtain ⟨g4, _, hv4, _, _⟩ := ho4.form (by omega)
        simp only [Value.slice.injEq, true_and] at hv4
        obtain ⟨rfl, rfl⟩ := hv4
        have hc := ho4.cells (g := g4) rfl (63) (.int .u64 (k : Int)) (by rw [nums, List.getElem?_map, show (63) = (64) - 1 from by omega, hlst]; rfl)
        rw [add_plain] at hc
        clear ho4 hu4 hlst
        have HS8 := hid (seen (k : Int) 8 HO4.out.wd (key_nat (by omega)))
        rw [HSn.out] at HS8
        by_cases hs : k = 0
        · have m0 : ((k : Int) == 0) = true := by simp [hs]
          clear hs
          go_wp2_with (fail)
          refine Calls.mono HS8.out ?_
          rintro e w5 ⟨rfl, rfl⟩
          go_wp2
          go_ret
          exact ⟨rfl, HO4.out.bel⟩
        have m0 : ((k : Int) == 0) = false := by simp [hs]
        go_wp2_with (fail)
        refine Calls.mono HS8.out ?_
        rintro e w5 ⟨rfl, rfl⟩
        go_wp2
        go_ret
        exact ⟨rfl, HO4.out.bel⟩
theorem many (n m : Int) (w : World) (hn : 0 ≤ n ∧ n ≤ 255) (hm : 0 ≤ m ∧ m ≤ 255) :
    Calls Try.prog 6 #[.int .u8 n, .int .u8 m] w fun e w' => e = .returned (.bool true) ∧ Below w.heap.size w w' := by
  obtain ⟨N, rfl⟩ : ∃ N : Nat, n = N := ⟨n.toNat, by omega⟩
  obtain ⟨M, rfl⟩ : ∃ M : Nat, m = M := ⟨m.toNat, by omega⟩
  exact law_many N M w (by omega) (by omega)
end Go.Proofs.Ytogijfgfcdmbnaa.Ww
