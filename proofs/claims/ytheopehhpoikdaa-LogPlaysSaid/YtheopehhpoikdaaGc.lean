/-
  Cuts of a log's disk: what lies on each (plain); the walk of disk.Cut.
-/
import Derived.Test.YtheopehhpoikdaaGv
set_option linter.unusedVariables false
set_option linter.unusedSimpArgs false
namespace Go.Proofs.Ytheopehhpoikdaa.Gl
open Go.RowKit Go.Proofs.Ytheopehhpoikdaa Go.Proofs.Ytheopehhpoikdaa.B Go.Proofs.Ytheopehhpoikdaa.Cm Go.Proofs.Ytheopehhpoikdaa.Sm Go.Proofs.Ytheopehhpoikdaa.Dk Go.Proofs.Ytheopehhpoikdaa.Gp
/-- The first writes of a disk. -/
def cutD (m : Dm) (K : Nat) : Dm := ⟨m.nb, m.log.take K, -1, false⟩
theorem bsOf_log {d d' : Dm} (h : d.log = d'.log) (fr : Nat) : bsOf d fr = bsOf d' fr := by
  funext k
  unfold bsOf
  rw [h]
theorem getD_left {es : List Nat} {x i : Nat} (h : i < es.length) : (es ++ [x]).getD i 0 = es.getD i 0 := by
  simp only [List.getD_eq_getElem?_getD, List.getElem?_append_left h]
theorem getD_last (es : List Nat) (x : Nat) : (es ++ [x]).getD es.length 0 = x := by simp
/-- Where each unit's writes end; what lies on the disk cut behind any write. -/
structure Cu (m : Lm) (d : Dm) (es : List Nat) : Prop where
  len : es.length = m.us.length
  top : ∀ i, i < es.length → es.getD i 0 ≤ d.log.length
  used : d.log.length = m.used
  at_ : ∀ x ∈ d.log, x.1 < d.nb
  cut : ∀ n, n ≤ d.log.length → ∀ k, k ≤ es.length → (∀ i, i < k → es.getD i 0 ≤ n) → (k < es.length → n < es.getD k 0) → ∃ s, Ar m.ep (bsOf (cutD d n) m.fr) m.count (m.us.take k) s
theorem Cu.new {fr count nb : Nat} {ep : Int} (hep : 0 ≤ ep ∧ ep ≤ 18446744073709551615) : Cu (Lm.new fr count ep) ⟨nb, [], -1, false⟩ [] :=
  ⟨rfl, fun i hi => absurd hi (Nat.not_lt_zero _), rfl, fun x hx => (by cases hx), fun n hn k hk _ _ => ⟨0, by
    obtain rfl : k = 0 := Nat.le_zero.1 hk
    exact Ar.zero count hep fun i _ => (congrFun (bsOf_log (d := cutD ⟨nb, [], -1, false⟩ n) (d' := ⟨nb, [], -1, false⟩) (by simp only [cutD, List.take_nil]) fr) i).trans (bsOf_new nb (-1) false fr i)⟩⟩
theorem Cu.add {m : Lm} {d : Dm} {u : List Int} {es : List Nat} (h : Cu m d es) (hs : Snd m d) (hc : apC m u = 0) (hs' : Snd (m.add u) (wrs d (m.fr + m.used) (blk m.ep m.used u) (nbl u))) :
    Cu (m.add u) (wrs d (m.fr + m.used) (blk m.ep m.used u) (nbl u)) (es ++ [(wrs d (m.fr + m.used) (blk m.ep m.used u) (nbl u)).log.length]) := by
  obtain ⟨h1, h2, h3⟩ := apC_ok hc
  have hn1 := nbl_pos h1
  have hL : (wrs d (m.fr + m.used) (blk m.ep m.used u) (nbl u)).log.length = d.log.length + nbl u := by simp [wrs]
  refine ⟨?_, ?_, ?_, ?_, ?_⟩
  · simp [Lm.add, h.len]
  · intro i hi
    rw [List.length_append, List.length_singleton] at hi
    by_cases hlt : i < es.length
    · rw [getD_left hlt, hL]
      have := h.top i hlt
      omega
    · obtain rfl : i = es.length := by omega
      rw [getD_last]
      exact Nat.le_refl _
  · rw [hL, h.used]
    rfl
  · intro x hx
    simp only [wrs, List.mem_append, List.mem_map, List.mem_range] at hx
    have ha := hs.area
    have hk := hs.ok.le
    rcases hx with hx | ⟨i, hi, rfl⟩
    · exact h.at_ x hx
    · simp only [wrs]
      omega
  · intro n hn k hk hlo hhi
    rw [hL] at hn
    rw [List.length_append, List.length_singleton] at hk
    by_cases hke : k = es.length + 1
    · subst hke
      have h5 := hlo es.length (by omega)
      rw [getD_last, hL] at h5
      obtain rfl : n = d.log.length + nbl u := by omega
      have h6 := hs'.ar
      have e : bsOf (cutD (wrs d (m.fr + m.used) (blk m.ep m.used u) (nbl u)) (d.log.length + nbl u)) m.fr = bsOf (wrs d (m.fr + m.used) (blk m.ep m.used u) (nbl u)) m.fr := bsOf_log (by
        unfold cutD
        simp only
        exact List.take_of_length_le (by rw [hL]; exact Nat.le_refl _)) _
      refine ⟨(m.add u).used, ?_⟩
      rw [List.take_of_length_le (by simp [Lm.add, h.len])]
      simp only [Lm.add] at h6 ⊢
      rw [e]
      exact h6
    · have hk' : k ≤ es.length := by omega
      have hlo' : ∀ i, i < k → es.getD i 0 ≤ n := fun i hi => by
        have h7 := hlo i hi
        rwa [getD_left (by omega)] at h7
      have hhi' : k < es.length → n < es.getD k 0 := fun hk2 => by
        have h7 := hhi (by rw [List.length_append]; omega)
        rwa [getD_left hk2] at h7
      have hus : (m.add u).us.take k = m.us.take k := List.take_append_of_le_length (by rw [← h.len]; exact hk')
      rw [hus]
      by_cases hnl : n ≤ d.log.length
      · obtain ⟨s, hs2⟩ := h.cut n hnl k hk' hlo' hhi'
        refine ⟨s, ?_⟩
        have e : bsOf (cutD (wrs d (m.fr + m.used) (blk m.ep m.used u) (nbl u)) n) m.fr = bsOf (cutD d n) m.fr := bsOf_log (by
          simp only [cutD, wrs]
          exact List.take_append_of_le_length hnl) _
        simp only [Lm.add]
        rw [e]
        exact hs2
      · have hke2 : k = es.length := by
          rcases Nat.lt_or_ge k es.length with h8 | h8
          · have := hhi' h8
            have := h.top k h8
            omega
          · omega
        subst hke2
        have hnn := hhi (by simp)
        rw [getD_last, hL] at hnn
        obtain ⟨j, rfl⟩ : ∃ j, n = d.log.length + j := ⟨n - d.log.length, by omega⟩
        refine ⟨m.used, ?_⟩
        rw [List.take_of_length_le (by rw [h.len]; exact Nat.le_refl _)]
        have e : bsOf (cutD (wrs d (m.fr + m.used) (blk m.ep m.used u) (nbl u)) (d.log.length + j)) m.fr = put (bsOf d m.fr) m.ep m.used u j := by
          rw [← bsOf_wrs d m.fr m.used m.ep u j]
          refine bsOf_log ?_ _
          simp only [cutD, wrs]
          rw [List.take_append, List.take_of_length_le (by omega : d.log.length ≤ d.log.length + j), Nat.add_sub_cancel_left, ← List.map_take, List.take_range, Nat.min_eq_left (by omega)]
        simp only [Lm.add]
        rw [e]
        exact hs.ar.part (by omega)
/-- 'xs[:h]', whatever the elements' size. -/
theorem cut_top {P : Program} (t e : TypeId) (kh : IntKind) (s : Nat) (ht : P.underlying t = some (.slice e)) (hi : (P.info? e).map (·.size) = some s) (A : Option Addr) (n c h : Nat) (hi' : Int) (hhi : hi' = (h : Int)) (hh : h ≤ c) :
    ∀ W : World, (Instr.slice t (.slice A n c) none (some (.int kh hi')) none).run P W = .ok (.slice A h c) W := by
  subst hhi
  intro W
  obtain ⟨i, hi1, hi2⟩ := Option.map_eq_some_iff.1 hi
  have hel : P.elem t = e := by simp [Program.elem, ht]
  have hu : P.underlying t = some (.slice (P.elem t)) := by rw [hel]; exact ht
  rw [run_slice_h W t A n c hu kh (h : Int) (Int.natCast_nonneg _) (by omega), hel]
  have e0 : (A.map fun x => x.add 0) = A := by cases A <;> rfl
  simp [sizeOf, typeInfo, hi1, sliced, Result.andThen, e0]
theorem add_field (ad : Addr) (m k : Nat) (hk : 0 < k) : ad.add (m + k) = ⟨(ad.add m).block, (ad.add m).off + k, none⟩ := by
  unfold Addr.add
  by_cases hm : m = 0
  · subst hm; simp; omega
  · simp [hm]; omega
theorem below_drew {B : Nat} {w w' : World} (h : Below B w w') : Below B w w'.drew := ⟨h.os, h.tape, h.output, h.size, h.block⟩
set_option maxHeartbeats 2000000 in
set_option maxRecDepth 100000 in
theorem cut_in (p : Nat) (m : Dm) (F : Nat → Prop) (K : Nat) (w : World) (h : Dk w F p m) (hnb : m.nb ≤ 65536) (hfit : Fit m) (hlen : m.log.length ≤ 100000) (hat : ∀ x ∈ m.log, x.1 < m.nb) (hK : K ≤ m.log.length) :
    Calls Try.prog 19 #[.pointer (some ⟨p, 0, none⟩), .int .i64 K] w fun e w' => ∃ p' F', e = .returned (.pointer (some ⟨p', 0, none⟩)) ∧ Dk w' F' p' (cutD m K) ∧ (∀ k, F' k → w.heap.size ≤ k) ∧ Below w.heap.size w w' := by
  have hD := hid h
  have hlog : m.log.length ≤ 9223372036854775807 := by omega
  obtain ⟨ps, g, vl, h1, h2, h3, h4, h5, h6, h7, h8, h9⟩ := h
  obtain ⟨nb, log, fuse, down⟩ := m
  simp only at h1 h2 h3 hlog hnb hlen hat hfit hK
  have hc0 := h2.cell 0
  simp at hc0
  have hpl : ps.length = log.length := by rw [← h1]; simp [ab]
  obtain ⟨A, cc, rfl, hlc, hcm⟩ := own_shape h4
  simp only [maxLen] at hcm
  have HN := hid (new_ (nb : Int) w)
  rw [show (min (max (nb : Int) 0) 65536).toNat = nb from by omega] at HN
  have hnb0 : (0 : Int) ≤ (nb : Int) := by omega
  go_enter Try.func19, Try.ntmps19
  go_wp2_with (fail)
  refine Calls.mono HN.out ?_
  rintro e w1 ⟨p1, F1, rfl, hD1, hb1, hF1⟩
  have hc1 : w1.cell? ⟨p, 1, none⟩ = some (.slice A ps.length cc) := by
    have := (h2.upd (Upd.of_below No hb1) (no_ _)).cell 1
    simpa using this
  rw [hpl] at hc1
  have HC1 : Hid (∀ W, W = w1.drew → W.cell? ⟨p, 1, none⟩ = some (.slice A log.length cc)) := hid (by rintro W rfl; exact hc1)
  have HD1 := hid (show Dk w1.drew F1 p1 ⟨nb, [], -1, false⟩ from hD1)
  have hl0 : (0 : Int) ≤ (log.length : Int) := by omega
  clear hD1
  have k1 : (0 : Int) ≤ (K : Int) := by omega
  have k2 : (K : Int) ≤ (log.length : Int) := by omega
  have hm1 : (if (K : Int) < 0 then (0 : Int) else (K : Int)) = (K : Int) := if_neg (by omega)
  have hm2 : (if log.length < K then (log.length : Int) else (K : Int)) = (K : Int) := if_neg (by omega)
  have hcs := cut_top (P := Try.prog) 64 71 .i64 2 Try.underlying64 (by kernel_rfl) A log.length cc K (K : Int) (by omega) (by omega)
  go_wp2_with (fail)
  refine wp_region_held_drew (S := fun W => W = w1.drew) (by kernel_rfl) rfl (fun hS => ?_)
  refine rg_at 0 (by decide) (fun oi hoi => ?_)
  have ho2 := hoi; simp only [List.getElem?_toArray, List.getElem?_cons_succ, List.getElem?_cons_zero, Option.some.injEq] at ho2; subst ho2
  refine rg_take (v := ?_) 0 hoi (by kernel_rfl) (by kernel_rfl) (by kernel_rfl) (fun _ _ _ h => h) (by rfl) ?_ hS ?_
  rotate_left
  · intro w _; go_simp; try with_reducible rfl
  clear hoi; try simp only [Act.put, List.setIfInBounds_toArray, List.set_cons_zero, List.set_cons_succ]
  refine rg_at 1 (by decide) (fun oi hoi => ?_)
  have ho2 := hoi; simp only [List.getElem?_toArray, List.getElem?_cons_succ, List.getElem?_cons_zero, Option.some.injEq] at ho2; subst ho2
  refine rg_take (v := ?_) 1 hoi (by kernel_rfl) (by kernel_rfl) (by kernel_rfl) (fun _ _ _ h => h) (by rfl) ?_ hS ?_
  rotate_left
  · intro w _; go_simp; try with_reducible rfl
  clear hoi; try simp only [Act.put, List.setIfInBounds_toArray, List.set_cons_zero, List.set_cons_succ]
  refine rg_at 2 (by decide) (fun oi hoi => ?_)
  have ho2 := hoi; simp only [List.getElem?_toArray, List.getElem?_cons_succ, List.getElem?_cons_zero, Option.some.injEq] at ho2; subst ho2
  refine rg_take (v := ?_) 2 hoi (by kernel_rfl) (by kernel_rfl) (by kernel_rfl) (fun _ _ _ h => h) (by rfl) ?_ hS ?_
  rotate_left
  · intro w _; go_simp; try with_reducible rfl
  clear hoi; try simp only [Act.put, List.setIfInBounds_toArray, List.set_cons_zero, List.set_cons_succ]
  refine rg_at 3 (by decide) (fun oi hoi => ?_)
  have ho2 := hoi; simp only [List.getElem?_toArray, List.getElem?_cons_succ, List.getElem?_cons_zero, Option.some.injEq] at ho2; subst ho2
  refine rg_take (v := ?_) 3 hoi (by kernel_rfl) (by kernel_rfl) (by kernel_rfl) (fun _ _ _ h => h) (by rfl) ?_ hS ?_
  rotate_left
  · intro w hw; have hf := HC1.out w hw; clear hw; go_simp; try with_reducible rfl
  clear hoi; try simp only [Act.put, List.setIfInBounds_toArray, List.set_cons_zero, List.set_cons_succ]
  refine rg_at 4 (by decide) (fun oi hoi => ?_)
  have ho2 := hoi; simp only [List.getElem?_toArray, List.getElem?_cons_succ, List.getElem?_cons_zero, Option.some.injEq] at ho2; subst ho2
  refine rg_take (v := ?_) 4 hoi (by kernel_rfl) (by kernel_rfl) (by kernel_rfl) (fun _ _ _ h => h) (by rfl) ?_ hS ?_
  rotate_left
  · intro w _; go_simp; try with_reducible rfl
  clear hoi; try simp only [Act.put, List.setIfInBounds_toArray, List.set_cons_zero, List.set_cons_succ]
  refine rg_at 5 (by decide) (fun oi hoi => ?_)
  have ho2 := hoi; simp only [List.getElem?_toArray, List.getElem?_cons_succ, List.getElem?_cons_zero, Option.some.injEq] at ho2; subst ho2
  refine rg_take (v := ?_) 5 hoi (by kernel_rfl) (by kernel_rfl) (by kernel_rfl) (fun _ _ _ h => h) (by rfl) ?_ hS ?_
  rotate_left
  · intro w hw; have hf := hm1; clear hw; go_simp; try with_reducible rfl
  clear hoi; try simp only [Act.put, List.setIfInBounds_toArray, List.set_cons_zero, List.set_cons_succ]
  refine rg_at 6 (by decide) (fun oi hoi => ?_)
  have ho2 := hoi; simp only [List.getElem?_toArray, List.getElem?_cons_succ, List.getElem?_cons_zero, Option.some.injEq] at ho2; subst ho2
  refine rg_take (v := ?_) 6 hoi (by kernel_rfl) (by kernel_rfl) (by kernel_rfl) (fun _ _ _ h => h) (by rfl) ?_ hS ?_
  rotate_left
  · intro w _; go_simp; try with_reducible rfl
  clear hoi; try simp only [Act.put, List.setIfInBounds_toArray, List.set_cons_zero, List.set_cons_succ]
  refine rg_at 7 (by decide) (fun oi hoi => ?_)
  have ho2 := hoi; simp only [List.getElem?_toArray, List.getElem?_cons_succ, List.getElem?_cons_zero, Option.some.injEq] at ho2; subst ho2
  refine rg_take (v := ?_) 7 hoi (by kernel_rfl) (by kernel_rfl) (by kernel_rfl) (fun _ _ _ h => h) (by rfl) ?_ hS ?_
  rotate_left
  · intro w _; go_simp; try with_reducible rfl
  clear hoi; try simp only [Act.put, List.setIfInBounds_toArray, List.set_cons_zero, List.set_cons_succ]
  refine rg_at 8 (by decide) (fun oi hoi => ?_)
  have ho2 := hoi; simp only [List.getElem?_toArray, List.getElem?_cons_succ, List.getElem?_cons_zero, Option.some.injEq] at ho2; subst ho2
  refine rg_take (v := ?_) 8 hoi (by kernel_rfl) (by kernel_rfl) (by kernel_rfl) (fun _ _ _ h => h) (by rfl) ?_ hS ?_
  rotate_left
  · intro w _; go_simp; try with_reducible rfl
  clear hoi; try simp only [Act.put, List.setIfInBounds_toArray, List.set_cons_zero, List.set_cons_succ]
  refine rg_at 9 (by decide) (fun oi hoi => ?_)
  have ho2 := hoi; simp only [List.getElem?_toArray, List.getElem?_cons_succ, List.getElem?_cons_zero, Option.some.injEq] at ho2; subst ho2
  refine rg_take (v := ?_) 9 hoi (by kernel_rfl) (by kernel_rfl) (by kernel_rfl) (fun _ _ _ h => h) (by rfl) ?_ hS ?_
  rotate_left
  · intro w hw; have hf := HC1.out w hw; clear hw; go_simp; try with_reducible rfl
  clear hoi; try simp only [Act.put, List.setIfInBounds_toArray, List.set_cons_zero, List.set_cons_succ]
  refine rg_at 10 (by decide) (fun oi hoi => ?_)
  have ho2 := hoi; simp only [List.getElem?_toArray, List.getElem?_cons_succ, List.getElem?_cons_zero, Option.some.injEq] at ho2; subst ho2
  refine rg_take (v := ?_) 10 hoi (by kernel_rfl) (by kernel_rfl) (by kernel_rfl) (fun _ _ _ h => h) (by rfl) ?_ hS ?_
  rotate_left
  · intro w _; go_simp; try with_reducible rfl
  clear hoi; try simp only [Act.put, List.setIfInBounds_toArray, List.set_cons_zero, List.set_cons_succ]
  refine rg_at 11 (by decide) (fun oi hoi => ?_)
  have ho2 := hoi; simp only [List.getElem?_toArray, List.getElem?_cons_succ, List.getElem?_cons_zero, Option.some.injEq] at ho2; subst ho2
  refine rg_take (v := ?_) 11 hoi (by kernel_rfl) (by kernel_rfl) (by kernel_rfl) (fun _ _ _ h => h) (by rfl) ?_ hS ?_
  rotate_left
  · intro w hw; have hf := hm2; clear hw; go_simp; try with_reducible rfl
  clear hoi; try simp only [Act.put, List.setIfInBounds_toArray, List.set_cons_zero, List.set_cons_succ]
  refine rg_at 12 (by decide) (fun oi hoi => ?_)
  have ho2 := hoi; simp only [List.getElem?_toArray, List.getElem?_cons_succ, List.getElem?_cons_zero, Option.some.injEq] at ho2; subst ho2
  refine rg_take (v := ?_) 12 hoi (by kernel_rfl) (by kernel_rfl) (by kernel_rfl) (fun _ _ _ h => h) (by rfl) ?_ hS ?_
  rotate_left
  · intro w hw; have hf := hcs w; clear hw; go_simp; try with_reducible rfl
  clear hoi; try simp only [Act.put, List.setIfInBounds_toArray, List.set_cons_zero, List.set_cons_succ]
  refine rg_at 13 (by decide) (fun oi hoi => ?_)
  have ho2 := hoi; simp only [List.getElem?_toArray, List.getElem?_cons_succ, List.getElem?_cons_zero, Option.some.injEq] at ho2; subst ho2
  refine rg_take (v := ?_) 13 hoi (by kernel_rfl) (by kernel_rfl) (by kernel_rfl) (fun _ _ _ h => h) (by rfl) ?_ hS ?_
  rotate_left
  · intro w _; go_simp; try with_reducible rfl
  clear hoi; try simp only [Act.put, List.setIfInBounds_toArray, List.set_cons_zero, List.set_cons_succ]
  refine rg_at 14 (by decide) (fun oi hoi => ?_)
  have ho2 := hoi; simp only [List.getElem?_toArray, List.getElem?_cons_succ, List.getElem?_cons_zero, Option.some.injEq] at ho2; subst ho2
  refine rg_take (v := ?_) 14 hoi (by kernel_rfl) (by kernel_rfl) (by kernel_rfl) (fun _ _ _ h => h) (by rfl) ?_ hS ?_
  rotate_left
  · intro w _; go_simp; try with_reducible rfl
  clear hoi; try simp only [Act.put, List.setIfInBounds_toArray, List.set_cons_zero, List.set_cons_succ]
  refine wpAnyH_done (by kernel_rfl) ?_ _
  go_wp2_with (fail)
  go_loopw [30] (fun v30 W => ∃ (k : Nat) (F' : Nat → Prop), k ≤ K ∧ v30 = .int .i64 k ∧ Dk W F' p1 ⟨nb, log.take k, -1, false⟩ ∧ (∀ k, F' k → w.heap.size ≤ k) ∧ Below w.heap.size w W) (fun v30 _ => K - (intOf v30).toNat)
  case atStart => exact ⟨0, F1, by omega, rfl, HD1.out, hF1, below_drew hb1⟩
  case round =>
    obtain ⟨k, F', hk, rfl, hDk, hF', hb⟩ := hrel
    by_cases hlt : k < K
    · have hkp : k < ps.length := by omega
      have h4' : wr.ownsRow 0 71 2 (.slice A ps.length cc) ps.length (wcells ps) := own_keep h4 fun b hb' => hb.block b (h9 b (h8 b hb'))
      obtain ⟨ad, rfl, hcl⟩ := (Rd.of_own h4').2 (by omega)
      obtain ⟨x0, x1⟩ := wcells_get ps k ps[k] (List.getElem?_eq_getElem hkp)
      have hx0 := hcl _ _ x0
      have hx1 := hcl _ _ x1
      rw [add_field ad (k * 2) 1 (by omega)] at hx1
      obtain ⟨g', c', e, hFg, ho⟩ := h5 ps[k] (List.getElem_mem hkp)
      have hlg : log[k]? = some (ps[k].1, ps[k].2.1) := by rw [← h1]; simp [ab, hkp]
      have hkl : k < log.length := by omega
      have hmem : (ps[k].1, ps[k].2.1) ∈ log := List.mem_of_getElem? hlg
      have htk : log.take (k + 1) = log.take k ++ [(ps[k].1, ps[k].2.1)] := by
        rw [List.take_succ_eq_append_getElem hkl]
        rw [List.getElem?_eq_getElem hkl] at hlg
        injection hlg with hlg
        rw [hlg]
      have hfx := (hfit _ hmem).1
      have hax := hat _ hmem
      generalize ps[k] = x at *
      obtain ⟨a, l, v⟩ := x
      simp only at hx0 hx1 e ho htk hfx hax
      subst e
      have ho' : wr.ownsRow 0 5 1 (.slice (some ⟨g', 0, none⟩) 256 c') 256 (nums .u8 l) := own_keep ho fun b hb' => hb.block b (ho.lt b hb').2
      have hrn : Rn wr .u8 (some ⟨g', 0, none⟩) l := by
        have := Rd.of_own ho'
        rw [← hfx] at this
        exact this
      have hg' := (ho.lt g' rfl).2
      have HW : Hid (∀ W, Upd No wr W → Calls Try.prog 29 #[.pointer (some ⟨p1, 0, none⟩), .int .i64 a, .slice (some ⟨g', 0, none⟩) 256 c'] W fun e w' => e = .returned (.int .i64 0) ∧ ∃ F2, Dk w' F2 p1 ⟨nb, log.take (k + 1), -1, false⟩ ∧ Mv F' F2 W w') := hid fun W hu => by
        have hwr := write p1 _ F' (some ⟨g', 0, none⟩) c' l (a : Int) W (hDk.upd hu (fun _ _ => no_ _)) (Rd.upd hrn (by omega) hu (fun _ _ => no_ _)) (fun ad e hk => by injection e with e; subst e; have := hF' _ hk; simp only at this; omega) ⟨by simp, by simp, hnb⟩ (by simp only [List.length_take]; omega)
        rw [wr_ok nb (log.take k) (-1) a l hax hfx (by decide), hfx] at hwr
        rw [htk]
        exact hwr
      have hj1 : (0 : Int) ≤ (k : Int) := by omega
      have hj2 : (k : Int) < (K : Int) := by omega
      have hsz := hb.size
      have HF := hid hF'
      have HB := hid hb
      clear hcl x0 x1 ho ho' hrn hlg hmem htk hDk h4' hF' hb
      go_wp2_with (fail)
      refine Calls.mono (HW.out _ ((Upd.refl _ _).alloc _)) ?_
      rintro e w5 ⟨rfl, F5, hD5, hM5⟩
      have hM6 : Mv F' F5 wr w5 := Mv.trans (Mv.quiet (((Upd.refl No wr).alloc _).old (Nat.le_refl _))) hM5
      have hf := hid (And.intro hD5 (And.intro (show ∀ k, F5 k → w.heap.size ≤ k from fun k hk => (hM6.sub k hk).elim (HF.out k) fun h => by omega) (HB.out.trans (hM6.upd.below hsz HF.out))))
      clear hD5 hM5 hM6
      go_wp2
      go_roundw
      case rel => exact ⟨k + 1, F5, by omega, by go_num, hf.out.1, hf.out.2.1, hf.out.2.2⟩
      case measure => simp [intOf]; omega
    · obtain rfl : k = K := by omega
      go_wp2
      go_ret
      exact ⟨_, _, rfl, hDk, hF', hb⟩
end Go.Proofs.Ytheopehhpoikdaa.Gl
