/-
  The walk of disk.Cut, of a disk all of whose writes fit.
-/
import Derived.Test.YtbcmaobopglooaaDq
set_option linter.unusedVariables false
set_option linter.unusedSimpArgs false
namespace Go.Proofs.Ytbcmaobopglooaa.Up
open Go.RowKit Go.Proofs.Ytbcmaobopglooaa Go.Proofs.Ytbcmaobopglooaa.B Go.Proofs.Ytbcmaobopglooaa.Cm Go.Proofs.Ytbcmaobopglooaa.Sm Go.Proofs.Ytbcmaobopglooaa.Dk
def Fit (d : Dm) : Prop := ∀ x ∈ d.log, x.2.length = 256 ∧ Byte x.2
/-- The first writes of a disk. -/
def cutD (m : Dm) (K : Nat) : Dm := ⟨m.nb, m.log.take K, -1, false⟩
/-- 'xs[:h]', whatever the elements' size. -/
theorem cut_top {P : Program} (t e : TypeId) (kh : IntKind) (s : Nat) (ht : P.underlying t = some (.slice e)) (hi : (P.info? e).map (·.size) = some s) (A : Option Addr) (n c h : Nat) (hi' : Int) (hhi : hi' = (h : Int)) (hh : h ≤ c) :
    ∀ W : World, (Instr.slice t (.slice A n c) none (some (.int kh hi')) none).run P W = .ok (.slice A h c) W := by
  subst hhi
  intro W
  obtain ⟨i, hi1, hi2⟩ := Option.map_eq_some_iff.1 hi
  have hel : P.elem t = e := by simp [Program.elem, ht]
  have hu : P.underlying t = some (.slice (P.elem t)) := by rw [hel]; exact ht
  rw [run_slice_h W t A n c hu kh (h : Int) (Int.natCast_nonneg _) (by omega), hel]
  have e0 : (A.map fun x => x.add 0) = A := by cases A <;> rfl
  simp [sizeOf, typeInfo, hi1, sliced, Result.andThen, e0]
theorem add_field (ad : Addr) (m k : Nat) (hk : 0 < k) : ad.add (m + k) = ⟨(ad.add m).block, (ad.add m).off + k, none⟩ := by
  unfold Addr.add
  by_cases hm : m = 0
  · subst hm; simp; omega
  · simp [hm]; omega
theorem below_drew {B : Nat} {w w' : World} (h : Below B w w') : Below B w w'.drew := ⟨h.os, h.tape, h.output, h.size, h.block⟩
set_option maxHeartbeats 2000000 in
set_option maxRecDepth 100000 in
theorem cut_in (p : Nat) (m : Dm) (F : Nat → Prop) (K : Nat) (w : World) (h : Dk w F p m) (hnb : m.nb ≤ 65536) (hfit : Fit m) (hlen : m.log.length ≤ 100000) (hat : ∀ x ∈ m.log, x.1 < m.nb) (hK : K ≤ m.log.length) :
    Calls Try.prog 13 #[.pointer (some ⟨p, 0, none⟩), .int .i64 K] w fun e w' => ∃ p' F', e = .returned (.pointer (some ⟨p', 0, none⟩)) ∧ Dk w' F' p' (cutD m K) ∧ (∀ k, F' k → w.heap.size ≤ k) ∧ Below w.heap.size w w' := by
  have hD := hid h
  have hlog : m.log.length ≤ 9223372036854775807 := by omega
  obtain ⟨ps, g, vl, h1, h2, h3, h4, h5, h6, h7, h8, h9⟩ := h
  obtain ⟨nb, log, fuse, down⟩ := m
  simp only at h1 h2 h3 hlog hnb hlen hat hfit hK
  have hc0 := h2.cell 0
  simp at hc0
  have hpl : ps.length = log.length := by rw [← h1]; simp [ab]
  obtain ⟨A, cc, rfl, hlc, hcm⟩ := own_shape h4
  simp only [maxLen] at hcm
  have HN := hid (new_ (nb : Int) w)
  rw [show (min (max (nb : Int) 0) 65536).toNat = nb from by omega] at HN
  have hnb0 : (0 : Int) ≤ (nb : Int) := by omega
  go_enter Try.func13, Try.ntmps13
  go_wp2_with (fail)
  refine Calls.mono HN.out ?_
  rintro e w1 ⟨p1, F1, rfl, hD1, hb1, hF1⟩
  have hc1 : w1.cell? ⟨p, 1, none⟩ = some (.slice A ps.length cc) := by
    have := (h2.upd (Upd.of_below No hb1) (no_ _)).cell 1
    simpa using this
  rw [hpl] at hc1
  have HC1 : Hid (∀ W, W = w1.drew → W.cell? ⟨p, 1, none⟩ = some (.slice A log.length cc)) := hid (by rintro W rfl; exact hc1)
  have HD1 := hid (show Dk w1.drew F1 p1 ⟨nb, [], -1, false⟩ from hD1)
  have hl0 : (0 : Int) ≤ (log.length : Int) := by omega
  clear hD1
  have k1 : (0 : Int) ≤ (K : Int) := by omega
  have k2 : (K : Int) ≤ (log.length : Int) := by omega
  have hm1 : (if (K : Int) < 0 then (0 : Int) else (K : Int)) = (K : Int) := if_neg (by omega)
  have hm2 : (if log.length < K then (log.length : Int) else (K : Int)) = (K : Int) := if_neg (by omega)
  have hcs := cut_top (P := Try.prog) 52 62 .i64 2 Try.underlying52 (by kernel_rfl) A log.length cc K (K : Int) (by omega) (by omega)
  go_wp2_with (fail)
  refine wp_region_held_drew (S := fun W => W = w1.drew) (by kernel_rfl) rfl (fun hS => ?_)
  refine rg_at 0 (by decide) (fun oi hoi => ?_)
  have ho2 := hoi; simp only [List.getElem?_toArray, List.getElem?_cons_succ, List.getElem?_cons_zero, Option.some.injEq] at ho2; subst ho2
  refine rg_take (v := ?_) 0 hoi (by kernel_rfl) (by kernel_rfl) (by kernel_rfl) (fun _ _ _ h => h) (by rfl) ?_ hS ?_
  rotate_left
  · intro w _; go_simp; try with_reducible rfl
  clear hoi; try simp only [Act.put, List.setIfInBounds_toArray, List.set_cons_zero, List.set_cons_succ]
  refine rg_at 1 (by decide) (fun oi hoi => ?_)
  have ho2 := hoi; simp only [List.getElem?_toArray, List.getElem?_cons_succ, List.getElem?_cons_zero, Option.some.injEq] at ho2; subst ho2
  refine rg_take (v := ?_) 1 hoi (by kernel_rfl) (by kernel_rfl) (by kernel_rfl) (fun _ _ _ h => h) (by rfl) ?_ hS ?_
  rotate_left
  · intro w _; go_simp; try with_reducible rfl
  clear hoi; try simp only [Act.put, List.setIfInBounds_toArray, List.set_cons_zero, List.set_cons_succ]
  refine rg_at 2 (by decide) (fun oi hoi => ?_)
  have ho2 := hoi; simp only [List.getElem?_toArray, List.getElem?_cons_succ, List.getElem?_cons_zero, Option.some.injEq] at ho2; subst ho2
  refine rg_take (v := ?_) 2 hoi (by kernel_rfl) (by kernel_rfl) (by kernel_rfl) (fun _ _ _ h => h) (by rfl) ?_ hS ?_
  rotate_left
  · intro w _; go_simp; try with_reducible rfl
  clear hoi; try simp only [Act.put, List.setIfInBounds_toArray, List.set_cons_zero, List.set_cons_succ]
  refine rg_at 3 (by decide) (fun oi hoi => ?_)
  have ho2 := hoi; simp only [List.getElem?_toArray, List.getElem?_cons_succ, List.getElem?_cons_zero, Option.some.injEq] at ho2; subst ho2
  refine rg_take (v := ?_) 3 hoi (by kernel_rfl) (by kernel_rfl) (by kernel_rfl) (fun _ _ _ h => h) (by rfl) ?_ hS ?_
  rotate_left
  · intro w hw; have hf := HC1.out w hw; clear hw; go_simp; try with_reducible rfl
  clear hoi; try simp only [Act.put, List.setIfInBounds_toArray, List.set_cons_zero, List.set_cons_succ]
  refine rg_at 4 (by decide) (fun oi hoi => ?_)
  have ho2 := hoi; simp only [List.getElem?_toArray, List.getElem?_cons_succ, List.getElem?_cons_zero, Option.some.injEq] at ho2; subst ho2
  refine rg_take (v := ?_) 4 hoi (by kernel_rfl) (by kernel_rfl) (by kernel_rfl) (fun _ _ _ h => h) (by rfl) ?_ hS ?_
  rotate_left
  · intro w _; go_simp; try with_reducible rfl
  clear hoi; try simp only [Act.put, List.setIfInBounds_toArray, List.set_cons_zero, List.set_cons_succ]
  refine rg_at 5 (by decide) (fun oi hoi => ?_)
  have ho2 := hoi; simp only [List.getElem?_toArray, List.getElem?_cons_succ, List.getElem?_cons_zero, Option.some.injEq] at ho2; subst ho2
  refine rg_take (v := ?_) 5 hoi (by kernel_rfl) (by kernel_rfl) (by kernel_rfl) (fun _ _ _ h => h) (by rfl) ?_ hS ?_
  rotate_left
  · intro w hw; have hf := hm1; clear hw; go_simp; try with_reducible rfl
  clear hoi; try simp only [Act.put, List.setIfInBounds_toArray, List.set_cons_zero, List.set_cons_succ]
  refine rg_at 6 (by decide) (fun oi hoi => ?_)
  have ho2 := hoi; simp only [List.getElem?_toArray, List.getElem?_cons_succ, List.getElem?_cons_zero, Option.some.injEq] at ho2; subst ho2
  refine rg_take (v := ?_) 6 hoi (by kernel_rfl) (by kernel_rfl) (by kernel_rfl) (fun _ _ _ h => h) (by rfl) ?_ hS ?_
  rotate_left
  · intro w _; go_simp; try with_reducible rfl
  clear hoi; try simp only [Act.put, List.setIfInBounds_toArray, List.set_cons_zero, List.set_cons_succ]
  refine rg_at 7 (by decide) (fun oi hoi => ?_)
  have ho2 := hoi; simp only [List.getElem?_toArray, List.getElem?_cons_succ, List.getElem?_cons_zero, Option.some.injEq] at ho2; subst ho2
  refine rg_take (v := ?_) 7 hoi (by kernel_rfl) (by kernel_rfl) (by kernel_rfl) (fun _ _ _ h => h) (by rfl) ?_ hS ?_
  rotate_left
  · intro w _; go_simp; try with_reducible rfl
  clear hoi; try simp only [Act.put, List.setIfInBounds_toArray, List.set_cons_zero, List.set_cons_succ]
  refine rg_at 8 (by decide) (fun oi hoi => ?_)
  have ho2 := hoi; simp only [List.getElem?_toArray, List.getElem?_cons_succ, List.getElem?_cons_zero, Option.some.injEq] at ho2; subst ho2
  refine rg_take (v := ?_) 8 hoi (by kernel_rfl) (by kernel_rfl) (by kernel_rfl) (fun _ _ _ h => h) (by rfl) ?_ hS ?_
  rotate_left
  · intro w _; go_simp; try with_reducible rfl
  clear hoi; try simp only [Act.put, List.setIfInBounds_toArray, List.set_cons_zero, List.set_cons_succ]
  refine rg_at 9 (by decide) (fun oi hoi => ?_)
  have ho2 := hoi; simp only [List.getElem?_toArray, List.getElem?_cons_succ, List.getElem?_cons_zero, Option.some.injEq] at ho2; subst ho2
  refine rg_take (v := ?_) 9 hoi (by kernel_rfl) (by kernel_rfl) (by kernel_rfl) (fun _ _ _ h => h) (by rfl) ?_ hS ?_
  rotate_left
  · intro w hw; have hf := HC1.out w hw; clear hw; go_simp; try with_reducible rfl
  clear hoi; try simp only [Act.put, List.setIfInBounds_toArray, List.set_cons_zero, List.set_cons_succ]
  refine rg_at 10 (by decide) (fun oi hoi => ?_)
  have ho2 := hoi; simp only [List.getElem?_toArray, List.getElem?_cons_succ, List.getElem?_cons_zero, Option.some.injEq] at ho2; subst ho2
  refine rg_take (v := ?_) 10 hoi (by kernel_rfl) (by kernel_rfl) (by kernel_rfl) (fun _ _ _ h => h) (by rfl) ?_ hS ?_
  rotate_left
  · intro w _; go_simp; try with_reducible rfl
  clear hoi; try simp only [Act.put, List.setIfInBounds_toArray, List.set_cons_zero, List.set_cons_succ]
  refine rg_at 11 (by decide) (fun oi hoi => ?_)
  have ho2 := hoi; simp only [List.getElem?_toArray, List.getElem?_cons_succ, List.getElem?_cons_zero, Option.some.injEq] at ho2; subst ho2
  refine rg_take (v := ?_) 11 hoi (by kernel_rfl) (by kernel_rfl) (by kernel_rfl) (fun _ _ _ h => h) (by rfl) ?_ hS ?_
  rotate_left
  · intro w hw; have hf := hm2; clear hw; go_simp; try with_reducible rfl
  clear hoi; try simp only [Act.put, List.setIfInBounds_toArray, List.set_cons_zero, List.set_cons_succ]
  refine rg_at 12 (by decide) (fun oi hoi => ?_)
  have ho2 := hoi; simp only [List.getElem?_toArray, List.getElem?_cons_succ, List.getElem?_cons_zero, Option.some.injEq] at ho2; subst ho2
  refine rg_take (v := ?_) 12 hoi (by kernel_rfl) (by kernel_rfl) (by kernel_rfl) (fun _ _ _ h => h) (by rfl) ?_ hS ?_
  rotate_left
  · intro w hw; have hf := hcs w; clear hw; go_simp; try with_reducible rfl
  clear hoi; try simp only [Act.put, List.setIfInBounds_toArray, List.set_cons_zero, List.set_cons_succ]
  refine rg_at 13 (by decide) (fun oi hoi => ?_)
  have ho2 := hoi; simp only [List.getElem?_toArray, List.getElem?_cons_succ, List.getElem?_cons_zero, Option.some.injEq] at ho2; subst ho2
  refine rg_take (v := ?_) 13 hoi (by kernel_rfl) (by kernel_rfl) (by kernel_rfl) (fun _ _ _ h => h) (by rfl) ?_ hS ?_
  rotate_left
  · intro w _; go_simp; try with_reducible rfl
  clear hoi; try simp only [Act.put, List.setIfInBounds_toArray, List.set_cons_zero, List.set_cons_succ]
  refine rg_at 14 (by decide) (fun oi hoi => ?_)
  have ho2 := hoi; simp only [List.getElem?_toArray, List.getElem?_cons_succ, List.getElem?_cons_zero, Option.some.injEq] at ho2; subst ho2
  refine rg_take (v := ?_) 14 hoi (by kernel_rfl) (by kernel_rfl) (by kernel_rfl) (fun _ _ _ h => h) (by rfl) ?_ hS ?_
  rotate_left
  · intro w _; go_simp; try with_reducible rfl
  clear hoi; try simp only [Act.put, List.setIfInBounds_toArray, List.set_cons_zero, List.set_cons_succ]
  refine wpAnyH_done (by kernel_rfl) ?_ _
  go_wp2_with (fail)
  go_loopw [30] (fun v30 W => ∃ (k : Nat) (F' : Nat → Prop), k ≤ K ∧ v30 = .int .i64 k ∧ Dk W F' p1 ⟨nb, log.take k, -1, false⟩ ∧ (∀ k, F' k → w.heap.size ≤ k) ∧ Below w.heap.size w W) (fun v30 _ => K - (intOf v30).toNat)
  case atStart => exact ⟨0, F1, by omega, rfl, HD1.out, hF1, below_drew hb1⟩
  case round =>
    obtain ⟨k, F', hk, rfl, hDk, hF', hb⟩ := hrel
    by_cases hlt : k < K
    · have hkp : k < ps.length := by omega
      have h4' : wr.ownsRow 0 62 2 (.slice A ps.length cc) ps.length (wcells ps) := own_keep h4 fun b hb' => hb.block b (h9 b (h8 b hb'))
      obtain ⟨ad, rfl, hcl⟩ := (Rd.of_own h4').2 (by omega)
      obtain ⟨x0, x1⟩ := wcells_get ps k ps[k] (List.getElem?_eq_getElem hkp)
      have hx0 := hcl _ _ x0
      have hx1 := hcl _ _ x1
      rw [add_field ad (k * 2) 1 (by omega)] at hx1
      obtain ⟨g', c', e, hFg, ho⟩ := h5 ps[k] (List.getElem_mem hkp)
      have hlg : log[k]? = some (ps[k].1, ps[k].2.1) := by rw [← h1]; simp [ab, hkp]
      have hkl : k < log.length := by omega
      have hmem : (ps[k].1, ps[k].2.1) ∈ log := List.mem_of_getElem? hlg
      have htk : log.take (k + 1) = log.take k ++ [(ps[k].1, ps[k].2.1)] := by
        rw [List.take_succ_eq_append_getElem hkl]
        rw [List.getElem?_eq_getElem hkl] at hlg
        injection hlg with hlg
        rw [hlg]
      have hfx := (hfit _ hmem).1
      have hax := hat _ hmem
      generalize ps[k] = x at *
      obtain ⟨a, l, v⟩ := x
      simp only at hx0 hx1 e ho htk hfx hax
      subst e
      have ho' : wr.ownsRow 0 5 1 (.slice (some ⟨g', 0, none⟩) 256 c') 256 (nums .u8 l) := own_keep ho fun b hb' => hb.block b (ho.lt b hb').2
      have hrn : Rn wr .u8 (some ⟨g', 0, none⟩) l := by
        have := Rd.of_own ho'
        rw [← hfx] at this
        exact this
      have hg' := (ho.lt g' rfl).2
      have HW : Hid (∀ W, Upd No wr W → Calls Try.prog 29 #[.pointer (some ⟨p1, 0, none⟩), .int .i64 a, .slice (some ⟨g', 0, none⟩) 256 c'] W fun e w' => e = .returned (.int .i64 0) ∧ ∃ F2, Dk w' F2 p1 ⟨nb, log.take (k + 1), -1, false⟩ ∧ Mv F' F2 W w') := hid fun W hu => by
        have hwr := write p1 _ F' (some ⟨g', 0, none⟩) c' l (a : Int) W (hDk.upd hu (fun _ _ => no_ _)) (Rd.upd hrn (by omega) hu (fun _ _ => no_ _)) (fun ad e hk => by injection e with e; subst e; have := hF' _ hk; simp only at this; omega) ⟨by simp, by simp, hnb⟩ (by simp only [List.length_take]; omega)
        rw [wr_ok nb (log.take k) (-1) a l hax hfx (by decide), hfx] at hwr
        rw [htk]
        exact hwr
      have hj1 : (0 : Int) ≤ (k : Int) := by omega
      have hj2 : (k : Int) < (K : Int) := by omega
      have hsz := hb.size
      have HF := hid hF'
      have HB := hid hb
      clear hcl x0 x1 ho ho' hrn hlg hmem htk hDk h4' hF' hb
      go_wp2_with (fail)
      refine Calls.mono (HW.out _ ((Upd.refl _ _).alloc _)) ?_
      rintro e w5 ⟨rfl, F5, hD5, hM5⟩
      have hM6 : Mv F' F5 wr w5 := Mv.trans (Mv.quiet (((Upd.refl No wr).alloc _).old (Nat.le_refl _))) hM5
      have hf := hid (And.intro hD5 (And.intro (show ∀ k, F5 k → w.heap.size ≤ k from fun k hk => (hM6.sub k hk).elim (HF.out k) fun h => by omega) (HB.out.trans (hM6.upd.below hsz HF.out))))
      clear hD5 hM5 hM6
      go_wp2
      go_roundw
      case rel => exact ⟨k + 1, F5, by omega, by go_num, hf.out.1, hf.out.2.1, hf.out.2.2⟩
      case measure => simp [intOf]; omega
    · obtain rfl : k = K := by omega
      go_wp2
      go_ret
      exact ⟨_, _, rfl, hDk, hF', hb⟩
end Go.Proofs.Ytbcmaobopglooaa.Up
