/-
  The walk of reevelaw11.LetterEncodes.
-/
import Derived.Test.YtbcicmpolgfgpaaLq
import Derived.Test.YtbcicmpolgfgpaaRg
set_option linter.unusedVariables false
set_option linter.unusedSimpArgs false
namespace Go.Proofs.Ytbcicmpolgfgpaa.Lh
open Go.RowKit Go.Proofs.Ytbcicmpolgfgpaa.B Go.Proofs.Ytbcicmpolgfgpaa.Lt Go.Proofs.Ytbcicmpolgfgpaa.Ib Go.Proofs.Ytbcicmpolgfgpaa.Ls Go.Proofs.Ytbcicmpolgfgpaa.Ir Go.Proofs.Ytbcicmpolgfgpaa.Lc Go.Proofs.Ytbcicmpolgfgpaa.Le Go.Proofs.Ytbcicmpolgfgpaa.Lq
set_option maxHeartbeats 8000000 in
set_option maxRecDepth 100000 in
theorem law (x y : L) (u v : Value) (w : World) (hx : Lt.In w x u) (hy : Lt.In w y v) (hsx : x.1.size ≤ maxLen) (hsy : y.1.size ≤ maxLen) (hwx : Wf x) :
    Calls Try.prog 4 #[val x u, val y v] w fun e w' => e = .returned (.bool true) ∧ Below w.heap.size w w' := by
  have hx0 := hx
  obtain ⟨Au, cu, hue, _, hq1, hq2⟩ := hx0
  subst hue
  have hy0 := hy
  obtain ⟨Av, cv, hve, _, hq3, hq4⟩ := hy0
  subst hve
  have hsx' := hid hsx
  have hsy' := hid hsy
  simp only [maxLen] at hsx hsy hq1 hq2 hq3 hq4
  unfold val
  have hal : Upd No w ((w.alloc (.cells #[.string x.1, .int .u64 x.2.1, .int .i64 x.2.2.1, .slice Au x.2.2.2.length cu] 25)).alloc (.cells #[.string y.1, .int .u64 y.2.1, .int .i64 y.2.2.1, .slice Av y.2.2.2.length cv] 25)) := ((Upd.refl _ _).alloc _).alloc _
  have hbx := (Blk.fresh w 25 #[.string x.1, .int .u64 x.2.1, .int .i64 x.2.2.1, .slice Au x.2.2.2.length cu]).alloc (.cells #[.string y.1, .int .u64 y.2.1, .int .i64 y.2.2.1, .slice Av y.2.2.2.length cv] 25)
  have hby := Blk.fresh (w.alloc (.cells #[.string x.1, .int .u64 x.2.1, .int .i64 x.2.2.1, .slice Au x.2.2.2.length cu] 25)) 25 #[.string y.1, .int .u64 y.2.1, .int .i64 y.2.2.1, .slice Av y.2.2.2.length cv]
  rw [show ∀ o, (w.alloc o).heap.size = w.heap.size + 1 from fun o => by simp] at hby
  go_enter Try.func4, Try.ntmps4
  go_wp2_with (fail)
  generalize ((w.alloc (.cells #[.string x.1, .int .u64 x.2.1, .int .i64 x.2.2.1, .slice Au x.2.2.2.length cu] 25)).alloc (.cells #[.string y.1, .int .u64 y.2.1, .int .i64 y.2.2.1, .slice Av y.2.2.2.length cv] 25)) = wa at *
  refine (awake wa).mono ?_
  rintro e w1 ⟨rfl, hb1⟩
  have hu1 : Upd No w w1 := hal.next (Upd.of_below No hb1)
  have hB1 := hbx.upd (Upd.of_below No hb1) (no_ _)
  have hC1 := hby.upd (Upd.of_below No hb1) (no_ _)
  clear hbx hby hal hb1
  obtain ⟨y0, y1, y2, y3⟩ := box hB1
  obtain ⟨z0, z1, z2, z3⟩ := box hC1
  have hu2 := hu1.alloc (.cells #[.string x.1, .int .u64 x.2.1, .int .i64 x.2.2.1, .slice Au x.2.2.2.length cu, .string y.1, .int .u64 y.2.1, .int .i64 y.2.2.1, .slice Av y.2.2.2.length cv] 25)
  have hB2 := hB1.alloc (.cells #[.string x.1, .int .u64 x.2.1, .int .i64 x.2.2.1, .slice Au x.2.2.2.length cu, .string y.1, .int .u64 y.2.1, .int .i64 y.2.2.1, .slice Av y.2.2.2.length cv] 25)
  have hC2 := hC1.alloc (.cells #[.string x.1, .int .u64 x.2.1, .int .i64 x.2.2.1, .slice Au x.2.2.2.length cu, .string y.1, .int .u64 y.2.1, .int .i64 y.2.2.1, .slice Av y.2.2.2.length cv] 25)
  have HF := hid (few (some ⟨w1.heap.size, 0, none⟩) 2 [(x, .slice Au x.2.2.2.length cu), (y, .slice Av y.2.2.2.length cv)] _ (Rd_lit w1 25 4 2 (pcells [(x, .slice Au x.2.2.2.length cu), (y, .slice Av y.2.2.2.length cv)]) rfl) (by simp) (fun q hq => by
    rcases (show q = (x, .slice Au x.2.2.2.length cu) ∨ q = (y, .slice Av y.2.2.2.length cv) by simpa using hq) with rfl | rfl
    · exact ⟨hx.upd hu2 (fun _ _ => no_ _), hsx'.out⟩
    · exact ⟨hy.upd hu2 (fun _ _ => no_ _), hsy'.out⟩))
  simp only [pcells, cells, List.flatMap_cons, List.flatMap_nil, List.append_nil, List.length_cons, List.length_nil, List.cons_append, List.nil_append] at HF
  go_wp2_with (fail)
  refine Calls.mono HF.out ?_
  rintro e w2 ⟨b, rfl, rfl, hb⟩
  clear y0 y1 y2 y3 z0 z1 z2 z3 hu1 hB1 hC1 HF
  generalize w1.alloc (.cells #[.string x.1, .int .u64 x.2.1, .int .i64 x.2.2.1, .slice Au x.2.2.2.length cu, .string y.1, .int .u64 y.2.1, .int .i64 y.2.2.1, .slice Av y.2.2.2.length cv] 25) = w2 at *
  cases b
  · clear hb
    go_wp2_with (fail)
    refine (awake w2).mono ?_
    rintro e w3 ⟨rfl, hb2⟩
    have hf := (hu2.old (Nat.le_refl _)).trans (hb2.mono hu2.size)
    go_wp2
    go_ret
    exact ⟨rfl, hf⟩
  · have hle : x.2.2.2.length ≤ 1000 := ((hb rfl).1 _ List.mem_cons_self).2
    clear hb
    obtain ⟨y0, y1, y2, y3⟩ := box hB2
    have HC := hid (enc1 x _ w2 (hx.upd hu2 (fun _ _ => no_ _)) hwx)
    unfold val at HC
    go_wp2_with (fail)
    refine Calls.mono HC.out ?_
    rintro e w3 ⟨A3, c3, rfl, hr3, hu3⟩
    clear y0 y1 y2 y3 HC
    have hB3 := hB2.upd hu3 (no_ _)
    have hC3 := hC2.upd hu3 (no_ _)
    have hu3 := hu2.next hu3
    clear hB2 hC2 hu2
    obtain ⟨y0, y1, y2, y3⟩ := box hB3
    have HC := hid (enc2 x _ w3 (hx.upd hu3 (fun _ _ => no_ _)) hwx)
    unfold val at HC
    go_wp2_with (fail)
    refine Calls.mono HC.out ?_
    rintro e w4 ⟨A4, c4, rfl, hr4, hu4⟩
    clear y0 y1 y2 y3 HC
    have hB4 := hB3.upd hu4 (no_ _)
    have hC4 := hC3.upd hu4 (no_ _)
    have hr3 : Rn w4 .u8 A3 (encL x) := Rd.upd hr3 (by omega) hu4 (fun _ _ => no_ _)
    have hu4 := hu3.next hu4
    clear hB3 hC3 hu3
    have hX : Hid (∀ W, Upd No w4 W → Lt.In W x (.slice Au x.2.2.2.length cu)) := hid fun W h => hx.upd (hu4.next h) (fun _ _ => no_ _)
    have hY : Hid (∀ W, Upd No w4 W → Lt.In W y (.slice Av y.2.2.2.length cv)) := hid fun W h => hy.upd (hu4.next h) (fun _ _ => no_ _)
    have HB1 := hid (fun W (h : Upd No w4 W) => box (hB4.upd h (no_ _)))
    have HB2 := hid (fun W (h : Upd No w4 W) => box (hC4.upd h (no_ _)))
    have HU := hid hu4
    obtain ⟨st, hst⟩ : ∃ st, Hid (st = strOfNums (encL x)) := ⟨_, hid rfl⟩
    have HV1 : Hid (∀ W, Upd No w4 W → (convert 32 9 (.slice A3 (encL x).length c3)).run Try.prog W = .ok (.string st) W) := hid fun W h => by
      rw [hst.out]
      exact conv_str (P := Try.prog) (Rd.upd hr3 (by omega) h (fun _ _ => no_ _)) 32 9 5 c3 Try.underlying32 Try.underlying5 Try.underlying9
    have HV2 : Hid (∀ W, Upd No w4 W → (convert 32 9 (.slice A4 (encL x).length c4)).run Try.prog W = .ok (.string st) W) := hid fun W h => by
      rw [hst.out]
      exact conv_str (P := Try.prog) (Rd.upd hr4 (by omega) h (fun _ _ => no_ _)) 32 9 5 c4 Try.underlying32 Try.underlying5 Try.underlying9
    have hu45 := (Upd.refl No w4).drew
    have HF1 : Hid (∀ W, Upd No w4 W → Calls Try.prog 16 #[val x (.slice Au x.2.2.2.length cu)] W fun e w' => e = .returned (.bool (formed x)) ∧ Upd No W w') := hid fun W h => formed_ x _ W (hX.out W h)
    have HF2 : Hid (∀ W, Upd No w4 W → Calls Try.prog 17 #[val x (.slice Au x.2.2.2.length cu)] W fun e w' => e = .returned (.bool (formed x)) ∧ Upd No W w') := hid fun W h => rformed_ x _ W (hX.out W h)
    have HS1 : Hid (∀ W, Upd No w4 W → Calls Try.prog 18 #[val x (.slice Au x.2.2.2.length cu), val y (.slice Av y.2.2.2.length cv)] W fun e w' => e = .returned (.bool (decide (x = y))) ∧ Upd No W w') := hid fun W h => lsame_ x y _ _ W (hX.out W h) (hY.out W h)
    have HS2 : Hid (∀ W, Upd No w4 W → Calls Try.prog 13 #[val x (.slice Au x.2.2.2.length cu), val y (.slice Av y.2.2.2.length cv)] W fun e w' => e = .returned (.bool (decide (x = y))) ∧ Upd No W w') := hid fun W h => same_ x y _ _ W (hX.out W h) (hY.out W h)
    have HCP : Hid (∀ W, Upd No w4 W → Calls Try.prog 12 #[val x (.slice Au x.2.2.2.length cu)] W fun e w' => CpOut W x e w') := hid fun W h => copy_ x _ W (hX.out W h) (by omega)
    unfold val at HF1 HF2 HS1 HS2 HCP
    generalize hff : formed x = ff at *
    generalize decide (x = y) = dd at *
    clear hr3 hr4 hB4 hC4
    go_wp2_with (fail)
    refine wp_region_held_drew (S := fun W => Upd No w4 W) (by kernel_rfl) hu45 (fun hS => ?_)
    refine rg_at 0 (by decide) (fun oi hoi => ?_)
    have ho2 := hoi; simp only [List.getElem?_toArray, List.getElem?_cons_succ, List.getElem?_cons_zero, Option.some.injEq] at ho2; subst ho2
    refine rg_take (v := ?_) 0 hoi (by kernel_rfl) (by kernel_rfl) (by kernel_rfl) (fun _ _ _ h => h) (by rfl) ?_ hS ?_
    rotate_left
    · intro w _; go_simp; try with_reducible rfl
    clear hoi; try simp only [Act.put, List.setIfInBounds_toArray, List.set_cons_zero, List.set_cons_succ]
    refine rg_at 1 (by decide) (fun oi hoi => ?_)
    have ho2 := hoi; simp only [List.getElem?_toArray, List.getElem?_cons_succ, List.getElem?_cons_zero, Option.some.injEq] at ho2; subst ho2
    refine rg_take (v := ?_) 1 hoi (by kernel_rfl) (by kernel_rfl) (by kernel_rfl) (fun _ _ _ h => h) (by rfl) ?_ hS ?_
    rotate_left
    · intro w hw; have hf := HV1.out w hw; clear hw; go_simp; try with_reducible rfl
    clear hoi; try simp only [Act.put, List.setIfInBounds_toArray, List.set_cons_zero, List.set_cons_succ]
    refine rg_at 2 (by decide) (fun oi hoi => ?_)
    have ho2 := hoi; simp only [List.getElem?_toArray, List.getElem?_cons_succ, List.getElem?_cons_zero, Option.some.injEq] at ho2; subst ho2
    refine rg_take (v := ?_) 2 hoi (by kernel_rfl) (by kernel_rfl) (by kernel_rfl) (fun _ _ _ h => h) (by rfl) ?_ hS ?_
    rotate_left
    · intro w _; go_simp; try with_reducible rfl
    clear hoi; try simp only [Act.put, List.setIfInBounds_toArray, List.set_cons_zero, List.set_cons_succ]
    refine rg_at 3 (by decide) (fun oi hoi => ?_)
    have ho2 := hoi; simp only [List.getElem?_toArray, List.getElem?_cons_succ, List.getElem?_cons_zero, Option.some.injEq] at ho2; subst ho2
    refine rg_take (v := ?_) 3 hoi (by kernel_rfl) (by kernel_rfl) (by kernel_rfl) (fun _ _ _ h => h) (by rfl) ?_ hS ?_
    rotate_left
    · intro w hw; have hf := HV2.out w hw; clear hw; go_simp; try with_reducible rfl
    clear hoi; try simp only [Act.put, List.setIfInBounds_toArray, List.set_cons_zero, List.set_cons_succ]
    refine rg_at 4 (by decide) (fun oi hoi => ?_)
    have ho2 := hoi; simp only [List.getElem?_toArray, List.getElem?_cons_succ, List.getElem?_cons_zero, Option.some.injEq] at ho2; subst ho2
    refine rg_take (v := ?_) 4 hoi (by kernel_rfl) (by kernel_rfl) (by kernel_rfl) (fun _ _ _ h => h) (by rfl) ?_ hS ?_
    rotate_left
    · intro w _; go_simp; try with_reducible rfl
    clear hoi; try simp only [Act.put, List.setIfInBounds_toArray, List.set_cons_zero, List.set_cons_succ]
    refine rg_at 5 (by decide) (fun oi hoi => ?_)
    have ho2 := hoi; simp only [List.getElem?_toArray, List.getElem?_cons_succ, List.getElem?_cons_zero, Option.some.injEq] at ho2; subst ho2
    refine rg_take (v := ?_) 5 hoi (by kernel_rfl) (by kernel_rfl) (by kernel_rfl) (fun _ _ _ h => h) (by rfl) ?_ hS ?_
    rotate_left
    · intro w _; go_simp; try with_reducible rfl
    clear hoi; try simp only [Act.put, List.setIfInBounds_toArray, List.set_cons_zero, List.set_cons_succ]
    refine rg_at 6 (by decide) (fun oi hoi => ?_)
    have ho2 := hoi; simp only [List.getElem?_toArray, List.getElem?_cons_succ, List.getElem?_cons_zero, Option.some.injEq] at ho2; subst ho2
    refine rg_take (v := ?_) 6 hoi (by kernel_rfl) (by kernel_rfl) (by kernel_rfl) (fun _ _ _ h => h) (by rfl) ?_ hS ?_
    rotate_left
    · intro w _; go_simp; try with_reducible rfl
    clear hoi; try simp only [Act.put, List.setIfInBounds_toArray, List.set_cons_zero, List.set_cons_succ]
    refine rg_at 7 (by decide) (fun oi hoi => ?_)
    have ho2 := hoi; simp only [List.getElem?_toArray, List.getElem?_cons_succ, List.getElem?_cons_zero, Option.some.injEq] at ho2; subst ho2
    refine rg_take (v := ?_) 7 hoi (by kernel_rfl) (by kernel_rfl) (by kernel_rfl) (fun _ _ _ h => h) (by rfl) ?_ hS ?_
    rotate_left
    · intro w _; go_simp; try with_reducible rfl
    clear hoi; try simp only [Act.put, List.setIfInBounds_toArray, List.set_cons_zero, List.set_cons_succ]
    refine rg_at 8 (by decide) (fun oi hoi => ?_)
    have ho2 := hoi; simp only [List.getElem?_toArray, List.getElem?_cons_succ, List.getElem?_cons_zero, Option.some.injEq] at ho2; subst ho2
    refine rg_take (v := ?_) 8 hoi (by kernel_rfl) (by kernel_rfl) (by kernel_rfl) (fun _ _ _ h => h) (by rfl) ?_ hS ?_
    rotate_left
    · intro w _; go_simp; try with_reducible rfl
    clear hoi; try simp only [Act.put, List.setIfInBounds_toArray, List.set_cons_zero, List.set_cons_succ]
    refine rg_at 9 (by decide) (fun oi hoi => ?_)
    have ho2 := hoi; simp only [List.getElem?_toArray, List.getElem?_cons_succ, List.getElem?_cons_zero, Option.some.injEq] at ho2; subst ho2
    refine rg_take (v := ?_) 9 hoi (by kernel_rfl) (by kernel_rfl) (by kernel_rfl) (fun _ _ _ h => h) (by rfl) ?_ hS ?_
    rotate_left
    · intro w _; go_simp; try with_reducible rfl
    clear hoi; try simp only [Act.put, List.setIfInBounds_toArray, List.set_cons_zero, List.set_cons_succ]
    refine rg_at 10 (by decide) (fun oi hoi => ?_)
    have ho2 := hoi; simp only [List.getElem?_toArray, List.getElem?_cons_succ, List.getElem?_cons_zero, Option.some.injEq] at ho2; subst ho2
    refine rg_take (v := ?_) 10 hoi (by kernel_rfl) (by kernel_rfl) (by kernel_rfl) (fun _ _ _ h => h) (by rfl) ?_ hS ?_
    rotate_left
    · intro w _; go_simp; try with_reducible rfl
    clear hoi; try simp only [Act.put, List.setIfInBounds_toArray, List.set_cons_zero, List.set_cons_succ]
    refine rg_at 11 (by decide) (fun oi hoi => ?_)
    have ho2 := hoi; simp only [List.getElem?_toArray, List.getElem?_cons_succ, List.getElem?_cons_zero, Option.some.injEq] at ho2; subst ho2
    refine rg_take (v := ?_) 11 hoi (by kernel_rfl) (by kernel_rfl) (by kernel_rfl) (fun _ _ _ h => h) (by rfl) ?_ hS ?_
    rotate_left
    · intro w hw; have hf := HB1.out w hw; clear hw; go_simp; try with_reducible rfl
    clear hoi; try simp only [Act.put, List.setIfInBounds_toArray, List.set_cons_zero, List.set_cons_succ]
    refine rg_at 13 (by decide) (fun oi hoi => ?_)
    have ho2 := hoi; simp only [List.getElem?_toArray, List.getElem?_cons_succ, List.getElem?_cons_zero, Option.some.injEq] at ho2; subst ho2
    refine rg_take (v := ?_) 13 hoi (by kernel_rfl) (by kernel_rfl) (by kernel_rfl) (fun _ _ _ h => h) (by rfl) ?_ hS ?_
    rotate_left
    · intro w hw; have hf := HB1.out w hw; clear hw; go_simp; try with_reducible rfl
    clear hoi; try simp only [Act.put, List.setIfInBounds_toArray, List.set_cons_zero, List.set_cons_succ]
    refine rg_at 12 (by decide) (fun oi hoi => ?_)
    have ho2 := hoi; simp only [List.getElem?_toArray, List.getElem?_cons_succ, List.getElem?_cons_zero, Option.some.injEq] at ho2; subst ho2
    refine rg_call 12 (by kernel_rfl) hoi (by rfl) (fun K hK => ?_)
    clear hoi
    go_simp
    refine Calls.mono (HF1.out _ hS) ?_
    rintro e w5 ⟨rfl, hu5⟩
    go_wp2_with (fail)
    refine hK.out _ _ (hS.next hu5) (fun hS => ?_)
    clear hK K
    try simp only [Act.put, List.setIfInBounds_toArray, List.set_cons_zero, List.set_cons_succ]
    refine rg_at 14 (by decide) (fun oi hoi => ?_)
    have ho2 := hoi; simp only [List.getElem?_toArray, List.getElem?_cons_succ, List.getElem?_cons_zero, Option.some.injEq] at ho2; subst ho2
    refine rg_call 14 (by kernel_rfl) hoi (by rfl) (fun K hK => ?_)
    clear hoi
    go_simp
    refine Calls.mono (HF2.out _ hS) ?_
    rintro e w6 ⟨rfl, hu6⟩
    go_wp2_with (fail)
    refine hK.out _ _ (hS.next hu6) (fun hS => ?_)
    clear hK K
    try simp only [Act.put, List.setIfInBounds_toArray, List.set_cons_zero, List.set_cons_succ]
    refine rg_at 15 (by decide) (fun oi hoi => ?_)
    have ho2 := hoi; simp only [List.getElem?_toArray, List.getElem?_cons_succ, List.getElem?_cons_zero, Option.some.injEq] at ho2; subst ho2
    refine rg_take (v := ?_) 15 hoi (by kernel_rfl) (by kernel_rfl) (by kernel_rfl) (fun _ _ _ h => h) (by rfl) ?_ hS ?_
    rotate_left
    · intro w _; go_simp; try with_reducible rfl
    clear hoi; try simp only [Act.put, List.setIfInBounds_toArray, List.set_cons_zero, List.set_cons_succ]
    refine rg_at 16 (by decide) (fun oi hoi => ?_)
    have ho2 := hoi; simp only [List.getElem?_toArray, List.getElem?_cons_succ, List.getElem?_cons_zero, Option.some.injEq] at ho2; subst ho2
    refine rg_take (v := ?_) 16 hoi (by kernel_rfl) (by kernel_rfl) (by kernel_rfl) (fun _ _ _ h => h) (by rfl) ?_ hS ?_
    rotate_left
    · intro w _; go_simp; try with_reducible rfl
    clear hoi; try simp only [Act.put, List.setIfInBounds_toArray, List.set_cons_zero, List.set_cons_succ]
    refine rg_at 17 (by decide) (fun oi hoi => ?_)
    have ho2 := hoi; simp only [List.getElem?_toArray, List.getElem?_cons_succ, List.getElem?_cons_zero, Option.some.injEq] at ho2; subst ho2
    refine rg_take (v := ?_) 17 hoi (by kernel_rfl) (by kernel_rfl) (by kernel_rfl) (fun _ _ _ h => h) (by rfl) ?_ hS ?_
    rotate_left
    · intro w _; go_simp; try with_reducible rfl
    clear hoi; try simp only [Act.put, List.setIfInBounds_toArray, List.set_cons_zero, List.set_cons_succ]
    refine rg_at 18 (by decide) (fun oi hoi => ?_)
    have ho2 := hoi; simp only [List.getElem?_toArray, List.getElem?_cons_succ, List.getElem?_cons_zero, Option.some.injEq] at ho2; subst ho2
    refine rg_take (v := ?_) 18 hoi (by kernel_rfl) (by kernel_rfl) (by kernel_rfl) (fun _ _ _ h => h) (by rfl) ?_ hS ?_
    rotate_left
    · intro w hw; have hf := HB1.out w hw; clear hw; go_simp; try with_reducible rfl
    clear hoi; try simp only [Act.put, List.setIfInBounds_toArray, List.set_cons_zero, List.set_cons_succ]
    refine rg_at 19 (by decide) (fun oi hoi => ?_)
    have ho2 := hoi; simp only [List.getElem?_toArray, List.getElem?_cons_succ, List.getElem?_cons_zero, Option.some.injEq] at ho2; subst ho2
    refine rg_take (v := ?_) 19 hoi (by kernel_rfl) (by kernel_rfl) (by kernel_rfl) (fun _ _ _ h => h) (by rfl) ?_ hS ?_
    rotate_left
    · intro w hw; have hf := HB2.out w hw; clear hw; go_simp; try with_reducible rfl
    clear hoi; try simp only [Act.put, List.setIfInBounds_toArray, List.set_cons_zero, List.set_cons_succ]
    refine rg_at 21 (by decide) (fun oi hoi => ?_)
    have ho2 := hoi; simp only [List.getElem?_toArray, List.getElem?_cons_succ, List.getElem?_cons_zero, Option.some.injEq] at ho2; subst ho2
    refine rg_take (v := ?_) 21 hoi (by kernel_rfl) (by kernel_rfl) (by kernel_rfl) (fun _ _ _ h => h) (by rfl) ?_ hS ?_
    rotate_left
    · intro w hw; have hf := HB1.out w hw; clear hw; go_simp; try with_reducible rfl
    clear hoi; try simp only [Act.put, List.setIfInBounds_toArray, List.set_cons_zero, List.set_cons_succ]
    refine rg_at 22 (by decide) (fun oi hoi => ?_)
    have ho2 := hoi; simp only [List.getElem?_toArray, List.getElem?_cons_succ, List.getElem?_cons_zero, Option.some.injEq] at ho2; subst ho2
    refine rg_take (v := ?_) 22 hoi (by kernel_rfl) (by kernel_rfl) (by kernel_rfl) (fun _ _ _ h => h) (by rfl) ?_ hS ?_
    rotate_left
    · intro w hw; have hf := HB2.out w hw; clear hw; go_simp; try with_reducible rfl
    clear hoi; try simp only [Act.put, List.setIfInBounds_toArray, List.set_cons_zero, List.set_cons_succ]
    refine rg_at 20 (by decide) (fun oi hoi => ?_)
    have ho2 := hoi; simp only [List.getElem?_toArray, List.getElem?_cons_succ, List.getElem?_cons_zero, Option.some.injEq] at ho2; subst ho2
    refine rg_call 20 (by kernel_rfl) hoi (by rfl) (fun K hK => ?_)
    clear hoi
    go_simp
    refine Calls.mono (HS1.out _ hS) ?_
    rintro e w7 ⟨rfl, hu7⟩
    go_wp2_with (fail)
    refine hK.out _ _ (hS.next hu7) (fun hS => ?_)
    clear hK K
    try simp only [Act.put, List.setIfInBounds_toArray, List.set_cons_zero, List.set_cons_succ]
    refine rg_at 23 (by decide) (fun oi hoi => ?_)
    have ho2 := hoi; simp only [List.getElem?_toArray, List.getElem?_cons_succ, List.getElem?_cons_zero, Option.some.injEq] at ho2; subst ho2
    refine rg_call 23 (by kernel_rfl) hoi (by rfl) (fun K hK => ?_)
    clear hoi
    go_simp
    refine Calls.mono (HS2.out _ hS) ?_
    rintro e w8 ⟨rfl, hu8⟩
    go_wp2_with (fail)
    refine hK.out _ _ (hS.next hu8) (fun hS => ?_)
    clear hK K
    try simp only [Act.put, List.setIfInBounds_toArray, List.set_cons_zero, List.set_cons_succ]
    refine rg_at 24 (by decide) (fun oi hoi => ?_)
    have ho2 := hoi; simp only [List.getElem?_toArray, List.getElem?_cons_succ, List.getElem?_cons_zero, Option.some.injEq] at ho2; subst ho2
    refine rg_take (v := ?_) 24 hoi (by kernel_rfl) (by kernel_rfl) (by kernel_rfl) (fun _ _ _ h => h) (by rfl) ?_ hS ?_
    rotate_left
    · intro w _; go_simp; try with_reducible rfl
    clear hoi; try simp only [Act.put, List.setIfInBounds_toArray, List.set_cons_zero, List.set_cons_succ]
    refine rg_at 25 (by decide) (fun oi hoi => ?_)
    have ho2 := hoi; simp only [List.getElem?_toArray, List.getElem?_cons_succ, List.getElem?_cons_zero, Option.some.injEq] at ho2; subst ho2
    refine rg_take (v := ?_) 25 hoi (by kernel_rfl) (by kernel_rfl) (by kernel_rfl) (fun _ _ _ h => h) (by rfl) ?_ hS ?_
    rotate_left
    · intro w _; go_simp; try with_reducible rfl
    clear hoi; try simp only [Act.put, List.setIfInBounds_toArray, List.set_cons_zero, List.set_cons_succ]
    refine rg_at 26 (by decide) (fun oi hoi => ?_)
    have ho2 := hoi; simp only [List.getElem?_toArray, List.getElem?_cons_succ, List.getElem?_cons_zero, Option.some.injEq] at ho2; subst ho2
    refine rg_take (v := ?_) 26 hoi (by kernel_rfl) (by kernel_rfl) (by kernel_rfl) (fun _ _ _ h => h) (by rfl) ?_ hS ?_
    rotate_left
    · intro w _; go_simp; try with_reducible rfl
    clear hoi; try simp only [Act.put, List.setIfInBounds_toArray, List.set_cons_zero, List.set_cons_succ]
    refine rg_at 27 (by decide) (fun oi hoi => ?_)
    have ho2 := hoi; simp only [List.getElem?_toArray, List.getElem?_cons_succ, List.getElem?_cons_zero, Option.some.injEq] at ho2; subst ho2
    refine rg_take (v := ?_) 27 hoi (by kernel_rfl) (by kernel_rfl) (by kernel_rfl) (fun _ _ _ h => h) (by rfl) ?_ hS ?_
    rotate_left
    · intro w hw; have hf := HB1.out w hw; clear hw; go_simp; try with_reducible rfl
    clear hoi; try simp only [Act.put, List.setIfInBounds_toArray, List.set_cons_zero, List.set_cons_succ]
    refine rg_at 29 (by decide) (fun oi hoi => ?_)
    have ho2 := hoi; simp only [List.getElem?_toArray, List.getElem?_cons_succ, List.getElem?_cons_zero, Option.some.injEq] at ho2; subst ho2
    refine rg_take (v := ?_) 29 hoi (by kernel_rfl) (by kernel_rfl) (by kernel_rfl) (fun _ _ _ h => h) (by rfl) ?_ hS ?_
    rotate_left
    · intro w hw; have hf := HB1.out w hw; clear hw; go_simp; try with_reducible rfl
    clear hoi; try simp only [Act.put, List.setIfInBounds_toArray, List.set_cons_zero, List.set_cons_succ]
    refine rg_at 28 (by decide) (fun oi hoi => ?_)
    have ho2 := hoi; simp only [List.getElem?_toArray, List.getElem?_cons_succ, List.getElem?_cons_zero, Option.some.injEq] at ho2; subst ho2
    refine rg_call 28 (by kernel_rfl) hoi (by rfl) (fun K hK => ?_)
    clear hoi
    go_simp
    refine Calls.mono (HCP.out _ hS) ?_
    rintro e w9 ⟨v9, rfl, hv9, hu9, _⟩
    have hv9' := hv9
    obtain ⟨A9, c9, rfl, _⟩ := hv9'
    unfold val
    have HS3 := hid (same_ x x _ _ w9 hv9 (hX.out _ (hS.next hu9)))
    unfold val at HS3
    go_wp2_with (fail)
    refine hK.out _ _ (hS.next hu9) (fun hS => ?_)
    clear hK K
    try simp only [Act.put, List.setIfInBounds_toArray, List.set_cons_zero, List.set_cons_succ]
    refine rg_at 30 (by decide) (fun oi hoi => ?_)
    have ho2 := hoi; simp only [List.getElem?_toArray, List.getElem?_cons_succ, List.getElem?_cons_zero, Option.some.injEq] at ho2; subst ho2
    refine rg_call 30 (by kernel_rfl) hoi (by rfl) (fun K hK => ?_)
    clear hoi
    go_simp
    refine Calls.mono HS3.out ?_
    rintro e w10 ⟨rfl, hu10⟩
    have hbel := hid ((HU.out.next (hS.next hu10)).old (Nat.le_refl _))
    go_wp2_with (fail)
    refine hK.out _ _ (hS.next hu10) (fun hS => ?_)
    clear hK K
    try simp only [Act.put, List.setIfInBounds_toArray, List.set_cons_zero, List.set_cons_succ]
    refine rg_at 31 (by decide) (fun oi hoi => ?_)
    have ho2 := hoi; simp only [List.getElem?_toArray, List.getElem?_cons_succ, List.getElem?_cons_zero, Option.some.injEq] at ho2; subst ho2
    refine rg_take (v := ?_) 31 hoi (by kernel_rfl) (by kernel_rfl) (by kernel_rfl) (fun _ _ _ h => h) (by rfl) ?_ hS ?_
    rotate_left
    · intro w _; go_simp; try with_reducible rfl
    clear hoi; try simp only [Act.put, List.setIfInBounds_toArray, List.set_cons_zero, List.set_cons_succ]
    refine rg_at 32 (by decide) (fun oi hoi => ?_)
    have ho2 := hoi; simp only [List.getElem?_toArray, List.getElem?_cons_succ, List.getElem?_cons_zero, Option.some.injEq] at ho2; subst ho2
    refine rg_take (v := ?_) 32 hoi (by kernel_rfl) (by kernel_rfl) (by kernel_rfl) (fun _ _ _ h => h) (by rfl) ?_ hS ?_
    rotate_left
    · intro w _; go_simp; try with_reducible rfl
    clear hoi; try simp only [Act.put, List.setIfInBounds_toArray, List.set_cons_zero, List.set_cons_succ]
    refine wpAnyH_done (by kernel_rfl) ?_ _
    go_wp2
    go_ret
    exact ⟨by simp, hbel.out⟩
end Go.Proofs.Ytbcicmpolgfgpaa.Lh
