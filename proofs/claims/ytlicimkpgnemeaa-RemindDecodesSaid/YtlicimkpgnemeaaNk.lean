/-
  The walks of compare, and of what it calls; of find's closure and slices.IndexFunc; of slices.BinarySearchFunc.
-/
import Derived.Test.YtlicimkpgnemeaaNm
import Derived.Test.YtlicimkpgnemeaaOp
set_option linter.unusedVariables false
set_option linter.unusedSimpArgs false
namespace Go.Proofs.Ytlicimkpgnemeaa.Nd
open Go.RowKit Go.Proofs.Ytlicimkpgnemeaa.B Go.Proofs.Ytlicimkpgnemeaa.Op
set_option maxHeartbeats 400000 in
theorem isNaN_ (x : Int) (w : World) : Calls Try.prog 72 #[.int .i64 x] w fun e w' => e = .returned (.bool false) ∧ w = w' := by
  have h : (x != x) = false := by simp
  go_enter Try.func72, Try.ntmps72
  go_wp2
  go_ret
  exact ⟨rfl, rfl⟩
set_option maxHeartbeats 400000 in
theorem compare_ints (x y : Int) (w : World) : Calls Try.prog 67 #[.int .i64 x, .int .i64 y] w fun e w' => e = .returned (.int .i64 (sgn x y)) ∧ w = w' := by
  have HS : Hid (sgn x y = if x < y then -1 else if y < x then 1 else 0) := hid rfl
  rcases Int.lt_trichotomy x y with h | h | h
  · have HE : Hid (sgn x y = -1) := hid (by rw [HS.out, if_pos h])
    go_enter Try.func67, Try.ntmps67
    go_wp2_with (fail)
    refine Calls.mono (isNaN_ x w) ?_
    rintro e w1 ⟨rfl, rfl⟩
    go_wp2_with (fail)
    refine Calls.mono (isNaN_ y w) ?_
    rintro e w1 ⟨rfl, rfl⟩
    go_wp2
    go_ret
    exact ⟨congrArg (fun z => Ending.returned (.int .i64 z)) HE.out.symm, rfl⟩
  · have HE : Hid (sgn x y = 0) := hid (by rw [HS.out, if_neg (by omega), if_neg (by omega)])
    have h1 : ¬ x < y := by omega
    have h2 : ¬ y < x := by omega
    clear h
    go_enter Try.func67, Try.ntmps67
    go_wp2_with (fail)
    refine Calls.mono (isNaN_ x w) ?_
    rintro e w1 ⟨rfl, rfl⟩
    go_wp2_with (fail)
    refine Calls.mono (isNaN_ y w) ?_
    rintro e w1 ⟨rfl, rfl⟩
    go_wp2
    go_ret
    exact ⟨congrArg (fun z => Ending.returned (.int .i64 z)) HE.out.symm, rfl⟩
  · have HE : Hid (sgn x y = 1) := hid (by rw [HS.out, if_neg (by omega), if_pos h])
    have h1 : ¬ x < y := by omega
    go_enter Try.func67, Try.ntmps67
    go_wp2_with (fail)
    refine Calls.mono (isNaN_ x w) ?_
    rintro e w1 ⟨rfl, rfl⟩
    go_wp2_with (fail)
    refine Calls.mono (isNaN_ y w) ?_
    rintro e w1 ⟨rfl, rfl⟩
    go_wp2
    go_ret
    exact ⟨congrArg (fun z => Ending.returned (.int .i64 z)) HE.out.symm, rfl⟩
set_option maxHeartbeats 400000 in
theorem compareString (x y : ByteArray) (w : World) : Calls Try.prog 73 #[.string x, .string y] w fun e w' => e = .returned (.int .i64 (Lib.compareBytes x.data.toList y.data.toList)) ∧ w = w' := by
  have hcf : ∀ w, (callFunc 75 #[.string x, .string y]).run Try.prog w = .ok (.value (.int .i64 (Lib.compareBytes x.data.toList y.data.toList))) w := fun w => by
    rw [run_callFunc_extern Try.func75 (by kernel_rfl) (by kernel_rfl) (by kernel_rfl) (e := Extern.BytealgCompare.compare) (by kernel_rfl), Lib.run_compareString]
    rfl
  generalize Lib.compareBytes x.data.toList y.data.toList = z at *
  go_enter Try.func73, Try.ntmps73
  go_wp2_with (simp only [hcf])
  go_ret
  exact ⟨rfl, rfl⟩
set_option maxHeartbeats 400000 in
theorem compare_texts (x y : ByteArray) (w : World) : Calls Try.prog 68 #[.string x, .string y] w fun e w' => e = .returned (.int .i64 (Lib.compareBytes x.data.toList y.data.toList)) ∧ w = w' := by
  go_enter Try.func68, Try.ntmps68
  go_wp2_with (fail)
  refine Calls.mono (compareString x y w) ?_
  rintro e w1 ⟨rfl, rfl⟩
  go_wp2
  go_ret
  exact ⟨rfl, rfl⟩
def orR (a b c : Int) : Int := if a ≠ 0 then a else if b ≠ 0 then b else c
theorem or_at {w : World} {A : Option Addr} {l : List Int} (h : Rn w .i64 A l) {j : Nat} (hj : j < l.length) : ∃ ad, A = some ad ∧ w.cell? (ad.add j) = some (.int .i64 (gi l j)) := by
  obtain ⟨ad, e, hc⟩ := h.2 (by omega)
  exact ⟨ad, e, hc j _ (nums_get .i64 l j hj)⟩
def orL : List Int → Int
  | [] => 0
  | a :: l => if a ≠ 0 then a else orL l
theorem orL_skip : ∀ (l : List Int) (j : Nat), (∀ i, i < j → gi l i = 0) → orL l = orL (l.drop j)
  | l, 0, _ => rfl
  | [], j + 1, _ => rfl
  | a :: l, j + 1, h => by
    have h0 : a = 0 := h 0 (by omega)
    rw [List.drop_succ_cons, orL, if_neg (by simpa using h0)]
    exact orL_skip l j fun i hi => by
      have := h (i + 1) (by omega)
      simpa [gi] using this
set_option maxHeartbeats 1000000 in
theorem or_ (A : Option Addr) (l : List Int) (c : Nat) (w : World) (h : Rn w .i64 A l) (hl : l.length ≤ 9223372036854775807) :
    Calls Try.prog 66 #[.slice A l.length c] w fun e w' => e = .returned (.int .i64 (orL l)) ∧ w = w' := by
  have HR := hid h
  clear h
  go_enter Try.func66, Try.ntmps66
  go_wp2_with (fail)
  go_loop [8] (fun v8 => ∃ j : Nat, j ≤ l.length ∧ v8 = .int .i64 j ∧ Hid (∀ i, i < j → gi l i = 0)) (fun v8 => l.length - (intOf v8).toNat)
  case atStart => exact ⟨0, by omega, rfl, hid fun i hi => by omega⟩
  case round =>
    obtain ⟨j, hj, rfl, hH⟩ := hrel
    by_cases hlt : j < l.length
    · obtain ⟨ad, rfl, hc⟩ := or_at HR.out hlt
      have HZ : Hid (gi l j = 0 → ∀ i, i < j + 1 → gi l i = 0) := hid fun h0 i hi => by
        rcases Nat.lt_or_ge i j with h | h
        · exact hH.out i h
        · obtain rfl : i = j := by omega
          exact h0
      have HY : Hid (gi l j ≠ 0 → orL l = gi l j) := hid fun h0 => by
        rw [orL_skip l j hH.out, List.drop_eq_getElem_cons hlt, orL]
        have e : gi l j = l[j] := by simp [gi, List.getD_eq_getElem?_getD, hlt]
        rw [← e, if_pos h0]
      have hj2 : (j : Int) < (l.length : Int) := by omega
      generalize gi l j = y at *
      by_cases hy : y = 0
      · have HZ2 := hid (HZ.out hy)
        have hy' : (y != 0) = false := by simpa using hy
        clear HZ HY hy
        go_wp2
        go_round
        case rel => exact ⟨j + 1, by omega, by go_num, HZ2⟩
        case measure => simp [intOf]; omega
      · have HY2 := hid (HY.out hy)
        have hy' : (y != 0) = true := by simpa using hy
        clear HZ HY hy
        go_wp2
        go_ret
        exact ⟨congrArg (fun z => Ending.returned (.int .i64 z)) HY2.out.symm, rfl⟩
    · obtain rfl : j = l.length := by omega
      have HE : Hid (orL l = 0) := hid (by rw [orL_skip l l.length hH.out, List.drop_length]; rfl)
      go_wp2
      go_ret
      exact ⟨congrArg (fun z => Ending.returned (.int .i64 z)) HE.out.symm, rfl⟩
theorem cmp_or (a b : Rm) : orL [sgn a.due b.due, Lib.compareBytes a.actor.data.toList b.actor.data.toList, Lib.compareBytes a.name.data.toList b.name.data.toList] = cmp a b := by
  unfold cmp
  simp only [orL]
  split
  · rfl
  · split
    · rfl
    · split
      · rfl
      · rename_i h
        simp only [ne_eq, Decidable.not_not] at h
        exact h.symm
set_option maxHeartbeats 2000000 in
set_option maxRecDepth 100000 in
theorem compare_ (a b : Rm) (w : World) : Calls Try.prog 48 #[rv a, rv b] w fun e w' => e = .returned (.int .i64 (cmp a b)) ∧ Upd No w w' := by
  have HC := hid (cmp_or a b)
  obtain ⟨ac, an, ad, ap, ak⟩ := a
  obtain ⟨bc, bn, bd, bp, bk⟩ := b
  simp only at HC
  unfold rv
  generalize cmp ⟨ac, an, ad, ap, ak⟩ ⟨bc, bn, bd, bp, bk⟩ = z at *
  have HW : Hid (∃ w1 p q, w1 = (w.alloc (.cells #[.string ac, .string an, .int .i64 ad, .int .i64 ap, .int .i64 ak] 30)).alloc (.cells #[.string bc, .string bn, .int .i64 bd, .int .i64 bp, .int .i64 bk] 30) ∧ p = w.heap.size ∧ q = w.heap.size + 1 ∧ Blk w1 p 30 #[.string ac, .string an, .int .i64 ad, .int .i64 ap, .int .i64 ak] ∧ Blk w1 q 30 #[.string bc, .string bn, .int .i64 bd, .int .i64 bp, .int .i64 bk] ∧ Upd No w w1) := hid
    ⟨_, _, _, rfl, rfl, rfl, (Blk.fresh _ _ _).alloc _, by
      have := Blk.fresh (w.alloc (.cells #[.string ac, .string an, .int .i64 ad, .int .i64 ap, .int .i64 ak] 30)) 30 #[.string bc, .string bn, .int .i64 bd, .int .i64 bp, .int .i64 bk]
      simpa using this, ((Upd.refl _ _).alloc _).alloc _⟩
  go_enter Try.func48, Try.ntmps48
  go_wp2_with (fail)
  obtain ⟨w1, p, q, hw1, hp, hq, hb1, hb2, hu1⟩ := HW.out
  rw [← hw1]
  have hsz : (w.alloc (.cells #[.string ac, .string an, .int .i64 ad, .int .i64 ap, .int .i64 ak] 30)).heap.size = q := by simp [hq]
  try rw [hsz]
  try rw [← hq]
  try rw [← hp]
  have HL : Hid (∀ W, Upd No w1 W → (W.cell? ⟨p, 0, none⟩ = some (.string ac) ∧ W.cell? ⟨p, 1, none⟩ = some (.string an) ∧ W.cell? ⟨p, 2, none⟩ = some (.int .i64 ad)) ∧ (W.cell? ⟨q, 0, none⟩ = some (.string bc) ∧ W.cell? ⟨q, 1, none⟩ = some (.string bn) ∧ W.cell? ⟨q, 2, none⟩ = some (.int .i64 bd))) := hid fun W hu => by
    have h1 := hb1.upd hu (no_ _)
    have h2 := hb2.upd hu (no_ _)
    have a0 := h1.cell 0
    have a1 := h1.cell 1
    have a2 := h1.cell 2
    have b0 := h2.cell 0
    have b1 := h2.cell 1
    have b2 := h2.cell 2
    simp at a0 a1 a2 b0 b1 b2
    exact ⟨⟨a0, a1, a2⟩, b0, b1, b2⟩
  have HU1 := hid hu1
  clear hw1 hp hq hb1 hb2 hu1 hsz HW
  have HO := hid (or_ (some ⟨w1.heap.size, 0, none⟩) [sgn ad bd, Lib.compareBytes ac.data.toList bc.data.toList, Lib.compareBytes an.data.toList bn.data.toList] 3 _ (Rn.litm w1.drew .i64 3 (0, 0) _) (by simp))
  rw [HC.out] at HO
  refine wp_region_held_drew (S := fun W => Upd No w1 W) (by kernel_rfl) (Upd.refl _ _).drew (fun hS => ?_)
  refine rg_at 0 (by decide) (fun oi hoi => ?_)
  have ho2 := hoi; simp only [List.getElem?_toArray, List.getElem?_cons_succ, List.getElem?_cons_zero, Option.some.injEq] at ho2; subst ho2
  refine rg_take (v := ?_) 0 hoi (by kernel_rfl) (by kernel_rfl) (by kernel_rfl) (fun _ _ _ h => h) (by rfl) ?_ hS ?_
  rotate_left
  · intro w _; go_simp; try with_reducible rfl
  clear hoi; try simp only [Act.put, List.setIfInBounds_toArray, List.set_cons_zero, List.set_cons_succ]
  refine rg_at 1 (by decide) (fun oi hoi => ?_)
  have ho2 := hoi; simp only [List.getElem?_toArray, List.getElem?_cons_succ, List.getElem?_cons_zero, Option.some.injEq] at ho2; subst ho2
  refine rg_take (v := ?_) 1 hoi (by kernel_rfl) (by kernel_rfl) (by kernel_rfl) (fun _ _ _ h => h) (by rfl) ?_ hS ?_
  rotate_left
  · intro w hw; have hf := (HL.out w hw).1.2.2; clear hw; go_simp; try with_reducible rfl
  clear hoi; try simp only [Act.put, List.setIfInBounds_toArray, List.set_cons_zero, List.set_cons_succ]
  refine rg_at 2 (by decide) (fun oi hoi => ?_)
  have ho2 := hoi; simp only [List.getElem?_toArray, List.getElem?_cons_succ, List.getElem?_cons_zero, Option.some.injEq] at ho2; subst ho2
  refine rg_take (v := ?_) 2 hoi (by kernel_rfl) (by kernel_rfl) (by kernel_rfl) (fun _ _ _ h => h) (by rfl) ?_ hS ?_
  rotate_left
  · intro w _; go_simp; try with_reducible rfl
  clear hoi; try simp only [Act.put, List.setIfInBounds_toArray, List.set_cons_zero, List.set_cons_succ]
  refine rg_at 3 (by decide) (fun oi hoi => ?_)
  have ho2 := hoi; simp only [List.getElem?_toArray, List.getElem?_cons_succ, List.getElem?_cons_zero, Option.some.injEq] at ho2; subst ho2
  refine rg_take (v := ?_) 3 hoi (by kernel_rfl) (by kernel_rfl) (by kernel_rfl) (fun _ _ _ h => h) (by rfl) ?_ hS ?_
  rotate_left
  · intro w hw; have hf := (HL.out w hw).2.2.2; clear hw; go_simp; try with_reducible rfl
  clear hoi; try simp only [Act.put, List.setIfInBounds_toArray, List.set_cons_zero, List.set_cons_succ]
  refine rg_at 5 (by decide) (fun oi hoi => ?_)
  have ho2 := hoi; simp only [List.getElem?_toArray, List.getElem?_cons_succ, List.getElem?_cons_zero, Option.some.injEq] at ho2; subst ho2
  refine rg_take (v := ?_) 5 hoi (by kernel_rfl) (by kernel_rfl) (by kernel_rfl) (fun _ _ _ h => h) (by rfl) ?_ hS ?_
  rotate_left
  · intro w _; go_simp; try with_reducible rfl
  clear hoi; try simp only [Act.put, List.setIfInBounds_toArray, List.set_cons_zero, List.set_cons_succ]
  refine rg_at 6 (by decide) (fun oi hoi => ?_)
  have ho2 := hoi; simp only [List.getElem?_toArray, List.getElem?_cons_succ, List.getElem?_cons_zero, Option.some.injEq] at ho2; subst ho2
  refine rg_take (v := ?_) 6 hoi (by kernel_rfl) (by kernel_rfl) (by kernel_rfl) (fun _ _ _ h => h) (by rfl) ?_ hS ?_
  rotate_left
  · intro w hw; have hf := (HL.out w hw).1.1; clear hw; go_simp; try with_reducible rfl
  clear hoi; try simp only [Act.put, List.setIfInBounds_toArray, List.set_cons_zero, List.set_cons_succ]
  refine rg_at 7 (by decide) (fun oi hoi => ?_)
  have ho2 := hoi; simp only [List.getElem?_toArray, List.getElem?_cons_succ, List.getElem?_cons_zero, Option.some.injEq] at ho2; subst ho2
  refine rg_take (v := ?_) 7 hoi (by kernel_rfl) (by kernel_rfl) (by kernel_rfl) (fun _ _ _ h => h) (by rfl) ?_ hS ?_
  rotate_left
  · intro w _; go_simp; try with_reducible rfl
  clear hoi; try simp only [Act.put, List.setIfInBounds_toArray, List.set_cons_zero, List.set_cons_succ]
  refine rg_at 8 (by decide) (fun oi hoi => ?_)
  have ho2 := hoi; simp only [List.getElem?_toArray, List.getElem?_cons_succ, List.getElem?_cons_zero, Option.some.injEq] at ho2; subst ho2
  refine rg_take (v := ?_) 8 hoi (by kernel_rfl) (by kernel_rfl) (by kernel_rfl) (fun _ _ _ h => h) (by rfl) ?_ hS ?_
  rotate_left
  · intro w hw; have hf := (HL.out w hw).2.1; clear hw; go_simp; try with_reducible rfl
  clear hoi; try simp only [Act.put, List.setIfInBounds_toArray, List.set_cons_zero, List.set_cons_succ]
  refine rg_at 10 (by decide) (fun oi hoi => ?_)
  have ho2 := hoi; simp only [List.getElem?_toArray, List.getElem?_cons_succ, List.getElem?_cons_zero, Option.some.injEq] at ho2; subst ho2
  refine rg_take (v := ?_) 10 hoi (by kernel_rfl) (by kernel_rfl) (by kernel_rfl) (fun _ _ _ h => h) (by rfl) ?_ hS ?_
  rotate_left
  · intro w _; go_simp; try with_reducible rfl
  clear hoi; try simp only [Act.put, List.setIfInBounds_toArray, List.set_cons_zero, List.set_cons_succ]
  refine rg_at 11 (by decide) (fun oi hoi => ?_)
  have ho2 := hoi; simp only [List.getElem?_toArray, List.getElem?_cons_succ, List.getElem?_cons_zero, Option.some.injEq] at ho2; subst ho2
  refine rg_take (v := ?_) 11 hoi (by kernel_rfl) (by kernel_rfl) (by kernel_rfl) (fun _ _ _ h => h) (by rfl) ?_ hS ?_
  rotate_left
  · intro w hw; have hf := (HL.out w hw).1.2.1; clear hw; go_simp; try with_reducible rfl
  clear hoi; try simp only [Act.put, List.setIfInBounds_toArray, List.set_cons_zero, List.set_cons_succ]
  refine rg_at 12 (by decide) (fun oi hoi => ?_)
  have ho2 := hoi; simp only [List.getElem?_toArray, List.getElem?_cons_succ, List.getElem?_cons_zero, Option.some.injEq] at ho2; subst ho2
  refine rg_take (v := ?_) 12 hoi (by kernel_rfl) (by kernel_rfl) (by kernel_rfl) (fun _ _ _ h => h) (by rfl) ?_ hS ?_
  rotate_left
  · intro w _; go_simp; try with_reducible rfl
  clear hoi; try simp only [Act.put, List.setIfInBounds_toArray, List.set_cons_zero, List.set_cons_succ]
  refine rg_at 13 (by decide) (fun oi hoi => ?_)
  have ho2 := hoi; simp only [List.getElem?_toArray, List.getElem?_cons_succ, List.getElem?_cons_zero, Option.some.injEq] at ho2; subst ho2
  refine rg_take (v := ?_) 13 hoi (by kernel_rfl) (by kernel_rfl) (by kernel_rfl) (fun _ _ _ h => h) (by rfl) ?_ hS ?_
  rotate_left
  · intro w hw; have hf := (HL.out w hw).2.2.1; clear hw; go_simp; try with_reducible rfl
  clear hoi; try simp only [Act.put, List.setIfInBounds_toArray, List.set_cons_zero, List.set_cons_succ]
  refine rg_at 4 (by decide) (fun oi hoi => ?_)
  have ho2 := hoi; simp only [List.getElem?_toArray, List.getElem?_cons_succ, List.getElem?_cons_zero, Option.some.injEq] at ho2; subst ho2
  refine rg_call 4 (by kernel_rfl) hoi (by rfl) (fun K hK => ?_)
  clear hoi
  go_simp
  refine Calls.mono (compare_ints _ _ _) ?_
  rintro e w2 ⟨rfl, rfl⟩
  go_wp2_with (fail)
  refine hK.out _ _ ((by exact hS)) (fun hS => ?_)
  clear hK K
  try simp only [Act.put, List.setIfInBounds_toArray, List.set_cons_zero, List.set_cons_succ]
  refine rg_at 9 (by decide) (fun oi hoi => ?_)
  have ho2 := hoi; simp only [List.getElem?_toArray, List.getElem?_cons_succ, List.getElem?_cons_zero, Option.some.injEq] at ho2; subst ho2
  refine rg_call 9 (by kernel_rfl) hoi (by rfl) (fun K hK => ?_)
  clear hoi
  go_simp
  refine Calls.mono (compare_texts _ _ _) ?_
  rintro e w2 ⟨rfl, rfl⟩
  go_wp2_with (fail)
  refine hK.out _ _ ((by exact hS)) (fun hS => ?_)
  clear hK K
  try simp only [Act.put, List.setIfInBounds_toArray, List.set_cons_zero, List.set_cons_succ]
  refine rg_at 14 (by decide) (fun oi hoi => ?_)
  have ho2 := hoi; simp only [List.getElem?_toArray, List.getElem?_cons_succ, List.getElem?_cons_zero, Option.some.injEq] at ho2; subst ho2
  refine rg_call 14 (by kernel_rfl) hoi (by rfl) (fun K hK => ?_)
  clear hoi
  go_simp
  refine Calls.mono (compare_texts _ _ _) ?_
  rintro e w2 ⟨rfl, rfl⟩
  go_wp2_with (fail)
  refine hK.out _ _ ((by exact hS)) (fun hS => ?_)
  clear hK K
  try simp only [Act.put, List.setIfInBounds_toArray, List.set_cons_zero, List.set_cons_succ]
  refine rg_at 15 (by decide) (fun oi hoi => ?_)
  have ho2 := hoi; simp only [List.getElem?_toArray, List.getElem?_cons_succ, List.getElem?_cons_zero, Option.some.injEq] at ho2; subst ho2
  refine rg_call 15 (by kernel_rfl) hoi (by rfl) (fun K hK => ?_)
  clear hoi
  skip
  go_simp
  refine hK.out _ _ ((Upd.alloc hS _)) (fun hS => ?_)
  clear hK K
  try simp only [Act.put, List.setIfInBounds_toArray, List.set_cons_zero, List.set_cons_succ]
  refine rg_at 16 (by decide) (fun oi hoi => ?_)
  have ho2 := hoi; simp only [List.getElem?_toArray, List.getElem?_cons_succ, List.getElem?_cons_zero, Option.some.injEq] at ho2; subst ho2
  refine rg_call 16 (by kernel_rfl) hoi (by rfl) (fun K hK => ?_)
  clear hoi
  go_simp
  refine Calls.mono HO.out ?_
  rintro e w2 ⟨rfl, rfl⟩
  go_wp2_with (fail)
  refine hK.out _ _ ((by exact hS)) (fun hS => ?_)
  clear hK K
  try simp only [Act.put, List.setIfInBounds_toArray, List.set_cons_zero, List.set_cons_succ]
  refine rg_at 17 (by decide) (fun oi hoi => ?_)
  have ho2 := hoi; simp only [List.getElem?_toArray, List.getElem?_cons_succ, List.getElem?_cons_zero, Option.some.injEq] at ho2; subst ho2
  refine rg_take (v := ?_) 17 hoi (by kernel_rfl) (by kernel_rfl) (by kernel_rfl) (fun _ _ _ h => h) (by rfl) ?_ hS ?_
  rotate_left
  · intro w _; go_simp; try with_reducible rfl
  clear hoi; try simp only [Act.put, List.setIfInBounds_toArray, List.set_cons_zero, List.set_cons_succ]
  refine wpAnyH_done (by kernel_rfl) ?_ _
  go_wp2
  go_ret
  exact ⟨rfl, HU1.out.next hS⟩
theorem add_fl (ad : Addr) (m k : Nat) (hk : 0 < k) : ad.add (m + k) = ⟨(ad.add m).block, (ad.add m).off + k, none⟩ := by
  unfold Addr.add
  by_cases hm : m = 0
  · subst hm; simp; omega
  · simp [hm]; omega
/-- The cells of a reminder at a place. -/
structure At (W : World) (ad : Addr) (r : Rm) : Prop where
  c0 : W.cell? ad = some (.string r.actor)
  c1 : W.cell? ⟨ad.block, ad.off + 1, none⟩ = some (.string r.name)
  c2 : W.cell? ⟨ad.block, ad.off + 2, none⟩ = some (.int .i64 r.due)
  c3 : W.cell? ⟨ad.block, ad.off + 3, none⟩ = some (.int .i64 r.per)
  c4 : W.cell? ⟨ad.block, ad.off + 4, none⟩ = some (.int .i64 r.kind)
theorem At.conj {W : World} {ad : Addr} {r : Rm} (h : At W ad r) : W.cell? ad = some (.string r.actor) ∧ W.cell? ⟨ad.block, ad.off + 1, none⟩ = some (.string r.name) ∧ W.cell? ⟨ad.block, ad.off + 2, none⟩ = some (.int .i64 r.due) ∧ W.cell? ⟨ad.block, ad.off + 3, none⟩ = some (.int .i64 r.per) ∧ W.cell? ⟨ad.block, ad.off + 4, none⟩ = some (.int .i64 r.kind) := ⟨h.c0, h.c1, h.c2, h.c3, h.c4⟩
theorem rm_at {W : World} {A : Option Addr} {xs : List Rm} (h : Rd W 5 A xs.length (xs.flatMap rc)) {i : Nat} (hi : i < xs.length) : ∃ ad, A = some ad ∧ At W (ad.add (i * 5)) xs[i] := by
  obtain ⟨ad, e, hc⟩ := row_at h (fun _ _ => rfl) rfl hi
  have h0 := hc 0 (by omega)
  have h1 := hc 1 (by omega)
  have h2 := hc 2 (by omega)
  have h3 := hc 3 (by omega)
  have h4 := hc 4 (by omega)
  rw [add_fl ad (i * 5) 1 (by omega)] at h1
  rw [add_fl ad (i * 5) 2 (by omega)] at h2
  rw [add_fl ad (i * 5) 3 (by omega)] at h3
  rw [add_fl ad (i * 5) 4 (by omega)] at h4
  exact ⟨ad, e, ⟨h0, h1, h2, h3, h4⟩⟩
theorem At.of_blk {W : World} {p : Nat} {t : TypeId} {r : Rm} (h : Blk W p t (rc r).toArray) : At W ⟨p, 0, none⟩ r := by
  have a0 := h.cell 0
  have a1 := h.cell 1
  have a2 := h.cell 2
  have a3 := h.cell 3
  have a4 := h.cell 4
  simp [rc] at a0 a1 a2 a3 a4
  exact ⟨a0, a1, a2, a3, a4⟩
set_option maxHeartbeats 1000000 in
theorem find1 (r : Rm) (b1 b2 : Nat) (a n : ByteArray) (w : World) (h1 : Blk w b1 9 #[.string a]) (h2 : Blk w b2 9 #[.string n]) :
    Calls Try.prog 60 #[rv r, .pointer (some ⟨b1, 0, none⟩), .pointer (some ⟨b2, 0, none⟩)] w fun e w' => e = .returned (.bool (ke a n r)) ∧ Upd No w w' := by
  have HK : Hid (ke a n r = (be r.actor a && be r.name n)) := hid rfl
  obtain ⟨ac, an, ad, ap, ak⟩ := r
  unfold rv
  simp only at HK ⊢
  have hu : Upd No w (w.alloc (.cells #[.string ac, .string an, .int .i64 ad, .int .i64 ap, .int .i64 ak] 30)) := (Upd.refl _ _).alloc _
  have x1 := (h1.upd hu (no_ _)).cell 0
  have x2 := (h2.upd hu (no_ _)).cell 0
  simp at x1 x2
  have HU := hid hu
  clear hu h1 h2
  rcases e1 : be ac a with _ | _
  · have e1' : (ac.toList == a.toList) = false := e1
    have HE : Hid (ke a n ⟨ac, an, ad, ap, ak⟩ = false) := hid (by rw [HK.out, e1]; rfl)
    clear e1 HK
    go_enter Try.func60, Try.ntmps60
    go_wp2
    go_ret
    exact ⟨congrArg (fun z => Ending.returned (.bool z)) HE.out.symm, HU.out⟩
  · have e1' : (ac.toList == a.toList) = true := e1
    rcases e2 : be an n with _ | _
    · have e2' : (an.toList == n.toList) = false := e2
      have HE : Hid (ke a n ⟨ac, an, ad, ap, ak⟩ = false) := hid (by rw [HK.out, e1, e2]; rfl)
      clear e1 e2 HK
      go_enter Try.func60, Try.ntmps60
      go_wp2
      go_ret
      exact ⟨congrArg (fun z => Ending.returned (.bool z)) HE.out.symm, HU.out⟩
    · have e2' : (an.toList == n.toList) = true := e2
      have HE : Hid (ke a n ⟨ac, an, ad, ap, ak⟩ = true) := hid (by rw [HK.out, e1, e2]; rfl)
      clear e1 e2 HK
      go_enter Try.func60, Try.ntmps60
      go_wp2
      go_ret
      exact ⟨congrArg (fun z => Ending.returned (.bool z)) HE.out.symm, HU.out⟩
/-- Where the one of that key is, or none. -/
def Ix (a n : ByteArray) (xs : List Rm) (r : Int) : Prop := (r = -1 ∧ has a n xs = false) ∨ ∃ j : Nat, ∃ hj : j < xs.length, r = (j : Int) ∧ ke a n xs[j] = true
def IxOut (a n : ByteArray) (xs : List Rm) (w : World) (e : Ending) (w' : World) : Prop := ∃ r, e = .returned (.int .i64 r) ∧ Ix a n xs r ∧ Upd No w w'
theorem IxOut.of {a n : ByteArray} {xs : List Rm} {w : World} {e : Ending} {w' : World} (h : ∃ r, e = .returned (.int .i64 r) ∧ Ix a n xs r ∧ Upd No w w') : IxOut a n xs w e w' := h
set_option maxHeartbeats 1000000 in
theorem index_func (b1 b2 c : Nat) (A : Option Addr) (a n : ByteArray) (xs : List Rm) (w : World) (h1 : Blk w b1 9 #[.string a]) (h2 : Blk w b2 9 #[.string n]) (hr : Rd w 5 A xs.length (xs.flatMap rc)) (hn : xs.length ≤ 9223372036854775807) :
    Calls Try.prog 59 #[.slice A xs.length c, .func (.func 60) #[] #[.pointer (some ⟨b1, 0, none⟩), .pointer (some ⟨b2, 0, none⟩)]] w fun e w' => IxOut a n xs w e w' := by
  have HR := hid fun W (hu : Upd No w W) => Rd.upd hr (by omega) hu fun _ _ => no_ _
  have HF := hid fun (W : World) (r : Rm) (hu : Upd No w W) => find1 r b1 b2 a n W (h1.upd hu (no_ _)) (h2.upd hu (no_ _))
  clear h1 h2 hr
  go_enter Try.func59, Try.ntmps59
  go_wp2_with (fail)
  go_loopw [8] (fun v8 W => ∃ j : Nat, j ≤ xs.length ∧ v8 = .int .i64 j ∧ Hid ((∀ i (hi : i < xs.length), i < j → ke a n xs[i] = false) ∧ Upd No w W)) (fun v8 _ => xs.length - (intOf v8).toNat)
  case atStart => exact ⟨0, by omega, rfl, hid ⟨fun i _ h => by omega, Upd.refl _ _⟩⟩
  case round =>
    obtain ⟨j, hj, rfl, hH⟩ := hrel
    by_cases hlt : j < xs.length
    · obtain ⟨ad, rfl, hat⟩ := rm_at (HR.out wr hH.out.2) hlt
      obtain ⟨x0, x1, x2, x3, x4⟩ := hat
      have HN : Hid (ke a n xs[j] = false → ∀ i (hi : i < xs.length), i < j + 1 → ke a n xs[i] = false) := hid fun h i hi hij => by
        by_cases h' : i < j
        · exact hH.out.1 i hi h'
        · obtain rfl : i = j := by omega
          exact h
      have HY : Hid (ke a n xs[j] = true → Ix a n xs j) := hid fun h => .inr ⟨j, hlt, rfl, h⟩
      have hj2 : (j : Int) < (xs.length : Int) := by omega
      have hj1 : (0 : Int) ≤ (j : Int) := by omega
      generalize xs[j] = x at *
      have HC := hid (HF.out wr x hH.out.2)
      unfold rv at HC
      rcases hq : ke a n x with _ | _
      · rw [hq] at HC
        have HN2 := hid (HN.out hq)
        clear HY hq HN
        go_wp2_with (fail)
        refine Calls.mono HC.out ?_
        rintro e w' ⟨rfl, hu⟩
        have HU := hid (hH.out.2.next hu)
        clear hu
        go_wp2
        go_roundw
        case rel => exact ⟨j + 1, by omega, by go_num, hid ⟨HN2.out, HU.out⟩⟩
        case measure => simp [intOf]; omega
      · rw [hq] at HC
        have HY2 := hid (HY.out hq)
        clear HN hq HY
        go_wp2_with (fail)
        refine Calls.mono HC.out ?_
        rintro e w' ⟨rfl, hu⟩
        have HU := hid (hH.out.2.next hu)
        clear hu
        go_wp2
        go_ret
        exact .of ⟨_, rfl, HY2.out, HU.out⟩
    · obtain rfl : j = xs.length := by omega
      have HY : Hid (Ix a n xs (-1)) := hid (.inl ⟨rfl, List.any_eq_false.2 fun x hx => by
        obtain ⟨i, hi, rfl⟩ := List.getElem_of_mem hx
        rw [hH.out.1 i hi hi]
        simp⟩)
      go_wp2
      go_ret
      exact .of ⟨_, rfl, HY.out, hH.out.2⟩
def BsOut (xs : List Rm) (r : Rm) (w : World) (e : Ending) (w' : World) : Prop := ∃ (k : Nat) (b : Bool), e = .returned (.tuple #[.int .i64 k, .bool b]) ∧ k ≤ xs.length ∧ ins xs r = xs.take k ++ r :: xs.drop k ∧ Upd No w w'
theorem BsOut.of {xs : List Rm} {r : Rm} {w : World} {e : Ending} {w' : World} (h : ∃ (k : Nat) (b : Bool), e = .returned (.tuple #[.int .i64 k, .bool b]) ∧ k ≤ xs.length ∧ ins xs r = xs.take k ++ r :: xs.drop k ∧ Upd No w w') : BsOut xs r w e w' := h
set_option maxHeartbeats 2000000 in
set_option maxRecDepth 100000 in
theorem search (c : Nat) (A : Option Addr) (r : Rm) (xs : List Rm) (w : World) (hr : Rd w 5 A xs.length (xs.flatMap rc)) (hn : xs.length ≤ 1000) (hs : xs.Pairwise fun a b => less a b = true) :
    Calls Try.prog 61 #[.slice A xs.length c, rv r, .func (.func 48) #[] #[]] w fun e w' => BsOut xs r w e w' := by
  have HM := hid (fun (i j : Nat) (hij : i ≤ j) (hj : j < xs.length) (hl : less xs[j] r = true) => mono hs hij hj hl)
  have HF := hid (fun (W : World) (x : Rm) => compare_ x r W)
  have HW : Hid (∃ w1 p, w1 = w.alloc (.cells (rc r).toArray 30) ∧ p = w.heap.size ∧ (∀ W, Upd No w1 W → At W ⟨p, 0, none⟩ r ∧ Rd W 5 A xs.length (xs.flatMap rc)) ∧ Upd No w w1) := hid
    ⟨_, _, rfl, rfl, fun W hu => ⟨At.of_blk ((Blk.fresh w 30 (rc r).toArray).upd hu (no_ _)), Rd.upd (Rd.alloc hr (by omega) _) (by omega) hu fun _ _ => no_ _⟩, (Upd.refl _ _).alloc _⟩
  clear hr hs
  obtain ⟨ac, an, ad, ap, ak⟩ := r
  unfold rv at HF ⊢
  simp only [rc] at HW
  simp only at HF ⊢
  go_enter Try.func61, Try.ntmps61
  go_wp2_with (fail)
  obtain ⟨w1, p, hw1, hp, hl1, hu1⟩ := HW.out
  rw [← hw1, ← hp]
  have HL := hid hl1
  have HU1 := hid hu1
  clear hw1 hp hl1 hu1 HW
  go_loopw [9, 10] (fun v9 v10 W => ∃ lo hi : Nat, lo ≤ hi ∧ hi ≤ xs.length ∧ v9 = .int .i64 lo ∧ v10 = .int .i64 hi ∧ Hid ((∀ i (h : i < xs.length), i < lo → less xs[i] ⟨ac, an, ad, ap, ak⟩ = true) ∧ (∀ i (h : i < xs.length), hi ≤ i → less xs[i] ⟨ac, an, ad, ap, ak⟩ = false) ∧ Upd No w1 W)) (fun v9 v10 _ => (intOf v10).toNat - (intOf v9).toNat)
  case atStart => exact ⟨0, xs.length, Nat.zero_le _, Nat.le_refl _, rfl, rfl, hid ⟨fun i _ h => by omega, fun i h1 h2 => by omega, Upd.refl _ _⟩⟩
  case round =>
    obtain ⟨lo, hi, hlh, hin, rfl, rfl, HI⟩ := hrel
    by_cases hlt : lo < hi
    · obtain ⟨m, hm⟩ : ∃ m, m = (lo + hi) / 2 := ⟨_, rfl⟩
      have hm1 : lo ≤ m := by omega
      have hm2 : m < hi := by omega
      have hmx : m < xs.length := by omega
      have HM3 := hid (show ((lo : Int) + (hi : Int)) / 2 = (m : Int) by omega)
      clear hm
      obtain ⟨adx, rfl, _⟩ := rm_at (HL.out wr HI.out.2.2).2 hmx
      have HLo : Hid (∀ W, Upd No wr W → At W (adx.add (m * 5)) xs[m] ∧ At W ⟨p, 0, none⟩ ⟨ac, an, ad, ap, ak⟩) := hid fun W hu => by
        have h1 := HL.out W (HI.out.2.2.next hu)
        obtain ⟨ad2, e, h2⟩ := rm_at h1.2 hmx
        cases e
        exact ⟨h2, h1.1⟩
      have HY : Hid (less xs[m] ⟨ac, an, ad, ap, ak⟩ = true → ∀ i (h : i < xs.length), i < m + 1 → less xs[i] ⟨ac, an, ad, ap, ak⟩ = true) := hid fun h i hi him => HM.out i m (by omega) hmx h
      have HZ : Hid (less xs[m] ⟨ac, an, ad, ap, ak⟩ = false → ∀ i (h : i < xs.length), m ≤ i → less xs[i] ⟨ac, an, ad, ap, ak⟩ = false) := hid fun h i hi him => by
        cases h9 : less xs[i] ⟨ac, an, ad, ap, ak⟩
        · rfl
        · rw [HM.out m i him hi h9] at h
          cases h
      have hj2 : (m : Int) < (xs.length : Int) := by omega
      have hj1 : (0 : Int) ≤ (m : Int) := by omega
      generalize xs[m] = x at *
      have HC := hid fun W => HF.out W x
      have hcmp := cmp_lt x ⟨ac, an, ad, ap, ak⟩
      generalize cmp x ⟨ac, an, ad, ap, ak⟩ = z at *
      go_wp2_with (fail)
      rw [HM3.out]
      refine wp_region_held_drew (S := fun W => Upd No wr W) (by kernel_rfl) (Upd.refl _ _).drew (fun hS => ?_)
      refine rg_at 0 (by decide) (fun oi hoi => ?_)
      have ho2 := hoi; simp only [List.getElem?_toArray, List.getElem?_cons_succ, List.getElem?_cons_zero, Option.some.injEq] at ho2; subst ho2
      refine rg_take (v := ?_) 0 hoi (by kernel_rfl) (by kernel_rfl) (by kernel_rfl) (fun _ _ _ h => h) (by rfl) ?_ hS ?_
      rotate_left
      · intro w _; go_simp; try with_reducible rfl
      clear hoi; try simp only [Act.put, List.setIfInBounds_toArray, List.set_cons_zero, List.set_cons_succ]
      refine rg_at 1 (by decide) (fun oi hoi => ?_)
      have ho2 := hoi; simp only [List.getElem?_toArray, List.getElem?_cons_succ, List.getElem?_cons_zero, Option.some.injEq] at ho2; subst ho2
      refine rg_take (v := ?_) 1 hoi (by kernel_rfl) (by kernel_rfl) (by kernel_rfl) (fun _ _ _ h => h) (by rfl) ?_ hS ?_
      rotate_left
      · intro w _; go_simp; try with_reducible rfl
      clear hoi; try simp only [Act.put, List.setIfInBounds_toArray, List.set_cons_zero, List.set_cons_succ]
      refine rg_at 2 (by decide) (fun oi hoi => ?_)
      have ho2 := hoi; simp only [List.getElem?_toArray, List.getElem?_cons_succ, List.getElem?_cons_zero, Option.some.injEq] at ho2; subst ho2
      refine rg_take (v := ?_) 2 hoi (by kernel_rfl) (by kernel_rfl) (by kernel_rfl) (fun _ _ _ h => h) (by rfl) ?_ hS ?_
      rotate_left
      · intro w _; go_simp; try with_reducible rfl
      clear hoi; try simp only [Act.put, List.setIfInBounds_toArray, List.set_cons_zero, List.set_cons_succ]
      refine rg_at 3 (by decide) (fun oi hoi => ?_)
      have ho2 := hoi; simp only [List.getElem?_toArray, List.getElem?_cons_succ, List.getElem?_cons_zero, Option.some.injEq] at ho2; subst ho2
      refine rg_take (v := ?_) 3 hoi (by kernel_rfl) (by kernel_rfl) (by kernel_rfl) (fun _ _ _ h => h) (by rfl) ?_ hS ?_
      rotate_left
      · intro w _; go_simp; try with_reducible rfl
      clear hoi; try simp only [Act.put, List.setIfInBounds_toArray, List.set_cons_zero, List.set_cons_succ]
      refine rg_at 4 (by decide) (fun oi hoi => ?_)
      have ho2 := hoi; simp only [List.getElem?_toArray, List.getElem?_cons_succ, List.getElem?_cons_zero, Option.some.injEq] at ho2; subst ho2
      refine rg_take (v := ?_) 4 hoi (by kernel_rfl) (by kernel_rfl) (by kernel_rfl) (fun _ _ _ h => h) (by rfl) ?_ hS ?_
      rotate_left
      · intro w hw; have hf := (HLo.out w hw).1.conj; clear hw; go_simp; try with_reducible rfl
      clear hoi; try simp only [Act.put, List.setIfInBounds_toArray, List.set_cons_zero, List.set_cons_succ]
      refine rg_at 5 (by decide) (fun oi hoi => ?_)
      have ho2 := hoi; simp only [List.getElem?_toArray, List.getElem?_cons_succ, List.getElem?_cons_zero, Option.some.injEq] at ho2; subst ho2
      refine rg_take (v := ?_) 5 hoi (by kernel_rfl) (by kernel_rfl) (by kernel_rfl) (fun _ _ _ h => h) (by rfl) ?_ hS ?_
      rotate_left
      · intro w hw; have hf := (HLo.out w hw).2.conj; clear hw; go_simp; try with_reducible rfl
      clear hoi; try simp only [Act.put, List.setIfInBounds_toArray, List.set_cons_zero, List.set_cons_succ]
      refine rg_at 6 (by decide) (fun oi hoi => ?_)
      have ho2 := hoi; simp only [List.getElem?_toArray, List.getElem?_cons_succ, List.getElem?_cons_zero, Option.some.injEq] at ho2; subst ho2
      refine rg_call 6 (by kernel_rfl) hoi (by rfl) (fun K hK => ?_)
      clear hoi
      go_simp
      refine Calls.mono (HC.out _) ?_
      rintro e w2 ⟨rfl, hu2⟩
      go_wp2_with (fail)
      refine hK.out _ _ ((hS.next hu2)) (fun hS => ?_)
      clear hK K
      try simp only [Act.put, List.setIfInBounds_toArray, List.set_cons_zero, List.set_cons_succ]
      refine rg_at 7 (by decide) (fun oi hoi => ?_)
      have ho2 := hoi; simp only [List.getElem?_toArray, List.getElem?_cons_succ, List.getElem?_cons_zero, Option.some.injEq] at ho2; subst ho2
      refine rg_take (v := ?_) 7 hoi (by kernel_rfl) (by kernel_rfl) (by kernel_rfl) (fun _ _ _ h => h) (by rfl) ?_ hS ?_
      rotate_left
      · intro w _; go_simp; try with_reducible rfl
      clear hoi; try simp only [Act.put, List.setIfInBounds_toArray, List.set_cons_zero, List.set_cons_succ]
      refine wpAnyH_done (by kernel_rfl) ?_ _
      have HU := hid (HI.out.2.2.next hS)
      clear hS hu2
      rcases hl : less x ⟨ac, an, ad, ap, ak⟩ with _ | _
      · have hz : ¬ z < 0 := fun h => by rw [hcmp.1 h] at hl; cases hl
        have HZ2 := hid (HZ.out hl)
        clear hcmp hl HY HZ
        go_wp2
        go_roundw
        case rel => exact ⟨lo, m, by omega, by omega, rfl, rfl, hid ⟨HI.out.1, HZ2.out, HU.out⟩⟩
        case measure => simp [intOf]; omega
      · have hz : z < 0 := hcmp.2 hl
        have HY2 := hid (HY.out hl)
        clear hcmp hl HY HZ
        go_wp2
        go_roundw
        case rel => exact ⟨m + 1, hi, by omega, by omega, by go_num, rfl, hid ⟨HY2.out, HI.out.2.1, HU.out⟩⟩
        case measure => simp [intOf]; omega
    · obtain rfl : lo = hi := by omega
      have HE : Hid (ins xs ⟨ac, an, ad, ap, ak⟩ = xs.take lo ++ ⟨ac, an, ad, ap, ak⟩ :: xs.drop lo) := hid (ins_at hin HI.out.1 HI.out.2.1)
      by_cases hn2 : lo < xs.length
      · obtain ⟨adx, rfl, _⟩ := rm_at (HL.out wr HI.out.2.2).2 hn2
        have HLo : Hid (∀ W, Upd No wr W → At W (adx.add (lo * 5)) xs[lo] ∧ At W ⟨p, 0, none⟩ ⟨ac, an, ad, ap, ak⟩) := hid fun W hu => by
          have h1 := HL.out W (HI.out.2.2.next hu)
          obtain ⟨ad2, e, h2⟩ := rm_at h1.2 hn2
          cases e
          exact ⟨h2, h1.1⟩
        have hj2 : (lo : Int) < (xs.length : Int) := by omega
        have hj1 : (0 : Int) ≤ (lo : Int) := by omega
        have HC := hid fun W => HF.out W xs[lo]
        generalize cmp xs[lo] ⟨ac, an, ad, ap, ak⟩ = z at *
        generalize xs[lo] = x at *
        go_wp2_with (fail)
        refine wp_region_held_drew (S := fun W => Upd No wr W) (by kernel_rfl) (Upd.refl _ _).drew (fun hS => ?_)
        refine rg_at 0 (by decide) (fun oi hoi => ?_)
        have ho2 := hoi; simp only [List.getElem?_toArray, List.getElem?_cons_succ, List.getElem?_cons_zero, Option.some.injEq] at ho2; subst ho2
        refine rg_take (v := ?_) 0 hoi (by kernel_rfl) (by kernel_rfl) (by kernel_rfl) (fun _ _ _ h => h) (by rfl) ?_ hS ?_
        rotate_left
        · intro w _; go_simp; try with_reducible rfl
        clear hoi; try simp only [Act.put, List.setIfInBounds_toArray, List.set_cons_zero, List.set_cons_succ]
        refine rg_at 1 (by decide) (fun oi hoi => ?_)
        have ho2 := hoi; simp only [List.getElem?_toArray, List.getElem?_cons_succ, List.getElem?_cons_zero, Option.some.injEq] at ho2; subst ho2
        refine rg_take (v := ?_) 1 hoi (by kernel_rfl) (by kernel_rfl) (by kernel_rfl) (fun _ _ _ h => h) (by rfl) ?_ hS ?_
        rotate_left
        · intro w _; go_simp; try with_reducible rfl
        clear hoi; try simp only [Act.put, List.setIfInBounds_toArray, List.set_cons_zero, List.set_cons_succ]
        refine rg_at 2 (by decide) (fun oi hoi => ?_)
        have ho2 := hoi; simp only [List.getElem?_toArray, List.getElem?_cons_succ, List.getElem?_cons_zero, Option.some.injEq] at ho2; subst ho2
        refine rg_take (v := ?_) 2 hoi (by kernel_rfl) (by kernel_rfl) (by kernel_rfl) (fun _ _ _ h => h) (by rfl) ?_ hS ?_
        rotate_left
        · intro w _; go_simp; try with_reducible rfl
        clear hoi; try simp only [Act.put, List.setIfInBounds_toArray, List.set_cons_zero, List.set_cons_succ]
        refine rg_at 3 (by decide) (fun oi hoi => ?_)
        have ho2 := hoi; simp only [List.getElem?_toArray, List.getElem?_cons_succ, List.getElem?_cons_zero, Option.some.injEq] at ho2; subst ho2
        refine rg_take (v := ?_) 3 hoi (by kernel_rfl) (by kernel_rfl) (by kernel_rfl) (fun _ _ _ h => h) (by rfl) ?_ hS ?_
        rotate_left
        · intro w _; go_simp; try with_reducible rfl
        clear hoi; try simp only [Act.put, List.setIfInBounds_toArray, List.set_cons_zero, List.set_cons_succ]
        refine rg_at 4 (by decide) (fun oi hoi => ?_)
        have ho2 := hoi; simp only [List.getElem?_toArray, List.getElem?_cons_succ, List.getElem?_cons_zero, Option.some.injEq] at ho2; subst ho2
        refine rg_take (v := ?_) 4 hoi (by kernel_rfl) (by kernel_rfl) (by kernel_rfl) (fun _ _ _ h => h) (by rfl) ?_ hS ?_
        rotate_left
        · intro w _; go_simp; try with_reducible rfl
        clear hoi; try simp only [Act.put, List.setIfInBounds_toArray, List.set_cons_zero, List.set_cons_succ]
        refine rg_at 5 (by decide) (fun oi hoi => ?_)
        have ho2 := hoi; simp only [List.getElem?_toArray, List.getElem?_cons_succ, List.getElem?_cons_zero, Option.some.injEq] at ho2; subst ho2
        refine rg_take (v := ?_) 5 hoi (by kernel_rfl) (by kernel_rfl) (by kernel_rfl) (fun _ _ _ h => h) (by rfl) ?_ hS ?_
        rotate_left
        · intro w _; go_simp; try with_reducible rfl
        clear hoi; try simp only [Act.put, List.setIfInBounds_toArray, List.set_cons_zero, List.set_cons_succ]
        refine rg_at 6 (by decide) (fun oi hoi => ?_)
        have ho2 := hoi; simp only [List.getElem?_toArray, List.getElem?_cons_succ, List.getElem?_cons_zero, Option.some.injEq] at ho2; subst ho2
        refine rg_take (v := ?_) 6 hoi (by kernel_rfl) (by kernel_rfl) (by kernel_rfl) (fun _ _ _ h => h) (by rfl) ?_ hS ?_
        rotate_left
        · intro w _; go_simp; try with_reducible rfl
        clear hoi; try simp only [Act.put, List.setIfInBounds_toArray, List.set_cons_zero, List.set_cons_succ]
        refine rg_at 7 (by decide) (fun oi hoi => ?_)
        have ho2 := hoi; simp only [List.getElem?_toArray, List.getElem?_cons_succ, List.getElem?_cons_zero, Option.some.injEq] at ho2; subst ho2
        refine rg_take (v := ?_) 7 hoi (by kernel_rfl) (by kernel_rfl) (by kernel_rfl) (fun _ _ _ h => h) (by rfl) ?_ hS ?_
        rotate_left
        · intro w _; go_simp; try with_reducible rfl
        clear hoi; try simp only [Act.put, List.setIfInBounds_toArray, List.set_cons_zero, List.set_cons_succ]
        refine rg_at 8 (by decide) (fun oi hoi => ?_)
        have ho2 := hoi; simp only [List.getElem?_toArray, List.getElem?_cons_succ, List.getElem?_cons_zero, Option.some.injEq] at ho2; subst ho2
        refine rg_take (v := ?_) 8 hoi (by kernel_rfl) (by kernel_rfl) (by kernel_rfl) (fun _ _ _ h => h) (by rfl) ?_ hS ?_
        rotate_left
        · intro w _; go_simp; try with_reducible rfl
        clear hoi; try simp only [Act.put, List.setIfInBounds_toArray, List.set_cons_zero, List.set_cons_succ]
        refine rg_at 9 (by decide) (fun oi hoi => ?_)
        have ho2 := hoi; simp only [List.getElem?_toArray, List.getElem?_cons_succ, List.getElem?_cons_zero, Option.some.injEq] at ho2; subst ho2
        refine rg_take (v := ?_) 9 hoi (by kernel_rfl) (by kernel_rfl) (by kernel_rfl) (fun _ _ _ h => h) (by rfl) ?_ hS ?_
        rotate_left
        · intro w hw; have hf := (HLo.out w hw).1.conj; clear hw; go_simp; try with_reducible rfl
        clear hoi; try simp only [Act.put, List.setIfInBounds_toArray, List.set_cons_zero, List.set_cons_succ]
        refine rg_at 10 (by decide) (fun oi hoi => ?_)
        have ho2 := hoi; simp only [List.getElem?_toArray, List.getElem?_cons_succ, List.getElem?_cons_zero, Option.some.injEq] at ho2; subst ho2
        refine rg_take (v := ?_) 10 hoi (by kernel_rfl) (by kernel_rfl) (by kernel_rfl) (fun _ _ _ h => h) (by rfl) ?_ hS ?_
        rotate_left
        · intro w hw; have hf := (HLo.out w hw).2.conj; clear hw; go_simp; try with_reducible rfl
        clear hoi; try simp only [Act.put, List.setIfInBounds_toArray, List.set_cons_zero, List.set_cons_succ]
        refine rg_at 11 (by decide) (fun oi hoi => ?_)
        have ho2 := hoi; simp only [List.getElem?_toArray, List.getElem?_cons_succ, List.getElem?_cons_zero, Option.some.injEq] at ho2; subst ho2
        refine rg_call 11 (by kernel_rfl) hoi (by rfl) (fun K hK => ?_)
        clear hoi
        go_simp
        refine Calls.mono (HC.out _) ?_
        rintro e w2 ⟨rfl, hu2⟩
        go_wp2_with (fail)
        refine hK.out _ _ ((hS.next hu2)) (fun hS => ?_)
        clear hK K
        try simp only [Act.put, List.setIfInBounds_toArray, List.set_cons_zero, List.set_cons_succ]
        refine rg_at 12 (by decide) (fun oi hoi => ?_)
        have ho2 := hoi; simp only [List.getElem?_toArray, List.getElem?_cons_succ, List.getElem?_cons_zero, Option.some.injEq] at ho2; subst ho2
        refine rg_take (v := ?_) 12 hoi (by kernel_rfl) (by kernel_rfl) (by kernel_rfl) (fun _ _ _ h => h) (by rfl) ?_ hS ?_
        rotate_left
        · intro w _; go_simp; try with_reducible rfl
        clear hoi; try simp only [Act.put, List.setIfInBounds_toArray, List.set_cons_zero, List.set_cons_succ]
        refine rg_at 13 (by decide) (fun oi hoi => ?_)
        have ho2 := hoi; simp only [List.getElem?_toArray, List.getElem?_cons_succ, List.getElem?_cons_zero, Option.some.injEq] at ho2; subst ho2
        refine rg_take (v := ?_) 13 hoi (by kernel_rfl) (by kernel_rfl) (by kernel_rfl) (fun _ _ _ h => h) (by rfl) ?_ hS ?_
        rotate_left
        · intro w _; go_simp; try with_reducible rfl
        clear hoi; try simp only [Act.put, List.setIfInBounds_toArray, List.set_cons_zero, List.set_cons_succ]
        refine rg_at 14 (by decide) (fun oi hoi => ?_)
        have ho2 := hoi; simp only [List.getElem?_toArray, List.getElem?_cons_succ, List.getElem?_cons_zero, Option.some.injEq] at ho2; subst ho2
        refine rg_take (v := ?_) 14 hoi (by kernel_rfl) (by kernel_rfl) (by kernel_rfl) (fun _ _ _ h => h) (by rfl) ?_ hS ?_
        rotate_left
        · intro w _; go_simp; try with_reducible rfl
        clear hoi; try simp only [Act.put, List.setIfInBounds_toArray, List.set_cons_zero, List.set_cons_succ]
        refine rg_at 15 (by decide) (fun oi hoi => ?_)
        have ho2 := hoi; simp only [List.getElem?_toArray, List.getElem?_cons_succ, List.getElem?_cons_zero, Option.some.injEq] at ho2; subst ho2
        refine rg_take (v := ?_) 15 hoi (by kernel_rfl) (by kernel_rfl) (by kernel_rfl) (fun _ _ _ h => h) (by rfl) ?_ hS ?_
        rotate_left
        · intro w _; go_simp; try with_reducible rfl
        clear hoi; try simp only [Act.put, List.setIfInBounds_toArray, List.set_cons_zero, List.set_cons_succ]
        refine wpAnyH_done (by kernel_rfl) ?_ _
        have HU := hid (HU1.out.next (HI.out.2.2.next hS))
        clear hS hu2
        go_wp2
        go_ret2
        exact .of ⟨lo, _, rfl, hin, HE.out, HU.out⟩
      · have hj2 : ¬ (lo : Int) < (xs.length : Int) := by omega
        have HU := hid (HU1.out.next HI.out.2.2)
        go_wp2_with (fail)
        refine wp_region_held_drew (S := fun W => Upd No wr W) (by kernel_rfl) (Upd.refl _ _).drew (fun hS => ?_)
        refine rg_at 0 (by decide) (fun oi hoi => ?_)
        have ho2 := hoi; simp only [List.getElem?_toArray, List.getElem?_cons_succ, List.getElem?_cons_zero, Option.some.injEq] at ho2; subst ho2
        refine rg_take (v := ?_) 0 hoi (by kernel_rfl) (by kernel_rfl) (by kernel_rfl) (fun _ _ _ h => h) (by rfl) ?_ hS ?_
        rotate_left
        · intro w _; go_simp; try with_reducible rfl
        clear hoi; try simp only [Act.put, List.setIfInBounds_toArray, List.set_cons_zero, List.set_cons_succ]
        refine rg_at 1 (by decide) (fun oi hoi => ?_)
        have ho2 := hoi; simp only [List.getElem?_toArray, List.getElem?_cons_succ, List.getElem?_cons_zero, Option.some.injEq] at ho2; subst ho2
        refine rg_take (v := ?_) 1 hoi (by kernel_rfl) (by kernel_rfl) (by kernel_rfl) (fun _ _ _ h => h) (by rfl) ?_ hS ?_
        rotate_left
        · intro w _; go_simp; try with_reducible rfl
        clear hoi; try simp only [Act.put, List.setIfInBounds_toArray, List.set_cons_zero, List.set_cons_succ]
        refine rg_at 2 (by decide) (fun oi hoi => ?_)
        have ho2 := hoi; simp only [List.getElem?_toArray, List.getElem?_cons_succ, List.getElem?_cons_zero, Option.some.injEq] at ho2; subst ho2
        refine rg_take (v := ?_) 2 hoi (by kernel_rfl) (by kernel_rfl) (by kernel_rfl) (fun _ _ _ h => h) (by rfl) ?_ hS ?_
        rotate_left
        · intro w _; go_simp; try with_reducible rfl
        clear hoi; try simp only [Act.put, List.setIfInBounds_toArray, List.set_cons_zero, List.set_cons_succ]
        refine rg_at 3 (by decide) (fun oi hoi => ?_)
        have ho2 := hoi; simp only [List.getElem?_toArray, List.getElem?_cons_succ, List.getElem?_cons_zero, Option.some.injEq] at ho2; subst ho2
        refine rg_take (v := ?_) 3 hoi (by kernel_rfl) (by kernel_rfl) (by kernel_rfl) (fun _ _ _ h => h) (by rfl) ?_ hS ?_
        rotate_left
        · intro w _; go_simp; try with_reducible rfl
        clear hoi; try simp only [Act.put, List.setIfInBounds_toArray, List.set_cons_zero, List.set_cons_succ]
        refine rg_at 4 (by decide) (fun oi hoi => ?_)
        have ho2 := hoi; simp only [List.getElem?_toArray, List.getElem?_cons_succ, List.getElem?_cons_zero, Option.some.injEq] at ho2; subst ho2
        refine rg_take (v := ?_) 4 hoi (by kernel_rfl) (by kernel_rfl) (by kernel_rfl) (fun _ _ _ h => h) (by rfl) ?_ hS ?_
        rotate_left
        · intro w _; go_simp; try with_reducible rfl
        clear hoi; try simp only [Act.put, List.setIfInBounds_toArray, List.set_cons_zero, List.set_cons_succ]
        refine rg_at 5 (by decide) (fun oi hoi => ?_)
        have ho2 := hoi; simp only [List.getElem?_toArray, List.getElem?_cons_succ, List.getElem?_cons_zero, Option.some.injEq] at ho2; subst ho2
        refine rg_skip 5 hoi (by kernel_rfl) (by kernel_rfl) (by kernel_rfl) (fun _ _ _ h => h) (by rfl) hS ?_
        clear hoi; try simp only [Act.put, List.setIfInBounds_toArray, List.set_cons_zero, List.set_cons_succ]
        refine rg_at 6 (by decide) (fun oi hoi => ?_)
        have ho2 := hoi; simp only [List.getElem?_toArray, List.getElem?_cons_succ, List.getElem?_cons_zero, Option.some.injEq] at ho2; subst ho2
        refine rg_skip 6 hoi (by kernel_rfl) (by kernel_rfl) (by kernel_rfl) (fun _ _ _ h => h) (by rfl) hS ?_
        clear hoi; try simp only [Act.put, List.setIfInBounds_toArray, List.set_cons_zero, List.set_cons_succ]
        refine rg_at 7 (by decide) (fun oi hoi => ?_)
        have ho2 := hoi; simp only [List.getElem?_toArray, List.getElem?_cons_succ, List.getElem?_cons_zero, Option.some.injEq] at ho2; subst ho2
        refine rg_skip 7 hoi (by kernel_rfl) (by kernel_rfl) (by kernel_rfl) (fun _ _ _ h => h) (by rfl) hS ?_
        clear hoi; try simp only [Act.put, List.setIfInBounds_toArray, List.set_cons_zero, List.set_cons_succ]
        refine rg_at 8 (by decide) (fun oi hoi => ?_)
        have ho2 := hoi; simp only [List.getElem?_toArray, List.getElem?_cons_succ, List.getElem?_cons_zero, Option.some.injEq] at ho2; subst ho2
        refine rg_skip 8 hoi (by kernel_rfl) (by kernel_rfl) (by kernel_rfl) (fun _ _ _ h => h) (by rfl) hS ?_
        clear hoi; try simp only [Act.put, List.setIfInBounds_toArray, List.set_cons_zero, List.set_cons_succ]
        refine rg_at 9 (by decide) (fun oi hoi => ?_)
        have ho2 := hoi; simp only [List.getElem?_toArray, List.getElem?_cons_succ, List.getElem?_cons_zero, Option.some.injEq] at ho2; subst ho2
        refine rg_skip 9 hoi (by kernel_rfl) (by kernel_rfl) (by kernel_rfl) (fun _ _ _ h => h) (by rfl) hS ?_
        clear hoi; try simp only [Act.put, List.setIfInBounds_toArray, List.set_cons_zero, List.set_cons_succ]
        refine rg_at 10 (by decide) (fun oi hoi => ?_)
        have ho2 := hoi; simp only [List.getElem?_toArray, List.getElem?_cons_succ, List.getElem?_cons_zero, Option.some.injEq] at ho2; subst ho2
        refine rg_skip 10 hoi (by kernel_rfl) (by kernel_rfl) (by kernel_rfl) (fun _ _ _ h => h) (by rfl) hS ?_
        clear hoi; try simp only [Act.put, List.setIfInBounds_toArray, List.set_cons_zero, List.set_cons_succ]
        refine rg_at 11 (by decide) (fun oi hoi => ?_)
        have ho2 := hoi; simp only [List.getElem?_toArray, List.getElem?_cons_succ, List.getElem?_cons_zero, Option.some.injEq] at ho2; subst ho2
        refine rg_skip 11 hoi (by kernel_rfl) (by kernel_rfl) (by kernel_rfl) (fun _ _ _ h => h) (by rfl) hS ?_
        clear hoi; try simp only [Act.put, List.setIfInBounds_toArray, List.set_cons_zero, List.set_cons_succ]
        refine rg_at 12 (by decide) (fun oi hoi => ?_)
        have ho2 := hoi; simp only [List.getElem?_toArray, List.getElem?_cons_succ, List.getElem?_cons_zero, Option.some.injEq] at ho2; subst ho2
        refine rg_skip 12 hoi (by kernel_rfl) (by kernel_rfl) (by kernel_rfl) (fun _ _ _ h => h) (by rfl) hS ?_
        clear hoi; try simp only [Act.put, List.setIfInBounds_toArray, List.set_cons_zero, List.set_cons_succ]
        refine rg_at 13 (by decide) (fun oi hoi => ?_)
        have ho2 := hoi; simp only [List.getElem?_toArray, List.getElem?_cons_succ, List.getElem?_cons_zero, Option.some.injEq] at ho2; subst ho2
        refine rg_take (v := ?_) 13 hoi (by kernel_rfl) (by kernel_rfl) (by kernel_rfl) (fun _ _ _ h => h) (by rfl) ?_ hS ?_
        rotate_left
        · intro w _; go_simp; try with_reducible rfl
        clear hoi; try simp only [Act.put, List.setIfInBounds_toArray, List.set_cons_zero, List.set_cons_succ]
        refine rg_at 14 (by decide) (fun oi hoi => ?_)
        have ho2 := hoi; simp only [List.getElem?_toArray, List.getElem?_cons_succ, List.getElem?_cons_zero, Option.some.injEq] at ho2; subst ho2
        refine rg_take (v := ?_) 14 hoi (by kernel_rfl) (by kernel_rfl) (by kernel_rfl) (fun _ _ _ h => h) (by rfl) ?_ hS ?_
        rotate_left
        · intro w _; go_simp; try with_reducible rfl
        clear hoi; try simp only [Act.put, List.setIfInBounds_toArray, List.set_cons_zero, List.set_cons_succ]
        refine rg_at 15 (by decide) (fun oi hoi => ?_)
        have ho2 := hoi; simp only [List.getElem?_toArray, List.getElem?_cons_succ, List.getElem?_cons_zero, Option.some.injEq] at ho2; subst ho2
        refine rg_take (v := ?_) 15 hoi (by kernel_rfl) (by kernel_rfl) (by kernel_rfl) (fun _ _ _ h => h) (by rfl) ?_ hS ?_
        rotate_left
        · intro w _; go_simp; try with_reducible rfl
        clear hoi; try simp only [Act.put, List.setIfInBounds_toArray, List.set_cons_zero, List.set_cons_succ]
        refine wpAnyH_done (by kernel_rfl) ?_ _
        go_wp2
        go_ret2
        exact .of ⟨lo, _, rfl, hin, HE.out, HU.out.next hS⟩
end Go.Proofs.Ytlicimkpgnemeaa.Nd
