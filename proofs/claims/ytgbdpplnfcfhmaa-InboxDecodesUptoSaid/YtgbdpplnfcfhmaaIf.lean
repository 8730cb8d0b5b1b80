/-
  The walk of reevelaw12.InboxFull.
-/
import Derived.Test.YtgbdpplnfcfhmaaIc
set_option linter.unusedVariables false
set_option linter.unusedSimpArgs false
namespace Go.Proofs.Ytgbdpplnfcfhmaa.If
open Go.RowKit Go.Proofs.Ytgbdpplnfcfhmaa.B Go.Proofs.Ytgbdpplnfcfhmaa.Lt Go.Proofs.Ytgbdpplnfcfhmaa.Ib
/-- A letter of a kind. -/
def kl (k : Int) : L := (⟨#[]⟩, 0, k, [])
theorem kl_in (w : World) (k : Int) : In w (kl k) (.slice none 0 0) := ⟨none, 0, rfl, Rd.nil_ _ _ _, Nat.le_refl _, Nat.zero_le _⟩
theorem kl_formed (k : Int) : formed (kl k) = true := rfl
theorem below_drew {B : Nat} {w w' : World} (h : Below B w w') : Below B w w'.drew := ⟨h.os, h.tape, h.output, h.size, h.block⟩
set_option maxHeartbeats 1000000 in
theorem awake (w : World) : Calls Try.prog 8 #[] w fun e w' => e = .returned (.bool true) ∧ Below w.heap.size w w' := by
  go_enter Try.func8, Try.ntmps8
  go_wp2_with (fail)
  refine (new_ w).mono ?_
  rintro e w1 ⟨rfl, hI, hu1⟩
  have HP := hid (push w.heap.size [] _ (kl 3) (.slice none 0 0) w1 hI (kl_in w1 3))
  rw [show pushL [] (kl 3) = (0, [kl 3]) from rfl] at HP
  simp only [val, kl] at HP
  go_wp2_with (fail)
  refine Calls.mono HP.out ?_
  rintro e w2 ⟨rfl, F2, hI2, hm2⟩
  have HL := hid (len_ _ _ F2 w2 hI2)
  have hb : Below w.heap.size w w2 := (hu1.old (Nat.le_refl _)).trans (hm2.upd.below hu1.size (fun k hk => by rw [hk]; exact Nat.le_refl _))
  go_wp2_with (fail)
  refine Calls.mono HL.out ?_
  rintro e w3 ⟨rfl, rfl⟩
  go_wp2
  go_ret
  exact ⟨rfl, hb⟩
theorem push_lt (l : List Int) (j : Nat) (hj : j < l.length) (h8 : j < 8) : pushL ((l.take (min j 8)).map kl) (kl (gi l j)) = (0, (l.take (min (j + 1) 8)).map kl) := by
  unfold pushL
  rw [kl_formed, if_pos rfl, if_pos (by simp; omega), show min j 8 = j from by omega, show min (j + 1) 8 = j + 1 from by omega, List.take_succ_eq_append_getElem hj, List.map_append]
  rw [show gi l j = l[j] from by simp [gi, List.getD_eq_getElem?_getD, hj]]
  rfl
theorem push_ge (l : List Int) (j : Nat) (hj : j < l.length) (h8 : 8 ≤ j) : pushL ((l.take (min j 8)).map kl) (kl (gi l j)) = (7, (l.take (min (j + 1) 8)).map kl) := by
  unfold pushL
  rw [kl_formed, if_pos rfl, if_neg (by simp; omega), show min j 8 = 8 from by omega, show min (j + 1) 8 = 8 from by omega]
theorem head_at (l : List Int) (N j : Nat) (hj : j < N) (hN : N ≤ l.length) : ((l.take N).drop j).map kl = kl (gi l j) :: ((l.take N).drop (j + 1)).map kl := by
  rw [List.drop_eq_getElem_cons (by simp; omega)]
  simp [gi, List.getD_eq_getElem?_getD, show j < l.length from by omega]
set_option maxHeartbeats 2000000 in
set_option maxRecDepth 100000 in
theorem law (A : Option Addr) (c : Nat) (l : List Int) (w : World) (hr : Rn w .i64 A l) (hl : l.length ≤ 9223372036854775807) :
    Calls Try.prog 3 #[.slice A l.length c] w fun e w' => e = .returned (.bool true) ∧ Below w.heap.size w w' := by
  by_cases hlong : 100 < l.length
  · go_enter Try.func3, Try.ntmps3
    go_wp2_with (fail)
    refine (awake w).mono ?_
    rintro e w1 ⟨rfl, hb1⟩
    go_wp2_with (fail)
    refine (awake w1).mono ?_
    rintro e w2 ⟨rfl, hb2⟩
    go_wp2
    go_ret
    exact ⟨rfl, hb1.trans (hb2.mono hb1.size)⟩
  · obtain ⟨N, hN⟩ : ∃ N, N = min l.length 8 := ⟨_, rfl⟩
    have hN8 : N ≤ 8 := by omega
    have hNl : N ≤ l.length := by omega
    have hm1 : (if (8 : Int) < (l.length : Int) then (8 : Int) else (l.length : Int)) = (N : Int) := by split <;> omega
    have hm2 : (if 8 < l.length then (8 : Int) else (l.length : Int)) = (N : Int) := by split <;> omega
    have hNh := hid hN
    clear hN
    go_enter Try.func3, Try.ntmps3
    go_wp2_with (fail)
    refine (awake w).mono ?_
    rintro e w1 ⟨rfl, hb1⟩
    go_wp2_with (fail)
    refine (new_ w1).mono ?_
    rintro e w2 ⟨rfl, hI, hu2⟩
    have hF0 : ∀ k, k = w1.heap.size → w.heap.size ≤ k := fun k hk => by rw [hk]; exact hb1.size
    have hb02 : Below w.heap.size w w2 := hb1.trans (hu2.old hb1.size)
    obtain ⟨F0, hI0, hF0'⟩ : ∃ F0 : Nat → Prop, Ib w2 F0 w1.heap.size [] ∧ ∀ k, F0 k → w.heap.size ≤ k := ⟨_, hI, hF0⟩
    generalize w1.heap.size = p at *
    clear hb1 hu2 hI hF0
    go_wp2_with (fail)
    go_loopw [22] (fun v22 W => ∃ (j : Nat) (F : Nat → Prop), j ≤ l.length ∧ v22 = .int .i64 j ∧ Ib W F p ((l.take (min j 8)).map kl) ∧ (∀ k, F k → w.heap.size ≤ k) ∧ Below w.heap.size w W) (fun v22 _ => l.length - (intOf v22).toNat)
    case atStart => exact ⟨0, F0, by omega, rfl, hI0, hF0', hb02⟩
    case round =>
      clear hI0 hF0' hb02 F0
      obtain ⟨j, F, hj, rfl, hI, hF, hb⟩ := hrel
      by_cases hlt : j < l.length
      · obtain ⟨ad, rfl, _⟩ := hr.2 (by omega)
        have hrj : Rn wr .i64 (some ad) l := Rd.below hr (by omega) ⟨hb.os, hb.tape, hb.output, hb.size, hb.block⟩
        have hx := hrj.cell hlt
        have hj1 : (0 : Int) ≤ (j : Int) := by omega
        have hj2 : (j : Int) < (l.length : Int) := by omega
        have HP := hid (push p _ F (kl (gi l j)) (.slice none 0 0) wr hI (kl_in wr _))
        have hsz := hb.size
        by_cases h8 : j < 8
        · have h8' : (j : Int) < 8 := by omega
          rw [push_lt l j hlt h8] at HP
          simp only [val, kl] at HP
          generalize gi l j = kk at *
          clear hrj
          go_wp2_with (fail)
          refine Calls.mono HP.out ?_
          rintro e w3 ⟨rfl, F3, hI3, hm3⟩
          have H := hid (And.intro hI3 (And.intro (show ∀ k, F3 k → w.heap.size ≤ k from fun k hk => (hm3.sub k hk).elim (hF k) fun h => by omega) (hb.trans (hm3.upd.below hsz hF))))
          clear hI hI3 hm3 hF hb HP
          go_wp2
          go_roundw
          case rel => exact ⟨j + 1, F3, by omega, by go_num, H.out.1, H.out.2.1, H.out.2.2⟩
          case measure => simp [intOf]; omega
        · have h8' : ¬ (j : Int) < 8 := by omega
          rw [push_ge l j hlt (by omega)] at HP
          simp only [val, kl] at HP
          generalize gi l j = kk at *
          clear hrj
          go_wp2_with (fail)
          refine Calls.mono HP.out ?_
          rintro e w3 ⟨rfl, F3, hI3, hm3⟩
          have H := hid (And.intro hI3 (And.intro (show ∀ k, F3 k → w.heap.size ≤ k from fun k hk => (hm3.sub k hk).elim (hF k) fun h => by omega) (hb.trans (hm3.upd.below hsz hF))))
          clear hI hI3 hm3 hF hb HP
          go_wp2
          go_roundw
          case rel => exact ⟨j + 1, F3, by omega, by go_num, H.out.1, H.out.2.1, H.out.2.2⟩
          case measure => simp [intOf]; omega
      · obtain rfl : j = l.length := by omega
        have hI' : Ib wr F p (((l.take N).drop 0).map kl) := by
          rw [List.drop_zero]
          rw [← hNh.out] at hI
          exact hI
        have H0 := hid (And.intro hI' (And.intro hF hb))
        clear hI hI' hF hb
        go_wp2_with (fail)
        obtain ⟨wo, rfl⟩ : ∃ wo : World, wo = wr := ⟨_, rfl⟩
        go_loopw [49] (fun v49 W => ∃ (j : Nat) (F : Nat → Prop), j ≤ N ∧ v49 = .int .i64 j ∧ Ib W F p (((l.take N).drop j).map kl) ∧ (∀ k, F k → w.heap.size ≤ k) ∧ Below w.heap.size w W) (fun v49 _ => N - (intOf v49).toNat)
        case atStart => exact ⟨0, F, by omega, rfl, H0.out.1, H0.out.2.1, H0.out.2.2⟩
        case round =>
          clear H0 F
          obtain ⟨j, F, hj, rfl, hI, hF, hb⟩ := hrel
          by_cases hlt2 : j < N
          · obtain ⟨ad, rfl, _⟩ := hr.2 (by omega)
            have hrj : Rn wr .i64 (some ad) l := Rd.below hr (by omega) ⟨hb.os, hb.tape, hb.output, hb.size, hb.block⟩
            have hx := hrj.cell (i := j) (by omega)
            have hxl := World.block_lt_of_cell? _ _ hx
            have hj1 : (0 : Int) ≤ (j : Int) := by omega
            have hj2 : (j : Int) < (l.length : Int) := by omega
            have hj3 : (j : Int) < (N : Int) := by omega
            rw [head_at l N j hlt2 hNl] at hI
            have hnF : ¬ F ad.block := fun h => by
              have h1 := hF _ h
              obtain ⟨ad', e', hl'⟩ := hr.lt (by omega) (by omega)
              injection e' with e'
              subst e'
              omega
            have HP := hid (pop_some p (kl (gi l j)) _ F wr hI (by simp [kl]))
            have hrl : (((l.take N).drop (j + 1)).map kl).length = N - j - 1 := by simp; omega
            generalize gi l j = kk at *
            obtain ⟨rest, hrest⟩ : ∃ rest, rest = ((l.take N).drop (j + 1)).map kl := ⟨_, rfl⟩
            rw [← hrest] at hI HP hrl
            have HR := hid hrest
            clear hrest
            have hsz := hb.size
            go_wp2_with (fail)
            refine Calls.mono HP.out ?_
            rintro e w3 ⟨v, rfl, hv, hI3, hu3, _⟩
            obtain ⟨A3, c3, rfl, _⟩ := hv
            simp only [val, kl]
            have hx3 := (hu3.cell hxl (by rw [Addr_add_block]; exact hnF)).trans hx
            have hF3 : ∀ k, F k → w.heap.size ≤ k := hF
            have hb3 := hb.trans (hu3.below hsz hF)
            have hal : Upd No w3 (w3.alloc (.cells #[.string ⟨#[]⟩, .int .u64 0, .int .i64 kk, .slice A3 0 c3] 30)) := (Upd.refl _ _).alloc _
            have hbx := Blk.fresh w3 30 #[.string ⟨#[]⟩, .int .u64 0, .int .i64 kk, .slice A3 0 c3]
            have hI4 := hI3.upd hal (fun _ _ => no_ _)
            have hx4 := (hal.cell (World.block_lt_of_cell? _ _ hx3) (no_ _)).trans hx3
            have hb4 := hb3.trans (hal.old hb3.size)
            go_wp2_with (fail)
            generalize w3.alloc (.cells #[.string ⟨#[]⟩, .int .u64 0, .int .i64 kk, .slice A3 0 c3] 30) = w4 at *
            have HL := hid (len_ p rest F w4.drew hI4.drew)
            rw [hrl] at HL
            have HX1 : Hid (∀ W, W = w4.drew → W.cell? ⟨w3.heap.size, 2, none⟩ = some (.int .i64 kk)) := hid (by rintro W rfl; exact (box hbx).2.2.1)
            have HX2 : Hid (∀ W, W = w4.drew → W.cell? (ad.add j) = some (.int .i64 kk)) := hid (by rintro W rfl; exact hx4)
            obtain ⟨d, hd⟩ : ∃ d : Nat, d = N - j - 1 := ⟨_, rfl⟩
            rw [← hd] at HL
            have hw1 : IntKind.i64.wrap ((N : Int) - (j : Int)) = (d : Int) + 1 := by rw [IntWalk.i64_in _ (by omega)]; omega
            have hw2 : IntKind.i64.wrap ((d : Int) + 1 - 1) = (d : Int) := by rw [IntWalk.i64_in _ (by omega)]; omega
            have hw3 : IntKind.i64.wrap (d : Int) = (d : Int) := IntWalk.i64_in _ (by omega)
            have H := hid (And.intro hI4 (And.intro hF hb4))
            clear hI hI3 hI4 hx4 hx3 hbx hb3 hb4 hb hF hF3 hu3 hal hrl hd HP
            refine wp_region_held_drew (S := fun W => W = w4.drew) (by kernel_rfl) rfl (fun hS => ?_)
            refine rg_at 0 (by decide) (fun oi hoi => ?_)
            have ho2 := hoi; simp only [List.getElem?_toArray, List.getElem?_cons_succ, List.getElem?_cons_zero, Option.some.injEq] at ho2; subst ho2
            refine rg_take (v := ?_) 0 hoi (by kernel_rfl) (by kernel_rfl) (by kernel_rfl) (fun _ _ _ h => h) (by rfl) ?_ hS ?_
            rotate_left
            · intro w _; go_simp; try with_reducible rfl
            clear hoi; try simp only [Act.put, List.setIfInBounds_toArray, List.set_cons_zero, List.set_cons_succ]
            refine rg_at 1 (by decide) (fun oi hoi => ?_)
            have ho2 := hoi; simp only [List.getElem?_toArray, List.getElem?_cons_succ, List.getElem?_cons_zero, Option.some.injEq] at ho2; subst ho2
            refine rg_take (v := ?_) 1 hoi (by kernel_rfl) (by kernel_rfl) (by kernel_rfl) (fun _ _ _ h => h) (by rfl) ?_ hS ?_
            rotate_left
            · intro w _; go_simp; try with_reducible rfl
            clear hoi; try simp only [Act.put, List.setIfInBounds_toArray, List.set_cons_zero, List.set_cons_succ]
            refine rg_at 2 (by decide) (fun oi hoi => ?_)
            have ho2 := hoi; simp only [List.getElem?_toArray, List.getElem?_cons_succ, List.getElem?_cons_zero, Option.some.injEq] at ho2; subst ho2
            refine rg_take (v := ?_) 2 hoi (by kernel_rfl) (by kernel_rfl) (by kernel_rfl) (fun _ _ _ h => h) (by rfl) ?_ hS ?_
            rotate_left
            · intro w _; go_simp; try with_reducible rfl
            clear hoi; try simp only [Act.put, List.setIfInBounds_toArray, List.set_cons_zero, List.set_cons_succ]
            refine rg_at 3 (by decide) (fun oi hoi => ?_)
            have ho2 := hoi; simp only [List.getElem?_toArray, List.getElem?_cons_succ, List.getElem?_cons_zero, Option.some.injEq] at ho2; subst ho2
            refine rg_take (v := ?_) 3 hoi (by kernel_rfl) (by kernel_rfl) (by kernel_rfl) (fun _ _ _ h => h) (by rfl) ?_ hS ?_
            rotate_left
            · intro w _; go_simp; try with_reducible rfl
            clear hoi; try simp only [Act.put, List.setIfInBounds_toArray, List.set_cons_zero, List.set_cons_succ]
            refine rg_at 4 (by decide) (fun oi hoi => ?_)
            have ho2 := hoi; simp only [List.getElem?_toArray, List.getElem?_cons_succ, List.getElem?_cons_zero, Option.some.injEq] at ho2; subst ho2
            refine rg_take (v := ?_) 4 hoi (by kernel_rfl) (by kernel_rfl) (by kernel_rfl) (fun _ _ _ h => h) (by rfl) ?_ hS ?_
            rotate_left
            · intro w hw; have hf := HX1.out w hw; clear hw; go_simp; try with_reducible rfl
            clear hoi; try simp only [Act.put, List.setIfInBounds_toArray, List.set_cons_zero, List.set_cons_succ]
            refine rg_at 5 (by decide) (fun oi hoi => ?_)
            have ho2 := hoi; simp only [List.getElem?_toArray, List.getElem?_cons_succ, List.getElem?_cons_zero, Option.some.injEq] at ho2; subst ho2
            refine rg_take (v := ?_) 5 hoi (by kernel_rfl) (by kernel_rfl) (by kernel_rfl) (fun _ _ _ h => h) (by rfl) ?_ hS ?_
            rotate_left
            · intro w _; go_simp; try with_reducible rfl
            clear hoi; try simp only [Act.put, List.setIfInBounds_toArray, List.set_cons_zero, List.set_cons_succ]
            refine rg_at 6 (by decide) (fun oi hoi => ?_)
            have ho2 := hoi; simp only [List.getElem?_toArray, List.getElem?_cons_succ, List.getElem?_cons_zero, Option.some.injEq] at ho2; subst ho2
            refine rg_take (v := ?_) 6 hoi (by kernel_rfl) (by kernel_rfl) (by kernel_rfl) (fun _ _ _ h => h) (by rfl) ?_ hS ?_
            rotate_left
            · intro w _; go_simp; try with_reducible rfl
            clear hoi; try simp only [Act.put, List.setIfInBounds_toArray, List.set_cons_zero, List.set_cons_succ]
            refine rg_at 7 (by decide) (fun oi hoi => ?_)
            have ho2 := hoi; simp only [List.getElem?_toArray, List.getElem?_cons_succ, List.getElem?_cons_zero, Option.some.injEq] at ho2; subst ho2
            refine rg_take (v := ?_) 7 hoi (by kernel_rfl) (by kernel_rfl) (by kernel_rfl) (fun _ _ _ h => h) (by rfl) ?_ hS ?_
            rotate_left
            · intro w _; go_simp; try with_reducible rfl
            clear hoi; try simp only [Act.put, List.setIfInBounds_toArray, List.set_cons_zero, List.set_cons_succ]
            refine rg_at 8 (by decide) (fun oi hoi => ?_)
            have ho2 := hoi; simp only [List.getElem?_toArray, List.getElem?_cons_succ, List.getElem?_cons_zero, Option.some.injEq] at ho2; subst ho2
            refine rg_take (v := ?_) 8 hoi (by kernel_rfl) (by kernel_rfl) (by kernel_rfl) (fun _ _ _ h => h) (by rfl) ?_ hS ?_
            rotate_left
            · intro w hw; have hf := HX2.out w hw; clear hw; go_simp; try with_reducible rfl
            clear hoi; try simp only [Act.put, List.setIfInBounds_toArray, List.set_cons_zero, List.set_cons_succ]
            refine rg_at 9 (by decide) (fun oi hoi => ?_)
            have ho2 := hoi; simp only [List.getElem?_toArray, List.getElem?_cons_succ, List.getElem?_cons_zero, Option.some.injEq] at ho2; subst ho2
            refine rg_take (v := ?_) 9 hoi (by kernel_rfl) (by kernel_rfl) (by kernel_rfl) (fun _ _ _ h => h) (by rfl) ?_ hS ?_
            rotate_left
            · intro w _; go_simp; try with_reducible rfl
            clear hoi; try simp only [Act.put, List.setIfInBounds_toArray, List.set_cons_zero, List.set_cons_succ]
            refine rg_at 10 (by decide) (fun oi hoi => ?_)
            have ho2 := hoi; simp only [List.getElem?_toArray, List.getElem?_cons_succ, List.getElem?_cons_zero, Option.some.injEq] at ho2; subst ho2
            refine rg_take (v := ?_) 10 hoi (by kernel_rfl) (by kernel_rfl) (by kernel_rfl) (fun _ _ _ h => h) (by rfl) ?_ hS ?_
            rotate_left
            · intro w _; go_simp; try with_reducible rfl
            clear hoi; try simp only [Act.put, List.setIfInBounds_toArray, List.set_cons_zero, List.set_cons_succ]
            refine rg_at 11 (by decide) (fun oi hoi => ?_)
            have ho2 := hoi; simp only [List.getElem?_toArray, List.getElem?_cons_succ, List.getElem?_cons_zero, Option.some.injEq] at ho2; subst ho2
            refine rg_take (v := ?_) 11 hoi (by kernel_rfl) (by kernel_rfl) (by kernel_rfl) (fun _ _ _ h => h) (by rfl) ?_ hS ?_
            rotate_left
            · intro w _; go_simp; try with_reducible rfl
            clear hoi; try simp only [Act.put, List.setIfInBounds_toArray, List.set_cons_zero, List.set_cons_succ]
            refine rg_at 12 (by decide) (fun oi hoi => ?_)
            have ho2 := hoi; simp only [List.getElem?_toArray, List.getElem?_cons_succ, List.getElem?_cons_zero, Option.some.injEq] at ho2; subst ho2
            refine rg_take (v := ?_) 12 hoi (by kernel_rfl) (by kernel_rfl) (by kernel_rfl) (fun _ _ _ h => h) (by rfl) ?_ hS ?_
            rotate_left
            · intro w _; go_simp; try with_reducible rfl
            clear hoi; try simp only [Act.put, List.setIfInBounds_toArray, List.set_cons_zero, List.set_cons_succ]
            refine rg_at 14 (by decide) (fun oi hoi => ?_)
            have ho2 := hoi; simp only [List.getElem?_toArray, List.getElem?_cons_succ, List.getElem?_cons_zero, Option.some.injEq] at ho2; subst ho2
            refine rg_take (v := ?_) 14 hoi (by kernel_rfl) (by kernel_rfl) (by kernel_rfl) (fun _ _ _ h => h) (by rfl) ?_ hS ?_
            rotate_left
            · intro w _; go_simp; try with_reducible rfl
            clear hoi; try simp only [Act.put, List.setIfInBounds_toArray, List.set_cons_zero, List.set_cons_succ]
            refine rg_at 15 (by decide) (fun oi hoi => ?_)
            have ho2 := hoi; simp only [List.getElem?_toArray, List.getElem?_cons_succ, List.getElem?_cons_zero, Option.some.injEq] at ho2; subst ho2
            refine rg_take (v := ?_) 15 hoi (by kernel_rfl) (by kernel_rfl) (by kernel_rfl) (fun _ _ _ h => h) (by rfl) ?_ hS ?_
            rotate_left
            · intro w _; go_simp; try with_reducible rfl
            clear hoi; try simp only [Act.put, List.setIfInBounds_toArray, List.set_cons_zero, List.set_cons_succ]
            refine rg_at 16 (by decide) (fun oi hoi => ?_)
            have ho2 := hoi; simp only [List.getElem?_toArray, List.getElem?_cons_succ, List.getElem?_cons_zero, Option.some.injEq] at ho2; subst ho2
            refine rg_take (v := ?_) 16 hoi (by kernel_rfl) (by kernel_rfl) (by kernel_rfl) (fun _ _ _ h => h) (by rfl) ?_ hS ?_
            rotate_left
            · intro w hw; have hf := hm2; clear hw; go_simp; try with_reducible rfl
            clear hoi; try simp only [Act.put, List.setIfInBounds_toArray, List.set_cons_zero, List.set_cons_succ]
            refine rg_at 17 (by decide) (fun oi hoi => ?_)
            have ho2 := hoi; simp only [List.getElem?_toArray, List.getElem?_cons_succ, List.getElem?_cons_zero, Option.some.injEq] at ho2; subst ho2
            refine rg_take (v := ?_) 17 hoi (by kernel_rfl) (by kernel_rfl) (by kernel_rfl) (fun _ _ _ h => h) (by rfl) ?_ hS ?_
            rotate_left
            · intro w _; go_simp; try with_reducible rfl
            clear hoi; try simp only [Act.put, List.setIfInBounds_toArray, List.set_cons_zero, List.set_cons_succ]
            refine rg_at 18 (by decide) (fun oi hoi => ?_)
            have ho2 := hoi; simp only [List.getElem?_toArray, List.getElem?_cons_succ, List.getElem?_cons_zero, Option.some.injEq] at ho2; subst ho2
            refine rg_take (v := ?_) 18 hoi (by kernel_rfl) (by kernel_rfl) (by kernel_rfl) (fun _ _ _ h => h) (by rfl) ?_ hS ?_
            rotate_left
            · intro w hw; have hf := hw1; clear hw; go_simp; try with_reducible rfl
            clear hoi; try simp only [Act.put, List.setIfInBounds_toArray, List.set_cons_zero, List.set_cons_succ]
            refine rg_at 19 (by decide) (fun oi hoi => ?_)
            have ho2 := hoi; simp only [List.getElem?_toArray, List.getElem?_cons_succ, List.getElem?_cons_zero, Option.some.injEq] at ho2; subst ho2
            refine rg_take (v := ?_) 19 hoi (by kernel_rfl) (by kernel_rfl) (by kernel_rfl) (fun _ _ _ h => h) (by rfl) ?_ hS ?_
            rotate_left
            · intro w hw; have hf := hw2; clear hw; go_simp; try with_reducible rfl
            clear hoi; try simp only [Act.put, List.setIfInBounds_toArray, List.set_cons_zero, List.set_cons_succ]
            refine rg_at 13 (by decide) (fun oi hoi => ?_)
            have ho2 := hoi; simp only [List.getElem?_toArray, List.getElem?_cons_succ, List.getElem?_cons_zero, Option.some.injEq] at ho2; subst ho2
            refine rg_call 13 (by kernel_rfl) hoi (by rfl) (fun K hK => ?_)
            clear hoi
            go_simp
            refine Calls.mono HL.out ?_
            rintro e w' ⟨rfl, hw'⟩
            subst hw'
            go_wp2_with (fail)
            refine hK.out _ _ (rfl) (fun hS => ?_)
            clear hK K
            try simp only [Act.put, List.setIfInBounds_toArray, List.set_cons_zero, List.set_cons_succ]
            refine rg_at 20 (by decide) (fun oi hoi => ?_)
            have ho2 := hoi; simp only [List.getElem?_toArray, List.getElem?_cons_succ, List.getElem?_cons_zero, Option.some.injEq] at ho2; subst ho2
            refine rg_take (v := ?_) 20 hoi (by kernel_rfl) (by kernel_rfl) (by kernel_rfl) (fun _ _ _ h => h) (by rfl) ?_ hS ?_
            rotate_left
            · intro w _; go_simp; try with_reducible rfl
            clear hoi; try simp only [Act.put, List.setIfInBounds_toArray, List.set_cons_zero, List.set_cons_succ]
            refine rg_at 21 (by decide) (fun oi hoi => ?_)
            have ho2 := hoi; simp only [List.getElem?_toArray, List.getElem?_cons_succ, List.getElem?_cons_zero, Option.some.injEq] at ho2; subst ho2
            refine rg_take (v := ?_) 21 hoi (by kernel_rfl) (by kernel_rfl) (by kernel_rfl) (fun _ _ _ h => h) (by rfl) ?_ hS ?_
            rotate_left
            · intro w _; go_simp; try with_reducible rfl
            clear hoi; try simp only [Act.put, List.setIfInBounds_toArray, List.set_cons_zero, List.set_cons_succ]
            refine wpAnyH_done (by kernel_rfl) ?_ _
            go_wp2
            go_roundw
            case rel => exact ⟨j + 1, F, by omega, by go_num, (by rw [← HR.out]; exact H.out.1.drew), H.out.2.1, below_drew H.out.2.2⟩
            case measure => simp [intOf]; omega
          · obtain rfl : j = N := by omega
            rw [List.drop_of_length_le (by simp; omega)] at hI
            have HP := hid (pop_none p F wr hI)
            have hsz := hb.size
            go_wp2_with (fail)
            refine Calls.mono HP.out ?_
            rintro e w3 ⟨v, rfl, hv, _, hu3, _⟩
            obtain ⟨A3, c3, rfl, _⟩ := hv
            simp only [val, zero]
            have hb3 := hb.trans (hu3.below hsz hF)
            have hb4 : Below w.heap.size w (w3.alloc (.cells #[.string ⟨#[]⟩, .int .u64 0, .int .i64 0, .slice A3 0 c3] 30)) := hb3.trans (((Upd.refl No w3).alloc _).old hb3.size)
            go_wp2
            go_ret
            exact ⟨rfl, hb4⟩
end Go.Proofs.Ytgbdpplnfcfhmaa.If
