/-
  The walk of reevelaw05.DiskLast.
-/
import Derived.Test.YtehdobagglondaaDl
set_option linter.unusedVariables false
set_option linter.unusedSimpArgs false
namespace Go.Proofs.Ytehdobagglondaa.Dt
open Go.RowKit Go.Proofs.Ytehdobagglondaa.B Go.Proofs.Ytehdobagglondaa.Sm Go.Proofs.Ytehdobagglondaa.Dk Go.Proofs.Ytehdobagglondaa.Dl
def bv (j : Nat) : Int := ((j : Int) + 1) % 256
def Wl (l : List Int) (j : Nat) : List (Nat × List Int) := (List.range j).map fun k => ((gi l k).toNat, blk (bv k) false)
theorem Wl_succ (l : List Int) (j : Nat) : Wl l (j + 1) = Wl l j ++ [((gi l j).toNat, blk (bv j) false)] := by simp [Wl, List.range_succ]
theorem Wl_length (l : List Int) (j : Nat) : (Wl l j).length = j := by simp [Wl]
theorem blk_length (b : Int) : (blk b false).length = 256 := List.length_replicate
theorem Dk.drew {w : World} {F : Nat → Prop} {p : Nat} {m : Dm} (h : Dk w F p m) : Dk w.drew F p m := h
theorem below_drew {B : Nat} {w w' : World} (h : Below B w w') : Below B w w'.drew := ⟨h.os, h.tape, h.output, h.size, h.block⟩
theorem gi_blk (b : Int) : gi (blk b false) 0 = b := rfl
set_option maxHeartbeats 400000 in
set_option maxRecDepth 100000 in
theorem law (A : Option Addr) (c : Nat) (l : List Int) (w : World) (hr : Rn w .u8 A l) (hb : ∀ x ∈ l, 0 ≤ x ∧ x ≤ 255) (hl : l.length ≤ 9223372036854775807) :
    Calls Try.prog 3 #[.slice A l.length c] w fun e w' => e = .returned (.bool true) ∧ Below w.heap.size w w' := by
  by_cases hlong : 200 < l.length
  · go_enter Try.func3, Try.ntmps3
    go_wp2_with (fail)
    refine (awake w).mono ?_
    rintro e w1 ⟨rfl, hb1⟩
    go_wp2_with (fail)
    refine (awake w1).mono ?_
    rintro e w2 ⟨rfl, hb2⟩
    go_wp2
    go_ret
    exact ⟨rfl, hb1.trans (hb2.mono hb1.size)⟩
  · go_enter Try.func3, Try.ntmps3
    go_wp2_with (fail)
    refine (awake w).mono ?_
    rintro e w1 ⟨rfl, hb1⟩
    go_wp2_with (fail)
    refine (new_ 256 w1).mono ?_
    rintro e w2 ⟨p, F, rfl, hD, hb2, hF⟩
    rw [show (min (max (256 : Int) 0) 65536).toNat = 256 from rfl] at hD
    have hF0 : ∀ k, F k → w.heap.size ≤ k := fun k hk => Nat.le_trans hb1.size (hF k hk)
    have hb02 : Below w.heap.size w w2 := hb1.trans (hb2.mono hb1.size)
    have hlt0 : ∀ ad, A = some ad → 0 < l.length → ad.block < w.heap.size := fun ad e h0 => by
      obtain ⟨ad', e', hlt⟩ := hr.lt h0 (by omega)
      rw [e] at e'
      injection e' with e'
      exact e' ▸ hlt
    clear hb1 hb2 hF
    go_wp2_with (fail)
    go_loopw [21] (fun v21 W => ∃ (j : Nat) (F : Nat → Prop), j ≤ l.length ∧ v21 = .int .i64 j ∧ Dk W F p ⟨256, Wl l j, -1, false⟩ ∧ (∀ k, F k → w.heap.size ≤ k) ∧ Below w.heap.size w W) (fun v21 _ => l.length - (intOf v21).toNat)
    case atStart => exact ⟨0, F, by omega, rfl, hD, hF0, hb02⟩
    case round =>
      clear hD hF0 hb02 F
      obtain ⟨j, F, hj, rfl, hD, hF, hbw⟩ := hrel
      by_cases hlt : j < l.length
      · obtain ⟨ad, rfl, _⟩ := hr.2 (by omega)
        have hrj : Rn wr .u8 (some ad) l := Rd.below hr (by omega) ⟨hbw.os, hbw.tape, hbw.output, hbw.size, hbw.block⟩
        have hx := hrj.cell hlt
        have hby := hb _ (gi_mem l j hlt)
        have hnF : ¬ F ad.block := fun h => by have := hF _ h; have := hlt0 ad rfl (by omega); omega
        obtain ⟨a, ha⟩ : ∃ a : Nat, gi l j = (a : Int) := ⟨(gi l j).toNat, by omega⟩
        have hW := wr_ok 256 (Wl l j) (-1) a (blk (bv j) false) (by omega) (blk_length _) (by decide)
        have hsucc := Wl_succ l j
        rw [ha] at hx hsucc
        rw [Int.toNat_natCast] at hsucc
        have ha2 : 0 ≤ (a : Int) ∧ (a : Int) ≤ 255 := by omega
        have hj1 : (0 : Int) ≤ (j : Int) := by omega
        have hj2 : (j : Int) < (l.length : Int) := by omega
        obtain ⟨b, hbe⟩ : ∃ b, b = bv j := ⟨_, rfl⟩
        have hwb : IntKind.u8.wrap ((j : Int) + 1) = b := by rw [hbe, IntKind.wrap_u8]; rfl
        have hw64 : IntKind.i64.wrap ((j : Int) + 1) = (j : Int) + 1 := IntWalk.i64_in _ (by omega)
        have hwa : IntKind.i64.wrap (a : Int) = (a : Int) := IntWalk.i64_in _ (by omega)
        rw [← hbe] at hW hsucc
        have HW := hid hW
        have HS := hid hsucc
        have hlog : (Wl l j).length ≤ 1000000 := by rw [Wl_length]; omega
        have hxb : (ad.add j).block = ad.block := Addr_add_block _ _
        clear hW hsucc hbe hby
        go_wp2_with (fail)
        refine wp_region_held_drew (S := fun W => W.cell? (ad.add j) = some (.int .u8 a)) (by kernel_rfl) hx (fun hS => ?_)
        refine rg_at 0 (by decide) (fun oi hoi => ?_)
        have ho2 := hoi; simp only [List.getElem?_toArray, List.getElem?_cons_succ, List.getElem?_cons_zero, Option.some.injEq] at ho2; subst ho2
        refine rg_take (v := ?_) 0 hoi (by kernel_rfl) (by kernel_rfl) (by kernel_rfl) (fun _ _ _ h => h) (by rfl) ?_ hS ?_
        rotate_left
        · intro w _; go_simp; try with_reducible rfl
        clear hoi; try simp only [Act.put, List.setIfInBounds_toArray, List.set_cons_zero, List.set_cons_succ]
        refine rg_at 1 (by decide) (fun oi hoi => ?_)
        have ho2 := hoi; simp only [List.getElem?_toArray, List.getElem?_cons_succ, List.getElem?_cons_zero, Option.some.injEq] at ho2; subst ho2
        refine rg_take (v := ?_) 1 hoi (by kernel_rfl) (by kernel_rfl) (by kernel_rfl) (fun _ _ _ h => h) (by rfl) ?_ hS ?_
        rotate_left
        · intro w _; go_simp; try with_reducible rfl
        clear hoi; try simp only [Act.put, List.setIfInBounds_toArray, List.set_cons_zero, List.set_cons_succ]
        refine rg_at 2 (by decide) (fun oi hoi => ?_)
        have ho2 := hoi; simp only [List.getElem?_toArray, List.getElem?_cons_succ, List.getElem?_cons_zero, Option.some.injEq] at ho2; subst ho2
        refine rg_take (v := ?_) 2 hoi (by kernel_rfl) (by kernel_rfl) (by kernel_rfl) (fun _ _ _ h => h) (by rfl) ?_ hS ?_
        rotate_left
        · intro w _; go_simp; try with_reducible rfl
        clear hoi; try simp only [Act.put, List.setIfInBounds_toArray, List.set_cons_zero, List.set_cons_succ]
        refine rg_at 3 (by decide) (fun oi hoi => ?_)
        have ho2 := hoi; simp only [List.getElem?_toArray, List.getElem?_cons_succ, List.getElem?_cons_zero, Option.some.injEq] at ho2; subst ho2
        refine rg_take (v := ?_) 3 hoi (by kernel_rfl) (by kernel_rfl) (by kernel_rfl) (fun _ _ _ h => h) (by rfl) ?_ hS ?_
        rotate_left
        · intro w _; go_simp; try with_reducible rfl
        clear hoi; try simp only [Act.put, List.setIfInBounds_toArray, List.set_cons_zero, List.set_cons_succ]
        refine rg_at 4 (by decide) (fun oi hoi => ?_)
        have ho2 := hoi; simp only [List.getElem?_toArray, List.getElem?_cons_succ, List.getElem?_cons_zero, Option.some.injEq] at ho2; subst ho2
        refine rg_take (v := ?_) 4 hoi (by kernel_rfl) (by kernel_rfl) (by kernel_rfl) (fun _ _ _ h => h) (by rfl) ?_ hS ?_
        rotate_left
        · intro w hw; have hf := hw; clear hw; go_simp; try with_reducible rfl
        clear hoi; try simp only [Act.put, List.setIfInBounds_toArray, List.set_cons_zero, List.set_cons_succ]
        refine rg_at 5 (by decide) (fun oi hoi => ?_)
        have ho2 := hoi; simp only [List.getElem?_toArray, List.getElem?_cons_succ, List.getElem?_cons_zero, Option.some.injEq] at ho2; subst ho2
        refine rg_take (v := ?_) 5 hoi (by kernel_rfl) (by kernel_rfl) (by kernel_rfl) (fun _ _ _ h => h) (by rfl) ?_ hS ?_
        rotate_left
        · intro w _; go_simp; try with_reducible rfl
        clear hoi; try simp only [Act.put, List.setIfInBounds_toArray, List.set_cons_zero, List.set_cons_succ]
        refine rg_at 6 (by decide) (fun oi hoi => ?_)
        have ho2 := hoi; simp only [List.getElem?_toArray, List.getElem?_cons_succ, List.getElem?_cons_zero, Option.some.injEq] at ho2; subst ho2
        refine rg_take (v := ?_) 6 hoi (by kernel_rfl) (by kernel_rfl) (by kernel_rfl) (fun _ _ _ h => h) (by rfl) ?_ hS ?_
        rotate_left
        · intro w _; go_simp; try with_reducible rfl
        clear hoi; try simp only [Act.put, List.setIfInBounds_toArray, List.set_cons_zero, List.set_cons_succ]
        refine rg_at 7 (by decide) (fun oi hoi => ?_)
        have ho2 := hoi; simp only [List.getElem?_toArray, List.getElem?_cons_succ, List.getElem?_cons_zero, Option.some.injEq] at ho2; subst ho2
        refine rg_take (v := ?_) 7 hoi (by kernel_rfl) (by kernel_rfl) (by kernel_rfl) (fun _ _ _ h => h) (by rfl) ?_ hS ?_
        rotate_left
        · intro w _; go_simp; try with_reducible rfl
        clear hoi; try simp only [Act.put, List.setIfInBounds_toArray, List.set_cons_zero, List.set_cons_succ]
        refine rg_at 8 (by decide) (fun oi hoi => ?_)
        have ho2 := hoi; simp only [List.getElem?_toArray, List.getElem?_cons_succ, List.getElem?_cons_zero, Option.some.injEq] at ho2; subst ho2
        refine rg_take (v := ?_) 8 hoi (by kernel_rfl) (by kernel_rfl) (by kernel_rfl) (fun _ _ _ h => h) (by rfl) ?_ hS ?_
        rotate_left
        · intro w _; go_simp; try with_reducible rfl
        clear hoi; try simp only [Act.put, List.setIfInBounds_toArray, List.set_cons_zero, List.set_cons_succ]
        refine rg_at 9 (by decide) (fun oi hoi => ?_)
        have ho2 := hoi; simp only [List.getElem?_toArray, List.getElem?_cons_succ, List.getElem?_cons_zero, Option.some.injEq] at ho2; subst ho2
        refine rg_take (v := ?_) 9 hoi (by kernel_rfl) (by kernel_rfl) (by kernel_rfl) (fun _ _ _ h => h) (by rfl) ?_ hS ?_
        rotate_left
        · intro w _; go_simp; try with_reducible rfl
        clear hoi; try simp only [Act.put, List.setIfInBounds_toArray, List.set_cons_zero, List.set_cons_succ]
        refine rg_at 10 (by decide) (fun oi hoi => ?_)
        have ho2 := hoi; simp only [List.getElem?_toArray, List.getElem?_cons_succ, List.getElem?_cons_zero, Option.some.injEq] at ho2; subst ho2
        refine rg_call 10 (by kernel_rfl) hoi (by rfl) (fun K hK => ?_)
        clear hoi
        go_simp
        refine Calls.mono (block 0 0 b false _) ?_
        rintro e w2 ⟨A2, c2, rfl, hr2, hu2, hfr2⟩
        go_wp2_with (fail)
        refine hK.out _ _ (((hu2.cell (p := ad.add j) (World.block_lt_of_cell? _ _ hx) (no_ _)).trans hx)) (fun hS => ?_)
        clear hK K
        try simp only [Act.put, List.setIfInBounds_toArray, List.set_cons_zero, List.set_cons_succ]
        refine rg_at 11 (by decide) (fun oi hoi => ?_)
        have ho2 := hoi; simp only [List.getElem?_toArray, List.getElem?_cons_succ, List.getElem?_cons_zero, Option.some.injEq] at ho2; subst ho2
        refine rg_call 11 (by kernel_rfl) hoi (by rfl) (fun K hK => ?_)
        clear hoi
        go_simp
        have hwr := write p _ F A2 c2 _ (a : Int) _ ((Dk.drew hD).upd hu2 (fun _ _ => no_ _)) hr2 (fun ad e hk => by have := hfr2 ad e; have := (Dk.drew hD).lt _ hk; omega) (by simp [Dm.ok]) hlog
        rw [HW.out] at hwr
        refine Calls.mono hwr ?_
        rintro e w3 ⟨rfl, F3, hD3, hM3⟩
        go_wp2_with (fail)
        refine hK.out _ _ (((hM3.upd.cell (p := ad.add j) (World.block_lt_of_cell? _ _ ‹_›) (by rw [hxb]; exact hnF)).trans ‹_›)) (fun hS => ?_)
        clear hK K
        try simp only [Act.put, List.setIfInBounds_toArray, List.set_cons_zero, List.set_cons_succ]
        refine rg_at 12 (by decide) (fun oi hoi => ?_)
        have ho2 := hoi; simp only [List.getElem?_toArray, List.getElem?_cons_succ, List.getElem?_cons_zero, Option.some.injEq] at ho2; subst ho2
        refine rg_take (v := ?_) 12 hoi (by kernel_rfl) (by kernel_rfl) (by kernel_rfl) (fun _ _ _ h => h) (by rfl) ?_ hS ?_
        rotate_left
        · intro w _; go_simp; try with_reducible rfl
        clear hoi; try simp only [Act.put, List.setIfInBounds_toArray, List.set_cons_zero, List.set_cons_succ]
        refine wpAnyH_done (by kernel_rfl) ?_ _
        have hD4 : Dk w3 F3 p ⟨256, Wl l (j + 1), -1, false⟩ := by rw [HS.out]; exact hD3
        have hsz := hbw.size
        have hM4 : Mv F F3 wr w3 := Mv.trans (Mv.quiet (Upd.old (Upd.of_drew hu2) (Nat.le_refl _))) hM3
        have hF4 : ∀ k, F3 k → w.heap.size ≤ k := fun k hk => (hM4.sub k hk).elim (hF k) fun h => by omega
        have hb4 := hbw.trans (hM4.upd.below hsz hF)
        have H := hid (And.intro hD4 (And.intro hF4 hb4))
        clear hD4 hF4 hb4 hM4 hD3 hM3 hu2 hr2 hfr2 hD hF hbw hS
        go_wp2
        go_roundw
        case rel => exact ⟨j + 1, F3, by omega, by go_num, H.out.1, H.out.2.1, H.out.2.2⟩
        case measure => simp [intOf]; omega
      · obtain rfl : j = l.length := by omega
        have hsz := hbw.size
        obtain ⟨n, hn⟩ : ∃ n, n = l.length := ⟨_, rfl⟩
        have H0 := hid (And.intro hD (And.intro hF hbw))
        clear hD hF hbw
        go_wp2_with (fail)
        obtain ⟨wo, rfl⟩ : ∃ wo : World, wo = wr := ⟨_, rfl⟩
        go_loopw [40] (fun v40 W => ∃ i : Nat, i ≤ l.length ∧ v40 = .int .i64 i ∧ Hid (Dk W F p ⟨256, Wl l l.length, -1, false⟩ ∧ Below w.heap.size w W)) (fun v40 _ => l.length - (intOf v40).toNat)
        case atStart => exact ⟨0, by omega, rfl, hid ⟨H0.out.1, H0.out.2.2⟩⟩
        case round =>
          obtain ⟨i, hi, rfl, H⟩ := hrel
          by_cases hlt2 : i < l.length
          · obtain ⟨ad, rfl, _⟩ := hr.2 (by omega)
            have hri : Rn wr .u8 (some ad) l := Rd.below hr (by omega) H.out.2
            have hxi := hri.cell hlt2
            have hbi := hb _ (gi_mem l i hlt2)
            obtain ⟨a, ha⟩ : ∃ a : Nat, gi l i = (a : Int) := ⟨(gi l i).toNat, by omega⟩
            have hai := hid ha
            rw [ha] at hxi
            have ha2 : 0 ≤ (a : Int) ∧ (a : Int) ≤ 255 := by omega
            have hj1 : (0 : Int) ≤ (i : Int) := by omega
            have hj2 : (i : Int) < (l.length : Int) := by omega
            clear ha hbi
            go_wp2_with (fail)
            obtain ⟨wi, rfl⟩ : ∃ wi : World, wi = wr := ⟨_, rfl⟩
            go_loopw [6, 7] (fun v6 v7 W => ∃ k L : Nat, i ≤ k ∧ k ≤ l.length ∧ L < l.length ∧ v7 = .int .i64 k ∧ v6 = .int .i64 L ∧ Hid (last (Wl l (max k (i + 1))) a = some (blk (bv L) false)) ∧ Upd No wi W) (fun _ v7 _ => l.length - (intOf v7).toNat)
            case atStart =>
              refine ⟨i, i, by omega, by omega, hlt2, rfl, rfl, hid ?_, Upd.refl _ _⟩
              rw [show max i (i + 1) = i + 1 from by omega, Wl_succ, last_snoc, hai.out]
              simp
            case round =>
              obtain ⟨k, L, hik, hk, hL, rfl, rfl, HL, hui⟩ := hrel
              have hrk : Rn wr .u8 (some ad) l := Rd.upd hri (by omega) hui (fun _ _ => no_ _)
              have hxi := hrk.cell hlt2
              rw [hai.out] at hxi
              by_cases hkl : k < l.length
              · have hxk := hrk.cell hkl
                have hk1 : (0 : Int) ≤ (k : Int) := by omega
                have hk2 : (k : Int) < (l.length : Int) := by omega
                obtain ⟨y, hy⟩ : ∃ y, y = gi l k := ⟨_, rfl⟩
                rw [← hy] at hxk
                have hyh := hid hy
                by_cases hya : y = (a : Int)
                · have hb1 : (y == (a : Int)) = true := by simp [hya]
                  have HN := hid (show last (Wl l (k + 1)) a = some (blk (bv k) false) from by rw [Wl_succ, last_snoc, ← hyh.out, hya]; simp)
                  clear hy hya
                  go_wp2
                  go_region
                  all_goals
                    go_wp2
                    go_roundw
                    case rel => exact ⟨k + 1, k, by omega, by omega, hkl, by go_num, rfl, hid (by rw [show max (k + 1) (i + 1) = k + 1 from by omega]; exact HN.out), hui.drew⟩
                    case measure => simp [intOf]; omega
                · have hb1 : (y == (a : Int)) = false := by simp [hya]
                  have hki : i < k := by
                    rcases Nat.lt_or_ge i k with h | h
                    · exact h
                    · obtain rfl : k = i := by omega
                      exact absurd (hyh.out.trans hai.out) hya
                  have hby := hb _ (gi_mem l k hkl)
                  have HN := hid (show last (Wl l (k + 1)) a = last (Wl l k) a from by rw [Wl_succ, last_snoc, if_neg (by rw [← hyh.out]; rw [← hyh.out] at hby; omega)])
                  clear hy hya hby
                  go_wp2
                  go_region
                  all_goals
                    go_wp2
                    go_roundw
                    case rel => exact ⟨k + 1, L, by omega, by omega, hL, by go_num, rfl, hid (by rw [show max (k + 1) (i + 1) = k + 1 from by omega, HN.out]; have := HL.out; rwa [show max k (i + 1) = k from by omega] at this), hui.drew⟩
                    case measure => simp [intOf]; omega
              · obtain rfl : k = l.length := by omega
                rw [show max l.length (i + 1) = l.length from by omega] at HL
                have hwa : IntKind.i64.wrap (a : Int) = (a : Int) := IntWalk.i64_in _ (by omega)
                go_wp2_with (fail)
                have hDr := H.out.1.upd hui (fun _ _ => no_ _)
                have hbr := H.out.2.trans (hui.old H.out.2.size)
                have hR := read p _ F (a : Int) wr hDr (by simp [Dm.ok])
                rw [show Dm.rd ⟨256, Wl l l.length, -1, false⟩ (a : Int) = (blk (bv L) false, 0) from by
                  unfold Dm.rd
                  rw [if_neg (by simp), if_neg (by simp only; omega), Int.toNat_natCast, HL.out]
                  rfl] at hR
                refine Calls.mono hR ?_
                rintro e w5 ⟨A5, c5, rfl, hr5, hu5⟩
                simp only at hr5
                obtain ⟨b, hbe⟩ : ∃ b, b = bv L := ⟨_, rfl⟩
                rw [← hbe] at hr5
                simp only [← hbe, blk_length]
                have hwb : IntKind.u8.wrap ((L : Int) + 1) = b := by rw [hbe, IntKind.wrap_u8]; rfl
                obtain ⟨ad5, rfl, hx5⟩ := hr5.at_ (i := 0) (by rw [blk_length]; omega)
                rw [gi_blk] at hx5
                have hx5' : w5.cell? ad5 = some (.int .u8 b) := hx5
                have hxi5 : w5.cell? (ad.add i) = some (.int .u8 a) := (hu5.cell (World.block_lt_of_cell? _ _ hxi) (no_ _)).trans hxi
                have hD5 := hDr.upd hu5 (fun _ _ => no_ _)
                have hb5 := hbr.trans (hu5.old hbr.size)
                have H5 := hid (And.intro hD5 hb5)
                have hwt := Dk.written p _ F (i : Int) w5.drew (Dk.drew hD5) (by simp [Dm.ok])
                rw [show Dm.at_ ⟨256, Wl l l.length, -1, false⟩ (i : Int) = (a : Int) from by
                  unfold Dm.at_
                  rw [if_neg (by simp only [Wl_length]; omega)]
                  simp only [Int.toNat_natCast]
                  simp [Wl, List.getD_eq_getElem?_getD, hlt2, hai.out]] at hwt
                have HT := hid hwt
                have HX5 : Hid (∀ W, W = w5.drew → W.cell? ad5 = some (.int .u8 b)) := hid (by rintro W rfl; exact hx5')
                have HXI : Hid (∀ W, W = w5.drew → W.cell? (ad.add i) = some (.int .u8 a)) := hid (by rintro W rfl; exact hxi5)
                have hw64 : IntKind.i64.wrap ((L : Int) + 1) = (L : Int) + 1 := IntWalk.i64_in _ (by omega)
                clear hbe hr5 hu5 hD5 hb5 hwt hDr hbr hrk hx5 hx5' hxi5 hxi
                go_wp2_with (fail)
                refine wp_region_held_drew (S := fun W => W = w5.drew) (by kernel_rfl) rfl (fun hS => ?_)
                refine rg_at 0 (by decide) (fun oi hoi => ?_)
                have ho2 := hoi; simp only [List.getElem?_toArray, List.getElem?_cons_succ, List.getElem?_cons_zero, Option.some.injEq] at ho2; subst ho2
                refine rg_take (v := ?_) 0 hoi (by kernel_rfl) (by kernel_rfl) (by kernel_rfl) (fun _ _ _ h => h) (by rfl) ?_ hS ?_
                rotate_left
                · intro w _; go_simp; try with_reducible rfl
                clear hoi; try simp only [Act.put, List.setIfInBounds_toArray, List.set_cons_zero, List.set_cons_succ]
                refine rg_at 1 (by decide) (fun oi hoi => ?_)
                have ho2 := hoi; simp only [List.getElem?_toArray, List.getElem?_cons_succ, List.getElem?_cons_zero, Option.some.injEq] at ho2; subst ho2
                refine rg_take (v := ?_) 1 hoi (by kernel_rfl) (by kernel_rfl) (by kernel_rfl) (fun _ _ _ h => h) (by rfl) ?_ hS ?_
                rotate_left
                · intro w _; go_simp; try with_reducible rfl
                clear hoi; try simp only [Act.put, List.setIfInBounds_toArray, List.set_cons_zero, List.set_cons_succ]
                refine rg_at 2 (by decide) (fun oi hoi => ?_)
                have ho2 := hoi; simp only [List.getElem?_toArray, List.getElem?_cons_succ, List.getElem?_cons_zero, Option.some.injEq] at ho2; subst ho2
                refine rg_take (v := ?_) 2 hoi (by kernel_rfl) (by kernel_rfl) (by kernel_rfl) (fun _ _ _ h => h) (by rfl) ?_ hS ?_
                rotate_left
                · intro w _; go_simp; try with_reducible rfl
                clear hoi; try simp only [Act.put, List.setIfInBounds_toArray, List.set_cons_zero, List.set_cons_succ]
                refine rg_at 3 (by decide) (fun oi hoi => ?_)
                have ho2 := hoi; simp only [List.getElem?_toArray, List.getElem?_cons_succ, List.getElem?_cons_zero, Option.some.injEq] at ho2; subst ho2
                refine rg_take (v := ?_) 3 hoi (by kernel_rfl) (by kernel_rfl) (by kernel_rfl) (fun _ _ _ h => h) (by rfl) ?_ hS ?_
                rotate_left
                · intro w _; go_simp; try with_reducible rfl
                clear hoi; try simp only [Act.put, List.setIfInBounds_toArray, List.set_cons_zero, List.set_cons_succ]
                refine rg_at 4 (by decide) (fun oi hoi => ?_)
                have ho2 := hoi; simp only [List.getElem?_toArray, List.getElem?_cons_succ, List.getElem?_cons_zero, Option.some.injEq] at ho2; subst ho2
                refine rg_take (v := ?_) 4 hoi (by kernel_rfl) (by kernel_rfl) (by kernel_rfl) (fun _ _ _ h => h) (by rfl) ?_ hS ?_
                rotate_left
                · intro w _; go_simp; try with_reducible rfl
                clear hoi; try simp only [Act.put, List.setIfInBounds_toArray, List.set_cons_zero, List.set_cons_succ]
                refine rg_at 5 (by decide) (fun oi hoi => ?_)
                have ho2 := hoi; simp only [List.getElem?_toArray, List.getElem?_cons_succ, List.getElem?_cons_zero, Option.some.injEq] at ho2; subst ho2
                refine rg_take (v := ?_) 5 hoi (by kernel_rfl) (by kernel_rfl) (by kernel_rfl) (fun _ _ _ h => h) (by rfl) ?_ hS ?_
                rotate_left
                · intro w hw; have hf := HX5.out w hw; clear hw; go_simp; try with_reducible rfl
                clear hoi; try simp only [Act.put, List.setIfInBounds_toArray, List.set_cons_zero, List.set_cons_succ]
                refine rg_at 6 (by decide) (fun oi hoi => ?_)
                have ho2 := hoi; simp only [List.getElem?_toArray, List.getElem?_cons_succ, List.getElem?_cons_zero, Option.some.injEq] at ho2; subst ho2
                refine rg_take (v := ?_) 6 hoi (by kernel_rfl) (by kernel_rfl) (by kernel_rfl) (fun _ _ _ h => h) (by rfl) ?_ hS ?_
                rotate_left
                · intro w _; go_simp; try with_reducible rfl
                clear hoi; try simp only [Act.put, List.setIfInBounds_toArray, List.set_cons_zero, List.set_cons_succ]
                refine rg_at 7 (by decide) (fun oi hoi => ?_)
                have ho2 := hoi; simp only [List.getElem?_toArray, List.getElem?_cons_succ, List.getElem?_cons_zero, Option.some.injEq] at ho2; subst ho2
                refine rg_take (v := ?_) 7 hoi (by kernel_rfl) (by kernel_rfl) (by kernel_rfl) (fun _ _ _ h => h) (by rfl) ?_ hS ?_
                rotate_left
                · intro w _; go_simp; try with_reducible rfl
                clear hoi; try simp only [Act.put, List.setIfInBounds_toArray, List.set_cons_zero, List.set_cons_succ]
                refine rg_at 8 (by decide) (fun oi hoi => ?_)
                have ho2 := hoi; simp only [List.getElem?_toArray, List.getElem?_cons_succ, List.getElem?_cons_zero, Option.some.injEq] at ho2; subst ho2
                refine rg_take (v := ?_) 8 hoi (by kernel_rfl) (by kernel_rfl) (by kernel_rfl) (fun _ _ _ h => h) (by rfl) ?_ hS ?_
                rotate_left
                · intro w _; go_simp; try with_reducible rfl
                clear hoi; try simp only [Act.put, List.setIfInBounds_toArray, List.set_cons_zero, List.set_cons_succ]
                refine rg_at 9 (by decide) (fun oi hoi => ?_)
                have ho2 := hoi; simp only [List.getElem?_toArray, List.getElem?_cons_succ, List.getElem?_cons_zero, Option.some.injEq] at ho2; subst ho2
                refine rg_take (v := ?_) 9 hoi (by kernel_rfl) (by kernel_rfl) (by kernel_rfl) (fun _ _ _ h => h) (by rfl) ?_ hS ?_
                rotate_left
                · intro w _; go_simp; try with_reducible rfl
                clear hoi; try simp only [Act.put, List.setIfInBounds_toArray, List.set_cons_zero, List.set_cons_succ]
                refine rg_at 10 (by decide) (fun oi hoi => ?_)
                have ho2 := hoi; simp only [List.getElem?_toArray, List.getElem?_cons_succ, List.getElem?_cons_zero, Option.some.injEq] at ho2; subst ho2
                refine rg_take (v := ?_) 10 hoi (by kernel_rfl) (by kernel_rfl) (by kernel_rfl) (fun _ _ _ h => h) (by rfl) ?_ hS ?_
                rotate_left
                · intro w _; go_simp; try with_reducible rfl
                clear hoi; try simp only [Act.put, List.setIfInBounds_toArray, List.set_cons_zero, List.set_cons_succ]
                refine rg_at 11 (by decide) (fun oi hoi => ?_)
                have ho2 := hoi; simp only [List.getElem?_toArray, List.getElem?_cons_succ, List.getElem?_cons_zero, Option.some.injEq] at ho2; subst ho2
                refine rg_take (v := ?_) 11 hoi (by kernel_rfl) (by kernel_rfl) (by kernel_rfl) (fun _ _ _ h => h) (by rfl) ?_ hS ?_
                rotate_left
                · intro w _; go_simp; try with_reducible rfl
                clear hoi; try simp only [Act.put, List.setIfInBounds_toArray, List.set_cons_zero, List.set_cons_succ]
                refine rg_at 12 (by decide) (fun oi hoi => ?_)
                have ho2 := hoi; simp only [List.getElem?_toArray, List.getElem?_cons_succ, List.getElem?_cons_zero, Option.some.injEq] at ho2; subst ho2
                refine rg_take (v := ?_) 12 hoi (by kernel_rfl) (by kernel_rfl) (by kernel_rfl) (fun _ _ _ h => h) (by rfl) ?_ hS ?_
                rotate_left
                · intro w _; go_simp; try with_reducible rfl
                clear hoi; try simp only [Act.put, List.setIfInBounds_toArray, List.set_cons_zero, List.set_cons_succ]
                refine rg_at 13 (by decide) (fun oi hoi => ?_)
                have ho2 := hoi; simp only [List.getElem?_toArray, List.getElem?_cons_succ, List.getElem?_cons_zero, Option.some.injEq] at ho2; subst ho2
                refine rg_take (v := ?_) 13 hoi (by kernel_rfl) (by kernel_rfl) (by kernel_rfl) (fun _ _ _ h => h) (by rfl) ?_ hS ?_
                rotate_left
                · intro w _; go_simp; try with_reducible rfl
                clear hoi; try simp only [Act.put, List.setIfInBounds_toArray, List.set_cons_zero, List.set_cons_succ]
                refine rg_at 15 (by decide) (fun oi hoi => ?_)
                have ho2 := hoi; simp only [List.getElem?_toArray, List.getElem?_cons_succ, List.getElem?_cons_zero, Option.some.injEq] at ho2; subst ho2
                refine rg_take (v := ?_) 15 hoi (by kernel_rfl) (by kernel_rfl) (by kernel_rfl) (fun _ _ _ h => h) (by rfl) ?_ hS ?_
                rotate_left
                · intro w _; go_simp; try with_reducible rfl
                clear hoi; try simp only [Act.put, List.setIfInBounds_toArray, List.set_cons_zero, List.set_cons_succ]
                refine rg_at 16 (by decide) (fun oi hoi => ?_)
                have ho2 := hoi; simp only [List.getElem?_toArray, List.getElem?_cons_succ, List.getElem?_cons_zero, Option.some.injEq] at ho2; subst ho2
                refine rg_take (v := ?_) 16 hoi (by kernel_rfl) (by kernel_rfl) (by kernel_rfl) (fun _ _ _ h => h) (by rfl) ?_ hS ?_
                rotate_left
                · intro w _; go_simp; try with_reducible rfl
                clear hoi; try simp only [Act.put, List.setIfInBounds_toArray, List.set_cons_zero, List.set_cons_succ]
                refine rg_at 17 (by decide) (fun oi hoi => ?_)
                have ho2 := hoi; simp only [List.getElem?_toArray, List.getElem?_cons_succ, List.getElem?_cons_zero, Option.some.injEq] at ho2; subst ho2
                refine rg_take (v := ?_) 17 hoi (by kernel_rfl) (by kernel_rfl) (by kernel_rfl) (fun _ _ _ h => h) (by rfl) ?_ hS ?_
                rotate_left
                · intro w _; go_simp; try with_reducible rfl
                clear hoi; try simp only [Act.put, List.setIfInBounds_toArray, List.set_cons_zero, List.set_cons_succ]
                refine rg_at 18 (by decide) (fun oi hoi => ?_)
                have ho2 := hoi; simp only [List.getElem?_toArray, List.getElem?_cons_succ, List.getElem?_cons_zero, Option.some.injEq] at ho2; subst ho2
                refine rg_take (v := ?_) 18 hoi (by kernel_rfl) (by kernel_rfl) (by kernel_rfl) (fun _ _ _ h => h) (by rfl) ?_ hS ?_
                rotate_left
                · intro w hw; have hf := HXI.out w hw; clear hw; go_simp; try with_reducible rfl
                clear hoi; try simp only [Act.put, List.setIfInBounds_toArray, List.set_cons_zero, List.set_cons_succ]
                refine rg_at 19 (by decide) (fun oi hoi => ?_)
                have ho2 := hoi; simp only [List.getElem?_toArray, List.getElem?_cons_succ, List.getElem?_cons_zero, Option.some.injEq] at ho2; subst ho2
                refine rg_take (v := ?_) 19 hoi (by kernel_rfl) (by kernel_rfl) (by kernel_rfl) (fun _ _ _ h => h) (by rfl) ?_ hS ?_
                rotate_left
                · intro w _; go_simp; try with_reducible rfl
                clear hoi; try simp only [Act.put, List.setIfInBounds_toArray, List.set_cons_zero, List.set_cons_succ]
                refine rg_at 14 (by decide) (fun oi hoi => ?_)
                have ho2 := hoi; simp only [List.getElem?_toArray, List.getElem?_cons_succ, List.getElem?_cons_zero, Option.some.injEq] at ho2; subst ho2
                refine rg_call 14 (by kernel_rfl) hoi (by rfl) (fun K hK => ?_)
                clear hoi
                go_simp
                refine Calls.mono HT.out ?_
                rintro e w' ⟨rfl, hw'⟩
                subst hw'
                go_wp2_with (fail)
                refine hK.out _ _ (rfl) (fun hS => ?_)
                clear hK K
                try simp only [Act.put, List.setIfInBounds_toArray, List.set_cons_zero, List.set_cons_succ]
                refine rg_at 20 (by decide) (fun oi hoi => ?_)
                have ho2 := hoi; simp only [List.getElem?_toArray, List.getElem?_cons_succ, List.getElem?_cons_zero, Option.some.injEq] at ho2; subst ho2
                refine rg_take (v := ?_) 20 hoi (by kernel_rfl) (by kernel_rfl) (by kernel_rfl) (fun _ _ _ h => h) (by rfl) ?_ hS ?_
                rotate_left
                · intro w _; go_simp; try with_reducible rfl
                clear hoi; try simp only [Act.put, List.setIfInBounds_toArray, List.set_cons_zero, List.set_cons_succ]
                refine rg_at 21 (by decide) (fun oi hoi => ?_)
                have ho2 := hoi; simp only [List.getElem?_toArray, List.getElem?_cons_succ, List.getElem?_cons_zero, Option.some.injEq] at ho2; subst ho2
                refine rg_take (v := ?_) 21 hoi (by kernel_rfl) (by kernel_rfl) (by kernel_rfl) (fun _ _ _ h => h) (by rfl) ?_ hS ?_
                rotate_left
                · intro w _; go_simp; try with_reducible rfl
                clear hoi; try simp only [Act.put, List.setIfInBounds_toArray, List.set_cons_zero, List.set_cons_succ]
                refine wpAnyH_done (by kernel_rfl) ?_ _
                go_wp2
                go_roundw
                case rel => exact ⟨i + 1, by omega, by go_num, hid ⟨Dk.drew H5.out.1, below_drew H5.out.2⟩⟩
                case measure => simp [intOf]; omega
          · obtain rfl : i = l.length := by omega
            have hD5 := H.out.1
            have hwr := writes p _ F wr hD5 (by simp [Dm.ok])
            have hwt := Dk.written p _ F (l.length : Int) wr hD5 (by simp [Dm.ok])
            simp only [Wl_length] at hwr
            rw [show Dm.at_ ⟨256, Wl l l.length, -1, false⟩ (l.length : Int) = -1 from by simp [Dm.at_, Wl_length]] at hwt
            have HR := hid hwr
            have HT := hid hwt
            clear hD5 hwr hwt
            go_wp2_with (fail)
            refine Calls.mono HR.out ?_
            rintro e w' ⟨rfl, rfl⟩
            go_wp2_with (fail)
            refine Calls.mono HT.out ?_
            rintro e w' ⟨rfl, rfl⟩
            go_wp2
            go_ret
            exact ⟨rfl, H.out.2⟩
end Go.Proofs.Ytehdobagglondaa.Dt
