/-
  The walk of LogPlays.
-/
import Derived.Test.YtheopehhpoikdaaGq
set_option linter.unusedVariables false
set_option linter.unusedSimpArgs false
namespace Go.Proofs.Ytheopehhpoikdaa.Gl
open Go.RowKit Go.Proofs.Ytheopehhpoikdaa Go.Proofs.Ytheopehhpoikdaa.B Go.Proofs.Ytheopehhpoikdaa.Cm Go.Proofs.Ytheopehhpoikdaa.Sm Go.Proofs.Ytheopehhpoikdaa.Dk Go.Proofs.Ytheopehhpoikdaa.Gp
set_option maxHeartbeats 16000000 in
set_option maxRecDepth 100000 in
theorem plays (C f : Nat) (A : Option Addr) (c : Nat) (xs : List Oi) (w : World) (hC : C ≤ 255) (hf : f ≤ 255) (hr : Rd w 3 A xs.length (xs.flatMap ocells)) (hl : xs.length ≤ c ∧ c ≤ maxLen) (hx : ∀ x ∈ xs, Orow w x ∧ Byte x.2.1 ∧ -9223372036854775808 ≤ x.1.2 ∧ x.1.2 ≤ 9223372036854775807) :
    Calls Try.prog 7 #[.int .u8 C, .int .u8 f, .slice A xs.length c] w fun e w' => e = .returned (.bool true) ∧ Below w.heap.size w w' := by
  have hl1 : xs.length ≤ 9223372036854775807 := by have := hl.1; have := hl.2; simp only [maxLen] at this; omega
  have HX := hid hx
  have HRx := hid fun W (hu : Upd No w W) => Rd.upd hr (by omega) hu fun _ _ => no_ _
  clear hl hx hr
  by_cases h20 : (60 : Int) < (xs.length : Int)
  · go_enter Try.func7, Try.ntmps7
    go_wp2_with (fail)
    refine Calls.mono (awake w) ?_
    rintro e w1 ⟨rfl, hb1⟩
    have HB1 := hid hb1
    clear hb1
    go_wp2_with (fail)
    refine Calls.mono (awake w1) ?_
    rintro e w2 ⟨rfl, hb2⟩
    have HB2 := hid (HB1.out.trans (hb2.mono HB1.out.size))
    clear hb2
    go_wp2
    go_ret
    exact ⟨rfl, HB2.out⟩
  have hxn : xs.length ≤ 60 := by omega
  obtain ⟨nb, hnb⟩ : ∃ nb, nb = C + f := ⟨_, rfl⟩
  have HSum := hid (show (C : Int) + (f : Int) = (nb : Int) by omega)
  have hnb5 : nb ≤ 510 := by omega
  have hfc : f + C ≤ nb := by omega
  clear hnb
  go_enter Try.func7, Try.ntmps7
  go_wp2_with (fail)
  refine Calls.mono (awake w) ?_
  rintro e w1 ⟨rfl, hb1⟩
  have HND := hid (new_disk nb w w1 hb1 (by omega))
  clear hb1
  go_wp2_with (fail)
  rw [HSum.out]
  refine HND.out.mono ?_
  rintro e w2 ⟨p, D0, rfl, hd2⟩
  have HD2 := hid hd2
  clear hd2 HND
  rcases Nat.eq_zero_or_pos C with h0 | h0
  · subst h0
    go_wp2_with (fail)
    have hu3 : Upd No w2 (w2.alloc (.cells #[.slice none 0 0, .int .i64 0, .int .u64 1] 50)) := (Upd.refl _ _).alloc _
    generalize w2.alloc (.cells #[.slice none 0 0, .int .i64 0, .int .u64 1] 50) = w3 at *
    have hO := open_ p ⟨nb, [], -1, false⟩ D0 f 0 1 w3 (HD2.out.dk.upd hu3 fun _ _ => no_ _) ⟨by simp, by simp, by simp only; omega⟩ (fun x hx => by cases hx) (by omega)
    have hop : opL ⟨nb, [], -1, false⟩ f 0 1 = (1, none) := by
      unfold opL
      rw [show areaB nb f 0 = false from decide_eq_false (by omega), if_pos rfl]
    rw [hop] at hO
    refine hO.mono ?_
    rintro e w4 ⟨rfl, hu4⟩
    have HB := hid (HD2.out.bel.trans ((hu3.next hu4).old HD2.out.bel.size))
    clear hO hop hu3 hu4
    go_wp2
    go_ret
    exact ⟨rfl, HB.out⟩
  have hC0 : ((C : Int) == 0) = false := by simp; omega
  have HW3 : Hid (∃ w3 r, w3 = w2.alloc (.cells #[.slice none 0 0, .int .i64 C, .int .u64 1] 50) ∧ r = w2.heap.size ∧ Upd No w2 w3 ∧ Rl w3 r (.slice none 0 0) [] C 1) := hid ⟨_, _, rfl, rfl, (Upd.refl _ _).alloc _, Blk.fresh _ _ _, World.ownsRow_nil _ _ _ _⟩
  go_wp2_with (fail)
  obtain ⟨w3, r, hw3, hr3, hu3, hrl⟩ := HW3.out
  rw [← hw3, ← hr3]
  have HO := hid (open_first (fr := f) (count := C) ⟨HD2.out.dk.upd hu3 fun _ _ => no_ _, HD2.out.own, HD2.out.bel.trans (hu3.old HD2.out.bel.size)⟩ hrl ⟨by have := HD2.out.bel.size; omega, fun h => by have := HD2.out.dk.lt _ h; omega⟩ (by omega) h0 hfc)
  clear hw3 hr3 hu3 hrl HW3 HD2
  refine HO.out.mono ?_
  rintro e w4 ⟨q, F, rfl, hT4⟩
  have HR : Hid (Ro w w4 F D0 q p r (Lm.new f C 1) ⟨nb, [], -1, false⟩ (.slice none 0 0) f C nb 0) := hid ⟨hT4, Live.new (by omega) hfc (by omega), by simp [Lm.new]⟩
  clear hT4 HO
  go_wp2_with (fail)
  go_loopw [9, 10, 58] (fun v9 v10 v58 W => ∃ (j : Nat) (F D : Nat → Prop) (q : Nat) (m : Lm) (dd : Dm) (v : Value), j ≤ xs.length ∧ v58 = .int .i64 j ∧ v9 = .pointer (some ⟨q, 0, none⟩) ∧ v10 = .int .i64 0 ∧ Hid (Ro w W F D q p r m dd v f C nb j)) (fun _ _ v58 _ => xs.length - (intOf v58).toNat)
  case atStart => exact ⟨0, F, D0, q, _, _, _, by omega, rfl, rfl, rfl, HR⟩
  case round =>
    clear HR
    obtain ⟨j, F, D, q, m, dd, v, hj, rfl, rfl, rfl, HW⟩ := hrel
    by_cases hlt : j < xs.length
    · have hU := Upd.of_below No HW.out.tw.pl.bel
      obtain ⟨ad, rfl, x0, x1, x2⟩ := op_at (HRx.out _ hU) hlt
      obtain ⟨ho, hby, hn1, hn2⟩ := HX.out _ (List.getElem_mem hlt)
      generalize xs[j] = o at *
      obtain ⟨⟨K, N⟩, b0, v0⟩ := o
      have ho' := ho.upd (F := No) (hU.next ((Upd.refl No wr).alloc (.cells #[.int .i64 K, .int .i64 N, v0] 38)))
      obtain ⟨Ab, cb, hvb, _, hcb1, hcb2⟩ := ho
      simp only at x0 x1 x2 hby hn1 hn2 hvb hcb1
      subst hvb
      have hW1 : Hid (∃ w1 ob, w1 = wr.alloc (.cells #[.int .i64 K, .int .i64 N, .slice Ab b0.length cb] 38) ∧ ob = wr.heap.size ∧ Upd No wr w1 ∧ Blk w1 ob 38 #[.int .i64 K, .int .i64 N, .slice Ab b0.length cb] ∧ Calls Try.prog 14 #[.agg #[.int .i64 K, .int .i64 N, .slice Ab b0.length cb]] w1 fun e w' => UtOut w1 (unitL N b0) e w') := hid ⟨_, _, rfl, rfl, (Upd.refl _ _).alloc _, Blk.fresh _ _ _, unit_ _ _ ho' ⟨hn1, hn2⟩⟩
      have hul := unitN_le b0 (min (max N 0) 40).toNat
      have HBu : Hid (Byte (unitL N b0)) := hid (unitN_byte hby _)
      have hul2 : (unitL N b0).length ≤ 4000 := hul
      generalize unitL N b0 = u at *
      have hj1 : (0 : Int) ≤ (j : Int) := by omega
      have hj2 : (j : Int) < (xs.length : Int) := by omega
      clear ho' hby hul hU
      go_wp2_with (fail)
      obtain ⟨w1', ob, hw1, hob, hu1, hb1, hut⟩ := hW1.out
      rw [← hw1, ← hob]
      refine hut.mono ?_
      rintro e w5 ⟨A5, c5, rfl, hc51, hc52, hr5, hA5, hu5⟩
      have HW5 := hid (HW.out.quiet (hu1.next hu5))
      have HB5 := hid fun W' (hu : Upd No w5 W') => (hb1.upd (hu5.next hu) (no_ _))
      have hA5' : ∀ ad, A5 = some ad → ¬ F ad.block ∧ ¬ D ad.block ∧ ad.block ≠ r ∧ v.ownBlock ≠ some ad.block := fun ad e => by
        have h1 := hA5 ad e
        have h2 := hu1.size
        exact ⟨fun h => by have := HW.out.tw.pl.lg.lt _ h; omega, fun h => by have := HW.out.tw.pl.dk.lt _ h; omega, fun h => by have := HW.out.tw.rl.blk.lt; omega, fun h => by have := (HW.out.tw.rl.tx.lt _ h).2; omega⟩
      have HR5 := hid (And.intro hr5 (And.intro hA5' (And.intro hc51 hc52)))
      have HWg := hid (wrong r v m dd A5 c5 u w5 HW5.out.tw.rl HW5.out.lv.snd hul2)
      have hB5 : w5.cell? ⟨ob, 0, none⟩ = some (.int .i64 K) ∧ w5.cell? ⟨ob, 1, none⟩ = some (.int .i64 N) ∧ w5.cell? ⟨ob, 2, none⟩ = some (.slice Ab b0.length cb) := by
        have hb := HB5.out w5 (Upd.refl _ _)
        have h0 := hb.cell 0
        have h1 := hb.cell 1
        have h2 := hb.cell 2
        simp at h0 h1 h2
        exact ⟨h0, h1, h2⟩
      obtain ⟨y0, y1, y2⟩ := hB5
      clear hw1 hob hu1 hb1 hut hc51 hc52 hr5 hA5 hu5 hA5' x0 x1 x2 hW1 HW
      go_wp2_with (fail)
      refine HWg.out.mono ?_
      rintro e w6 ⟨rfl, rfl⟩
      clear HWg
      have hK : K = 1 ∨ K = 2 ∨ K = 3 ∨ K = 4 ∨ (K ≠ 1 ∧ K ≠ 2 ∧ K ≠ 3 ∧ K ≠ 4) := by omega
      rcases hK with hK | hK | hK | hK | ⟨k1, k2, k3, k4⟩
      case' inr.inr.inr.inr =>
        have k1' : (K == 1) = false := by simpa using k1
        have k2' : (K == 2) = false := by simpa using k2
        have k3' : (K == 3) = false := by simpa using k3
        have k4' : (K == 4) = false := by simpa using k4
        obtain ⟨q8, rfl⟩ : ∃ q8, q8 = q := ⟨_, rfl⟩
        have HQ : Hid (∃ F8 D8 m8 d8 v8, Ro w w5 F8 D8 q8 p r m8 d8 v8 f C nb (j + 1)) := hid ⟨F, D, m, dd, v, HW5.out.next⟩
        clear k1 k2 k3 k4 HW5 HR5 HB5
        go_wp2_with (fail)
      case' inl =>
        subst hK
        have HWr := hid (writes p dd D w5 HW5.out.tw.pl.dk HW5.out.lv.snd.dok)
        have hAA := append_pl HW5.out.tw.pl HW5.out.lv.snd HR5.out.1 HR5.out.2.2.1 HR5.out.2.2.2 (fun ad e => ⟨(HR5.out.2.1 ad e).2.1, (HR5.out.2.1 ad e).1⟩) HBu.out
        obtain ⟨s1, s2, s3⟩ := HW5.out.lv.step HBu.out (by omega)
        have hLn := HW5.out.lv.snd.size
        obtain ⟨q8, rfl⟩ : ∃ q8, q8 = q := ⟨_, rfl⟩
        by_cases hc : apC m u = 0
        case' neg =>
          rw [ap_stop HW5.out.lv.over dd hc] at hAA
          simp only at hAA
          have HA := hid hAA
          have hne0 : (apC m u == 0) = false := by simpa using hc
          clear hc hAA s1 s2 s3
          generalize apC m u = rc at *
          go_wp2_with (fail)
          refine HWr.out.mono ?_
          rintro e w6 ⟨rfl, rfl⟩
          go_wp2_with (fail)
          refine HA.out.mono ?_
          rintro e w7 ⟨rfl, F7, D7, hp7, hu7, hs7⟩
          have HQ : Hid (∃ F8 D8 m8 d8 v8, Ro w w7 F8 D8 q8 p r m8 d8 v8 f C nb (j + 1)) := hid ⟨F7, D7, m, dd, v, Ro.next ⟨HW5.out.tw.moved hp7 hu7 hs7 rfl rfl, HW5.out.lv, HW5.out.ep⟩⟩
          clear hp7 hu7 hs7 HA HWr HW5 HR5 HB5 y0 y1 y2 hLn
          go_wp2_with (fail)
        case' pos =>
          have hfs : dd.fuse < 0 := by rw [HW5.out.lv.fuse]; decide
          have hal := ap_alive HW5.out.lv.over HW5.out.lv.down hfs hc
          rw [hal] at hAA s2
          simp only at hAA s2
          rw [hc]
          obtain ⟨N1, hN1⟩ : ∃ N1, N1 = nbl u := ⟨_, rfl⟩
          obtain ⟨L, hL⟩ : ∃ L, L = dd.log.length := ⟨_, rfl⟩
          obtain ⟨L2, hL2⟩ : ∃ L2, L2 = (wrs dd (m.fr + m.used) (blk m.ep m.used u) (nbl u)).log.length := ⟨_, rfl⟩
          have hL3 : L2 = L + N1 := by rw [hL2, hL, hN1]; simp [wrs]
          have hn258 : N1 ≤ 258 := by rw [hN1]; exact nbl_le (by omega)
          have hsum : (L : Int) + (N1 : Int) = (L2 : Int) := by omega
          have HUb := hid fun W' : World => unitBlocks u.length W' (by omega)
          rw [show (u.length + 232) / 233 = N1 from hN1.symm] at HUb
          rw [← hL] at HWr hLn
          have HA := hid hAA
          have HS2 := hid s2
          have HL2 := hid hL2
          obtain ⟨Av, cv, hv, _, _⟩ := own_shape HW5.out.tw.rl.tx
          subst hv
          have hmany := HW5.out.lv.snd.ok.many
          have HCe := hid (And.intro (show (m.add u).count = m.count from rfl) (show (m.add u).ep = m.ep from rfl))
          clear hAA s1 s2 s3 hal hc hfs hL hL3 hN1 hL2
          generalize wrs dd (m.fr + m.used) (blk m.ep m.used u) (nbl u) = d2 at *
          go_wp2_with (fail)
          refine HWr.out.mono ?_
          rintro e w6 ⟨rfl, rfl⟩
          go_wp2_with (fail)
          refine HA.out.mono ?_
          rintro e w7 ⟨rfl, F7, D7, hp7, hu7, hs7⟩
          have hT7 := HW5.out.tw.moved hp7 hu7 hs7 HCe.out.1 HCe.out.2
          have hR7 : Rn w7 .u8 A5 u := Rd.upd HR5.out.1 (by omega) hu7 fun ad e e2 => e2.elim (HR5.out.2.1 ad e).1 (HR5.out.2.1 ad e).2.1
          have hW7 := writes p d2 D7 w7 hp7.dk HS2.out.snd.dok
          rw [← HL2.out] at hW7
          have HW7 := hid hW7
          have HT7 := hid hT7
          have q0 := hT7.rl.cells.1
          have f0 := hT7.rl.blk.free 0
          have e7 : ∀ o, (w7.alloc o).cell? ⟨r, 0, none⟩ = some (.slice Av m.us.length cv) := fun o => (hT7.quiet ((Upd.refl No w7).alloc o)).rl.cells.1
          have HCv : Hid (∀ W', Rn W' .u8 A5 u → (convert 31 9 (.slice A5 u.length c5)).run Try.prog W' = .ok (st u) W') := hid fun W' hr => conv_all hr c5 W' (Upd.refl _ _)
          unfold st at HCv
          have hml2 : m.us.length + 1 ≤ 9223372036854775807 := by omega
          have hml3 : (m.us.length + 1) * 16 ≤ 140737488355328 := by omega
          clear hp7 hu7 hs7 hT7 hW7 HA HWr
          go_wp2_with (fail)
          refine HW7.out.mono ?_
          rintro e w8 ⟨rfl, rfl⟩
          go_wp2_with (fail)
          refine (HUb.out _).mono ?_
          rintro e w8 ⟨rfl, rfl⟩
          clear HW7 HUb
          go_wp2_with (fail)
          refine wp_region_held_drew (S := fun W' => Rn W' .u8 A5 u) (by kernel_rfl) (Rd.drew hR7) (fun hS => ?_)
          refine rg_at 0 (by decide) (fun oi hoi => ?_)
          have ho2 := hoi; simp only [List.getElem?_toArray, List.getElem?_cons_succ, List.getElem?_cons_zero, Option.some.injEq] at ho2; subst ho2
          refine rg_take (v := ?_) 0 hoi (by kernel_rfl) (by kernel_rfl) (by kernel_rfl) (fun _ _ _ h => h) (by rfl) ?_ hS ?_
          rotate_left
          · intro w _; go_simp; try with_reducible rfl
          clear hoi; try simp only [Act.put, List.setIfInBounds_toArray, List.set_cons_zero, List.set_cons_succ]
          refine rg_at 1 (by decide) (fun oi hoi => ?_)
          have ho2 := hoi; simp only [List.getElem?_toArray, List.getElem?_cons_succ, List.getElem?_cons_zero, Option.some.injEq] at ho2; subst ho2
          refine rg_take (v := ?_) 1 hoi (by kernel_rfl) (by kernel_rfl) (by kernel_rfl) (fun _ _ _ h => h) (by rfl) ?_ hS ?_
          rotate_left
          · intro w _; go_simp; try with_reducible rfl
          clear hoi; try simp only [Act.put, List.setIfInBounds_toArray, List.set_cons_zero, List.set_cons_succ]
          refine rg_at 2 (by decide) (fun oi hoi => ?_)
          have ho2 := hoi; simp only [List.getElem?_toArray, List.getElem?_cons_succ, List.getElem?_cons_zero, Option.some.injEq] at ho2; subst ho2
          refine rg_take (v := ?_) 2 hoi (by kernel_rfl) (by kernel_rfl) (by kernel_rfl) (fun _ _ _ h => h) (by rfl) ?_ hS ?_
          rotate_left
          · intro w _; go_simp; try with_reducible rfl
          clear hoi; try simp only [Act.put, List.setIfInBounds_toArray, List.set_cons_zero, List.set_cons_succ]
          refine rg_at 3 (by decide) (fun oi hoi => ?_)
          have ho2 := hoi; simp only [List.getElem?_toArray, List.getElem?_cons_succ, List.getElem?_cons_zero, Option.some.injEq] at ho2; subst ho2
          refine rg_take (v := ?_) 3 hoi (by kernel_rfl) (by kernel_rfl) (by kernel_rfl) (fun _ _ _ h => h) (by rfl) ?_ hS ?_
          rotate_left
          · intro w _; go_simp; try with_reducible rfl
          clear hoi; try simp only [Act.put, List.setIfInBounds_toArray, List.set_cons_zero, List.set_cons_succ]
          refine rg_at 5 (by decide) (fun oi hoi => ?_)
          have ho2 := hoi; simp only [List.getElem?_toArray, List.getElem?_cons_succ, List.getElem?_cons_zero, Option.some.injEq] at ho2; subst ho2
          refine rg_take (v := ?_) 5 hoi (by kernel_rfl) (by kernel_rfl) (by kernel_rfl) (fun _ _ _ h => h) (by rfl) ?_ hS ?_
          rotate_left
          · intro w _; go_simp; try with_reducible rfl
          clear hoi; try simp only [Act.put, List.setIfInBounds_toArray, List.set_cons_zero, List.set_cons_succ]
          refine rg_at 6 (by decide) (fun oi hoi => ?_)
          have ho2 := hoi; simp only [List.getElem?_toArray, List.getElem?_cons_succ, List.getElem?_cons_zero, Option.some.injEq] at ho2; subst ho2
          refine rg_take (v := ?_) 6 hoi (by kernel_rfl) (by kernel_rfl) (by kernel_rfl) (fun _ _ _ h => h) (by rfl) ?_ hS ?_
          rotate_left
          · intro w hw; have hf := HCv.out w hw; clear hw; go_simp; try with_reducible rfl
          clear hoi; try simp only [Act.put, List.setIfInBounds_toArray, List.set_cons_zero, List.set_cons_succ]
          refine rg_two 4 7 (by kernel_rfl) ?_ ?_
          focus
            refine rg_op_at 4 (by decide) (fun oi hoi => ?_)
            have ho2 := hoi; simp only [List.getElem?_toArray, List.getElem?_cons_succ, List.getElem?_cons_zero, Option.some.injEq] at ho2; subst ho2
            refine rg_step 4 hoi (by rfl) (fun K hK => ?_)
            clear hoi
            skip
            go_simp
            refine hK.out _ _ ((by first | exact Rd.drew hR7 | exact Rd.alloc (Rd.drew hR7) (by omega) _)) (fun hS => ?_)
            clear hK K
            try simp only [Act.put, List.setIfInBounds_toArray, List.set_cons_zero, List.set_cons_succ]
            refine rg_at 7 (by decide) (fun oi hoi => ?_)
            have ho2 := hoi; simp only [List.getElem?_toArray, List.getElem?_cons_succ, List.getElem?_cons_zero, Option.some.injEq] at ho2; subst ho2
            refine rg_call 7 (by kernel_rfl) hoi (by rfl) (fun K hK => ?_)
            clear hoi
            skip
            go_simp
            refine hK.out _ _ ((by first | exact Rd.alloc (Rd.drew hR7) (by omega) _ | exact Rd.alloc hR7 (by omega) _)) (fun hS => ?_)
            clear hK K
            try simp only [Act.put, List.setIfInBounds_toArray, List.set_cons_zero, List.set_cons_succ]
            refine rg_at 8 (by decide) (fun oi hoi => ?_)
            have ho2 := hoi; simp only [List.getElem?_toArray, List.getElem?_cons_succ, List.getElem?_cons_zero, Option.some.injEq] at ho2; subst ho2
            refine rg_call 8 (by kernel_rfl) hoi (by rfl) (fun K hK => ?_)
            clear hoi
            refine wp_ap_row 0 (.tmp 101) (.tmp 104) 42 9 (.string ⟨#[]⟩) 1 16 (by rfl) Try.underlying42 str_info rfl (by omega) (.slice Av m.us.length cv) m.us.length (m.us.map st) (some ⟨w7.heap.size, 0, none⟩) 1 1 [st u] (by rfl) (by rfl) (HT7.out.rl.tx.alloc _) (Rd_lit w7 _ 1 1 _ rfl) (by intro z hz; obtain rfl := List.mem_singleton.1 hz; rfl) hml2 hml3 (Nat.zero_le _) ?_
            intro A8 c8 w8 ho8 hg8 hat8
            have p8 := (HT7.out.rl.blk.alloc _).drew.grown hg8 (own_blk_ne HT7.out.rl.tx HT7.out.rl.blk (by decide)).symm
            have f8 := p8.free 0
            have k8 := p8.cell 0
            simp at k8
            have hR8 : Rn w8 .u8 A5 u := Rd.upd hS (by omega) ((Upd.refl (fun k => (Value.slice Av m.us.length cv).ownBlock = some k) _).grown hg8 fun k hk => .inl hk) fun ad e e2 => (HR5.out.2.1 ad e).2.2.2 e2
            refine hK.out _ _ ((by exact hR8)) (fun hS => ?_)
            clear hK K
            try simp only [Act.put, List.setIfInBounds_toArray, List.set_cons_zero, List.set_cons_succ]
            refine rg_at 9 (by decide) (fun oi hoi => ?_)
            have ho2 := hoi; simp only [List.getElem?_toArray, List.getElem?_cons_succ, List.getElem?_cons_zero, Option.some.injEq] at ho2; subst ho2
            refine rg_take (v := ?_) 9 hoi (by kernel_rfl) (by kernel_rfl) (by kernel_rfl) (fun _ _ _ h => h) (by rfl) ?_ hS ?_
            rotate_left
            · intro w _; go_simp; try with_reducible rfl
            clear hoi; try simp only [Act.put, List.setIfInBounds_toArray, List.set_cons_zero, List.set_cons_succ]
            refine rg_at 10 (by decide) (fun oi hoi => ?_)
            have ho2 := hoi; simp only [List.getElem?_toArray, List.getElem?_cons_succ, List.getElem?_cons_zero, Option.some.injEq] at ho2; subst ho2
            refine rg_take (v := ?_) 10 hoi (by kernel_rfl) (by kernel_rfl) (by kernel_rfl) (fun _ _ _ h => h) (by rfl) ?_ hS ?_
            rotate_left
            · intro w _; go_simp; try with_reducible rfl
            clear hoi; try simp only [Act.put, List.setIfInBounds_toArray, List.set_cons_zero, List.set_cons_succ]
            refine rg_at 11 (by decide) (fun oi hoi => ?_)
            have ho2 := hoi; simp only [List.getElem?_toArray, List.getElem?_cons_succ, List.getElem?_cons_zero, Option.some.injEq] at ho2; subst ho2
            refine rg_call 11 (by kernel_rfl) hoi (by rfl) (fun K hK => ?_)
            clear hoi
            skip
            go_simp
            refine hK.out _ _ ((by exact Rd.upd hR8 (by omega) ((Upd.refl (fun k => k = r) w8).set1 _ _) fun ad e e2 => (HR5.out.2.1 ad e).2.2.1 e2)) (fun hS => ?_)
            clear hK K
            try simp only [Act.put, List.setIfInBounds_toArray, List.set_cons_zero, List.set_cons_succ]
            refine wpAnyH_done (by kernel_rfl) ?_ _
          rotate_left 1
          focus
            refine rg_op_at 7 (by decide) (fun oi hoi => ?_)
            have ho2 := hoi; simp only [List.getElem?_toArray, List.getElem?_cons_succ, List.getElem?_cons_zero, Option.some.injEq] at ho2; subst ho2
            refine rg_step 7 hoi (by rfl) (fun K hK => ?_)
            clear hoi
            skip
            go_simp
            refine hK.out _ _ ((by first | exact Rd.alloc (Rd.drew hR7) (by omega) _ | exact Rd.alloc hR7 (by omega) _)) (fun hS => ?_)
            clear hK K
            try simp only [Act.put, List.setIfInBounds_toArray, List.set_cons_zero, List.set_cons_succ]
            refine rg_at 4 (by decide) (fun oi hoi => ?_)
            have ho2 := hoi; simp only [List.getElem?_toArray, List.getElem?_cons_succ, List.getElem?_cons_zero, Option.some.injEq] at ho2; subst ho2
            refine rg_call 4 (by kernel_rfl) hoi (by rfl) (fun K hK => ?_)
            clear hoi
            skip
            go_simp
            refine hK.out _ _ ((by first | exact Rd.drew hR7 | exact Rd.alloc (Rd.drew hR7) (by omega) _)) (fun hS => ?_)
            clear hK K
            try simp only [Act.put, List.setIfInBounds_toArray, List.set_cons_zero, List.set_cons_succ]
            refine rg_at 8 (by decide) (fun oi hoi => ?_)
            have ho2 := hoi; simp only [List.getElem?_toArray, List.getElem?_cons_succ, List.getElem?_cons_zero, Option.some.injEq] at ho2; subst ho2
            refine rg_call 8 (by kernel_rfl) hoi (by rfl) (fun K hK => ?_)
            clear hoi
            refine wp_ap_row 0 (.tmp 101) (.tmp 104) 42 9 (.string ⟨#[]⟩) 1 16 (by rfl) Try.underlying42 str_info rfl (by omega) (.slice Av m.us.length cv) m.us.length (m.us.map st) (some ⟨w7.heap.size, 0, none⟩) 1 1 [st u] (by rfl) (by rfl) (HT7.out.rl.tx.alloc _) (Rd_lit w7 _ 1 1 _ rfl) (by intro z hz; obtain rfl := List.mem_singleton.1 hz; rfl) hml2 hml3 (Nat.zero_le _) ?_
            intro A8 c8 w8 ho8 hg8 hat8
            have p8 := (HT7.out.rl.blk.alloc _).drew.grown hg8 (own_blk_ne HT7.out.rl.tx HT7.out.rl.blk (by decide)).symm
            have f8 := p8.free 0
            have k8 := p8.cell 0
            simp at k8
            have hR8 : Rn w8 .u8 A5 u := Rd.upd hS (by omega) ((Upd.refl (fun k => (Value.slice Av m.us.length cv).ownBlock = some k) _).grown hg8 fun k hk => .inl hk) fun ad e e2 => (HR5.out.2.1 ad e).2.2.2 e2
            refine hK.out _ _ ((by exact hR8)) (fun hS => ?_)
            clear hK K
            try simp only [Act.put, List.setIfInBounds_toArray, List.set_cons_zero, List.set_cons_succ]
            refine rg_at 9 (by decide) (fun oi hoi => ?_)
            have ho2 := hoi; simp only [List.getElem?_toArray, List.getElem?_cons_succ, List.getElem?_cons_zero, Option.some.injEq] at ho2; subst ho2
            refine rg_take (v := ?_) 9 hoi (by kernel_rfl) (by kernel_rfl) (by kernel_rfl) (fun _ _ _ h => h) (by rfl) ?_ hS ?_
            rotate_left
            · intro w _; go_simp; try with_reducible rfl
            clear hoi; try simp only [Act.put, List.setIfInBounds_toArray, List.set_cons_zero, List.set_cons_succ]
            refine rg_at 10 (by decide) (fun oi hoi => ?_)
            have ho2 := hoi; simp only [List.getElem?_toArray, List.getElem?_cons_succ, List.getElem?_cons_zero, Option.some.injEq] at ho2; subst ho2
            refine rg_take (v := ?_) 10 hoi (by kernel_rfl) (by kernel_rfl) (by kernel_rfl) (fun _ _ _ h => h) (by rfl) ?_ hS ?_
            rotate_left
            · intro w _; go_simp; try with_reducible rfl
            clear hoi; try simp only [Act.put, List.setIfInBounds_toArray, List.set_cons_zero, List.set_cons_succ]
            refine rg_at 11 (by decide) (fun oi hoi => ?_)
            have ho2 := hoi; simp only [List.getElem?_toArray, List.getElem?_cons_succ, List.getElem?_cons_zero, Option.some.injEq] at ho2; subst ho2
            refine rg_call 11 (by kernel_rfl) hoi (by rfl) (fun K hK => ?_)
            clear hoi
            skip
            go_simp
            refine hK.out _ _ ((by exact Rd.upd hR8 (by omega) ((Upd.refl (fun k => k = r) w8).set1 _ _) fun ad e e2 => (HR5.out.2.1 ad e).2.2.1 e2)) (fun hS => ?_)
            clear hK K
            try simp only [Act.put, List.setIfInBounds_toArray, List.set_cons_zero, List.set_cons_succ]
            refine wpAnyH_done (by kernel_rfl) ?_ _
          all_goals
            have HT9 := hid (HT7.out.pushed (u := u) ((Upd.refl No w7).alloc _).drew ho8 hg8 hat8)
            have HQ : Hid (∃ F8 D8 m8 d8 v8, Ro w _ F8 D8 q8 p r m8 d8 v8 f C nb (j + 1)) := hid ⟨F7, D7, m.add u, d2, _, ⟨HT9.out, HS2.out, by have := HW5.out.ep; simp only [Lm.add]; omega⟩⟩
            clear p8 f8 k8 hR8 ho8 hg8 hat8 hS HT9 HT7 HW5 HR5 HB5 y0 y1 y2 hLn q0 f0 e7 HCv hR7 hsum
            go_wp2_with (fail)
      case' inr.inl =>
        subst hK
        obtain ⟨y, hy5, hy⟩ := by_num N
        have HWr := hid fun W' (h : Dk W' D p dd) => writes p dd D W' h HW5.out.lv.snd.dok
        obtain ⟨c0, c1, c2⟩ := HW5.out.tw.rl.cells
        obtain ⟨he1, he2⟩ := HW5.out.ep
        have hLn := HW5.out.lv.snd.size
        obtain ⟨q8, rfl⟩ : ∃ q8, q8 = q := ⟨_, rfl⟩
        rcases Nat.eq_zero_or_pos y with hy0 | hy0
        case' inl =>
          subst hy0
          have hRs := reset q8 p m F m.ep w5 HW5.out.tw.pl.lg
          rw [show m.rs m.ep = (3, m) from by unfold Lm.rs; rw [if_neg (by rw [HW5.out.lv.over]; simp), if_pos (Int.le_refl _)]] at hRs
          have HRs := hid hRs
          clear hRs
          go_wp2_with (fail)
          refine (HWr.out _ HW5.out.tw.pl.dk).mono ?_
          rintro e w6 ⟨rfl, rfl⟩
          go_wp2_with (fail)
          refine HRs.out.mono ?_
          rintro e w7 ⟨rfl, hl7, hu7⟩
          have hT7 := HW5.out.tw.moved (F' := F) (D' := D) (m' := m) (d' := dd) ⟨hl7, HW5.out.tw.pl.dk.upd hu7 fun k hk hf => HW5.out.tw.pl.fd k hf hk, HW5.out.tw.pl.fd, HW5.out.tw.pl.own, HW5.out.tw.pl.bel.trans (hu7.below HW5.out.tw.pl.bel.size fun k hk => HW5.out.tw.pl.own k (.inl hk))⟩ (hu7.mono fun _ _ h => .inl h) (fun k hk => .inl hk) rfl rfl
          have HT7 := hid hT7
          clear hl7 hu7 hT7 HRs
          go_wp2_with (fail)
          refine (HWr.out _ HT7.out.pl.dk).mono ?_
          rintro e w8 ⟨rfl, rfl⟩
          have HQ : Hid (∃ F8 D8 m8 d8 v8, Ro w w7 F8 D8 q8 p r m8 d8 v8 f C nb (j + 1)) := hid ⟨F, D, m, dd, v, Ro.next ⟨HT7.out, HW5.out.lv, HW5.out.ep⟩⟩
          clear HT7 HWr HW5 HR5 HB5 y0 y1 y2 c0 c1 c2 hy hy5 he1 he2 hLn
          go_wp2_with (fail)
        case' inr =>
          have hy0' : (0 : Int) < (y : Int) := by omega
          have hRs := reset q8 p m F (m.ep + (y : Int)) w5 HW5.out.tw.pl.lg
          rw [show m.rs (m.ep + (y : Int)) = (0, { m with ep := m.ep + (y : Int), us := [], used := 0 }) from by unfold Lm.rs; rw [if_neg (by rw [HW5.out.lv.over]; simp), if_neg (by omega)]] at hRs
          have HRs := hid hRs
          clear hRs
          go_wp2_with (fail)
          refine (HWr.out _ HW5.out.tw.pl.dk).mono ?_
          rintro e w6 ⟨rfl, rfl⟩
          go_wp2_with (fail)
          refine HRs.out.mono ?_
          rintro e w7 ⟨rfl, hl7, hu7⟩
          have HD7 := hid (HW5.out.tw.pl.dk.upd hu7 fun k hk hf => HW5.out.tw.pl.fd k hf hk)
          have HL7 := hid (And.intro hl7 hu7)
          have hb7 := HW5.out.tw.rl.blk.upd hu7 HW5.out.tw.rn.2.1
          have g0 := hb7.cell 0
          have g2 := hb7.cell 2
          have f0 := hb7.free 0
          have f2 := hb7.free 2
          simp at g0 g2
          clear hl7 hu7 hb7 HRs
          go_wp2_with (fail)
          refine (HWr.out _ HD7.out).mono ?_
          rintro e w8 ⟨rfl, rfl⟩
          have HT8 := hid (HW5.out.tw.reset HL7.out.1 HL7.out.2 rfl)
          have HLv8 := hid (HW5.out.lv.later (e2 := m.ep + (y : Int)) (by omega) (by omega))
          clear HL7 HD7 HWr HR5 HB5 y0 y1 y2 c0 c1 c2
          go_wp2_with (fail)
          have HQ : Hid (∃ F8 D8 m8 d8 v8, Ro w _ F8 D8 q8 p r m8 d8 v8 f C nb (j + 1)) := hid ⟨F, D, _, dd, _, ⟨HT8.out, HLv8.out.later1, by simp only; omega⟩⟩
          clear g0 g2 f0 f2 HT8 HLv8 hy hy5 he1 he2 hLn HW5
      case' inr.inr.inl =>
        subst hK
        have HWf : Hid (IntKind.i64.wrap (f : Int) = (f : Int)) := hid (IntWalk.i64_in _ (by omega))
        have HC5 := hid fun W' (hu : Upd No w5 W') => (show W'.cell? ⟨r, 1, none⟩ = some (.int .i64 C) ∧ W'.cell? ⟨r, 2, none⟩ = some (.int .u64 m.ep) from by
          have h1 := (HW5.out.tw.quiet hu).rl.cells.2
          rw [HW5.out.lv.count] at h1
          exact h1)
        have HO5 := hid fun W' (hu : Upd No w5 W') => open_tw (HW5.out.tw.quiet hu) HW5.out.lv.snd.dok HW5.out.lv.snd.fit HW5.out.lv.snd.ok.ep (HW5.out.lv.opened h0 hfc) rfl rfl
        go_wp2_with (fail)
        refine wp_region_held_drew (S := fun W' => Upd No w5 W') (by kernel_rfl) (Upd.refl _ _).drew (fun hS => ?_)
        refine rg_at 0 (by decide) (fun oi hoi => ?_)
        have ho2 := hoi; simp only [List.getElem?_toArray, List.getElem?_cons_succ, List.getElem?_cons_zero, Option.some.injEq] at ho2; subst ho2
        refine rg_take (v := ?_) 0 hoi (by kernel_rfl) (by kernel_rfl) (by kernel_rfl) (fun _ _ _ h => h) (by rfl) ?_ hS ?_
        rotate_left
        · intro w _; go_simp; try with_reducible rfl
        clear hoi; try simp only [Act.put, List.setIfInBounds_toArray, List.set_cons_zero, List.set_cons_succ]
        refine rg_at 1 (by decide) (fun oi hoi => ?_)
        have ho2 := hoi; simp only [List.getElem?_toArray, List.getElem?_cons_succ, List.getElem?_cons_zero, Option.some.injEq] at ho2; subst ho2
        refine rg_take (v := ?_) 1 hoi (by kernel_rfl) (by kernel_rfl) (by kernel_rfl) (fun _ _ _ h => h) (by rfl) ?_ hS ?_
        rotate_left
        · intro w _; go_simp; try with_reducible rfl
        clear hoi; try simp only [Act.put, List.setIfInBounds_toArray, List.set_cons_zero, List.set_cons_succ]
        refine rg_at 2 (by decide) (fun oi hoi => ?_)
        have ho2 := hoi; simp only [List.getElem?_toArray, List.getElem?_cons_succ, List.getElem?_cons_zero, Option.some.injEq] at ho2; subst ho2
        refine rg_take (v := ?_) 2 hoi (by kernel_rfl) (by kernel_rfl) (by kernel_rfl) (fun _ _ _ h => h) (by rfl) ?_ hS ?_
        rotate_left
        · intro w hw; have hf := HWf.out; clear hw; go_simp; try with_reducible rfl
        clear hoi; try simp only [Act.put, List.setIfInBounds_toArray, List.set_cons_zero, List.set_cons_succ]
        refine rg_at 3 (by decide) (fun oi hoi => ?_)
        have ho2 := hoi; simp only [List.getElem?_toArray, List.getElem?_cons_succ, List.getElem?_cons_zero, Option.some.injEq] at ho2; subst ho2
        refine rg_take (v := ?_) 3 hoi (by kernel_rfl) (by kernel_rfl) (by kernel_rfl) (fun _ _ _ h => h) (by rfl) ?_ hS ?_
        rotate_left
        · intro w _; go_simp; try with_reducible rfl
        clear hoi; try simp only [Act.put, List.setIfInBounds_toArray, List.set_cons_zero, List.set_cons_succ]
        refine rg_at 4 (by decide) (fun oi hoi => ?_)
        have ho2 := hoi; simp only [List.getElem?_toArray, List.getElem?_cons_succ, List.getElem?_cons_zero, Option.some.injEq] at ho2; subst ho2
        refine rg_take (v := ?_) 4 hoi (by kernel_rfl) (by kernel_rfl) (by kernel_rfl) (fun _ _ _ h => h) (by rfl) ?_ hS ?_
        rotate_left
        · intro w _; go_simp; try with_reducible rfl
        clear hoi; try simp only [Act.put, List.setIfInBounds_toArray, List.set_cons_zero, List.set_cons_succ]
        refine rg_at 5 (by decide) (fun oi hoi => ?_)
        have ho2 := hoi; simp only [List.getElem?_toArray, List.getElem?_cons_succ, List.getElem?_cons_zero, Option.some.injEq] at ho2; subst ho2
        refine rg_take (v := ?_) 5 hoi (by kernel_rfl) (by kernel_rfl) (by kernel_rfl) (fun _ _ _ h => h) (by rfl) ?_ hS ?_
        rotate_left
        · intro w _; go_simp; try with_reducible rfl
        clear hoi; try simp only [Act.put, List.setIfInBounds_toArray, List.set_cons_zero, List.set_cons_succ]
        refine rg_at 6 (by decide) (fun oi hoi => ?_)
        have ho2 := hoi; simp only [List.getElem?_toArray, List.getElem?_cons_succ, List.getElem?_cons_zero, Option.some.injEq] at ho2; subst ho2
        refine rg_take (v := ?_) 6 hoi (by kernel_rfl) (by kernel_rfl) (by kernel_rfl) (fun _ _ _ h => h) (by rfl) ?_ hS ?_
        rotate_left
        · intro w hw; have hf := (HC5.out w hw).1; clear hw; go_simp; try with_reducible rfl
        clear hoi; try simp only [Act.put, List.setIfInBounds_toArray, List.set_cons_zero, List.set_cons_succ]
        refine rg_at 7 (by decide) (fun oi hoi => ?_)
        have ho2 := hoi; simp only [List.getElem?_toArray, List.getElem?_cons_succ, List.getElem?_cons_zero, Option.some.injEq] at ho2; subst ho2
        refine rg_take (v := ?_) 7 hoi (by kernel_rfl) (by kernel_rfl) (by kernel_rfl) (fun _ _ _ h => h) (by rfl) ?_ hS ?_
        rotate_left
        · intro w _; go_simp; try with_reducible rfl
        clear hoi; try simp only [Act.put, List.setIfInBounds_toArray, List.set_cons_zero, List.set_cons_succ]
        refine rg_at 8 (by decide) (fun oi hoi => ?_)
        have ho2 := hoi; simp only [List.getElem?_toArray, List.getElem?_cons_succ, List.getElem?_cons_zero, Option.some.injEq] at ho2; subst ho2
        refine rg_take (v := ?_) 8 hoi (by kernel_rfl) (by kernel_rfl) (by kernel_rfl) (fun _ _ _ h => h) (by rfl) ?_ hS ?_
        rotate_left
        · intro w _; go_simp; try with_reducible rfl
        clear hoi; try simp only [Act.put, List.setIfInBounds_toArray, List.set_cons_zero, List.set_cons_succ]
        refine rg_at 9 (by decide) (fun oi hoi => ?_)
        have ho2 := hoi; simp only [List.getElem?_toArray, List.getElem?_cons_succ, List.getElem?_cons_zero, Option.some.injEq] at ho2; subst ho2
        refine rg_take (v := ?_) 9 hoi (by kernel_rfl) (by kernel_rfl) (by kernel_rfl) (fun _ _ _ h => h) (by rfl) ?_ hS ?_
        rotate_left
        · intro w _; go_simp; try with_reducible rfl
        clear hoi; try simp only [Act.put, List.setIfInBounds_toArray, List.set_cons_zero, List.set_cons_succ]
        refine rg_at 10 (by decide) (fun oi hoi => ?_)
        have ho2 := hoi; simp only [List.getElem?_toArray, List.getElem?_cons_succ, List.getElem?_cons_zero, Option.some.injEq] at ho2; subst ho2
        refine rg_take (v := ?_) 10 hoi (by kernel_rfl) (by kernel_rfl) (by kernel_rfl) (fun _ _ _ h => h) (by rfl) ?_ hS ?_
        rotate_left
        · intro w hw; have hf := (HC5.out w hw).2; clear hw; go_simp; try with_reducible rfl
        clear hoi; try simp only [Act.put, List.setIfInBounds_toArray, List.set_cons_zero, List.set_cons_succ]
        refine rg_at 11 (by decide) (fun oi hoi => ?_)
        have ho2 := hoi; simp only [List.getElem?_toArray, List.getElem?_cons_succ, List.getElem?_cons_zero, Option.some.injEq] at ho2; subst ho2
        refine rg_call 11 (by kernel_rfl) hoi (by rfl) (fun K hK => ?_)
        clear hoi
        go_simp
        refine Calls.mono (HO5.out _ hS) ?_
        rintro e w7 ⟨q8, F8, rfl, hT8, _, hu8⟩
        have hS8 := Upd.next hS hu8
        go_wp2_with (fail)
        refine hK.out _ _ ((by exact hS8)) (fun hS => ?_)
        clear hK K
        try simp only [Act.put, List.setIfInBounds_toArray, List.set_cons_zero, List.set_cons_succ]
        refine rg_at 12 (by decide) (fun oi hoi => ?_)
        have ho2 := hoi; simp only [List.getElem?_toArray, List.getElem?_cons_succ, List.getElem?_cons_zero, Option.some.injEq] at ho2; subst ho2
        refine rg_take (v := ?_) 12 hoi (by kernel_rfl) (by kernel_rfl) (by kernel_rfl) (fun _ _ _ h => h) (by rfl) ?_ hS ?_
        rotate_left
        · intro w _; go_simp; try with_reducible rfl
        clear hoi; try simp only [Act.put, List.setIfInBounds_toArray, List.set_cons_zero, List.set_cons_succ]
        refine rg_at 13 (by decide) (fun oi hoi => ?_)
        have ho2 := hoi; simp only [List.getElem?_toArray, List.getElem?_cons_succ, List.getElem?_cons_zero, Option.some.injEq] at ho2; subst ho2
        refine rg_take (v := ?_) 13 hoi (by kernel_rfl) (by kernel_rfl) (by kernel_rfl) (fun _ _ _ h => h) (by rfl) ?_ hS ?_
        rotate_left
        · intro w _; go_simp; try with_reducible rfl
        clear hoi; try simp only [Act.put, List.setIfInBounds_toArray, List.set_cons_zero, List.set_cons_succ]
        refine rg_at 14 (by decide) (fun oi hoi => ?_)
        have ho2 := hoi; simp only [List.getElem?_toArray, List.getElem?_cons_succ, List.getElem?_cons_zero, Option.some.injEq] at ho2; subst ho2
        refine rg_take (v := ?_) 14 hoi (by kernel_rfl) (by kernel_rfl) (by kernel_rfl) (fun _ _ _ h => h) (by rfl) ?_ hS ?_
        rotate_left
        · intro w _; go_simp; try with_reducible rfl
        clear hoi; try simp only [Act.put, List.setIfInBounds_toArray, List.set_cons_zero, List.set_cons_succ]
        refine rg_at 15 (by decide) (fun oi hoi => ?_)
        have ho2 := hoi; simp only [List.getElem?_toArray, List.getElem?_cons_succ, List.getElem?_cons_zero, Option.some.injEq] at ho2; subst ho2
        refine rg_take (v := ?_) 15 hoi (by kernel_rfl) (by kernel_rfl) (by kernel_rfl) (fun _ _ _ h => h) (by rfl) ?_ hS ?_
        rotate_left
        · intro w _; go_simp; try with_reducible rfl
        clear hoi; try simp only [Act.put, List.setIfInBounds_toArray, List.set_cons_zero, List.set_cons_succ]
        refine rg_at 16 (by decide) (fun oi hoi => ?_)
        have ho2 := hoi; simp only [List.getElem?_toArray, List.getElem?_cons_succ, List.getElem?_cons_zero, Option.some.injEq] at ho2; subst ho2
        refine rg_take (v := ?_) 16 hoi (by kernel_rfl) (by kernel_rfl) (by kernel_rfl) (fun _ _ _ h => h) (by rfl) ?_ hS ?_
        rotate_left
        · intro w _; go_simp; try with_reducible rfl
        clear hoi; try simp only [Act.put, List.setIfInBounds_toArray, List.set_cons_zero, List.set_cons_succ]
        refine wpAnyH_done (by kernel_rfl) ?_ _
        have HQ : Hid (∃ F8 D8 m8 d8 v8, Ro w w7 F8 D8 q8 p r m8 d8 v8 f C nb (j + 1)) := hid ⟨F8, D, m, dd, v, Ro.next ⟨hT8, HW5.out.lv, HW5.out.ep⟩⟩
        clear hT8 hu8 hS8 hS HO5 HC5 HW5 HR5 HB5 y0 y1 y2
        go_wp2_with (fail)
      case' inr.inr.inr.inl =>
        subst hK
        have HLo := hid (lost (vo := .slice Ab b0.length cb) 4 N A5 c5 u HW5.out.tw HW5.out.lv (by omega) h0 hfc HR5.out.1 HR5.out.2.2.1 HR5.out.2.2.2 hul2 HBu.out HR5.out.2.1)
        go_wp2_with (fail)
        refine HLo.out.mono ?_
        rintro e w7 ⟨q8, rfl, F8, D8, m8, d8, v8, hT8, hl8⟩
        have HQ : Hid (∃ F8 D8 m8 d8 v8, Ro w w7 F8 D8 q8 p r m8 d8 v8 f C nb (j + 1)) := hid ⟨F8, D8, m8, d8, v8, ⟨hT8, by rw [hl8.ep]; exact hl8, by rw [hl8.ep]; have := HW5.out.ep; omega⟩⟩
        clear hT8 hl8 HLo HW5 HR5 HB5 y0 y1 y2
        go_wp2_with (fail)
      all_goals as_aux_lemma =>
        obtain ⟨F8, D8, m8, d8, v8, hq⟩ := HQ.out
        obtain ⟨Av8, cv8, hv8, _, _⟩ := own_shape hq.tw.rl.tx
        subst hv8
        have hok8 := hq.lv.snd.ok
        have HRr := hid fun W' (h : Rl W' r (.slice Av8 m8.us.length cv8) m8.us m8.count m8.ep) => rroom r _ m8.us m8.count m8.ep W' h hok8.many hok8.long (by have := hq.lv.snd.tot_; have := hok8.le; omega) (by have := hok8.area; omega)
        rw [← hq.lv.snd.tot_] at HRr
        have HK8 := hid (And.intro hok8 (And.intro hq.lv hq.ep))
        refine wp_region_held_drew (S := fun W' => Tw w W' F8 D8 q8 p r m8 d8 (.slice Av8 m8.us.length cv8) m8.us) (by kernel_rfl) (hq.tw.quiet (Upd.refl _ _).drew) (fun hS => ?_)
        clear hq hok8 HQ
        refine rg_at 0 (by decide) (fun oi hoi => ?_)
        have ho2 := hoi; simp only [List.getElem?_toArray, List.getElem?_cons_succ, List.getElem?_cons_zero, Option.some.injEq] at ho2; subst ho2
        refine rg_take (v := ?_) 0 hoi (by kernel_rfl) (by kernel_rfl) (by kernel_rfl) (fun _ _ _ h => h) (by rfl) ?_ hS ?_
        rotate_left
        · intro w _; go_simp; try with_reducible rfl
        clear hoi; try simp only [Act.put, List.setIfInBounds_toArray, List.set_cons_zero, List.set_cons_succ]
        refine rg_at 1 (by decide) (fun oi hoi => ?_)
        have ho2 := hoi; simp only [List.getElem?_toArray, List.getElem?_cons_succ, List.getElem?_cons_zero, Option.some.injEq] at ho2; subst ho2
        refine rg_take (v := ?_) 1 hoi (by kernel_rfl) (by kernel_rfl) (by kernel_rfl) (fun _ _ _ h => h) (by rfl) ?_ hS ?_
        rotate_left
        · intro w _; go_simp; try with_reducible rfl
        clear hoi; try simp only [Act.put, List.setIfInBounds_toArray, List.set_cons_zero, List.set_cons_succ]
        refine rg_at 2 (by decide) (fun oi hoi => ?_)
        have ho2 := hoi; simp only [List.getElem?_toArray, List.getElem?_cons_succ, List.getElem?_cons_zero, Option.some.injEq] at ho2; subst ho2
        refine rg_take (v := ?_) 2 hoi (by kernel_rfl) (by kernel_rfl) (by kernel_rfl) (fun _ _ _ h => h) (by rfl) ?_ hS ?_
        rotate_left
        · intro w _; go_simp; try with_reducible rfl
        clear hoi; try simp only [Act.put, List.setIfInBounds_toArray, List.set_cons_zero, List.set_cons_succ]
        refine rg_at 3 (by decide) (fun oi hoi => ?_)
        have ho2 := hoi; simp only [List.getElem?_toArray, List.getElem?_cons_succ, List.getElem?_cons_zero, Option.some.injEq] at ho2; subst ho2
        refine rg_take (v := ?_) 3 hoi (by kernel_rfl) (by kernel_rfl) (by kernel_rfl) (fun _ _ _ h => h) (by rfl) ?_ hS ?_
        rotate_left
        · intro w _; go_simp; try with_reducible rfl
        clear hoi; try simp only [Act.put, List.setIfInBounds_toArray, List.set_cons_zero, List.set_cons_succ]
        refine rg_at 4 (by decide) (fun oi hoi => ?_)
        have ho2 := hoi; simp only [List.getElem?_toArray, List.getElem?_cons_succ, List.getElem?_cons_zero, Option.some.injEq] at ho2; subst ho2
        refine rg_take (v := ?_) 4 hoi (by kernel_rfl) (by kernel_rfl) (by kernel_rfl) (fun _ _ _ h => h) (by rfl) ?_ hS ?_
        rotate_left
        · intro w _; go_simp; try with_reducible rfl
        clear hoi; try simp only [Act.put, List.setIfInBounds_toArray, List.set_cons_zero, List.set_cons_succ]
        refine rg_at 5 (by decide) (fun oi hoi => ?_)
        have ho2 := hoi; simp only [List.getElem?_toArray, List.getElem?_cons_succ, List.getElem?_cons_zero, Option.some.injEq] at ho2; subst ho2
        refine rg_take (v := ?_) 5 hoi (by kernel_rfl) (by kernel_rfl) (by kernel_rfl) (fun _ _ _ h => h) (by rfl) ?_ hS ?_
        rotate_left
        · intro w _; go_simp; try with_reducible rfl
        clear hoi; try simp only [Act.put, List.setIfInBounds_toArray, List.set_cons_zero, List.set_cons_succ]
        refine rg_at 6 (by decide) (fun oi hoi => ?_)
        have ho2 := hoi; simp only [List.getElem?_toArray, List.getElem?_cons_succ, List.getElem?_cons_zero, Option.some.injEq] at ho2; subst ho2
        refine rg_take (v := ?_) 6 hoi (by kernel_rfl) (by kernel_rfl) (by kernel_rfl) (fun _ _ _ h => h) (by rfl) ?_ hS ?_
        rotate_left
        · intro w _; go_simp; try with_reducible rfl
        clear hoi; try simp only [Act.put, List.setIfInBounds_toArray, List.set_cons_zero, List.set_cons_succ]
        refine rg_at 7 (by decide) (fun oi hoi => ?_)
        have ho2 := hoi; simp only [List.getElem?_toArray, List.getElem?_cons_succ, List.getElem?_cons_zero, Option.some.injEq] at ho2; subst ho2
        refine rg_take (v := ?_) 7 hoi (by kernel_rfl) (by kernel_rfl) (by kernel_rfl) (fun _ _ _ h => h) (by rfl) ?_ hS ?_
        rotate_left
        · intro w _; go_simp; try with_reducible rfl
        clear hoi; try simp only [Act.put, List.setIfInBounds_toArray, List.set_cons_zero, List.set_cons_succ]
        refine rg_at 9 (by decide) (fun oi hoi => ?_)
        have ho2 := hoi; simp only [List.getElem?_toArray, List.getElem?_cons_succ, List.getElem?_cons_zero, Option.some.injEq] at ho2; subst ho2
        refine rg_take (v := ?_) 9 hoi (by kernel_rfl) (by kernel_rfl) (by kernel_rfl) (fun _ _ _ h => h) (by rfl) ?_ hS ?_
        rotate_left
        · intro w _; go_simp; try with_reducible rfl
        clear hoi; try simp only [Act.put, List.setIfInBounds_toArray, List.set_cons_zero, List.set_cons_succ]
        refine rg_at 10 (by decide) (fun oi hoi => ?_)
        have ho2 := hoi; simp only [List.getElem?_toArray, List.getElem?_cons_succ, List.getElem?_cons_zero, Option.some.injEq] at ho2; subst ho2
        refine rg_take (v := ?_) 10 hoi (by kernel_rfl) (by kernel_rfl) (by kernel_rfl) (fun _ _ _ h => h) (by rfl) ?_ hS ?_
        rotate_left
        · intro w _; go_simp; try with_reducible rfl
        clear hoi; try simp only [Act.put, List.setIfInBounds_toArray, List.set_cons_zero, List.set_cons_succ]
        refine rg_at 11 (by decide) (fun oi hoi => ?_)
        have ho2 := hoi; simp only [List.getElem?_toArray, List.getElem?_cons_succ, List.getElem?_cons_zero, Option.some.injEq] at ho2; subst ho2
        refine rg_take (v := ?_) 11 hoi (by kernel_rfl) (by kernel_rfl) (by kernel_rfl) (fun _ _ _ h => h) (by rfl) ?_ hS ?_
        rotate_left
        · intro w _; go_simp; try with_reducible rfl
        clear hoi; try simp only [Act.put, List.setIfInBounds_toArray, List.set_cons_zero, List.set_cons_succ]
        refine rg_at 12 (by decide) (fun oi hoi => ?_)
        have ho2 := hoi; simp only [List.getElem?_toArray, List.getElem?_cons_succ, List.getElem?_cons_zero, Option.some.injEq] at ho2; subst ho2
        refine rg_take (v := ?_) 12 hoi (by kernel_rfl) (by kernel_rfl) (by kernel_rfl) (fun _ _ _ h => h) (by rfl) ?_ hS ?_
        rotate_left
        · intro w hw; have hf := hw.rl.cells.1; clear hw; go_simp; try with_reducible rfl
        clear hoi; try simp only [Act.put, List.setIfInBounds_toArray, List.set_cons_zero, List.set_cons_succ]
        refine rg_at 8 (by decide) (fun oi hoi => ?_)
        have ho2 := hoi; simp only [List.getElem?_toArray, List.getElem?_cons_succ, List.getElem?_cons_zero, Option.some.injEq] at ho2; subst ho2
        refine rg_call 8 (by kernel_rfl) hoi (by rfl) (fun K hK => ?_)
        clear hoi
        go_simp
        refine Calls.mono (units q8 p m8 F8 _ hS.pl.lg HK8.out.1) ?_
        rintro e w9 ⟨A9, c9, rfl, hun9, hu9⟩
        have hS9 := hS.quiet hu9
        go_wp2_with (fail)
        refine hK.out _ _ ((by exact hS9)) (fun hS => ?_)
        clear hK K
        try simp only [Act.put, List.setIfInBounds_toArray, List.set_cons_zero, List.set_cons_succ]
        refine rg_at 13 (by decide) (fun oi hoi => ?_)
        have ho2 := hoi; simp only [List.getElem?_toArray, List.getElem?_cons_succ, List.getElem?_cons_zero, Option.some.injEq] at ho2; subst ho2
        refine rg_call 13 (by kernel_rfl) hoi (by rfl) (fun K hK => ?_)
        clear hoi
        go_simp
        refine Calls.mono (same_ hun9 (Rd.of_own hS9.rl.tx) HK8.out.1.many) ?_
        rintro e w10 ⟨rfl, hu10⟩
        have hS10 := hS9.quiet hu10
        go_wp2_with (fail)
        refine hK.out _ _ ((by exact hS10)) (fun hS => ?_)
        clear hK K
        try simp only [Act.put, List.setIfInBounds_toArray, List.set_cons_zero, List.set_cons_succ]
        refine rg_at 14 (by decide) (fun oi hoi => ?_)
        have ho2 := hoi; simp only [List.getElem?_toArray, List.getElem?_cons_succ, List.getElem?_cons_zero, Option.some.injEq] at ho2; subst ho2
        refine rg_take (v := ?_) 14 hoi (by kernel_rfl) (by kernel_rfl) (by kernel_rfl) (fun _ _ _ h => h) (by rfl) ?_ hS ?_
        rotate_left
        · intro w _; go_simp; try with_reducible rfl
        clear hoi; try simp only [Act.put, List.setIfInBounds_toArray, List.set_cons_zero, List.set_cons_succ]
        refine rg_at 15 (by decide) (fun oi hoi => ?_)
        have ho2 := hoi; simp only [List.getElem?_toArray, List.getElem?_cons_succ, List.getElem?_cons_zero, Option.some.injEq] at ho2; subst ho2
        refine rg_take (v := ?_) 15 hoi (by kernel_rfl) (by kernel_rfl) (by kernel_rfl) (fun _ _ _ h => h) (by rfl) ?_ hS ?_
        rotate_left
        · intro w _; go_simp; try with_reducible rfl
        clear hoi; try simp only [Act.put, List.setIfInBounds_toArray, List.set_cons_zero, List.set_cons_succ]
        refine rg_at 16 (by decide) (fun oi hoi => ?_)
        have ho2 := hoi; simp only [List.getElem?_toArray, List.getElem?_cons_succ, List.getElem?_cons_zero, Option.some.injEq] at ho2; subst ho2
        refine rg_take (v := ?_) 16 hoi (by kernel_rfl) (by kernel_rfl) (by kernel_rfl) (fun _ _ _ h => h) (by rfl) ?_ hS ?_
        rotate_left
        · intro w _; go_simp; try with_reducible rfl
        clear hoi; try simp only [Act.put, List.setIfInBounds_toArray, List.set_cons_zero, List.set_cons_succ]
        refine rg_at 17 (by decide) (fun oi hoi => ?_)
        have ho2 := hoi; simp only [List.getElem?_toArray, List.getElem?_cons_succ, List.getElem?_cons_zero, Option.some.injEq] at ho2; subst ho2
        refine rg_take (v := ?_) 17 hoi (by kernel_rfl) (by kernel_rfl) (by kernel_rfl) (fun _ _ _ h => h) (by rfl) ?_ hS ?_
        rotate_left
        · intro w _; go_simp; try with_reducible rfl
        clear hoi; try simp only [Act.put, List.setIfInBounds_toArray, List.set_cons_zero, List.set_cons_succ]
        refine rg_at 19 (by decide) (fun oi hoi => ?_)
        have ho2 := hoi; simp only [List.getElem?_toArray, List.getElem?_cons_succ, List.getElem?_cons_zero, Option.some.injEq] at ho2; subst ho2
        refine rg_take (v := ?_) 19 hoi (by kernel_rfl) (by kernel_rfl) (by kernel_rfl) (fun _ _ _ h => h) (by rfl) ?_ hS ?_
        rotate_left
        · intro w _; go_simp; try with_reducible rfl
        clear hoi; try simp only [Act.put, List.setIfInBounds_toArray, List.set_cons_zero, List.set_cons_succ]
        refine rg_at 18 (by decide) (fun oi hoi => ?_)
        have ho2 := hoi; simp only [List.getElem?_toArray, List.getElem?_cons_succ, List.getElem?_cons_zero, Option.some.injEq] at ho2; subst ho2
        refine rg_call 18 (by kernel_rfl) hoi (by rfl) (fun K hK => ?_)
        clear hoi
        go_simp
        refine Calls.mono (room q8 p m8 F8 _ hS.pl.lg HK8.out.1) ?_
        rintro e w11 ⟨rfl, hu11⟩
        have hS11 := hS.quiet hu11
        go_wp2_with (fail)
        refine hK.out _ _ ((by exact hS11)) (fun hS => ?_)
        clear hK K
        try simp only [Act.put, List.setIfInBounds_toArray, List.set_cons_zero, List.set_cons_succ]
        refine rg_at 20 (by decide) (fun oi hoi => ?_)
        have ho2 := hoi; simp only [List.getElem?_toArray, List.getElem?_cons_succ, List.getElem?_cons_zero, Option.some.injEq] at ho2; subst ho2
        refine rg_call 20 (by kernel_rfl) hoi (by rfl) (fun K hK => ?_)
        clear hoi
        go_simp
        refine Calls.mono (HRr.out _ hS.rl) ?_
        rintro e w12 ⟨rfl, rfl⟩
        go_wp2_with (fail)
        refine hK.out _ _ ((by exact hS)) (fun hS => ?_)
        clear hK K
        try simp only [Act.put, List.setIfInBounds_toArray, List.set_cons_zero, List.set_cons_succ]
        refine rg_at 21 (by decide) (fun oi hoi => ?_)
        have ho2 := hoi; simp only [List.getElem?_toArray, List.getElem?_cons_succ, List.getElem?_cons_zero, Option.some.injEq] at ho2; subst ho2
        refine rg_take (v := ?_) 21 hoi (by kernel_rfl) (by kernel_rfl) (by kernel_rfl) (fun _ _ _ h => h) (by rfl) ?_ hS ?_
        rotate_left
        · intro w _; go_simp; try with_reducible rfl
        clear hoi; try simp only [Act.put, List.setIfInBounds_toArray, List.set_cons_zero, List.set_cons_succ]
        refine rg_at 22 (by decide) (fun oi hoi => ?_)
        have ho2 := hoi; simp only [List.getElem?_toArray, List.getElem?_cons_succ, List.getElem?_cons_zero, Option.some.injEq] at ho2; subst ho2
        refine rg_take (v := ?_) 22 hoi (by kernel_rfl) (by kernel_rfl) (by kernel_rfl) (fun _ _ _ h => h) (by rfl) ?_ hS ?_
        rotate_left
        · intro w _; go_simp; try with_reducible rfl
        clear hoi; try simp only [Act.put, List.setIfInBounds_toArray, List.set_cons_zero, List.set_cons_succ]
        refine wpAnyH_done (by kernel_rfl) ?_ _
        have HZ := hid (show Ro w _ F8 D8 q8 p r m8 d8 _ f C nb (j + 1) from ⟨hS, HK8.out.2.1, HK8.out.2.2⟩)
        clear hun9 hu9 hS9 hu10 hS10 hu11 hS11 hS HRr
        go_wp2
        go_roundw
        case rel => exact ⟨j + 1, F8, D8, q8, m8, d8, _, by omega, by go_num, rfl, rfl, HZ⟩
        case measure => simp [intOf]; omega
    · obtain rfl : j = xs.length := by omega
      have HE := hid HW.out.tw.pl.bel
      go_wp2
      go_ret
      exact ⟨rfl, HE.out⟩
end Go.Proofs.Ytheopehhpoikdaa.Gl
