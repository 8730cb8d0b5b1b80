/-
  The walk of LetterBack.
-/
import Derived.Test.YtbcicmpolgfgpaaBk
import Derived.Test.YtbcicmpolgfgpaaPx
import Derived.Test.YtbcicmpolgfgpaaLv
set_option linter.unusedVariables false
set_option linter.unusedSimpArgs false
namespace Go.Proofs.Ytbcicmpolgfgpaa.Pk
open Go.RowKit Go.Proofs.Ytbcicmpolgfgpaa Go.Proofs.Ytbcicmpolgfgpaa.B Go.Proofs.Ytbcicmpolgfgpaa.Cr Go.Proofs.Ytbcicmpolgfgpaa.Lt Go.Proofs.Ytbcicmpolgfgpaa.Ib Go.Proofs.Ytbcicmpolgfgpaa.Ls
open Go.Proofs.Ytbcicmpolgfgpaa.Lc (lb Wf)
theorem dec_cases (l : List Int) : (Lj.decL l).2 = 0 ∨ (Lj.decL l).2 = 2 := by
  unfold Lj.decL
  split
  · exact .inl rfl
  · exact .inr rfl
set_option maxHeartbeats 4000000 in
set_option maxRecDepth 100000 in
theorem law_back (A B : Option Addr) (c d : Nat) (ps : List Lv) (l : List Int) (w : World) (hr : Rd w 4 A ps.length (pcells ps)) (hc : ps.length ≤ c ∧ c ≤ maxLen) (hin : ∀ x ∈ ps, In w x.1 x.2 ∧ x.1.1.size ≤ maxLen ∧ Wf x.1)
    (hrb : Rn w .u8 B l) (hd : l.length ≤ d) (hdl : d * Try.prog.bytesOf 5 ≤ 140737488351232) (hby : ∀ x ∈ l, (Lit.int .u8 x).wf = true) :
    Calls Try.prog 8 #[.slice A ps.length c, .slice B l.length d] w fun e w' => e = .returned (.bool true) ∧ Below w.heap.size w w' := by
  rw [Lj.bytes_one] at hdl
  have hdm : d ≤ 9223372036854775807 := by omega
  have hc1 := hc.1
  have hc2 := hc.2
  simp only [maxLen] at hc2
  have HR := hid (And.intro hr (And.intro hin (And.intro hrb (Lj.byte_of hby))))
  clear hr hin hrb hby hc
  go_enter Try.func8, Try.ntmps8
  go_wp2_with (fail)
  refine Calls.mono (Le.awake w) ?_
  rintro e w1 ⟨rfl, hb1⟩
  have HU1 := hid (Upd.of_below No hb1)
  clear hb1
  have HF := hid (Le.few A c ps w1 (HR.out.1.upd (by omega) HU1.out fun _ _ => no_ _) (by omega) (fun x hx => ⟨(HR.out.2.1 x hx).1.upd HU1.out (fun _ _ => no_ _), (HR.out.2.1 x hx).2.1⟩))
  go_wp2_with (fail)
  refine Calls.mono HF.out ?_
  rintro e w1' ⟨b, rfl, rfl, hb⟩
  rcases b with _ | _
  · clear hb
    go_wp2_with (fail)
    refine Calls.mono (Le.awake w1) ?_
    rintro e w2 ⟨rfl, hb2⟩
    have HE := hid (HU1.out.next (Upd.of_below No hb2))
    clear hb2
    go_wp2
    go_ret
    exact ⟨rfl, HE.out.old (Nat.le_refl _)⟩
  obtain ⟨hbs, h301⟩ := hb rfl
  have HSm : Hid (∀ x ∈ ps, Sm x.1) := hid fun x hx => ⟨(hbs x hx).1, (hbs x hx).2, (HR.out.2.1 x hx).2.2⟩
  have HIn := hid fun W (hu : Upd No w W) x hx => (HR.out.2.1 x hx).1.upd hu (fun _ _ => no_ _)
  have HRd := hid fun W (hu : Upd No w W) => (HR.out.1.upd (by omega) hu fun _ _ => no_ _ : Rd W 4 A ps.length (pcells ps))
  have HB := hid fun W (hu : Upd No w W) => (Rd.upd HR.out.2.2.1 (by omega) hu fun _ _ => no_ _ : Rn W .u8 B l)
  have HP1 := hid (pack A c ps w1 (HRd.out _ HU1.out) (HIn.out _ HU1.out) HSm.out h301)
  unfold PkOut at HP1
  clear hb hbs HF
  go_wp2_with (fail)
  refine Calls.mono HP1.out ?_
  rintro e w2 ⟨A2, c2, rfl, hc21, hc22, hr2, hu2⟩
  have HU2 := hid (HU1.out.next hu2)
  have hnl : ps.length ≤ 301 := h301
  clear h301
  rcases hall : (ps.map (·.1)).all formed with _ | _
  case' false =>
    have hpc : packC (ps.map (·.1)) = 1 := by unfold packC; rw [hall]; rfl
    rw [hpc]
    clear hr2 hu2 hall hpc hc21 hc22 HP1
    have HU := HU2
    clear HU2
    go_wp2_with (fail)
  case' true =>
    have hpc : packC (ps.map (·.1)) = 0 := by unfold packC; rw [hall]; rfl
    rw [hpc]
    have hfw : ∀ x ∈ ps.map (·.1), formed x = true ∧ Wf x := fun x hx => ⟨List.all_eq_true.1 hall x hx, by
      obtain ⟨y, hy, rfl⟩ := List.mem_map.1 hx
      exact (HR.out.2.1 y hy).2.2⟩
    have hup := unp_pack (ps.map (·.1)) hfw (by rw [List.length_map]; omega)
    have hsm : (packL (ps.map (·.1))).length ≤ 2000000000000 := by
      have h1 := pkb_le (ps.map (·.1)) (fun x hx => by
        obtain ⟨y, hy, rfl⟩ := List.mem_map.1 hx
        exact HSm.out y hy)
      unfold packL
      rw [hall]
      simp only [if_true, List.length_append, List.length_map] at h1 ⊢
      have h2 := (Cm.num_length (ps.length : Int)).2
      omega
    have hby : Byte (packL (ps.map (·.1))) := by
      unfold packL
      rw [hall]
      simp only [if_true]
      intro z hz
      rcases List.mem_append.1 hz with hz | hz
      · exact Cp.num_byte _ (by omega) z hz
      · simp only [pkb, List.mem_flatMap] at hz
        obtain ⟨x, hx, hz⟩ := hz
        exact Lz.lb_byte x (hfw x hx).2 z hz
    have hQ := unpack (c := c2) hr2 hc21 hsm hc22 hby
    rw [hup] at hQ
    unfold UpOut at hQ
    simp only [List.length_map] at hQ
    have HQ := hid hQ
    clear hr2 hu2 hall hpc hc21 hc22 HP1 hfw hup hsm hby hQ
    generalize (packL (ps.map (·.1))).length = nb at *
    go_wp2_with (fail)
    refine Calls.mono HQ.out ?_
    rintro e w3 ⟨A3, c3, rfl, hr3, hu3⟩
    have HU3 := hid (HU2.out.next hu3)
    have hS := sameAll (.slice A3 ps.length c3) (.slice A ps.length c) (ps.map (·.1)) (ps.map (·.1)) w3 hr3 ⟨ps, A, c, rfl, rfl, hc1, by simp only [maxLen]; omega, HRd.out _ HU3.out, HIn.out _ HU3.out⟩
    simp only [decide_true] at hS
    have HS := hid hS
    clear hr3 hu3 hS HU2 HQ
    go_wp2_with (fail)
    refine Calls.mono HS.out ?_
    rintro e w4 ⟨rfl, hu4⟩
    have HU := hid (HU3.out.next hu4)
    clear hu4 HU3 HS
    go_wp2_with (fail)
  all_goals
    go_loopw [48] (fun v48 W => ∃ j : Nat, j ≤ ps.length ∧ v48 = .int .i64 j ∧ Hid (Upd No w W)) (fun v48 _ => ps.length - (intOf v48).toNat)
    case atStart => exact ⟨0, by omega, rfl, HU⟩
    case round =>
      clear HU
      obtain ⟨j, hj, rfl, hH⟩ := hrel
      by_cases hlt : j < ps.length
      · obtain ⟨ad, rfl, x0, x1, x2, x3⟩ := Le.at4 (HRd.out wr hH.out) hlt
        have hmem := List.getElem_mem hlt
        have hin := HIn.out wr hH.out _ hmem
        have hwx := (HR.out.2.1 _ hmem).2.2
        have HM := hid hmem
        have HP : Hid (∀ W, Upd No w W → W.cell? (ad.add (j * 4)) = some (.string ps[j].1.1) ∧ W.cell? ⟨(ad.add (j * 4)).block, (ad.add (j * 4)).off + 1, none⟩ = some (.int .u64 ps[j].1.2.1) ∧ W.cell? ⟨(ad.add (j * 4)).block, (ad.add (j * 4)).off + 2, none⟩ = some (.int .i64 ps[j].1.2.2.1) ∧ W.cell? ⟨(ad.add (j * 4)).block, (ad.add (j * 4)).off + 3, none⟩ = some ps[j].2) := hid fun W hu => by
          obtain ⟨ad2, e, z0, z1, z2, z3⟩ := Le.at4 (HRd.out W hu) hlt
          injection e with e
          subst e
          exact ⟨z0, z1, z2, z3⟩
        have HI : Hid (∀ W, Upd No w W → In W ps[j].1 ps[j].2) := hid fun W hu => HIn.out W hu _ hmem
        generalize ps[j] = y at *
        obtain ⟨x, u⟩ := y
        simp only at x0 x1 x2 x3 hin hwx HP HI
        have hin0 := hin
        obtain ⟨Au, cu, hue, _, hq1, hq2⟩ := hin0
        subst hue
        have HWx := hid hwx
        have hj1 : (0 : Int) ≤ (j : Int) := by omega
        have hj2 : (j : Int) < (ps.length : Int) := by omega
        clear hmem hwx hq1 hq2
        rcases hf : formed x with _ | _
        · have HEn := hid (Lc.encode_bad x _ wr hin hf)
          unfold val at HEn
          clear hin hf
          go_wp2_with (fail)
          refine HEn.out.mono ?_
          rintro e w5 ⟨rfl, hu5⟩
          have HE := hid (hH.out.next hu5)
          clear hu5 x0 x1 x2 x3
          go_wp2
          go_roundw
          case rel => exact ⟨j + 1, by omega, by go_num, HE⟩
          case measure => simp [intOf]; omega
        · have HEn := hid (Lc.encode_ x _ wr hin hf HWx.out)
          unfold Lt.val Lc.EncOut at HEn
          have HFm := hid hf
          clear hin hf
          go_wp2_with (fail)
          refine HEn.out.mono ?_
          rintro e w5 ⟨v5, rfl, ho5, hb5⟩
          obtain ⟨A5, c5, rfl, hc51, hc52⟩ := own_shape ho5
          have hl5 : (lb x).length ≤ 1000 := by
            have h1 := Lc.lb_le x
            have h2 := Lc.formed_le HFm.out
            omega
          have hD := Lj.decode (c := c5) (Rd.of_own ho5) hc51 (by omega) (by simp only [maxLen] at hc52; omega) (Lz.lb_byte x HWx.out)
          rw [dec_lb x HFm.out HWx.out] at hD
          unfold Lj.DcOut at hD
          simp only at hD
          have HD := hid hD
          have HU5 := hid (hH.out.next (Upd.of_below No hb5))
          clear hD ho5 hb5 hc51 hc52 HEn x0 x1 x2 x3
          generalize (lb x).length = n5 at *
          go_wp2_with (fail)
          refine Calls.mono HD.out ?_
          rintro e w6 ⟨v6, rfl, hv6, hu6⟩
          unfold Lt.val
          obtain ⟨A6, c6, rfl, hq6⟩ := hv6
          have hv6 : In w6 x (.slice A6 x.2.2.2.length c6) := ⟨A6, c6, rfl, hq6⟩
          have HU6 := hid (HU5.out.next hu6)
          have hal : Upd No w6 (w6.alloc (.cells #[.string x.1, .int .u64 x.2.1, .int .i64 x.2.2.1, .slice A6 x.2.2.2.length c6] 25)) := (Upd.refl _ _).alloc _
          have HW7 : Hid (∃ w7 h, w7 = w6.alloc (.cells #[.string x.1, .int .u64 x.2.1, .int .i64 x.2.2.1, .slice A6 x.2.2.2.length c6] 25) ∧ h = w6.heap.size ∧ Upd No w w7 ∧ Blk w7 h 25 #[.string x.1, .int .u64 x.2.1, .int .i64 x.2.2.1, .slice A6 x.2.2.2.length c6] ∧ In w7 x (.slice A6 x.2.2.2.length c6)) := hid ⟨_, _, rfl, rfl, HU6.out.alloc _, Blk.fresh _ _ _, hv6.upd hal fun _ _ => no_ _⟩
          clear hq6 hv6 hu6 hal HU5 HD
          go_wp2_with (fail)
          obtain ⟨w7, h, hw7, hh, hu7, hb7, hi7⟩ := HW7.out
          rw [← hw7, ← hh]
          have HS := hid (Ls.same_ x x (.slice A6 x.2.2.2.length c6) (.slice Au x.2.2.2.length cu) w7.drew hi7 (HI.out _ hu7.drew))
          unfold Lt.val at HS
          simp only [decide_true] at HS
          have HU7 := hid hu7
          have HB7 : Hid (∀ W, Upd No w7 W → W.cell? ⟨h, 0, none⟩ = some (.string x.1) ∧ W.cell? ⟨h, 1, none⟩ = some (.int .u64 x.2.1) ∧ W.cell? ⟨h, 2, none⟩ = some (.int .i64 x.2.2.1) ∧ W.cell? ⟨h, 3, none⟩ = some (.slice A6 x.2.2.2.length c6)) := hid fun W hu => box (hb7.upd hu (no_ _))
          clear hw7 hh hu7 hb7 hi7 HW7 HU6
          refine wp_region_held_drew (S := fun W => Upd No w7 W) (by kernel_rfl) (Upd.refl _ _).drew (fun hS => ?_)
          refine rg_at 0 (by decide) (fun oi hoi => ?_)
          have ho2 := hoi; simp only [List.getElem?_toArray, List.getElem?_cons_succ, List.getElem?_cons_zero, Option.some.injEq] at ho2; subst ho2
          refine rg_take (v := ?_) 0 hoi (by kernel_rfl) (by kernel_rfl) (by kernel_rfl) (fun _ _ _ h => h) (by rfl) ?_ hS ?_
          rotate_left
          · intro w _; go_simp; try with_reducible rfl
          clear hoi; try simp only [Act.put, List.setIfInBounds_toArray, List.set_cons_zero, List.set_cons_succ]
          refine rg_at 1 (by decide) (fun oi hoi => ?_)
          have ho2 := hoi; simp only [List.getElem?_toArray, List.getElem?_cons_succ, List.getElem?_cons_zero, Option.some.injEq] at ho2; subst ho2
          refine rg_take (v := ?_) 1 hoi (by kernel_rfl) (by kernel_rfl) (by kernel_rfl) (fun _ _ _ h => h) (by rfl) ?_ hS ?_
          rotate_left
          · intro w _; go_simp; try with_reducible rfl
          clear hoi; try simp only [Act.put, List.setIfInBounds_toArray, List.set_cons_zero, List.set_cons_succ]
          refine rg_at 2 (by decide) (fun oi hoi => ?_)
          have ho2 := hoi; simp only [List.getElem?_toArray, List.getElem?_cons_succ, List.getElem?_cons_zero, Option.some.injEq] at ho2; subst ho2
          refine rg_take (v := ?_) 2 hoi (by kernel_rfl) (by kernel_rfl) (by kernel_rfl) (fun _ _ _ h => h) (by rfl) ?_ hS ?_
          rotate_left
          · intro w _; go_simp; try with_reducible rfl
          clear hoi; try simp only [Act.put, List.setIfInBounds_toArray, List.set_cons_zero, List.set_cons_succ]
          refine rg_at 3 (by decide) (fun oi hoi => ?_)
          have ho2 := hoi; simp only [List.getElem?_toArray, List.getElem?_cons_succ, List.getElem?_cons_zero, Option.some.injEq] at ho2; subst ho2
          refine rg_take (v := ?_) 3 hoi (by kernel_rfl) (by kernel_rfl) (by kernel_rfl) (fun _ _ _ h => h) (by rfl) ?_ hS ?_
          rotate_left
          · intro w hw; have hf := HB7.out w hw; clear hw; go_simp; try with_reducible rfl
          clear hoi; try simp only [Act.put, List.setIfInBounds_toArray, List.set_cons_zero, List.set_cons_succ]
          refine rg_at 4 (by decide) (fun oi hoi => ?_)
          have ho2 := hoi; simp only [List.getElem?_toArray, List.getElem?_cons_succ, List.getElem?_cons_zero, Option.some.injEq] at ho2; subst ho2
          refine rg_take (v := ?_) 4 hoi (by kernel_rfl) (by kernel_rfl) (by kernel_rfl) (fun _ _ _ h => h) (by rfl) ?_ hS ?_
          rotate_left
          · intro w _; go_simp; try with_reducible rfl
          clear hoi; try simp only [Act.put, List.setIfInBounds_toArray, List.set_cons_zero, List.set_cons_succ]
          refine rg_at 5 (by decide) (fun oi hoi => ?_)
          have ho2 := hoi; simp only [List.getElem?_toArray, List.getElem?_cons_succ, List.getElem?_cons_zero, Option.some.injEq] at ho2; subst ho2
          refine rg_take (v := ?_) 5 hoi (by kernel_rfl) (by kernel_rfl) (by kernel_rfl) (fun _ _ _ h => h) (by rfl) ?_ hS ?_
          rotate_left
          · intro w _; go_simp; try with_reducible rfl
          clear hoi; try simp only [Act.put, List.setIfInBounds_toArray, List.set_cons_zero, List.set_cons_succ]
          refine rg_at 6 (by decide) (fun oi hoi => ?_)
          have ho2 := hoi; simp only [List.getElem?_toArray, List.getElem?_cons_succ, List.getElem?_cons_zero, Option.some.injEq] at ho2; subst ho2
          refine rg_take (v := ?_) 6 hoi (by kernel_rfl) (by kernel_rfl) (by kernel_rfl) (fun _ _ _ h => h) (by rfl) ?_ hS ?_
          rotate_left
          · intro w _; go_simp; try with_reducible rfl
          clear hoi; try simp only [Act.put, List.setIfInBounds_toArray, List.set_cons_zero, List.set_cons_succ]
          refine rg_at 7 (by decide) (fun oi hoi => ?_)
          have ho2 := hoi; simp only [List.getElem?_toArray, List.getElem?_cons_succ, List.getElem?_cons_zero, Option.some.injEq] at ho2; subst ho2
          refine rg_take (v := ?_) 7 hoi (by kernel_rfl) (by kernel_rfl) (by kernel_rfl) (fun _ _ _ h => h) (by rfl) ?_ hS ?_
          rotate_left
          · intro w hw; have hf := HP.out w (HU7.out.next hw); clear hw; go_simp; try with_reducible rfl
          clear hoi; try simp only [Act.put, List.setIfInBounds_toArray, List.set_cons_zero, List.set_cons_succ]
          refine rg_at 8 (by decide) (fun oi hoi => ?_)
          have ho2 := hoi; simp only [List.getElem?_toArray, List.getElem?_cons_succ, List.getElem?_cons_zero, Option.some.injEq] at ho2; subst ho2
          refine rg_call 8 (by kernel_rfl) hoi (by rfl) (fun K hK => ?_)
          clear hoi
          go_simp
          refine Calls.mono HS.out ?_
          rintro e w8 ⟨rfl, hu8⟩
          go_wp2_with (fail)
          refine hK.out _ _ ((Upd.of_drew hu8)) (fun hS => ?_)
          clear hK K
          try simp only [Act.put, List.setIfInBounds_toArray, List.set_cons_zero, List.set_cons_succ]
          refine rg_at 9 (by decide) (fun oi hoi => ?_)
          have ho2 := hoi; simp only [List.getElem?_toArray, List.getElem?_cons_succ, List.getElem?_cons_zero, Option.some.injEq] at ho2; subst ho2
          refine rg_take (v := ?_) 9 hoi (by kernel_rfl) (by kernel_rfl) (by kernel_rfl) (fun _ _ _ h => h) (by rfl) ?_ hS ?_
          rotate_left
          · intro w _; go_simp; try with_reducible rfl
          clear hoi; try simp only [Act.put, List.setIfInBounds_toArray, List.set_cons_zero, List.set_cons_succ]
          refine rg_at 10 (by decide) (fun oi hoi => ?_)
          have ho2 := hoi; simp only [List.getElem?_toArray, List.getElem?_cons_succ, List.getElem?_cons_zero, Option.some.injEq] at ho2; subst ho2
          refine rg_take (v := ?_) 10 hoi (by kernel_rfl) (by kernel_rfl) (by kernel_rfl) (fun _ _ _ h => h) (by rfl) ?_ hS ?_
          rotate_left
          · intro w _; go_simp; try with_reducible rfl
          clear hoi; try simp only [Act.put, List.setIfInBounds_toArray, List.set_cons_zero, List.set_cons_succ]
          refine wpAnyH_done (by kernel_rfl) ?_ _
          have HE := hid (HU7.out.next (Upd.of_drew hu8))
          clear hu8 hS
          go_wp2
          go_roundw
          case rel => exact ⟨j + 1, by omega, by go_num, HE⟩
          case measure => simp [intOf]; omega
      · obtain rfl : j = ps.length := by omega
        have hD := Lj.decode (c := d) (HB.out _ hH.out) hd (by omega) hdm HR.out.2.2.2
        have hcase := dec_cases l
        have HO := hid fun x h => dec_only (x := x) HR.out.2.2.2 h
        unfold Lj.DcOut at hD
        generalize Lj.decL l = q at *
        obtain ⟨x, cd⟩ := q
        simp only at hD hcase
        have HD := hid hD
        clear hD
        go_wp2_with (fail)
        refine Calls.mono HD.out ?_
        rintro e w6 ⟨v6, rfl, hv6, hu6⟩
        unfold Lt.val
        obtain ⟨A6, c6, rfl, hq6⟩ := hv6
        have hv6 : In w6 x (.slice A6 x.2.2.2.length c6) := ⟨A6, c6, rfl, hq6⟩
        have HU6 := hid (hH.out.next hu6)
        have hal : Upd No w6 (w6.alloc (.cells #[.string x.1, .int .u64 x.2.1, .int .i64 x.2.2.1, .slice A6 x.2.2.2.length c6] 25)) := (Upd.refl _ _).alloc _
        have HW7 : Hid (∃ w7 h, w7 = w6.alloc (.cells #[.string x.1, .int .u64 x.2.1, .int .i64 x.2.2.1, .slice A6 x.2.2.2.length c6] 25) ∧ h = w6.heap.size ∧ Upd No w w7 ∧ Blk w7 h 25 #[.string x.1, .int .u64 x.2.1, .int .i64 x.2.2.1, .slice A6 x.2.2.2.length c6] ∧ In w7 x (.slice A6 x.2.2.2.length c6)) := hid ⟨_, _, rfl, rfl, HU6.out.alloc _, Blk.fresh _ _ _, hv6.upd hal fun _ _ => no_ _⟩
        clear hq6 hv6 hu6 hal HD
        rcases hcase with rfl | rfl
        · obtain ⟨hlx, hfx, hwx⟩ := HO.out x rfl
          have HL := hid hlx
          have HX := hid (And.intro hfx hwx)
          clear hlx hfx hwx
          go_wp2_with (fail)
          obtain ⟨w7, h, hw7, hh, hu7, hb7, hi7⟩ := HW7.out
          rw [← hw7, ← hh]
          have HEn := hid (Lc.encode_ x _ w7 hi7 HX.out.1 HX.out.2)
          unfold Lt.val Lc.EncOut at HEn
          rw [← HL.out] at HEn
          obtain ⟨y0, y1, y2, y3⟩ := box hb7
          have HU7 := hid hu7
          clear hw7 hh hu7 hb7 hi7 HW7 HU6
          go_wp2_with (fail)
          refine HEn.out.mono ?_
          rintro e w8 ⟨v8, rfl, ho8, hb8⟩
          obtain ⟨A8, c8, rfl, _, _⟩ := own_shape ho8
          have HU8 := hid (HU7.out.next (Upd.of_below No hb8))
          obtain ⟨st, hst⟩ : ∃ st, Hid (st = strOfNums l) := ⟨_, hid rfl⟩
          have hv1 := conv_str (P := Try.prog) (Rn_of_own ho8 : Rn w8 .u8 A8 l) 32 9 5 c8 Try.underlying32 Try.underlying5 Try.underlying9
          have hv2 := conv_str (P := Try.prog) (HB.out _ HU8.out : Rn w8 .u8 B l) 32 9 5 d Try.underlying32 Try.underlying5 Try.underlying9
          rw [← hst.out] at hv1 hv2
          clear ho8 hb8 HEn y0 y1 y2 y3
          go_wp2
          go_ret
          exact ⟨rfl, HU8.out.old (Nat.le_refl _)⟩
        · go_wp2_with (fail)
          obtain ⟨w7, h, hw7, hh, hu7, hb7, hi7⟩ := HW7.out
          rw [← hw7]
          have HU7 := hid hu7
          clear hw7 hu7 hb7 hi7 HW7 HU6
          go_wp2
          go_ret
          exact ⟨rfl, HU7.out.old (Nat.le_refl _)⟩
end Go.Proofs.Ytbcicmpolgfgpaa.Pk
