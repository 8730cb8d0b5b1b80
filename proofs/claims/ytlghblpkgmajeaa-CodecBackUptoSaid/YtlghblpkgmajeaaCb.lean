/-
  The walk of reevelaw01.CodecBack.
-/
import Derived.Test.YtlghblpkgmajeaaCx
import Derived.Test.YtlghblpkgmajeaaCd
set_option linter.unusedVariables false
set_option linter.unusedSimpArgs false
namespace Go.Proofs.Ytlghblpkgmajeaa.Cb
open Go.RowKit Go.Proofs.Ytlghblpkgmajeaa.B Go.Proofs.Ytlghblpkgmajeaa.Cm Go.Proofs.Ytlghblpkgmajeaa.Cw Go.Proofs.Ytlghblpkgmajeaa.Cv Go.Proofs.Ytlghblpkgmajeaa.Cr
theorem uz_zz (n : Int) : uz (zz n) = n := by unfold uz zz; split <;> split <;> omega
theorem back_num (n : Int) (r : List Int) (h0 : 0 ≤ n) (h1 : n ≤ 18446744073709551615) : stN (num n ++ r) false = (n, r, false) := by
  unfold stN
  rw [Cp.rdNum_num n r h0 h1]
theorem back_text (s : ByteArray) (r : List Int) (hs : s.size ≤ 18446744073709551615) : stT (num s.size ++ sb s ++ r) false = (sb s, r, false) := by
  unfold stT
  rw [List.append_assoc, back_num s.size (sb s ++ r) (by omega) (by omega)]
  have hl := sb_length s
  simp only [Bool.false_eq_true, if_false]
  rw [if_neg (by rw [List.length_append]; omega)]
  have e : ((s.size : Int)).toNat = (sb s).length := by omega
  rw [e, List.take_left, List.drop_left]
theorem sb_str (s : ByteArray) : strOfNums (sb s) = s := by
  apply ByteArray.ext
  apply Array.toList_inj.1
  simp only [strOfNums, sb, List.map_map]
  have : (s.data.toList.map ((fun n : Int => UInt8.ofNat n.toNat) ∘ fun b : UInt8 => (b.toNat : Int))) = s.data.toList := by
    conv => rhs; rw [← List.map_id s.data.toList]
    exact List.map_congr_left fun b _ => by simp
  simpa using this
theorem pcOut_byte (p : Pc) (h0 : 0 ≤ p.2.1) : Byte (pcOut p) := by
  unfold pcOut
  split
  · exact Cp.num_byte _ h0
  · split
    · refine Cp.num_byte _ ?_
      unfold zz wrap64
      split <;> omega
    · intro c hc
      rcases List.mem_append.1 hc with h | h
      · exact Cp.num_byte _ (by omega) c h
      · simp only [sb, List.mem_map] at h
        obtain ⟨b, _, rfl⟩ := h
        have := b.toNat_lt
        omega
theorem pcOuts_byte (ps : List Pc) (h : PcOk ps) : Byte (pcOuts ps) := by
  intro c hc
  simp only [pcOuts, List.mem_flatMap] at hc
  obtain ⟨p, hp, hc⟩ := hc
  exact pcOut_byte p (h p hp).1 c hc
theorem pcOuts_drop (ps : List Pc) (j : Nat) (hj : j < ps.length) : pcOuts (ps.drop j) = pcOut (gp ps j) ++ pcOuts (ps.drop (j + 1)) := by
  rw [List.drop_eq_getElem_cons hj]
  simp only [pcOuts, gp, List.getD_eq_getElem?_getD, List.getElem?_eq_getElem hj, List.flatMap_cons, Option.getD_some]
/-- The reader stands ahead of the j-th piece. -/
def At (B : Nat) (w0 : World) (p : Nat) (l : List Int) (W : World) : Prop := ∃ (F : Nat → Prop) (A : Option Addr) (c : Nat), Rr 57 W F p A c l false ∧ (∀ k, F k → B ≤ k) ∧ Below B w0 W
set_option maxHeartbeats 4000000 in
set_option maxRecDepth 100000 in
theorem back (A : Option Addr) (c : Nat) (ps : List Pc) (w : World) (hr : Rd w 3 A ps.length (pcCells ps)) (hc : ps.length ≤ 1048576) (hok : PcOk ps) (hl : (pcOuts ps).length ≤ 14073748835000) :
    Calls Try.prog 8 #[.slice A ps.length c] w fun e w' => e = .returned (.bool true) ∧ Below w.heap.size w w' := by
  go_enter Try.func8, Try.ntmps8
  go_wp2_with (fail)
  refine (Ca.awake w).mono ?_
  rintro e w1 ⟨rfl, hb1⟩
  go_wp2_with (fail)
  refine (write A c ps w1 (Rd.below hr (by omega) hb1) (by omega) hok (by omega)).mono ?_
  rintro e w2 ⟨A1, c1, A2, c2, rfl, ⟨hr1, _, _⟩, _, hb2⟩
  go_wp2_with (fail)
  refine (newReader A1 c1 (pcOuts ps) w2 hr1 (by omega) (pcOuts_byte ps hok)).mono ?_
  rintro e w3 ⟨F3, p, A3, c3, rfl, hq3, hF3, hb3⟩
  have hb13 := hb1.trans ((hb2.trans (hb3.mono hb2.size)).mono hb1.size)
  have hat : At w.heap.size w p (pcOuts ps) w3 := ⟨F3, A3, c3, hq3, fun k hk => by have := hF3 k hk; have := hb2.size; have := hb1.size; omega, hb13⟩
  clear hq3 hF3 hb1 hb2 hb3 hr1 hb13
  go_wp2_with (fail)
  go_loopw [18] (fun v18 W => ∃ (j : Nat) (l : List Int), j ≤ ps.length ∧ v18 = .int .i64 j ∧ Hid (l = pcOuts (ps.drop j)) ∧ At w.heap.size w p l W) (fun v18 _ => ps.length - (intOf v18).toNat)
  case atStart => exact ⟨0, _, by omega, rfl, hid rfl, hat⟩
  case round =>
    obtain ⟨j, l, hj, rfl, hl2, F, A4, c4, h1, h2, h3⟩ := hrel
    by_cases hlt : j < ps.length
    · obtain ⟨ad, rfl, _⟩ := hr.2 (by omega)
      have CE := hid (cells_at hr hlt)
      have hpo := hok _ (gp_mem ps j hlt)
      have hnl := hid (pcOuts_drop ps j hlt)
      have hq2 : Hid ((pcOut (gp ps j)).length ≤ 14073748835000) := by
        have h5 := pcOuts_le ps (j + 1)
        rw [pcOuts_take ps j hlt, List.length_append] at h5
        exact hid (by omega)
      generalize gp ps j = q at *
      obtain ⟨k, n, s⟩ := q
      simp only at hpo CE
      have hp0 := h2 _ h1.here
      obtain ⟨r, hR⟩ : ∃ r, Hid (r = pcOuts (ps.drop (j + 1))) := ⟨_, hid rfl⟩
      rw [← hR.out] at hnl
      have h1d := Co.Rr.old h1 (Upd.drew (Upd.refl _ wr))
      rw [hl2.out, hnl.out] at h1d
      clear h1
      have h1 := h1d
      clear h1d
      by_cases hk1 : k = 1
      · have hb1 : (k == 1) = true := by simp [hk1]
        have hout' := (by simp [pcOut, hk1] : pcOut (k, n, s) = num n)
        rw [hout'] at h1
        clear hout'
        have hout : pcOut (k, n, s) = num n := by simp [pcOut, hk1]
        clear hk1 hout hnl
        have C := hid (rnumber_eq h1 (back_num n r hpo.1 hpo.2))
        clear h1
        obtain ⟨hx0, hx1, hx2⟩ := CE.out wr h3
        go_wp2_with (fail)
        clear hx0 hx1 hx2
        refine wp_region_held_drew (S := fun W => Below w.heap.size w W) (by kernel_rfl) (h3.trans ((Upd.drew (Upd.refl No wr)).old h3.size)) (fun hS => ?_)
        refine rg_at 0 (by decide) (fun oi hoi => ?_)
        have ho2 := hoi; simp only [List.getElem?_toArray, List.getElem?_cons_succ, List.getElem?_cons_zero, Option.some.injEq] at ho2; subst ho2
        refine rg_take (v := ?_) 0 hoi (by kernel_rfl) (by kernel_rfl) (by kernel_rfl) (fun _ _ _ h => h) (by rfl) ?_ hS ?_
        rotate_left
        · intro w _; go_simp; try with_reducible rfl
        clear hoi; try simp only [Act.put, List.setIfInBounds_toArray, List.set_cons_zero, List.set_cons_succ]
        refine rg_at 2 (by decide) (fun oi hoi => ?_)
        have ho2 := hoi; simp only [List.getElem?_toArray, List.getElem?_cons_succ, List.getElem?_cons_zero, Option.some.injEq] at ho2; subst ho2
        refine rg_take (v := ?_) 2 hoi (by kernel_rfl) (by kernel_rfl) (by kernel_rfl) (fun _ _ _ h => h) (by rfl) ?_ hS ?_
        rotate_left
        · intro w _; go_simp; try with_reducible rfl
        clear hoi; try simp only [Act.put, List.setIfInBounds_toArray, List.set_cons_zero, List.set_cons_succ]
        refine rg_at 3 (by decide) (fun oi hoi => ?_)
        have ho2 := hoi; simp only [List.getElem?_toArray, List.getElem?_cons_succ, List.getElem?_cons_zero, Option.some.injEq] at ho2; subst ho2
        refine rg_take (v := ?_) 3 hoi (by kernel_rfl) (by kernel_rfl) (by kernel_rfl) (fun _ _ _ h => h) (by rfl) ?_ hS ?_
        rotate_left
        · intro w _; go_simp; try with_reducible rfl
        clear hoi; try simp only [Act.put, List.setIfInBounds_toArray, List.set_cons_zero, List.set_cons_succ]
        refine rg_at 4 (by decide) (fun oi hoi => ?_)
        have ho2 := hoi; simp only [List.getElem?_toArray, List.getElem?_cons_succ, List.getElem?_cons_zero, Option.some.injEq] at ho2; subst ho2
        refine rg_take (v := ?_) 4 hoi (by kernel_rfl) (by kernel_rfl) (by kernel_rfl) (fun _ _ _ h => h) (by rfl) ?_ hS ?_
        rotate_left
        · intro w _; go_simp; try with_reducible rfl
        clear hoi; try simp only [Act.put, List.setIfInBounds_toArray, List.set_cons_zero, List.set_cons_succ]
        refine rg_at 5 (by decide) (fun oi hoi => ?_)
        have ho2 := hoi; simp only [List.getElem?_toArray, List.getElem?_cons_succ, List.getElem?_cons_zero, Option.some.injEq] at ho2; subst ho2
        refine rg_take (v := ?_) 5 hoi (by kernel_rfl) (by kernel_rfl) (by kernel_rfl) (fun _ _ _ h => h) (by rfl) ?_ hS ?_
        rotate_left
        · intro w _; go_simp; try with_reducible rfl
        clear hoi; try simp only [Act.put, List.setIfInBounds_toArray, List.set_cons_zero, List.set_cons_succ]
        refine rg_at 6 (by decide) (fun oi hoi => ?_)
        have ho2 := hoi; simp only [List.getElem?_toArray, List.getElem?_cons_succ, List.getElem?_cons_zero, Option.some.injEq] at ho2; subst ho2
        refine rg_take (v := ?_) 6 hoi (by kernel_rfl) (by kernel_rfl) (by kernel_rfl) (fun _ _ _ h => h) (by rfl) ?_ hS ?_
        rotate_left
        · intro w hw; have hf := (CE.out w hw).2.1; clear hw; go_simp; try with_reducible rfl
        clear hoi; try simp only [Act.put, List.setIfInBounds_toArray, List.set_cons_zero, List.set_cons_succ]
        refine rg_at 1 (by decide) (fun oi hoi => ?_)
        have ho2 := hoi; simp only [List.getElem?_toArray, List.getElem?_cons_succ, List.getElem?_cons_zero, Option.some.injEq] at ho2; subst ho2
        refine rg_call 1 (by kernel_rfl) hoi (by rfl) (fun K hK => ?_)
        clear hoi
        go_simp
        refine Calls.mono C.out ?_
        rintro e w5 ⟨rfl, A5, c5, h5, hu5⟩
        go_wp2_with (fail)
        refine hK.out _ _ (hS.trans (hu5.below hS.size (by rintro k rfl; exact hp0))) (fun hS => ?_)
        clear hK K
        try simp only [Act.put, List.setIfInBounds_toArray, List.set_cons_zero, List.set_cons_succ]
        refine rg_at 7 (by decide) (fun oi hoi => ?_)
        have ho2 := hoi; simp only [List.getElem?_toArray, List.getElem?_cons_succ, List.getElem?_cons_zero, Option.some.injEq] at ho2; subst ho2
        refine rg_take (v := ?_) 7 hoi (by kernel_rfl) (by kernel_rfl) (by kernel_rfl) (fun _ _ _ h => h) (by rfl) ?_ hS ?_
        rotate_left
        · intro w _; go_simp; try with_reducible rfl
        clear hoi; try simp only [Act.put, List.setIfInBounds_toArray, List.set_cons_zero, List.set_cons_succ]
        refine wpAnyH_done (by kernel_rfl) ?_ _
        have hat5 : Hid (At w.heap.size w p r w5) := hid ⟨F, A5, c5, h5, h2, hS⟩
        clear h5 hu5 hS h2 h3
        go_wp2
        go_roundw
        case rel => exact ⟨j + 1, r, by omega, by go_num, hR, hat5.out⟩
        case measure => simp [intOf]; omega
      · have hb1 : (k == 1) = false := by simp [hk1]
        by_cases hk2 : k = 2
        · have hb2 : (k == 2) = true := by simp [hk2]
          have hout' := (by simp [pcOut, hk2] : pcOut (k, n, s) = num (zz (wrap64 n)))
          rw [hout'] at h1
          clear hout'
          have hwz : 0 ≤ zz (wrap64 n) ∧ zz (wrap64 n) ≤ 18446744073709551615 := zz_range _ (by unfold wrap64; omega) (by unfold wrap64; omega)
          have CT := Cd.rint_eq h1 (back_num _ r hwz.1 hwz.2) (uz_zz (wrap64 n))
          obtain ⟨z, hz⟩ : ∃ z, wrap64 n = z := ⟨_, rfl⟩
          have hz2 : IntKind.i64.wrap n = z := by rw [← hz, IntKind.wrap_i64]; unfold wrap64; omega
          rw [hz] at CT
          clear hwz
          have hout : pcOut (k, n, s) = num (zz (wrap64 n)) := by simp [pcOut, hk2]
          clear hk1 hk2 hout hnl
          have C := hid (CT)
          clear h1
          obtain ⟨hx0, hx1, hx2⟩ := CE.out wr h3
          go_wp2_with (fail)
          clear hx0 hx1 hx2
          refine wp_region_held_drew (S := fun W => Below w.heap.size w W) (by kernel_rfl) (h3.trans ((Upd.drew (Upd.refl No wr)).old h3.size)) (fun hS => ?_)
          refine rg_at 0 (by decide) (fun oi hoi => ?_)
          have ho2 := hoi; simp only [List.getElem?_toArray, List.getElem?_cons_succ, List.getElem?_cons_zero, Option.some.injEq] at ho2; subst ho2
          refine rg_take (v := ?_) 0 hoi (by kernel_rfl) (by kernel_rfl) (by kernel_rfl) (fun _ _ _ h => h) (by rfl) ?_ hS ?_
          rotate_left
          · intro w _; go_simp; try with_reducible rfl
          clear hoi; try simp only [Act.put, List.setIfInBounds_toArray, List.set_cons_zero, List.set_cons_succ]
          refine rg_at 2 (by decide) (fun oi hoi => ?_)
          have ho2 := hoi; simp only [List.getElem?_toArray, List.getElem?_cons_succ, List.getElem?_cons_zero, Option.some.injEq] at ho2; subst ho2
          refine rg_take (v := ?_) 2 hoi (by kernel_rfl) (by kernel_rfl) (by kernel_rfl) (fun _ _ _ h => h) (by rfl) ?_ hS ?_
          rotate_left
          · intro w _; go_simp; try with_reducible rfl
          clear hoi; try simp only [Act.put, List.setIfInBounds_toArray, List.set_cons_zero, List.set_cons_succ]
          refine rg_at 3 (by decide) (fun oi hoi => ?_)
          have ho2 := hoi; simp only [List.getElem?_toArray, List.getElem?_cons_succ, List.getElem?_cons_zero, Option.some.injEq] at ho2; subst ho2
          refine rg_take (v := ?_) 3 hoi (by kernel_rfl) (by kernel_rfl) (by kernel_rfl) (fun _ _ _ h => h) (by rfl) ?_ hS ?_
          rotate_left
          · intro w _; go_simp; try with_reducible rfl
          clear hoi; try simp only [Act.put, List.setIfInBounds_toArray, List.set_cons_zero, List.set_cons_succ]
          refine rg_at 4 (by decide) (fun oi hoi => ?_)
          have ho2 := hoi; simp only [List.getElem?_toArray, List.getElem?_cons_succ, List.getElem?_cons_zero, Option.some.injEq] at ho2; subst ho2
          refine rg_take (v := ?_) 4 hoi (by kernel_rfl) (by kernel_rfl) (by kernel_rfl) (fun _ _ _ h => h) (by rfl) ?_ hS ?_
          rotate_left
          · intro w _; go_simp; try with_reducible rfl
          clear hoi; try simp only [Act.put, List.setIfInBounds_toArray, List.set_cons_zero, List.set_cons_succ]
          refine rg_at 5 (by decide) (fun oi hoi => ?_)
          have ho2 := hoi; simp only [List.getElem?_toArray, List.getElem?_cons_succ, List.getElem?_cons_zero, Option.some.injEq] at ho2; subst ho2
          refine rg_take (v := ?_) 5 hoi (by kernel_rfl) (by kernel_rfl) (by kernel_rfl) (fun _ _ _ h => h) (by rfl) ?_ hS ?_
          rotate_left
          · intro w _; go_simp; try with_reducible rfl
          clear hoi; try simp only [Act.put, List.setIfInBounds_toArray, List.set_cons_zero, List.set_cons_succ]
          refine rg_at 6 (by decide) (fun oi hoi => ?_)
          have ho2 := hoi; simp only [List.getElem?_toArray, List.getElem?_cons_succ, List.getElem?_cons_zero, Option.some.injEq] at ho2; subst ho2
          refine rg_take (v := ?_) 6 hoi (by kernel_rfl) (by kernel_rfl) (by kernel_rfl) (fun _ _ _ h => h) (by rfl) ?_ hS ?_
          rotate_left
          · intro w hw; have hf := (CE.out w hw).2.1; clear hw; go_simp; try with_reducible rfl
          clear hoi; try simp only [Act.put, List.setIfInBounds_toArray, List.set_cons_zero, List.set_cons_succ]
          refine rg_at 7 (by decide) (fun oi hoi => ?_)
          have ho2 := hoi; simp only [List.getElem?_toArray, List.getElem?_cons_succ, List.getElem?_cons_zero, Option.some.injEq] at ho2; subst ho2
          refine rg_take (v := ?_) 7 hoi (by kernel_rfl) (by kernel_rfl) (by kernel_rfl) (fun _ _ _ h => h) (by rfl) ?_ hS ?_
          rotate_left
          · intro w _; go_simp; try with_reducible rfl
          clear hoi; try simp only [Act.put, List.setIfInBounds_toArray, List.set_cons_zero, List.set_cons_succ]
          refine rg_at 1 (by decide) (fun oi hoi => ?_)
          have ho2 := hoi; simp only [List.getElem?_toArray, List.getElem?_cons_succ, List.getElem?_cons_zero, Option.some.injEq] at ho2; subst ho2
          refine rg_call 1 (by kernel_rfl) hoi (by rfl) (fun K hK => ?_)
          clear hoi
          go_simp
          refine Calls.mono C.out ?_
          rintro e w5 ⟨rfl, A5, c5, h5, hu5⟩
          go_wp2_with (fail)
          refine hK.out _ _ (hS.trans (hu5.below hS.size (by rintro k rfl; exact hp0))) (fun hS => ?_)
          clear hK K
          try simp only [Act.put, List.setIfInBounds_toArray, List.set_cons_zero, List.set_cons_succ]
          refine rg_at 8 (by decide) (fun oi hoi => ?_)
          have ho2 := hoi; simp only [List.getElem?_toArray, List.getElem?_cons_succ, List.getElem?_cons_zero, Option.some.injEq] at ho2; subst ho2
          refine rg_take (v := ?_) 8 hoi (by kernel_rfl) (by kernel_rfl) (by kernel_rfl) (fun _ _ _ h => h) (by rfl) ?_ hS ?_
          rotate_left
          · intro w _; go_simp; try with_reducible rfl
          clear hoi; try simp only [Act.put, List.setIfInBounds_toArray, List.set_cons_zero, List.set_cons_succ]
          refine wpAnyH_done (by kernel_rfl) ?_ _
          have hat5 : Hid (At w.heap.size w p r w5) := hid ⟨F, A5, c5, h5, h2, hS⟩
          clear h5 hu5 hS h2 h3
          go_wp2
          go_roundw
          case rel => exact ⟨j + 1, r, by omega, by go_num, hR, hat5.out⟩
          case measure => simp [intOf]; omega
        · have hb2 : (k == 2) = false := by simp [hk2]
          have hout' := (by simp [pcOut, hk1, hk2] : pcOut (k, n, s) = num s.size ++ sb s)
          rw [hout'] at h1
          clear hout'
          have hss : s.size ≤ 18446744073709551615 := by
            have hsl := sb_length s
            have hq3 := hq2.out
            rw [show pcOut (k, n, s) = num s.size ++ sb s from by simp [pcOut, hk1, hk2], List.length_append] at hq3
            omega
          have CT := Cd.rtext_eq h1 (back_text s r hss)
          rw [sb_str] at CT
          have hout : pcOut (k, n, s) = num s.size ++ sb s := by simp [pcOut, hk1, hk2]
          clear hk1 hk2 hout hnl
          have C := hid (CT)
          clear h1
          obtain ⟨hx0, hx1, hx2⟩ := CE.out wr h3
          go_wp2_with (fail)
          clear hx0 hx1 hx2
          refine wp_region_held_drew (S := fun W => Below w.heap.size w W) (by kernel_rfl) (h3.trans ((Upd.drew (Upd.refl No wr)).old h3.size)) (fun hS => ?_)
          refine rg_at 0 (by decide) (fun oi hoi => ?_)
          have ho2 := hoi; simp only [List.getElem?_toArray, List.getElem?_cons_succ, List.getElem?_cons_zero, Option.some.injEq] at ho2; subst ho2
          refine rg_take (v := ?_) 0 hoi (by kernel_rfl) (by kernel_rfl) (by kernel_rfl) (fun _ _ _ h => h) (by rfl) ?_ hS ?_
          rotate_left
          · intro w _; go_simp; try with_reducible rfl
          clear hoi; try simp only [Act.put, List.setIfInBounds_toArray, List.set_cons_zero, List.set_cons_succ]
          refine rg_at 2 (by decide) (fun oi hoi => ?_)
          have ho2 := hoi; simp only [List.getElem?_toArray, List.getElem?_cons_succ, List.getElem?_cons_zero, Option.some.injEq] at ho2; subst ho2
          refine rg_take (v := ?_) 2 hoi (by kernel_rfl) (by kernel_rfl) (by kernel_rfl) (fun _ _ _ h => h) (by rfl) ?_ hS ?_
          rotate_left
          · intro w _; go_simp; try with_reducible rfl
          clear hoi; try simp only [Act.put, List.setIfInBounds_toArray, List.set_cons_zero, List.set_cons_succ]
          refine rg_at 3 (by decide) (fun oi hoi => ?_)
          have ho2 := hoi; simp only [List.getElem?_toArray, List.getElem?_cons_succ, List.getElem?_cons_zero, Option.some.injEq] at ho2; subst ho2
          refine rg_take (v := ?_) 3 hoi (by kernel_rfl) (by kernel_rfl) (by kernel_rfl) (fun _ _ _ h => h) (by rfl) ?_ hS ?_
          rotate_left
          · intro w _; go_simp; try with_reducible rfl
          clear hoi; try simp only [Act.put, List.setIfInBounds_toArray, List.set_cons_zero, List.set_cons_succ]
          refine rg_at 4 (by decide) (fun oi hoi => ?_)
          have ho2 := hoi; simp only [List.getElem?_toArray, List.getElem?_cons_succ, List.getElem?_cons_zero, Option.some.injEq] at ho2; subst ho2
          refine rg_take (v := ?_) 4 hoi (by kernel_rfl) (by kernel_rfl) (by kernel_rfl) (fun _ _ _ h => h) (by rfl) ?_ hS ?_
          rotate_left
          · intro w _; go_simp; try with_reducible rfl
          clear hoi; try simp only [Act.put, List.setIfInBounds_toArray, List.set_cons_zero, List.set_cons_succ]
          refine rg_at 5 (by decide) (fun oi hoi => ?_)
          have ho2 := hoi; simp only [List.getElem?_toArray, List.getElem?_cons_succ, List.getElem?_cons_zero, Option.some.injEq] at ho2; subst ho2
          refine rg_take (v := ?_) 5 hoi (by kernel_rfl) (by kernel_rfl) (by kernel_rfl) (fun _ _ _ h => h) (by rfl) ?_ hS ?_
          rotate_left
          · intro w _; go_simp; try with_reducible rfl
          clear hoi; try simp only [Act.put, List.setIfInBounds_toArray, List.set_cons_zero, List.set_cons_succ]
          refine rg_at 6 (by decide) (fun oi hoi => ?_)
          have ho2 := hoi; simp only [List.getElem?_toArray, List.getElem?_cons_succ, List.getElem?_cons_zero, Option.some.injEq] at ho2; subst ho2
          refine rg_take (v := ?_) 6 hoi (by kernel_rfl) (by kernel_rfl) (by kernel_rfl) (fun _ _ _ h => h) (by rfl) ?_ hS ?_
          rotate_left
          · intro w hw; have hf := (CE.out w hw).2.2; clear hw; go_simp; try with_reducible rfl
          clear hoi; try simp only [Act.put, List.setIfInBounds_toArray, List.set_cons_zero, List.set_cons_succ]
          refine rg_at 1 (by decide) (fun oi hoi => ?_)
          have ho2 := hoi; simp only [List.getElem?_toArray, List.getElem?_cons_succ, List.getElem?_cons_zero, Option.some.injEq] at ho2; subst ho2
          refine rg_call 1 (by kernel_rfl) hoi (by rfl) (fun K hK => ?_)
          clear hoi
          go_simp
          refine Calls.mono C.out ?_
          rintro e w5 ⟨rfl, A5, c5, h5, hu5⟩
          go_wp2_with (fail)
          refine hK.out _ _ (hS.trans (hu5.below hS.size (by rintro k rfl; exact hp0))) (fun hS => ?_)
          clear hK K
          try simp only [Act.put, List.setIfInBounds_toArray, List.set_cons_zero, List.set_cons_succ]
          refine rg_at 7 (by decide) (fun oi hoi => ?_)
          have ho2 := hoi; simp only [List.getElem?_toArray, List.getElem?_cons_succ, List.getElem?_cons_zero, Option.some.injEq] at ho2; subst ho2
          refine rg_take (v := ?_) 7 hoi (by kernel_rfl) (by kernel_rfl) (by kernel_rfl) (fun _ _ _ h => h) (by rfl) ?_ hS ?_
          rotate_left
          · intro w _; go_simp; try with_reducible rfl
          clear hoi; try simp only [Act.put, List.setIfInBounds_toArray, List.set_cons_zero, List.set_cons_succ]
          refine wpAnyH_done (by kernel_rfl) ?_ _
          have hat5 : Hid (At w.heap.size w p r w5) := hid ⟨F, A5, c5, h5, h2, hS⟩
          clear h5 hu5 hS h2 h3
          go_wp2
          go_roundw
          case rel => exact ⟨j + 1, r, by omega, by go_num, hR, hat5.out⟩
          case measure => simp [intOf]; omega
    · obtain rfl : j = ps.length := by omega
      obtain rfl : l = [] := by rw [hl2.out, List.drop_length]; rfl
      go_wp2_with (fail)
      refine (end_ _ _ _ _ _ _ h1.blk).mono ?_
      rintro e w' ⟨rfl, rfl⟩
      go_wp2_with (fail)
      refine (bad _ _ _ _ h1.blk).mono ?_
      rintro e w' ⟨rfl, rfl⟩
      go_wp2_with (fail)
      refine (left _ _ _ _ _ _ h1.blk).mono ?_
      rintro e w' ⟨rfl, rfl⟩
      go_wp2
      go_ret
      exact ⟨rfl, h3⟩
end Go.Proofs.Ytlghblpkgmajeaa.Cb
