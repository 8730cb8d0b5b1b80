/-
  The walk of Encode of the reference's queue.
-/
import Derived.Test.YtlicimkpgnemeaaRl
import Derived.Test.YtlicimkpgnemeaaCq
set_option linter.unusedVariables false
set_option linter.unusedSimpArgs false
namespace Go.Proofs.Ytlicimkpgnemeaa.Nd
open Go.RowKit Go.Proofs.Ytlicimkpgnemeaa Go.Proofs.Ytlicimkpgnemeaa.B Go.Proofs.Ytlicimkpgnemeaa.Op Go.Proofs.Ytlicimkpgnemeaa.Cm
open Go.Proofs.Ytlicimkpgnemeaa.Cq (Ob Ow Post)
open Go.Proofs.Ytlicimkpgnemeaa.Cw (zz)
/-- Bytes of the call's own. -/
structure Wb (w W : World) (v : Value) (bs : List Int) : Prop where
  ob : Ob W v bs
  own : ∀ k, Ow v k → w.heap.size ≤ k
  upd : Upd No w W
theorem Wb.moved {w W W' : World} {v v' : Value} {bs cs : List Int} (h : Wb w W v bs) (ho : Ob W' v' cs) (hm : Mv (Ow v) (Ow v') W W') : Wb w W' v' cs :=
  ⟨ho, fun k hk => (hm.sub k hk).elim (h.own k) fun hs => Nat.le_trans h.upd.size hs, h.upd.trans hm.upd fun i hi hf => by have := h.own i hf; omega⟩
theorem Wb.nil (w : World) : Wb w w (.slice none 0 0) [] := ⟨Cq.Ob.nil _, fun k h => by simp [Ow, Value.ownBlock] at h, Upd.refl _ _⟩
theorem Wb.quiet {w W W' : World} {v : Value} {bs : List Int} (h : Wb w W v bs) (hu : Upd No W W') : Wb w W' v bs := ⟨h.ob.keep hu fun _ _ => no_ _, h.own, h.upd.next hu⟩
set_option maxHeartbeats 4000000 in
set_option maxRecDepth 100000 in
theorem rencode_ {w : World} {F : Nat → Prop} {q0 : Nat} {x : List Rm} (h : Wq w F q0 x) (hok : Inv x) :
    Calls Try.prog 21 #[.pointer (some ⟨q0, 0, none⟩)] w fun e w' => EnOut w (encQ x) e w' := by
  have hlx := hok.len
  obtain ⟨A, k, hc, hrd, hk1, hk2⟩ := h.cell
  simp only [maxLen] at hk2
  have HC : Hid (∀ W, Upd No w W → W.cell? ⟨q0, 0, none⟩ = some (.slice A x.length k) ∧ Rd W 5 A x.length (x.flatMap rc)) := hid fun W hu => by
    obtain ⟨A', k', hb1, _⟩ := h.parts
    have h0 := hb1.cell 0
    simp at h0
    rw [h0] at hc
    injection hc with hc
    rw [hc] at hb1
    have h1 := (hb1.upd hu (no_ _)).cell 0
    simp at h1
    exact ⟨h1, Rd.upd hrd (by omega) hu fun _ _ => no_ _⟩
  have HE : Hid (encQ x = num (x.length : Int) ++ x.flatMap encR) := hid rfl
  have HL : Hid ((∀ j, ((x.take j).flatMap encR).length ≤ 8000) ∧ (num (x.length : Int)).length ≤ 9) := hid ⟨encQ_take_le hok, (num_length _).2⟩
  have HO := hid hok
  have hwn : IntKind.u64.wrap (x.length : Int) = (x.length : Int) := by
    rw [IntKind.wrap_u64]
    omega
  clear h hok hc hrd
  have y0 := (HC.out w (Upd.refl _ _)).1
  have HN1 := hid (Cq.number (.slice none 0 0) [] (x.length : Int) w (Cq.Ob.nil _) (by omega) (by omega) (by simp))
  go_enter Try.func21, Try.ntmps21
  go_wp2_with (fail)
  refine Calls.mono HN1.out ?_
  rintro e w2 ⟨v2, rfl, ho2, hm2⟩
  have HO2 := hid ((Wb.nil w).moved ho2 hm2)
  rw [List.nil_append] at HO2
  clear ho2 hm2 hwn y0 HN1
  have y0 := (HC.out w2 HO2.out.upd).1
  go_wp2_with (fail)
  clear y0
  go_loopw [3, 18] (fun v3 v18 W => ∃ (j : Nat) (cs : List Int), j ≤ x.length ∧ v18 = .int .i64 j ∧ Hid (cs = num (x.length : Int) ++ (x.take j).flatMap encR) ∧ Hid (Wb w W v3 cs)) (fun _ v18 _ => x.length - (intOf v18).toNat)
  case atStart => exact ⟨0, _, by omega, rfl, hid (by simp), HO2⟩
  case round =>
    clear HO2
    obtain ⟨j, cs, hj, rfl, HCs, HW⟩ := hrel
    by_cases hlt : j < x.length
    · obtain ⟨ad, rfl, hat⟩ := rm_at (HC.out wr HW.out.upd).2 hlt
      have y0 := (HC.out wr HW.out.upd).1
      have hor := HO.out.ok _ (List.getElem_mem hlt)
      have HT : Hid ((x.take (j + 1)).flatMap encR = (x.take j).flatMap encR ++ encR x[j]) := hid (enc_take hlt)
      generalize x[j] = r at *
      have h5 := hor.r
      have hd := hor.d
      have hp := hor.p
      have hk := hor.k
      unfold I64 at hd hp hk
      obtain ⟨ra, rn, rd, rp, rk⟩ := r
      obtain ⟨x0, x1, x2, x3, x4⟩ := hat
      simp only at x0 x1 x2 x3 x4 h5 hd hp hk
      have hj1 : (0 : Int) ≤ (j : Int) := by omega
      have hj2 : (j : Int) < (x.length : Int) := by omega
      have hb1 : cs.length ≤ 9000 := by
        have h1 := HL.out.1 j
        have h2 := HL.out.2
        rw [HCs.out, List.length_append]
        omega
      obtain ⟨v3, hv3⟩ : ∃ v3, v3 = u3 := ⟨_, rfl⟩
      have hnl : ∀ n : Int, (num n).length ≤ 9 := fun n => (num_length n).2
      have hsa := sb_length ra
      have hsn := sb_length rn
      obtain ⟨c6, hc6⟩ : ∃ c6, c6 = cs ++ num ra.size ++ sb ra := ⟨_, rfl⟩
      have hl6 : c6.length ≤ 9100 := by rw [hc6]; simp only [List.length_append]; have := hnl ra.size; omega
      obtain ⟨c7, hc7⟩ : ∃ c7, c7 = c6 ++ num rn.size ++ sb rn := ⟨_, rfl⟩
      have hl7 : c7.length ≤ 9200 := by rw [hc7]; simp only [List.length_append]; have := hnl rn.size; omega
      obtain ⟨c8, hc8⟩ : ∃ c8, c8 = c7 ++ num (zz rd) := ⟨_, rfl⟩
      have hl8 : c8.length ≤ 9300 := by rw [hc8]; simp only [List.length_append]; have := hnl (zz rd); omega
      obtain ⟨c9, hc9⟩ : ∃ c9, c9 = c8 ++ num (zz rp) := ⟨_, rfl⟩
      have hl9 : c9.length ≤ 9400 := by rw [hc9]; simp only [List.length_append]; have := hnl (zz rp); omega
      obtain ⟨c10, hc10⟩ : ∃ c10, c10 = c9 ++ num (zz rk) := ⟨_, rfl⟩
      have HD := hid (show c10 = num (x.length : Int) ++ (x.take (j + 1)).flatMap encR by
        rw [hc10, hc9, hc8, hc7, hc6, HCs.out, HT.out]
        simp [encR])
      have HT1 := hid fun (W : World) (v : Value) (ho : Ob W v cs) => Cq.text_ v cs ra W ho (by omega)
      have HT2 := hid fun (W : World) (v : Value) (ho : Ob W v c6) => Cq.text_ v c6 rn W ho (by omega)
      have HT3 := hid fun (W : World) (v : Value) (ho : Ob W v c7) => Cq.int_ v c7 rd W ho hd.1 hd.2 (by omega)
      have HT4 := hid fun (W : World) (v : Value) (ho : Ob W v c8) => Cq.int_ v c8 rp W ho hp.1 hp.2 (by omega)
      have HT5 := hid fun (W : World) (v : Value) (ho : Ob W v c9) => Cq.int_ v c9 rk W ho hk.1 hk.2 (by omega)
      rw [← hc6] at HT1
      rw [← hc7] at HT2
      rw [← hc8] at HT3
      rw [← hc9] at HT4
      rw [← hc10] at HT5
      have hw5 := HW.out.quiet ((Upd.refl No wr).alloc (.cells #[.string ra, .string rn, .int .i64 rd, .int .i64 rp, .int .i64 rk] 27))
      have hbx : Blk (wr.alloc (.cells #[.string ra, .string rn, .int .i64 rd, .int .i64 rp, .int .i64 rk] 27)) wr.heap.size 27 #[.string ra, .string rn, .int .i64 rd, .int .i64 rp, .int .i64 rk] ∧ ¬ Ow u3 wr.heap.size := ⟨Blk.fresh _ _ _, fun hf => by have := HW.out.ob.lt _ hf; omega⟩
      obtain ⟨p5, hp5⟩ : ∃ p5, p5 = wr.heap.size := ⟨_, rfl⟩
      obtain ⟨W5, hW5⟩ : ∃ W5, W5 = wr.alloc (.cells #[.string ra, .string rn, .int .i64 rd, .int .i64 rp, .int .i64 rk] 27) := ⟨_, rfl⟩
      rw [← hW5] at hw5
      rw [← hW5, ← hp5] at hbx
      have HW5 := hid (hw5.quiet (Upd.refl No W5).drew)
      have HB5 := hid (And.intro (hbx.1.upd (Upd.refl No W5).drew (no_ _)) hbx.2)
      clear hw5 hbx hc6 hc7 hc8 hc9 hc10 hor HT HCs h5
      go_wp2_with (fail)
      try rw [← hW5]
      try rw [← hp5]
      clear hW5 hp5 x0 x1 x2 x3 x4 y0
      refine wp_region_held_drew (S := fun W => Blk W p5 27 #[.string ra, .string rn, .int .i64 rd, .int .i64 rp, .int .i64 rk]) (by kernel_rfl) HB5.out.1 (fun hS => ?_)
      refine rg_at 0 (by decide) (fun oi hoi => ?_)
      have ho2 := hoi; simp only [List.getElem?_toArray, List.getElem?_cons_succ, List.getElem?_cons_zero, Option.some.injEq] at ho2; subst ho2
      refine rg_take (v := ?_) 0 hoi (by kernel_rfl) (by kernel_rfl) (by kernel_rfl) (fun _ _ _ h => h) (by rfl) ?_ hS ?_
      rotate_left
      · intro w _; go_simp; try with_reducible rfl
      clear hoi; try simp only [Act.put, List.setIfInBounds_toArray, List.set_cons_zero, List.set_cons_succ]
      refine rg_at 1 (by decide) (fun oi hoi => ?_)
      have ho2 := hoi; simp only [List.getElem?_toArray, List.getElem?_cons_succ, List.getElem?_cons_zero, Option.some.injEq] at ho2; subst ho2
      refine rg_take (v := ?_) 1 hoi (by kernel_rfl) (by kernel_rfl) (by kernel_rfl) (fun _ _ _ h => h) (by rfl) ?_ hS ?_
      rotate_left
      · intro w _; go_simp; try with_reducible rfl
      clear hoi; try simp only [Act.put, List.setIfInBounds_toArray, List.set_cons_zero, List.set_cons_succ]
      refine rg_at 2 (by decide) (fun oi hoi => ?_)
      have ho2 := hoi; simp only [List.getElem?_toArray, List.getElem?_cons_succ, List.getElem?_cons_zero, Option.some.injEq] at ho2; subst ho2
      refine rg_take (v := ?_) 2 hoi (by kernel_rfl) (by kernel_rfl) (by kernel_rfl) (fun _ _ _ h => h) (by rfl) ?_ hS ?_
      rotate_left
      · intro w hw; have hf := (box5 hw).1; clear hw; go_simp; try with_reducible rfl
      clear hoi; try simp only [Act.put, List.setIfInBounds_toArray, List.set_cons_zero, List.set_cons_succ]
      refine rg_at 4 (by decide) (fun oi hoi => ?_)
      have ho2 := hoi; simp only [List.getElem?_toArray, List.getElem?_cons_succ, List.getElem?_cons_zero, Option.some.injEq] at ho2; subst ho2
      refine rg_take (v := ?_) 4 hoi (by kernel_rfl) (by kernel_rfl) (by kernel_rfl) (fun _ _ _ h => h) (by rfl) ?_ hS ?_
      rotate_left
      · intro w _; go_simp; try with_reducible rfl
      clear hoi; try simp only [Act.put, List.setIfInBounds_toArray, List.set_cons_zero, List.set_cons_succ]
      refine rg_at 5 (by decide) (fun oi hoi => ?_)
      have ho2 := hoi; simp only [List.getElem?_toArray, List.getElem?_cons_succ, List.getElem?_cons_zero, Option.some.injEq] at ho2; subst ho2
      refine rg_take (v := ?_) 5 hoi (by kernel_rfl) (by kernel_rfl) (by kernel_rfl) (fun _ _ _ h => h) (by rfl) ?_ hS ?_
      rotate_left
      · intro w hw; have hf := (box5 hw).2.1; clear hw; go_simp; try with_reducible rfl
      clear hoi; try simp only [Act.put, List.setIfInBounds_toArray, List.set_cons_zero, List.set_cons_succ]
      refine rg_at 3 (by decide) (fun oi hoi => ?_)
      have ho2 := hoi; simp only [List.getElem?_toArray, List.getElem?_cons_succ, List.getElem?_cons_zero, Option.some.injEq] at ho2; subst ho2
      refine rg_call 3 (by kernel_rfl) hoi (by rfl) (fun K hK => ?_)
      clear hoi
      go_simp
      refine Calls.mono (HT1.out _ _ HW5.out.ob) ?_
      rintro e w6 ⟨v6, rfl, ho6, hm6⟩
      have hb6 := box_moved HB5.out hm6
      have hw6 := HW5.out.moved ho6 hm6
      go_wp2_with (fail)
      refine hK.out _ _ ((by exact hb6.1)) (fun hS => ?_)
      clear hK K
      try simp only [Act.put, List.setIfInBounds_toArray, List.set_cons_zero, List.set_cons_succ]
      refine rg_at 6 (by decide) (fun oi hoi => ?_)
      have ho2 := hoi; simp only [List.getElem?_toArray, List.getElem?_cons_succ, List.getElem?_cons_zero, Option.some.injEq] at ho2; subst ho2
      refine rg_call 6 (by kernel_rfl) hoi (by rfl) (fun K hK => ?_)
      clear hoi
      go_simp
      refine Calls.mono (HT2.out _ _ hw6.ob) ?_
      rintro e w7 ⟨v7, rfl, ho7, hm7⟩
      have hb7 := box_moved hb6 hm7
      have hw7 := hw6.moved ho7 hm7
      go_wp2_with (fail)
      refine hK.out _ _ ((by exact hb7.1)) (fun hS => ?_)
      clear hK K
      try simp only [Act.put, List.setIfInBounds_toArray, List.set_cons_zero, List.set_cons_succ]
      refine rg_at 7 (by decide) (fun oi hoi => ?_)
      have ho2 := hoi; simp only [List.getElem?_toArray, List.getElem?_cons_succ, List.getElem?_cons_zero, Option.some.injEq] at ho2; subst ho2
      refine rg_take (v := ?_) 7 hoi (by kernel_rfl) (by kernel_rfl) (by kernel_rfl) (fun _ _ _ h => h) (by rfl) ?_ hS ?_
      rotate_left
      · intro w _; go_simp; try with_reducible rfl
      clear hoi; try simp only [Act.put, List.setIfInBounds_toArray, List.set_cons_zero, List.set_cons_succ]
      refine wpAnyH_done (by kernel_rfl) ?_ _
      have HW7 := hid (hw7.quiet (Upd.refl No w7).drew)
      have HB7 := hid (And.intro (hb7.1.upd (Upd.refl No w7).drew (no_ _)) hb7.2)
      clear hS ho6 hm6 hb6 hw6 ho7 hm7 hb7 hw7 HT1 HT2 HB5 HW5
      go_wp2_with (fail)
      refine wp_region_held_drew (S := fun W => Blk W p5 27 #[.string ra, .string rn, .int .i64 rd, .int .i64 rp, .int .i64 rk]) (by kernel_rfl) HB7.out.1 (fun hS => ?_)
      refine rg_at 0 (by decide) (fun oi hoi => ?_)
      have ho2 := hoi; simp only [List.getElem?_toArray, List.getElem?_cons_succ, List.getElem?_cons_zero, Option.some.injEq] at ho2; subst ho2
      refine rg_take (v := ?_) 0 hoi (by kernel_rfl) (by kernel_rfl) (by kernel_rfl) (fun _ _ _ h => h) (by rfl) ?_ hS ?_
      rotate_left
      · intro w _; go_simp; try with_reducible rfl
      clear hoi; try simp only [Act.put, List.setIfInBounds_toArray, List.set_cons_zero, List.set_cons_succ]
      refine rg_at 1 (by decide) (fun oi hoi => ?_)
      have ho2 := hoi; simp only [List.getElem?_toArray, List.getElem?_cons_succ, List.getElem?_cons_zero, Option.some.injEq] at ho2; subst ho2
      refine rg_take (v := ?_) 1 hoi (by kernel_rfl) (by kernel_rfl) (by kernel_rfl) (fun _ _ _ h => h) (by rfl) ?_ hS ?_
      rotate_left
      · intro w _; go_simp; try with_reducible rfl
      clear hoi; try simp only [Act.put, List.setIfInBounds_toArray, List.set_cons_zero, List.set_cons_succ]
      refine rg_at 2 (by decide) (fun oi hoi => ?_)
      have ho2 := hoi; simp only [List.getElem?_toArray, List.getElem?_cons_succ, List.getElem?_cons_zero, Option.some.injEq] at ho2; subst ho2
      refine rg_take (v := ?_) 2 hoi (by kernel_rfl) (by kernel_rfl) (by kernel_rfl) (fun _ _ _ h => h) (by rfl) ?_ hS ?_
      rotate_left
      · intro w hw; have hf := (box5 hw).2.2.1; clear hw; go_simp; try with_reducible rfl
      clear hoi; try simp only [Act.put, List.setIfInBounds_toArray, List.set_cons_zero, List.set_cons_succ]
      refine rg_at 4 (by decide) (fun oi hoi => ?_)
      have ho2 := hoi; simp only [List.getElem?_toArray, List.getElem?_cons_succ, List.getElem?_cons_zero, Option.some.injEq] at ho2; subst ho2
      refine rg_take (v := ?_) 4 hoi (by kernel_rfl) (by kernel_rfl) (by kernel_rfl) (fun _ _ _ h => h) (by rfl) ?_ hS ?_
      rotate_left
      · intro w _; go_simp; try with_reducible rfl
      clear hoi; try simp only [Act.put, List.setIfInBounds_toArray, List.set_cons_zero, List.set_cons_succ]
      refine rg_at 5 (by decide) (fun oi hoi => ?_)
      have ho2 := hoi; simp only [List.getElem?_toArray, List.getElem?_cons_succ, List.getElem?_cons_zero, Option.some.injEq] at ho2; subst ho2
      refine rg_take (v := ?_) 5 hoi (by kernel_rfl) (by kernel_rfl) (by kernel_rfl) (fun _ _ _ h => h) (by rfl) ?_ hS ?_
      rotate_left
      · intro w hw; have hf := (box5 hw).2.2.2.1; clear hw; go_simp; try with_reducible rfl
      clear hoi; try simp only [Act.put, List.setIfInBounds_toArray, List.set_cons_zero, List.set_cons_succ]
      refine rg_at 7 (by decide) (fun oi hoi => ?_)
      have ho2 := hoi; simp only [List.getElem?_toArray, List.getElem?_cons_succ, List.getElem?_cons_zero, Option.some.injEq] at ho2; subst ho2
      refine rg_take (v := ?_) 7 hoi (by kernel_rfl) (by kernel_rfl) (by kernel_rfl) (fun _ _ _ h => h) (by rfl) ?_ hS ?_
      rotate_left
      · intro w _; go_simp; try with_reducible rfl
      clear hoi; try simp only [Act.put, List.setIfInBounds_toArray, List.set_cons_zero, List.set_cons_succ]
      refine rg_at 8 (by decide) (fun oi hoi => ?_)
      have ho2 := hoi; simp only [List.getElem?_toArray, List.getElem?_cons_succ, List.getElem?_cons_zero, Option.some.injEq] at ho2; subst ho2
      refine rg_take (v := ?_) 8 hoi (by kernel_rfl) (by kernel_rfl) (by kernel_rfl) (fun _ _ _ h => h) (by rfl) ?_ hS ?_
      rotate_left
      · intro w hw; have hf := (box5 hw).2.2.2.2; clear hw; go_simp; try with_reducible rfl
      clear hoi; try simp only [Act.put, List.setIfInBounds_toArray, List.set_cons_zero, List.set_cons_succ]
      refine rg_at 3 (by decide) (fun oi hoi => ?_)
      have ho2 := hoi; simp only [List.getElem?_toArray, List.getElem?_cons_succ, List.getElem?_cons_zero, Option.some.injEq] at ho2; subst ho2
      refine rg_call 3 (by kernel_rfl) hoi (by rfl) (fun K hK => ?_)
      clear hoi
      go_simp
      refine Calls.mono (HT3.out _ _ HW7.out.ob) ?_
      rintro e w8 ⟨v8, rfl, ho8, hm8⟩
      have hb8 := box_moved HB7.out hm8
      have hw8 := HW7.out.moved ho8 hm8
      go_wp2_with (fail)
      refine hK.out _ _ ((by exact hb8.1)) (fun hS => ?_)
      clear hK K
      try simp only [Act.put, List.setIfInBounds_toArray, List.set_cons_zero, List.set_cons_succ]
      refine rg_at 6 (by decide) (fun oi hoi => ?_)
      have ho2 := hoi; simp only [List.getElem?_toArray, List.getElem?_cons_succ, List.getElem?_cons_zero, Option.some.injEq] at ho2; subst ho2
      refine rg_call 6 (by kernel_rfl) hoi (by rfl) (fun K hK => ?_)
      clear hoi
      go_simp
      refine Calls.mono (HT4.out _ _ hw8.ob) ?_
      rintro e w9 ⟨v9, rfl, ho9, hm9⟩
      have hb9 := box_moved hb8 hm9
      have hw9 := hw8.moved ho9 hm9
      go_wp2_with (fail)
      refine hK.out _ _ ((by exact hb9.1)) (fun hS => ?_)
      clear hK K
      try simp only [Act.put, List.setIfInBounds_toArray, List.set_cons_zero, List.set_cons_succ]
      refine rg_at 9 (by decide) (fun oi hoi => ?_)
      have ho2 := hoi; simp only [List.getElem?_toArray, List.getElem?_cons_succ, List.getElem?_cons_zero, Option.some.injEq] at ho2; subst ho2
      refine rg_call 9 (by kernel_rfl) hoi (by rfl) (fun K hK => ?_)
      clear hoi
      go_simp
      refine Calls.mono (HT5.out _ _ hw9.ob) ?_
      rintro e w10 ⟨v10, rfl, ho10, hm10⟩
      have hb10 := box_moved hb9 hm10
      have hw10 := hw9.moved ho10 hm10
      go_wp2_with (fail)
      refine hK.out _ _ ((by exact hb10.1)) (fun hS => ?_)
      clear hK K
      try simp only [Act.put, List.setIfInBounds_toArray, List.set_cons_zero, List.set_cons_succ]
      refine rg_at 10 (by decide) (fun oi hoi => ?_)
      have ho2 := hoi; simp only [List.getElem?_toArray, List.getElem?_cons_succ, List.getElem?_cons_zero, Option.some.injEq] at ho2; subst ho2
      refine rg_take (v := ?_) 10 hoi (by kernel_rfl) (by kernel_rfl) (by kernel_rfl) (fun _ _ _ h => h) (by rfl) ?_ hS ?_
      rotate_left
      · intro w _; go_simp; try with_reducible rfl
      clear hoi; try simp only [Act.put, List.setIfInBounds_toArray, List.set_cons_zero, List.set_cons_succ]
      refine wpAnyH_done (by kernel_rfl) ?_ _
      have HW10 := hid hw10
      clear hS ho8 hm8 hb8 hw8 ho9 hm9 hb9 hw9 ho10 hm10 hb10 hw10 HT3 HT4 HT5 HB7 HW7
      go_wp2
      go_roundw
      case rel => exact ⟨j + 1, c10, by omega, by go_num, HD, HW10⟩
      case measure => simp [intOf]; omega
    · obtain rfl : j = x.length := by omega
      obtain ⟨A3, c3, rfl, hcc1, hcc2⟩ := own_shape HW.out.ob
      have e : cs = encQ x := by rw [HCs.out, HE.out, List.take_length]
      subst e
      clear HCs
      have HE2 : Hid ((encQ x).length ≤ c3 ∧ c3 ≤ 9223372036854775807 ∧ Rn wr .u8 A3 (encQ x) ∧ Upd No w wr) := hid ⟨hcc1, by simpa [maxLen] using hcc2, Rd.of_own HW.out.ob, HW.out.upd⟩
      clear hcc1 hcc2
      go_wp2
      go_ret
      exact .of ⟨A3, c3, rfl, HE2.out⟩
end Go.Proofs.Ytlicimkpgnemeaa.Nd
