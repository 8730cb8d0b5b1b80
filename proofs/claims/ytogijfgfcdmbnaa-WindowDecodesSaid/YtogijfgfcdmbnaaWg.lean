/-
  The walk of Encode of the reference's window.
-/
import Derived.Test.YtogijfgfcdmbnaaWf
set_option linter.unusedVariables false
set_option linter.unusedSimpArgs false
namespace Go.Proofs.Ytogijfgfcdmbnaa.We
open Go.RowKit Go.Proofs.Ytogijfgfcdmbnaa.B Go.Proofs.Ytogijfgfcdmbnaa.Df Go.Proofs.Ytogijfgfcdmbnaa.Ws Go.Proofs.Ytogijfgfcdmbnaa.Mp Go.Proofs.Ytogijfgfcdmbnaa.Wp Go.Proofs.Ytogijfgfcdmbnaa.Ww Go.Proofs.Ytogijfgfcdmbnaa.Cm
open Go.Proofs.Ytogijfgfcdmbnaa.Cq (Ob Ow)
/-- Bytes of the call's own. -/
structure Wb (w W : World) (v : Value) (bs : List Int) : Prop where
  ob : Ob W v bs
  own : ∀ k, Ow v k → w.heap.size ≤ k
  upd : Upd No w W
theorem Wb.moved {w W W' : World} {v v' : Value} {bs cs : List Int} (h : Wb w W v bs) (ho : Ob W' v' cs) (hm : Mv (Ow v) (Ow v') W W') : Wb w W' v' cs :=
  ⟨ho, fun k hk => (hm.sub k hk).elim (h.own k) fun hs => Nat.le_trans h.upd.size hs, h.upd.trans hm.upd fun i hi hf => by have := h.own i hf; omega⟩
theorem Wb.nil (w : World) : Wb w w (.slice none 0 0) [] := ⟨Cq.Ob.nil _, fun k h => by simp [Ow, Value.ownBlock] at h, Upd.refl _ _⟩
set_option maxHeartbeats 4000000 in
set_option maxRecDepth 100000 in
theorem rencode {w : World} {F : Nat → Prop} {q : Nat} {x : St} (h : Rw w F q x) (hok : Ok x) :
    Calls Try.prog 21 #[.pointer (some ⟨q, 0, none⟩)] w fun e w' => EnOut w (encX x) e w' := by
  obtain ⟨ps, v, G, hx, h⟩ := h
  have hlx := hok.len
  have hpl : ps.length = x.length := by rw [← hx, List.length_map]
  obtain ⟨A, k, rfl, hk1, hk2⟩ := h.row.shape
  simp only [maxLen] at hk2
  have HX := hid fun W (hu : Upd No w W) => h.upd hu fun _ _ => no_ _
  have HC : Hid (∀ W, Upd No w W → W.cell? ⟨q, 0, none⟩ = some (.slice A ps.length k)) := hid fun W hu => box1 (HX.out W hu).blk
  have HE : Hid (encX x = num (ps.length : Int) ++ x.flatMap encE) := hid (by rw [hpl]; rfl)
  have HL : Hid ((∀ j, ((x.take j).flatMap encE).length ≤ 54 * 64) ∧ (num (ps.length : Int)).length ≤ 9) := hid ⟨encX_take_le hok, (num_length _).2⟩
  have HO := hid hok
  have HXe := hid hx
  have hp64 : ps.length ≤ 64 := by omega
  have hwn : IntKind.u64.wrap (ps.length : Int) = (ps.length : Int) := by
    rw [IntKind.wrap_u64]
    omega
  have HPl := hid hpl
  clear h hok hx hpl hlx
  have y0 := HC.out w (Upd.refl _ _)
  have HN1 := hid (Cq.number (.slice none 0 0) [] (ps.length : Int) w (Cq.Ob.nil _) (by omega) (by omega) (by simp))
  go_enter Try.func21, Try.ntmps21
  go_wp2_with (fail)
  refine Calls.mono HN1.out ?_
  rintro e w2 ⟨v2, rfl, ho2, hm2⟩
  have HO2 := hid ((Wb.nil w).moved ho2 hm2)
  rw [List.nil_append] at HO2
  clear ho2 hm2 hwn y0 HN1
  have y0 := HC.out w2 HO2.out.upd
  go_wp2_with (fail)
  clear y0
  go_loopw [3, 18] (fun v3 v18 W => ∃ (j : Nat) (cs : List Int), j ≤ ps.length ∧ v18 = .int .i64 j ∧ Hid (cs = num (ps.length : Int) ++ (x.take j).flatMap encE) ∧ Hid (Wb w W v3 cs)) (fun _ v18 _ => ps.length - (intOf v18).toNat)
  case atStart => exact ⟨0, _, by omega, rfl, hid (by simp), HO2⟩
  case round =>
    clear HO2
    obtain ⟨j, cs, hj, rfl, HCs, HW⟩ := hrel
    obtain ⟨A3, c3, rfl, _, _⟩ := own_shape HW.out.ob
    by_cases hlt : j < ps.length
    · have hltx : j < x.length := by rw [← HPl.out]; exact hlt
      obtain ⟨g, off, rfl, hd0, hd1⟩ := rec_at (HX.out wr HW.out.upd).row hlt
      have hent : ps[j].1 = x[j] := by
        have := HXe.out
        subst this
        simp
      have hvl := fun W hu => (HX.out W hu).val _ (List.getElem_mem hlt)
      have hrow := fun W hu => rec_at (HX.out W hu).row hlt
      have hkey := HO.out.key _ (List.getElem_mem hltx)
      have hle := HO.out.le _ (List.getElem_mem hltx)
      have hser := HO.out.ser _ (List.getElem_mem hltx)
      have HT : Hid ((x.take (j + 1)).flatMap encE = (x.take j).flatMap encE ++ encE x[j]) := hid (enc_take hltx)
      rw [← hent] at hkey hle hser HT
      generalize ps[j] = e0 at *
      clear hent
      obtain ⟨⟨c0, ss⟩, u⟩ := e0
      simp only at hkey hle hser HT hd0 hd1 hvl hrow
      have HRow : Hid (∀ W, Upd No w W → W.cell? ⟨g, off + j * 2, none⟩ = some (.int .u64 c0) ∧ W.cell? ⟨g, off + j * 2 + 1, none⟩ = some u) := hid fun W hu => by
        obtain ⟨g2, off2, e, h1, h2⟩ := hrow W hu
        simp only [Option.some.injEq, Addr.mk.injEq, and_true] at e
        obtain ⟨rfl, rfl⟩ := e
        exact ⟨h1, h2⟩
      obtain ⟨A2, c2, hm0, _⟩ := hvl w (Upd.refl _ _)
      have HV2 : Hid (∀ W, Upd No w W → Rn W .u64 A2 ss) := hid fun W hu => by
        obtain ⟨A4, c4, e, _, _, hR, _⟩ := hvl W hu
        rw [hm0] at e
        simp only [Value.slice.injEq, true_and] at e
        obtain ⟨rfl, rfl⟩ := e
        exact hR
      try simp only at hm0
      subst hm0
      have HKs := hid hser
      have hj1 : (0 : Int) ≤ (j : Int) := by omega
      have hj2 : (j : Int) < (ps.length : Int) := by omega
      have hk0 := hkey.1
      have hk9 := hkey.2
      have hs4 := hle.2
      clear hkey hle hser hvl hrow hltx
      have hb1 : cs.length ≤ 4000 := by
        have h1 := HL.out.1 j
        have h2 := HL.out.2
        rw [HCs.out, List.length_append]
        omega
      have HB1 := hid hb1
      have HN1 := hid (Cq.number _ _ c0 wr HW.out.ob hk0 hk9 (by omega))
      have y0 := HC.out wr HW.out.upd
      clear hb1
      go_wp2_with (fail)
      refine Calls.mono HN1.out ?_
      rintro e w3 ⟨v4, rfl, ho3, hm3⟩
      have HW3 := hid (HW.out.moved ho3 hm3)
      clear ho3 hm3 HN1 hd0 hd1 y0
      have y0 := HC.out w3 HW3.out.upd
      obtain ⟨d0, d1⟩ := HRow.out w3 HW3.out.upd
      have hwn : IntKind.u64.wrap (ss.length : Int) = (ss.length : Int) := by
        rw [IntKind.wrap_u64]
        omega
      have HN2 := hid (Cq.number v4 _ (ss.length : Int) w3 HW3.out.ob (by omega) (by omega) (by
        have := HB1.out
        have := (num_length c0).2
        rw [List.length_append]
        omega))
      go_wp2_with (fail)
      refine Calls.mono HN2.out ?_
      rintro e w4 ⟨v5, rfl, ho4, hm4⟩
      have HW4 := hid (HW3.out.moved ho4 hm4)
      clear ho4 hm4 HN2 hwn y0 d0 d1
      have y0 := HC.out w4 HW4.out.upd
      obtain ⟨d0, d1⟩ := HRow.out w4 HW4.out.upd
      go_wp2_with (fail)
      clear y0 d0 d1
      obtain ⟨wo, rfl⟩ : ∃ wo : World, wo = wr := ⟨_, rfl⟩
      go_loopw [3, 52] (fun v3 v52 W => ∃ (i : Nat) (ds : List Int), i ≤ ss.length ∧ v52 = .int .i64 i ∧ Hid (ds = cs ++ num c0 ++ num (ss.length : Int) ++ (ss.take i).flatMap num) ∧ Hid (Wb w W v3 ds)) (fun _ v52 _ => ss.length - (intOf v52).toNat)
      case atStart => exact ⟨0, _, by omega, rfl, hid (by simp), HW4⟩
      case round =>
        clear HW4
        obtain ⟨i, ds, hi, rfl, HDs, HW5⟩ := hrel
        obtain ⟨A5, c5, rfl, _, _⟩ := own_shape HW5.out.ob
        by_cases hlt2 : i < ss.length
        · obtain ⟨bd, rfl, hv2⟩ := (HV2.out wr HW5.out.upd).at_ hlt2
          have hks := HKs.out _ (gi_mem ss i hlt2)
          have hks0 := hks.1
          have hks9 := hks.2
          have HT2 : Hid ((ss.take (i + 1)).flatMap num = (ss.take i).flatMap num ++ num (gi ss i)) := hid (ser_take hlt2)
          generalize gi ss i = s0 at *
          have hi1 : (0 : Int) ≤ (i : Int) := by omega
          have hi2 : (i : Int) < (ss.length : Int) := by omega
          have HN3 := hid (Cq.number _ _ s0 wr HW5.out.ob hks0 hks9 (by
            have h1 := HB1.out
            have h2 := (num_length c0).2
            have h3 := (num_length (ss.length : Int)).2
            have h4 := nums_le (ss.take i)
            have h5 := List.length_take_le i ss
            rw [HDs.out]
            simp only [List.length_append] at h1 ⊢
            omega))
          have y0 := HC.out wr HW5.out.upd
          obtain ⟨d0, d1⟩ := HRow.out wr HW5.out.upd
          clear hks
          go_wp2_with (fail)
          refine Calls.mono HN3.out ?_
          rintro e w6 ⟨v6, rfl, ho6, hm6⟩
          have HW6 := hid (HW5.out.moved ho6 hm6)
          have HD6 := hid (show ds ++ num s0 = cs ++ num c0 ++ num (ss.length : Int) ++ (ss.take (i + 1)).flatMap num by rw [HDs.out, HT2.out, List.append_assoc])
          generalize ds ++ num s0 = ds6 at *
          clear ho6 hm6 HN3 hv2 y0 d0 d1
          go_wp2
          go_roundw
          case rel => exact ⟨i + 1, ds6, by omega, by go_num, HD6, HW6⟩
          case measure => simp [intOf]; omega
        · obtain rfl : i = ss.length := by omega
          have HD7 := hid (show ds = num (ps.length : Int) ++ (x.take (j + 1)).flatMap encE by
            rw [HDs.out, HCs.out, HT.out, List.take_length]
            simp [encE])
          go_wp2
          go_roundw
          case rel => exact ⟨j + 1, ds, by omega, by go_num, HD7, HW5⟩
          case measure => simp [intOf]; omega
    · obtain rfl : j = ps.length := by omega
      have e : cs = encX x := by
        rw [HCs.out, HE.out, HPl.out, List.take_length]
      subst e
      clear HCs
      have hcc : (encX x).length ≤ c3 ∧ c3 ≤ maxLen := by
        obtain ⟨A4, c4, e, h1, h2⟩ := own_shape HW.out.ob
        simp only [Value.slice.injEq, true_and] at e
        obtain ⟨rfl, rfl⟩ := e
        exact ⟨h1, h2⟩
      have HE2 : Hid ((encX x).length ≤ c3 ∧ c3 ≤ 9223372036854775807 ∧ Rn wr .u8 A3 (encX x) ∧ Upd No w wr) := hid ⟨hcc.1, by simpa [maxLen] using hcc.2, Rd.of_own HW.out.ob, HW.out.upd⟩
      clear hcc
      go_wp2
      go_ret
      exact .of ⟨A3, c3, rfl, HE2.out⟩
end Go.Proofs.Ytogijfgfcdmbnaa.We
