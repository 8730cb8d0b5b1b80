/-
  The walks of Encode, of a window and of the reference's.
-/
import Derived.Test.YtogijfgfcdmbnaaWe
import Derived.Test.YtogijfgfcdmbnaaWy
import Derived.Test.YtogijfgfcdmbnaaCq
set_option linter.unusedVariables false
set_option linter.unusedSimpArgs false
namespace Go.Proofs.Ytogijfgfcdmbnaa.We
open Go.RowKit Go.Proofs.Ytogijfgfcdmbnaa.B Go.Proofs.Ytogijfgfcdmbnaa.Df Go.Proofs.Ytogijfgfcdmbnaa.Ws Go.Proofs.Ytogijfgfcdmbnaa.Mp Go.Proofs.Ytogijfgfcdmbnaa.Wp Go.Proofs.Ytogijfgfcdmbnaa.Ww Go.Proofs.Ytogijfgfcdmbnaa.Cw Go.Proofs.Ytogijfgfcdmbnaa.Cm
def EnOut (w : World) (l : List Int) (e : Ending) (w' : World) : Prop := ∃ A c, e = .returned (.slice A l.length c) ∧ l.length ≤ c ∧ c ≤ 9223372036854775807 ∧ Rn w' .u8 A l ∧ Upd No w w'
theorem EnOut.of {w : World} {l : List Int} {e : Ending} {w' : World} (h : ∃ A c, e = .returned (.slice A l.length c) ∧ l.length ≤ c ∧ c ≤ 9223372036854775807 ∧ Rn w' .u8 A l ∧ Upd No w w') : EnOut w l e w' := h
/-- A writer's progress: it is of the call's own. -/
structure Wo (w W : World) (F : Nat → Prop) (q : Nat) (bs : List Int) : Prop where
  wr : Wr W F q bs
  own : ∀ k, F k → w.heap.size ≤ k
  upd : Upd No w W
theorem Wo.moved {w W W' : World} {F F' : Nat → Prop} {q : Nat} {bs cs : List Int} (h : Wo w W F q bs) (hw : Wr W' F' q cs) (hm : Mv F F' W W') : Wo w W' F' q cs :=
  ⟨hw, fun k hk => (hm.sub k hk).elim (h.own k) fun hs => Nat.le_trans h.upd.size hs, h.upd.trans hm.upd fun i hi hf => by have := h.own i hf; omega⟩
theorem Wo.quiet {w W W' : World} {F : Nat → Prop} {q : Nat} {bs : List Int} (h : Wo w W F q bs) (hu : Upd No W W') : Wo w W' F q bs := ⟨h.wr.keep hu fun _ _ => no_ _, h.own, h.upd.next hu⟩
theorem nums_le (l : List Int) : (l.flatMap num).length ≤ 9 * l.length := by
  induction l with
  | nil => simp
  | cons a t ih =>
    have := (num_length a).2
    simp only [List.flatMap_cons, List.length_append, List.length_cons]
    omega
theorem ser_take {l : List Int} {i : Nat} (hi : i < l.length) : (l.take (i + 1)).flatMap num = (l.take i).flatMap num ++ num (gi l i) := by
  rw [List.take_succ_eq_append_getElem hi, List.flatMap_append]
  simp [gi, List.getD_eq_getElem?_getD, List.getElem?_eq_getElem hi]
theorem enc_take {x : St} {j : Nat} (hj : j < x.length) : (x.take (j + 1)).flatMap encE = (x.take j).flatMap encE ++ encE x[j] := by
  rw [List.take_succ_eq_append_getElem hj, List.flatMap_append]
  simp
theorem sr_entry {x : St} (ho : Ok x) {j : Nat} (hj : j < x.length) : sr x x[j].1 = x[j].2 := by
  refine sr_at hj rfl fun i hi hij h => ?_
  have hn := ho.nd
  exact (List.pairwise_iff_getElem.1 hn) i j (by simpa using hi) (by simpa using hj) hij (by simpa using h)
theorem gi_ks {x : St} {j : Nat} (hj : j < x.length) : gi (ks x) j = x[j].1 := by
  simp [gi, ks, List.getD_eq_getElem?_getD, List.getElem?_map, List.getElem?_eq_getElem hj]
set_option maxHeartbeats 4000000 in
set_option maxRecDepth 100000 in
/-- Encode. -/
theorem encode {w : World} {F : Nat → Prop} {p n : Nat} {x : St} (h : Wd w F p x n) (hok : Ok x) :
    Calls Try.prog 20 #[.pointer (some ⟨p, 0, none⟩)] w fun e w' => EnOut w (encX x) e w' := by
  obtain ⟨mo, v, m, G, h⟩ := h
  have hlk := ks_length x
  have hlx := hok.len
  obtain ⟨A, k, rfl, hk1, hk2⟩ := h.ord.shape
  simp only [maxLen] at hk2
  rw [hlk] at hk1 h
  have HX := hid fun W (hu : Upd No w W) => h.upd hu fun _ _ => no_ _
  have HR : Hid (∀ W, Upd No w W → Rd W 1 A x.length (nums .u64 (ks x))) := hid fun W hu => by
    have h2 := (HX.out W hu).ord
    rw [hlk] at h2
    exact Sl.rd h2
  have HC : Hid (∀ W, Upd No w W → W.cell? ⟨p, 0, none⟩ = some (.map mo) ∧ W.cell? ⟨p, 1, none⟩ = some (.slice A x.length k)) := hid fun W hu => box2 (HX.out W hu).blk
  have HE : Hid (encX x = num (x.length : Int) ++ x.flatMap encE) := hid rfl
  have HL : Hid ((∀ j, ((x.take j).flatMap encE).length ≤ 54 * 64) ∧ (num (x.length : Int)).length ≤ 9) := hid ⟨encX_take_le hok, (num_length _).2⟩
  have HO := hid hok
  have hwn : IntKind.u64.wrap (x.length : Int) = (x.length : Int) := by
    rw [IntKind.wrap_u64]
    omega
  clear h hlk hok
  go_enter Try.func20, Try.ntmps20
  go_wp2_with (fail)
  refine Calls.mono (newWriter w) ?_
  rintro e w1 ⟨rfl, rfl⟩
  have HW : Hid (∃ w1 q F1, w1 = w.alloc (.cells #[.slice none 0 0] 75) ∧ q = w.heap.size ∧ Wo w w1 F1 q []) := hid ⟨_, _, _, rfl, rfl, ⟨Wr.new w, fun k hk => by omega, (Upd.refl _ _).alloc _⟩⟩
  obtain ⟨w1, q, F1, hw1, hq, hO1⟩ := HW.out
  rw [← hw1, ← hq]
  have HO1 := hid hO1
  clear hw1 hq hO1 HW
  obtain ⟨y0, y1⟩ := HC.out w1 HO1.out.upd
  go_wp2_with (fail)
  refine Calls.mono (number q [] (x.length : Int) F1 w1 HO1.out.wr (by omega) (by omega) (by simp)) ?_
  rintro e w2 ⟨rfl, F2, hw2, hm2⟩
  have HO2 := hid (HO1.out.moved hw2 hm2)
  rw [List.nil_append] at HO2
  clear hw2 hm2 HO1 F1 hwn y0 y1
  obtain ⟨y0, y1⟩ := HC.out w2 HO2.out.upd
  go_wp2_with (fail)
  clear y0 y1
  go_loopw [24] (fun v24 W => ∃ (j : Nat) (F' : Nat → Prop), j ≤ x.length ∧ v24 = .int .i64 j ∧ Hid (Wo w W F' q (num (x.length : Int) ++ (x.take j).flatMap encE))) (fun v24 _ => x.length - (intOf v24).toNat)
  case atStart => exact ⟨0, F2, by omega, rfl, hid (by simpa using HO2.out)⟩
  case round =>
    clear HO2
    obtain ⟨j, F', hj, rfl, HW⟩ := hrel
    by_cases hlt : j < x.length
    · obtain ⟨ad, u, rfl, hu1, hu2⟩ := (HR.out wr HW.out.upd).at_ hlt
      rw [nums_get .u64 (ks x) j (by rw [ks_length]; exact hlt), gi_ks hlt] at hu1
      injection hu1 with hu1
      subst hu1
      have hkey := HO.out.key _ (List.getElem_mem hlt)
      have hle := HO.out.le _ (List.getElem_mem hlt)
      have hser := HO.out.ser _ (List.getElem_mem hlt)
      have HS : Hid (sr x x[j].1 = x[j].2) := hid (sr_entry HO.out hlt)
      have HT : Hid ((x.take (j + 1)).flatMap encE = (x.take j).flatMap encE ++ encE x[j]) := hid (enc_take hlt)
      generalize x[j] = e0 at *
      obtain ⟨c0, ss⟩ := e0
      simp only at hkey hle hser hu2 HS HT
      have HV : Hid (∀ W, Upd No w W → ∃ A2 c2, m c0 = .slice A2 ss.length c2 ∧ Rn W .u64 A2 ss) := hid fun W hu => by
        obtain ⟨A2, c2, e, _, _, hR, _⟩ := (HX.out W hu).val c0 hkey
        rw [HS.out] at e hR
        exact ⟨A2, c2, e, hR⟩
      obtain ⟨A2, c2, hm0, _⟩ := HV.out w (Upd.refl _ _)
      have HV2 : Hid (∀ W, Upd No w W → Rn W .u64 A2 ss) := hid fun W hu => by
        obtain ⟨A3, c3, e, hR⟩ := HV.out W hu
        rw [hm0] at e
        simp only [Value.slice.injEq, true_and] at e
        obtain ⟨rfl, rfl⟩ := e
        exact hR
      have HLk : Hid (∀ W, Upd No w W → (Instr.lookup 39 (.map mo) (.int .u64 c0) false).run Try.prog W = .ok (.slice A2 ss.length c2) W) := hid fun W hu => by
        have := (HX.out W hu).look hkey
        rwa [hm0] at this
      have HKs := hid hser
      have hj1 : (0 : Int) ≤ (j : Int) := by omega
      have hj2 : (j : Int) < (x.length : Int) := by omega
      have hk0 := hkey.1
      have hk9 := hkey.2
      have hs4 := hle.2
      clear hm0 HV HS hkey hle hser
      have hb1 : (num (x.length : Int) ++ (x.take j).flatMap encE).length ≤ 4000 := by
        have h1 := HL.out.1 j
        have h2 := HL.out.2
        rw [List.length_append]
        omega
      have HB1 := hid hb1
      have HN1 := hid (number q _ c0 F' wr HW.out.wr hk0 hk9 (by omega))
      clear hb1
      go_wp2_with (fail)
      refine Calls.mono HN1.out ?_
      rintro e w3 ⟨rfl, F3, hw3, hm3⟩
      have HW3 := hid (HW.out.moved hw3 hm3)
      clear hw3 hm3 HN1 hu2
      obtain ⟨y0, y1⟩ := HC.out w3 HW3.out.upd
      have hlk3 := HLk.out w3 HW3.out.upd
      have hwn : IntKind.u64.wrap (ss.length : Int) = (ss.length : Int) := by
        rw [IntKind.wrap_u64]
        omega
      have HN2 := hid (number q _ (ss.length : Int) F3 w3 HW3.out.wr (by omega) (by omega) (by
        have := HB1.out
        have := (num_length c0).2
        rw [List.length_append]
        omega))
      go_wp2_with (fail)
      refine Calls.mono HN2.out ?_
      rintro e w4 ⟨rfl, F4, hw4, hm4⟩
      have HW4 := hid (HW3.out.moved hw4 hm4)
      clear hw4 hm4 HN2 hlk3 hwn y0 y1
      obtain ⟨y0, y1⟩ := HC.out w4 HW4.out.upd
      have hlk4 := HLk.out w4 HW4.out.upd
      go_wp2_with (fail)
      clear hlk4 y0 y1
      obtain ⟨wo, rfl⟩ : ∃ wo : World, wo = wr := ⟨_, rfl⟩
      go_loopw [48] (fun v48 W => ∃ (i : Nat) (F' : Nat → Prop), i ≤ ss.length ∧ v48 = .int .i64 i ∧ Hid (Wo w W F' q (num (x.length : Int) ++ (x.take j).flatMap encE ++ num c0 ++ num (ss.length : Int) ++ (ss.take i).flatMap num))) (fun v48 _ => ss.length - (intOf v48).toNat)
      case atStart => exact ⟨0, F4, by omega, rfl, hid (by simpa using HW4.out)⟩
      case round =>
        clear HW4
        obtain ⟨i, F5, hi, rfl, HW5⟩ := hrel
        by_cases hlt2 : i < ss.length
        · obtain ⟨bd, rfl, hv2⟩ := (HV2.out wr HW5.out.upd).at_ hlt2
          have hks := HKs.out _ (gi_mem ss i hlt2)
          have hks0 := hks.1
          have hks9 := hks.2
          have HT2 : Hid ((ss.take (i + 1)).flatMap num = (ss.take i).flatMap num ++ num (gi ss i)) := hid (ser_take hlt2)
          generalize gi ss i = s0 at *
          have hi1 : (0 : Int) ≤ (i : Int) := by omega
          have hi2 : (i : Int) < (ss.length : Int) := by omega
          have HN3 := hid (number q _ s0 F5 wr HW5.out.wr hks0 hks9 (by
            have h1 := HB1.out
            have h2 := (num_length c0).2
            have h3 := (num_length (ss.length : Int)).2
            have h4 := nums_le (ss.take i)
            have h5 := List.length_take_le i ss
            simp only [List.length_append] at h1 ⊢
            omega))
          clear hks
          go_wp2_with (fail)
          refine Calls.mono HN3.out ?_
          rintro e w6 ⟨rfl, F6, hw6, hm6⟩
          have HW6 : Hid (Wo w w6 F6 q (num (x.length : Int) ++ (x.take j).flatMap encE ++ num c0 ++ num (ss.length : Int) ++ (ss.take (i + 1)).flatMap num)) := hid (by
            have := HW5.out.moved hw6 hm6
            rw [HT2.out, ← List.append_assoc]
            exact this)
          clear hw6 hm6 HN3 hv2
          go_wp2
          go_roundw
          case rel => exact ⟨i + 1, F6, by omega, by go_num, HW6⟩
          case measure => simp [intOf]; omega
        · obtain rfl : i = ss.length := by omega
          have HW7 : Hid (Wo w wr F5 q (num (x.length : Int) ++ (x.take (j + 1)).flatMap encE)) := hid (by
            have := HW5.out
            rw [List.take_length] at this
            rw [HT.out]
            simpa [encE] using this)
          go_wp2
          go_roundw
          case rel => exact ⟨j + 1, F5, by omega, by go_num, HW7⟩
          case measure => simp [intOf]; omega
    · obtain rfl : j = x.length := by omega
      have HW8 : Hid (Wo w wr F' q (encX x)) := hid (by
        have := HW.out
        rw [List.take_length] at this
        rw [HE.out]
        exact this)
      have hlen : (encX x).length ≤ 4000 := by
        have h1 := HL.out.1 x.length
        rw [List.take_length] at h1
        have h2 := HL.out.2
        rw [HE.out, List.length_append]
        omega
      have HBy := hid (bytes_ q (encX x) F' wr HW8.out.wr (by omega))
      clear hlen
      go_wp2_with (fail)
      refine Calls.mono HBy.out ?_
      rintro e w10 ⟨v, rfl, ho10, hb10⟩
      obtain ⟨A10, c10, rfl, hc10, hcm⟩ := own_shape ho10
      have HE2 : Hid ((encX x).length ≤ c10 ∧ c10 ≤ 9223372036854775807 ∧ Rn w10 .u8 A10 (encX x) ∧ Upd No w w10) := hid ⟨hc10, by simpa [maxLen] using hcm, Rd.of_own ho10, HW8.out.upd.next (Upd.of_below No hb10)⟩
      clear ho10 hb10 hc10 hcm HBy
      go_wp2
      go_ret
      exact .of ⟨A10, c10, rfl, HE2.out⟩
end Go.Proofs.Ytogijfgfcdmbnaa.We
