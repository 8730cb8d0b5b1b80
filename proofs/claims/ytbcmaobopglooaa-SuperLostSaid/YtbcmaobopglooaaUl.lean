/-
  The walk of SuperLost.
-/
import Derived.Test.YtbcmaobopglooaaUx
set_option linter.unusedVariables false
set_option linter.unusedSimpArgs false
namespace Go.Proofs.Ytbcmaobopglooaa.Up
open Go.RowKit Go.Proofs.Ytbcmaobopglooaa.B Go.Proofs.Ytbcmaobopglooaa.Cm Go.Proofs.Ytbcmaobopglooaa.Sm Go.Proofs.Ytbcmaobopglooaa.Dk
/-- A disk whose fuse has burnt. -/
def dnOf (nb : Nat) (ps : List (List Int)) (dn : Bool) : Dm := ⟨nb, logOf ps 0, 0, dn⟩
def ovOf (ps : List (List Int)) : Su := ⟨(ps.length : Int), ps.getLastD [], true⟩
theorem Vd.lost {nb : Nat} {ps : List (List Int)} (h : Vd nb ps) {u : List Int} (hl : u.length ≤ 200) (hb : Byte u) : (mOf ps).sv (dnOf nb ps false) u = (9, dnOf nb ps true, ovOf ps) := by
  have hn := h.n2
  have e1 : ((mOf ps).gen + 1) % 2 = (((ps.length + 1) % 2 : Nat) : Int) := by simp only [mOf]; omega
  have h3 := (sb_ok (g := (mOf ps).gen + 1) (by simp only [mOf]; omega) hl hb).1
  unfold Su.sv
  rw [if_neg (by omega), if_neg (by simp [mOf]), e1]
  unfold dnOf
  rw [wr_zero nb (logOf ps 0) _ _ (by omega) h3, if_neg (by simp)]
  rfl
theorem over_sv (ps : List (List Int)) (d : Dm) {u : List Int} (hl : u.length ≤ 200) : (ovOf ps).sv d u = (9, d, ovOf ps) := by
  unfold Su.sv
  rw [if_neg (by omega), if_pos (by rfl)]
theorem Vd.gone {nb : Nat} {ps : List (List Int)} (h : Vd nb ps) : opS (dnOf nb ps true) = (9, none) := by
  have := h.n2
  unfold opS
  rw [if_neg (by simp only [dnOf]; omega), if_pos (by rfl)]
theorem Dk.here {w : World} {F : Nat → Prop} {p : Nat} {m : Dm} (h : Dk w F p m) : F p := by
  obtain ⟨ps, g, vl, h1, h2, h3, h4, h5, h6, h7, h8, h9⟩ := h
  exact h6
theorem Pr.on_disk {w W W' : World} {F D : Nat → Prop} {q p : Nat} {m : Su} {d d' : Dm} (h : Pr w W F D q p m d) (hd : Dk W' D p d') (hu : Upd (fun k => k = p) W W') : Pr w W' F D q p m d' :=
  ⟨h.sp.upd hu fun k hk e => h.fd k hk (e ▸ Dk.here h.dk), hd, h.fd, h.own, h.bel.trans (hu.below h.bel.size fun k hk => h.own k (.inr (hk ▸ Dk.here h.dk)))⟩
theorem Vd.okOv {nb : Nat} {ps : List (List Int)} (h : Vd nb ps) : (ovOf ps).ok := h.ok
theorem Vd.dnok {nb : Nat} {ps : List (List Int)} (h : Vd nb ps) (dn : Bool) : (dnOf nb ps dn).ok := ⟨by simp [dnOf], by simp [dnOf], h.n6⟩
set_option maxHeartbeats 8000000 in
set_option maxRecDepth 100000 in
theorem lost_law (A B : Option Addr) (c b : Nat) (xs : List Lb) (ys : List Int) (w : World) (hr : Rd w 1 A xs.length (xs.map (·.2))) (hx : xs.length ≤ maxLen ∧ ∀ x ∈ xs, InB w x) (hy : Rn w .u8 B ys) (hb8 : ys.length ≤ 9223372036854775807) (hyb : Byte ys) :
    Calls Try.prog 5 #[.slice A xs.length c, .slice B ys.length b] w fun e w' => e = .returned (.bool true) ∧ Below w.heap.size w w' := by
  have hl1 : xs.length ≤ 9223372036854775807 := by have := hx.1; simp only [maxLen] at this; omega
  have HX := hid hx.2
  have HRx := hid hr
  have HY := hid fun W (hu : Below w.heap.size w W) => show Rn W .u8 B ys from Rd.upd hy (by omega) (Upd.of_below No hu) fun _ _ => no_ _
  have HYb := hid hyb
  clear hx hr hy hyb
  by_cases h20 : (60 : Int) < (xs.length : Int)
  · go_enter Try.func5, Try.ntmps5
    go_wp2_with (fail)
    refine Calls.mono (awake w) ?_
    rintro e w1 ⟨rfl, hb1⟩
    have HB1 := hid hb1
    clear hb1
    go_wp2_with (fail)
    refine Calls.mono (awake w1) ?_
    rintro e w2 ⟨rfl, hb2⟩
    have HB2 := hid (HB1.out.trans (hb2.mono HB1.out.size))
    clear hb2
    go_wp2
    go_ret
    exact ⟨rfl, HB2.out⟩
  have hxn : xs.length ≤ 60 := by omega
  have HV0 := hid (Vd.new (nb := 2) (by omega) (by omega))
  go_enter Try.func5, Try.ntmps5
  go_wp2_with (fail)
  refine Calls.mono (awake w) ?_
  rintro e w1 ⟨rfl, hb1⟩
  have HND := hid (new_disk 2 w w1 hb1 (by omega))
  clear hb1
  go_wp2_with (fail)
  refine HND.out.mono ?_
  rintro e w2 ⟨p, D0, rfl, hd2⟩
  have HO := hid (open_pd (nb := 2) (ps := []) hd2 HV0.out)
  clear hd2 HND
  go_wp2_with (fail)
  refine HO.out.mono ?_
  rintro e w3 ⟨q0, F0, rfl, hp3, _, _⟩
  have HP3 := hid hp3
  clear hp3 HO
  go_wp2_with (fail)
  go_loopw [6, 8, 9, 29] (fun v6 v8 v9 v29 W => ∃ (j q k : Nat) (F D : Nat → Prop) (ps : List (List Int)) (z : ByteArray), j ≤ xs.length ∧ v29 = .int .i64 j ∧ v6 = .pointer (some ⟨q, 0, none⟩) ∧ v9 = .int .u64 k ∧ v8 = .string z ∧ k ≤ j ∧ Hid (k = ps.length ∧ z = strOfNums (ps.getLastD []) ∧ Pr w W F D q p (mOf ps) (dOf 2 ps) ∧ Vd 2 ps)) (fun _ _ _ v29 _ => xs.length - (intOf v29).toNat)
  case atStart => exact ⟨0, q0, 0, F0, D0, [], _, by omega, rfl, rfl, rfl, rfl, by omega, hid ⟨rfl, rfl, HP3.out, HV0.out⟩⟩
  case round =>
    clear HP3
    obtain ⟨j, q, k, F, D, ps, z, hj, rfl, rfl, rfl, rfl, hk, HW⟩ := hrel
    by_cases hlt : j < xs.length
    · obtain ⟨ad, A2, c2, l, rfl, _, hcl, hlc, hby, hlb⟩ := lists_at HRx.out HX.out hlt
      have HCl := hid hcl
      have HBy := hid hby
      have HLb := hid hlb
      have HLc := hid hlc
      have hc0 := (hcl wr HW.out.2.2.1.bel).1
      have hj2 : (j : Int) < (xs.length : Int) := by omega
      have hj1 : (0 : Int) ≤ (j : Int) := by omega
      clear hcl hby hlb hlc
      rcases Nat.lt_or_ge 200 l.length with h200 | h200
      · have h200' : (200 : Int) < (l.length : Int) := by omega
        go_wp2
        go_roundw
        case rel => exact ⟨j + 1, q, k, F, D, ps, z, by omega, by go_num, rfl, rfl, rfl, by omega, HW⟩
        case measure => simp [intOf]; omega
      have h200' : ¬ (200 : Int) < (l.length : Int) := by omega
      have hsplit : ¬ j < ys.length ∨ (j < ys.length ∧ ¬ gi ys j % 3 = 0) ∨ (j < ys.length ∧ gi ys j % 3 = 0) := by omega
      have hkx : k ≤ 60 := by omega
      rcases hsplit with h1 | ⟨h1, h3⟩ | ⟨h1, h3⟩
      case' inr.inl =>
        obtain ⟨q9, rfl⟩ : ∃ q9, q9 = q := ⟨_, rfl⟩
        obtain ⟨F9, rfl⟩ : ∃ F9, F9 = F := ⟨_, rfl⟩
        obtain ⟨D9, rfl⟩ : ∃ D9, D9 = D := ⟨_, rfl⟩
        obtain ⟨w9, rfl⟩ : ∃ w9, w9 = wr := ⟨_, rfl⟩
        have h1' : ¬ (j : Int) < (ys.length : Int) := by omega
        have HQ9 := HW
        clear HW h1
        go_wp2_with (fail)
      case' inr.inr.inl =>
        obtain ⟨q9, rfl⟩ : ∃ q9, q9 = q := ⟨_, rfl⟩
        obtain ⟨F9, rfl⟩ : ∃ F9, F9 = F := ⟨_, rfl⟩
        obtain ⟨D9, rfl⟩ : ∃ D9, D9 = D := ⟨_, rfl⟩
        obtain ⟨w9, rfl⟩ : ∃ w9, w9 = wr := ⟨_, rfl⟩
        have h1' : (j : Int) < (ys.length : Int) := by omega
        obtain ⟨ady, rfl, hyc⟩ := (HY.out w9 HW.out.2.2.1.bel).at_ h1
        have hyr := HYb.out _ (gi_mem ys j h1)
        generalize gi ys j = y at *
        have h3' : (y % 3 == 0) = false := by simpa using h3
        have HQ9 := HW
        clear HW h1
        go_wp2_with (fail)
      case' inr.inr.inr =>
        have h1' : (j : Int) < (ys.length : Int) := by omega
        obtain ⟨ady, rfl, hyc⟩ := (HY.out wr HW.out.2.2.1.bel).at_ h1
        have hyr := HYb.out _ (gi_mem ys j h1)
        generalize gi ys j = y at *
        have h3' : (y % 3 == 0) = true := by simpa using h3
        have HF0 := hid (setFuse p (dOf 2 ps) D 0 wr HW.out.2.2.1.dk (by omega))
        clear h1
        go_wp2_with (fail)
        refine HF0.out.mono ?_
        rintro e w4 hh
        obtain ⟨rfl, hd4, hu4⟩ := hh.out
        have hp4 : Pr w w4 F D q p (mOf ps) (dnOf 2 ps false) := HW.out.2.2.1.on_disk hd4 hu4
        have HP4 := hid hp4
        have hc4 := (HCl.out w4 hp4.bel).1
        have hS := save q p (mOf ps) (dnOf 2 ps false) F D A2 c2 l w4 hp4.sp hp4.dk hp4.fd (HCl.out w4 hp4.bel).2 HLc.out (fun h0 ad e => by
          have h1 := HLb.out h0 ad e
          exact ⟨fun h => by have := hp4.own _ (.inr h); omega, fun h => by have := hp4.own _ (.inl h); omega⟩) HBy.out HW.out.2.2.2.ok (by simp only [mOf]; have := HW.out.2.2.2.few; omega) (HW.out.2.2.2.dnok false) (by simp only [dnOf]; rw [logOf_length]; have := HW.out.2.2.2.few; omega)
        rw [HW.out.2.2.2.lost (by omega) HBy.out] at hS
        have HS := hid hS
        clear hh hd4 hu4 hp4 hS HF0
        go_wp2_with (fail)
        refine HS.out.mono ?_
        rintro e w5 ⟨rfl, ha⟩
        obtain ⟨F5, D5, hp5, _⟩ := HP4.out.moved ha
        have HP5 := hid hp5
        have hg := generation w5 F5 q p (ovOf ps) hp5.sp
        rw [show (ovOf ps).gen = (k : Int) by rw [HW.out.1]; rfl] at hg
        have HG := hid hg
        have hpy := payload w5 F5 q p (ovOf ps) hp5.sp HW.out.2.2.2.okOv
        unfold NewB at hpy
        have HPy := hid hpy
        clear ha hp5 hg hpy HS HP4 hc4
        go_wp2_with (fail)
        refine HG.out.mono ?_
        rintro e w6 ⟨rfl, rfl⟩
        go_wp2_with (fail)
        refine HPy.out.mono ?_
        rintro e w6 ⟨A6, c6, rfl, ho6, hu6⟩
        have hcv6 := conv_str (P := Try.prog) (Rn_of_own ho6) 22 9 5 c6 Try.underlying22 Try.underlying5 Try.underlying9
        rw [show strOfNums (ovOf ps).pay = z from HW.out.2.1.symm] at hcv6
        have HP6 := hid (HP5.out.quiet hu6)
        have hO := open_ p (dnOf 2 ps true) D5 w6 HP6.out.dk (HW.out.2.2.2.dnok true) HW.out.2.2.2.fit
        rw [HW.out.2.2.2.gone] at hO
        have HO := hid hO
        clear ho6 hu6 hO HP5 HG HPy
        go_wp2_with (fail)
        refine HO.out.mono ?_
        rintro e w7 ⟨rfl, hu7⟩
        have HP7 := hid (HP6.out.quiet hu7)
        have HRs := hid (restart p (dnOf 2 ps true) D5 w7 HP7.out.dk)
        clear hu7 HP6 hcv6 HO
        go_wp2_with (fail)
        refine HRs.out.mono ?_
        rintro e w8 hh
        obtain ⟨rfl, hd8, hu8⟩ := hh.out
        have hp8 : Pr w w8 F5 D5 q p (ovOf ps) (dOf 2 ps) := HP7.out.on_disk hd8 hu8
        have HP8 := hid hp8
        have hc8 := (HCl.out w8 hp8.bel).1
        have hS := save q p (ovOf ps) (dOf 2 ps) F5 D5 A2 c2 l w8 hp8.sp hp8.dk hp8.fd (HCl.out w8 hp8.bel).2 HLc.out (fun h0 ad e => by
          have h1 := HLb.out h0 ad e
          exact ⟨fun h => by have := hp8.own _ (.inr h); omega, fun h => by have := hp8.own _ (.inl h); omega⟩) HBy.out HW.out.2.2.2.okOv (by simp only [ovOf]; have := HW.out.2.2.2.few; omega) HW.out.2.2.2.dok (by rw [HW.out.2.2.2.logl]; have := HW.out.2.2.2.few; omega)
        rw [over_sv ps _ (by omega)] at hS
        have HS := hid hS
        clear hh hd8 hu8 hp8 hS HRs HP7
        go_wp2_with (fail)
        refine HS.out.mono ?_
        rintro e w10 ⟨rfl, ha⟩
        obtain ⟨F10, D9, hp10, _⟩ := HP8.out.moved ha
        have HO := hid (open_pd hp10.disk HW.out.2.2.2)
        clear ha hp10 hc8 HP8 HS
        go_wp2_with (fail)
        refine HO.out.mono ?_
        rintro e w9 ⟨q9, F9, rfl, hp9, _, _⟩
        have HQ9 : Hid (k = ps.length ∧ z = strOfNums (ps.getLastD []) ∧ Pr w w9 F9 D9 q9 p (mOf ps) (dOf 2 ps) ∧ Vd 2 ps) := hid ⟨HW.out.1, HW.out.2.1, hp9, HW.out.2.2.2⟩
        have hc9 := (HCl.out w9 hp9.bel).1
        clear hp9 HO HW
        go_wp2_with (fail)
      all_goals
        have hS := save_pr HQ9.out.2.2.1 HQ9.out.2.2.2 (HCl.out w9 HQ9.out.2.2.1.bel).2 HLc.out (fun h0 ad e => by
          have h1 := HLb.out h0 ad e
          exact ⟨fun h => by have := HQ9.out.2.2.1.own _ (.inr h); omega, fun h => by have := HQ9.out.2.2.1.own _ (.inl h); omega⟩) HBy.out
        rw [HQ9.out.2.2.2.saves HBy.out, if_neg (by omega)] at hS
        have HS := hid hS
        have HVn := hid (HQ9.out.2.2.2.add (u := l) (by have := HQ9.out.1; omega) (by omega) HBy.out)
        have hkl : (mOf (ps ++ [l])).gen = ((k + 1 : Nat) : Int) := by
          rw [HQ9.out.1]
          simp [mOf]
        have hkp : (mOf (ps ++ [l])).pay = l := getLastD_snoc ps l
        have HM := hid (And.intro hkl hkp)
        have HKn := hid (show k + 1 = (ps ++ [l]).length by rw [HQ9.out.1]; simp)
        obtain ⟨k2, hk2⟩ : ∃ k2 : Nat, k2 = k + 1 := ⟨_, rfl⟩
        rw [← hk2] at HM HKn
        have hk3 : (k : Int) + 1 = (k2 : Int) := by omega
        have hk4 : IntKind.u64.wrap (k2 : Int) = (k2 : Int) := by rw [IntKind.wrap_u64]; omega
        have hk5 : k2 ≤ j + 1 := by omega
        clear hS hkl hkp hk2 HQ9 hc0
        refine HS.out.mono ?_
        rintro e wa ⟨rfl, Fa, Da, hpa, _⟩
        have hca := (HCl.out wa hpa.bel).1
        have hcv := conv_str (P := Try.prog) (HCl.out wa hpa.bel).2 22 9 5 c2 Try.underlying22 Try.underlying5 Try.underlying9
        have HPa := hid hpa
        have hg := generation wa Fa q9 p (mOf (ps ++ [l])) hpa.sp
        rw [HM.out.1] at hg
        have HG := hid hg
        have hpy := payload wa Fa q9 p (mOf (ps ++ [l])) hpa.sp HVn.out.ok
        rw [HM.out.2] at hpy
        unfold NewB at hpy
        have HPy := hid hpy
        obtain ⟨z2, hz2⟩ : ∃ z2 : ByteArray, z2 = strOfNums l := ⟨_, rfl⟩
        rw [← hz2] at hcv
        have HZ := hid hz2
        clear hpa hg hpy HS hz2
        go_wp2_with (fail)
        refine HG.out.mono ?_
        rintro e wb ⟨rfl, rfl⟩
        go_wp2_with (fail)
        refine HPy.out.mono ?_
        rintro e wb ⟨A6, c6, rfl, ho6, hu6⟩
        have hcv6 := conv_str (P := Try.prog) (Rn_of_own ho6) 22 9 5 c6 Try.underlying22 Try.underlying5 Try.underlying9
        rw [← HZ.out] at hcv6
        have HF : Hid (k2 = (ps ++ [l]).length ∧ z2 = strOfNums ((ps ++ [l]).getLastD []) ∧ Pr w wb Fa Da q9 p (mOf (ps ++ [l])) (dOf 2 (ps ++ [l])) ∧ Vd 2 (ps ++ [l])) := hid ⟨HKn.out, by rw [getLastD_snoc]; exact HZ.out, HPa.out.quiet hu6, HVn.out⟩
        clear ho6 hu6 HPy HG HPa
        go_wp2
        go_roundw
        case rel => exact ⟨j + 1, q9, k2, Fa, Da, ps ++ [l], z2, by omega, by go_num, rfl, rfl, rfl, hk5, HF⟩
        case measure => simp [intOf]; omega
    · obtain rfl : j = xs.length := by omega
      have HB := hid HW.out.2.2.1.bel
      go_wp2
      go_ret
      exact ⟨rfl, HB.out⟩
end Go.Proofs.Ytbcmaobopglooaa.Up
