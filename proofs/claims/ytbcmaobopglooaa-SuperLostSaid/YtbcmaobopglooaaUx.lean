/-
  The walk of SuperSaves.
-/
import Derived.Test.YtbcmaobopglooaaUw
import Derived.Test.YtbcmaobopglooaaUq
set_option linter.unusedVariables false
set_option linter.unusedSimpArgs false
namespace Go.Proofs.Ytbcmaobopglooaa.Up
open Go.RowKit Go.Proofs.Ytbcmaobopglooaa.B Go.Proofs.Ytbcmaobopglooaa.Cm Go.Proofs.Ytbcmaobopglooaa.Sm Go.Proofs.Ytbcmaobopglooaa.Dk
/-- List i of the argument, in each later world. -/
theorem lists_at {w : World} {A : Option Addr} {xs : List Lb} (hr : Rd w 1 A xs.length (xs.map (·.2))) (hx : ∀ x ∈ xs, InB w x) {j : Nat} (hj : j < xs.length) :
    ∃ ad A2 c2 l, A = some ad ∧ xs[j].1 = l ∧ (∀ W, Below w.heap.size w W → W.cell? (ad.add j) = some (.slice A2 l.length c2) ∧ Rn W .u8 A2 l) ∧ (l.length ≤ c2 ∧ c2 ≤ 9223372036854775807) ∧ Byte l ∧ (0 < l.length → ∀ ad, A2 = some ad → ad.block < w.heap.size) := by
  obtain ⟨ad, A2, c2, e, h1, h2, h3, h4⟩ := row_lb hr hx hj
  have hb := World.block_lt_of_cell? w _ h1
  refine ⟨ad, A2, c2, _, e, rfl, fun W hW => ⟨(World.cell?_of_block (w := w) (hW.block _ hb)).trans h1, Rd.upd h2 (by omega) (Upd.of_below No hW) fun _ _ => no_ _⟩, h3, h4, fun h0 ad' e' => ?_⟩
  obtain ⟨ad2, e2, hl⟩ := h2.lt h0 (by omega)
  rw [e'] at e2
  injection e2 with e2
  subst e2
  exact hl
set_option maxHeartbeats 8000000 in
set_option maxRecDepth 100000 in
theorem saves_law (A : Option Addr) (c : Nat) (xs : List Lb) (n : Int) (w : World) (hr : Rd w 1 A xs.length (xs.map (·.2))) (hx : xs.length ≤ maxLen ∧ ∀ x ∈ xs, InB w x) (hn : 0 ≤ n ∧ n ≤ 255) :
    Calls Try.prog 6 #[.slice A xs.length c, .int .u8 n] w fun e w' => e = .returned (.bool true) ∧ Below w.heap.size w w' := by
  have hl1 : xs.length ≤ 9223372036854775807 := by have := hx.1; simp only [maxLen] at this; omega
  have HX := hid hx.2
  have HRx := hid hr
  clear hx hr
  by_cases h20 : (100 : Int) < (xs.length : Int)
  · go_enter Try.func6, Try.ntmps6
    go_wp2_with (fail)
    refine Calls.mono (awake w) ?_
    rintro e w1 ⟨rfl, hb1⟩
    have HB1 := hid hb1
    clear hb1
    go_wp2_with (fail)
    refine Calls.mono (awake w1) ?_
    rintro e w2 ⟨rfl, hb2⟩
    have HB2 := hid (HB1.out.trans (hb2.mono HB1.out.size))
    clear hb2
    go_wp2
    go_ret
    exact ⟨rfl, HB2.out⟩
  have hxn : xs.length ≤ 100 := by omega
  obtain ⟨N, rfl⟩ : ∃ N : Nat, n = (N : Int) := ⟨n.toNat, by omega⟩
  have hN : N ≤ 255 := by omega
  have hwN : IntKind.i64.wrap (N : Int) = (N : Int) := IntWalk.i64_in _ (by omega)
  go_enter Try.func6, Try.ntmps6
  go_wp2_with (fail)
  refine Calls.mono (awake w) ?_
  rintro e w1 ⟨rfl, hb1⟩
  have HND := hid (new_disk N w w1 hb1 (by omega))
  clear hb1
  go_wp2_with (fail)
  try rw [hwN]
  refine HND.out.mono ?_
  rintro e w2 ⟨p, D0, rfl, hd2⟩
  by_cases h2 : N < 2
  · have hO := open_ p ⟨N, [], -1, false⟩ D0 w2 hd2.dk ⟨by simp, by simp, by simp only; omega⟩ (fun x hx => by cases hx)
    have e0 : opS ⟨N, [], -1, false⟩ = (1, none) := by unfold opS; rw [if_pos h2]
    rw [e0] at hO
    have HO := hid hO
    have HB2 := hid hd2.bel
    have h2' : (N : Int) < 2 := by omega
    clear hd2 HND hO e0
    go_wp2_with (fail)
    refine HO.out.mono ?_
    rintro e w3 ⟨rfl, hu3⟩
    have HB3 := hid (HB2.out.trans (hu3.old HB2.out.size))
    clear hu3 HO
    go_wp2
    go_ret
    exact ⟨rfl, HB3.out⟩
  have h2' : ¬ (N : Int) < 2 := by omega
  have HV0 := hid (Vd.new (nb := N) (by omega) (by omega))
  have HO := hid (open_pd (nb := N) (ps := []) hd2 HV0.out)
  clear hd2 HND
  go_wp2_with (fail)
  refine HO.out.mono ?_
  rintro e w3 ⟨q, F0, rfl, hp3, _, _⟩
  have HP3 := hid hp3
  have HG := hid (generation w3 F0 q p (mOf []) hp3.sp)
  have HPy := hid (payload w3 F0 q p (mOf []) hp3.sp HV0.out.ok)
  rw [show (mOf []).gen = 0 from rfl] at HG
  rw [show (mOf []).pay = [] from rfl] at HPy
  unfold NewB at HPy
  clear hp3 HO
  go_wp2_with (fail)
  refine HG.out.mono ?_
  rintro e w4 ⟨rfl, rfl⟩
  go_wp2_with (fail)
  refine HPy.out.mono ?_
  rintro e w4 ⟨A4, c4, rfl, _, hu4⟩
  have HP4 : Hid (Pr w w4 F0 D0 q p (mOf []) (dOf N [])) := hid (HP3.out.quiet hu4)
  clear hu4 HPy HG HP3
  try simp only [List.length_nil]
  have hs0 : (Value.string ⟨#[]⟩) = .string (strOfNums []) := rfl
  go_wp2_with (fail)
  go_loopw [8, 9, 54] (fun v8 v9 v54 W => ∃ (j : Nat) (F D : Nat → Prop) (ps : List (List Int)) (k : Nat) (z : ByteArray), j ≤ xs.length ∧ v54 = .int .i64 j ∧ v8 = .int .i64 k ∧ v9 = .string z ∧ k ≤ j ∧ Hid (k = ps.length ∧ z = strOfNums (ps.getLastD []) ∧ Pr w W F D q p (mOf ps) (dOf N ps) ∧ Vd N ps)) (fun _ _ v54 _ => xs.length - (intOf v54).toNat)
  case atStart => exact ⟨0, F0, D0, [], 0, _, by omega, rfl, rfl, rfl, by omega, hid ⟨rfl, rfl, HP4.out, HV0.out⟩⟩
  case round =>
    clear HP4
    obtain ⟨j, F, D, ps, k, z, hj, rfl, rfl, rfl, hk, HW⟩ := hrel
    by_cases hlt : j < xs.length
    · obtain ⟨ad, A2, c2, l, rfl, _, hcl, hlc, hby, hlb⟩ := lists_at HRx.out HX.out hlt
      have HCl := hid hcl
      have HBy := hid hby
      have hc0 := (hcl wr HW.out.2.2.1.bel).1
      have HSv := hid (HW.out.2.2.2.saves hby)
      have hS := save_pr HW.out.2.2.1 HW.out.2.2.2 (hcl wr HW.out.2.2.1.bel).2 hlc (fun h0 ad e => by
        have h1 := hlb h0 ad e
        exact ⟨fun h => by have := HW.out.2.2.1.own _ (.inr h); omega, fun h => by have := HW.out.2.2.1.own _ (.inl h); omega⟩) hby
      have HS := hid hS
      have hj2 : (j : Int) < (xs.length : Int) := by omega
      clear hcl hby hlb hS
      have hw5k : w.heap.size ≤ wr.heap.size := HW.out.2.2.1.bel.size
      rcases Nat.lt_or_ge 200 l.length with h200 | h200
      case' inl =>
        rw [if_pos h200] at HSv
        rw [HSv.out] at HS
        simp only at HS
        have h200' : ¬ (l.length : Int) ≤ 200 := by omega
        go_wp2_with (fail)
        refine HS.out.mono ?_
        rintro e w5 ⟨rfl, F5, D5, hp5, _⟩
        have hc5 := (HCl.out w5 hp5.bel).1
        obtain ⟨k5, hk5⟩ : ∃ k5 : Nat, k5 = k := ⟨_, rfl⟩
        obtain ⟨z5, hz5⟩ : ∃ z5 : ByteArray, z5 = z := ⟨_, rfl⟩
        have HP5 : Hid (∃ ps5, k5 = ps5.length ∧ z5 = strOfNums (ps5.getLastD []) ∧ Pr w w5 F5 D5 q p (mOf ps5) (dOf N ps5) ∧ Vd N ps5) := hid ⟨ps, by rw [hk5]; exact HW.out.1, by rw [hz5]; exact HW.out.2.1, hp5, HW.out.2.2.2⟩
        have HK5 : Hid (k5 ≤ j + 1) := hid (by omega)
        rw [← hk5, ← hz5]
        have HO5 := hid (open_pd hp5.disk HW.out.2.2.2)
        clear hp5 HS HSv HW hk5 hz5 hk hc0
        go_wp2_with (fail)
      case' inr =>
        rw [if_neg (by omega)] at HSv
        rw [HSv.out] at HS
        simp only at HS
        have h200' : (l.length : Int) ≤ 200 := by omega
        have hkj : k ≤ 100 := by omega
        obtain ⟨k5, hk5⟩ : ∃ k5 : Nat, k5 = k + 1 := ⟨_, rfl⟩
        have hk6 : (k : Int) + 1 = (k5 : Int) := by omega
        have hk7 : (k5 : Int) - 1 = (k : Int) := by omega
        have hv5 := HW.out.2.2.2.add (u := l) (by have := HW.out.1; omega) (by omega) HBy.out
        have HV5 := hid hv5
        go_wp2_with (fail)
        refine HS.out.mono ?_
        rintro e w5 ⟨rfl, F5, D5, hp5, _⟩
        have hc5 := (HCl.out w5 hp5.bel).1
        have hcv := conv_str (P := Try.prog) (HCl.out w5 hp5.bel).2 22 9 5 c2 Try.underlying22 Try.underlying5 Try.underlying9
        obtain ⟨z5, hz5⟩ : ∃ z5 : ByteArray, z5 = strOfNums l := ⟨_, rfl⟩
        rw [← hz5] at hcv
        have HP5 : Hid (∃ ps5, k5 = ps5.length ∧ z5 = strOfNums (ps5.getLastD []) ∧ Pr w w5 F5 D5 q p (mOf ps5) (dOf N ps5) ∧ Vd N ps5) := hid ⟨ps ++ [l], by rw [hk5, List.length_append, HW.out.1]; rfl, by rw [hz5, getLastD_snoc], hp5, HV5.out⟩
        have HK5 : Hid (k5 ≤ j + 1) := hid (by omega)
        have hwt := Go.Proofs.Ytbcmaobopglooaa.Dk.written p (dOf N (ps ++ [l])) D5 (k : Int) w5 hp5.dk hv5.dok
        have hwe : (dOf N (ps ++ [l])).at_ (k : Int) = (((ps.length + 1) % 2 : Nat) : Int) := by
          rw [HW.out.1]
          exact HW.out.2.2.2.written l
        rw [hwe] at hwt
        obtain ⟨i0, hi0⟩ : ∃ i0 : Int, i0 = (((ps.length + 1) % 2 : Nat) : Int) := ⟨_, rfl⟩
        rw [← hi0] at hwt
        have hi1 : i0 = 0 ∨ i0 = 1 := by omega
        have HWt := hid hwt
        have HO5 := hid (open_pd hp5.disk HV5.out)
        clear hp5 HS HSv HW hk5 hz5 hk hc0 hv5 HV5 hwt hwe hi0
        go_wp2_with (fail)
        refine HWt.out.mono ?_
        rintro e w6 ⟨rfl, rfl⟩
        clear HWt
        rcases hi1 with rfl | rfl
        all_goals go_wp2_with (fail)
      all_goals
        obtain ⟨ps5, e1, e2, hp5, hv5⟩ := HP5.out
        have HE5 := hid (And.intro e1 e2)
        have HV5 := hid hv5
        have HQ5 := hid hp5
        have HO := hid (open_pd hp5.disk hv5)
        have hk5b : k5 ≤ 101 := by have := HK5.out; omega
        clear HO5 HP5 e1 e2 hp5 hv5
        refine HO.out.mono ?_
        rintro e w6 ⟨q2, F6, rfl, hp6, hf6, hu6⟩
        have HP6 := hid (And.intro (HQ5.out.quiet hu6) hp6)
        have hws := Go.Proofs.Ytbcmaobopglooaa.Dk.writes p (dOf N ps5) D5 w6 hp6.dk HV5.out.dok
        rw [HV5.out.logl, ← HE5.out.1] at hws
        have HWs := hid hws
        have hge : (mOf ps5).gen = (k5 : Int) := by rw [HE5.out.1]; rfl
        have hg1 := generation w6 F5 q p (mOf ps5) HP6.out.1.sp
        have hg2 := generation w6 F6 q2 p (mOf ps5) HP6.out.2.sp
        rw [hge] at hg1 hg2
        have HG1 := hid hg1
        have HG2 := hid hg2
        have hk64 : IntKind.u64.wrap (k5 : Int) = (k5 : Int) := by rw [IntKind.wrap_u64]; omega
        have hpy := payload w6 F5 q p (mOf ps5) HP6.out.1.sp HV5.out.ok
        unfold NewB at hpy
        have HPy := hid hpy
        clear hp6 hf6 hu6 hws hge hg1 hg2 hpy HO
        go_wp2_with (fail)
        refine HWs.out.mono ?_
        rintro e w7 ⟨rfl, rfl⟩
        go_wp2_with (fail)
        refine HG1.out.mono ?_
        rintro e w7 ⟨rfl, rfl⟩
        go_wp2_with (fail)
        refine HG2.out.mono ?_
        rintro e w7 ⟨rfl, rfl⟩
        go_wp2_with (fail)
        refine HPy.out.mono ?_
        rintro e w7 ⟨A7, c7, rfl, ho7, hu7⟩
        have hcv7 := conv_str (P := Try.prog) (Rn_of_own ho7) 22 9 5 c7 Try.underlying22 Try.underlying5 Try.underlying9
        rw [show strOfNums (mOf ps5).pay = z5 from HE5.out.2.symm] at hcv7
        have HP7 := hid (And.intro (HP6.out.1.quiet hu7) (HP6.out.2.quiet hu7))
        have hpy := payload w7 F6 q2 p (mOf ps5) HP7.out.2.sp HV5.out.ok
        unfold NewB at hpy
        have HPy2 := hid hpy
        clear ho7 hu7 hpy HPy HWs HG1 HG2
        go_wp2_with (fail)
        refine HPy2.out.mono ?_
        rintro e w8 ⟨A8, c8, rfl, ho8, hu8⟩
        have hcv8 := conv_str (P := Try.prog) (Rn_of_own ho8) 22 9 5 c8 Try.underlying22 Try.underlying5 Try.underlying9
        rw [show strOfNums (mOf ps5).pay = z5 from HE5.out.2.symm] at hcv8
        have HF : Hid (k5 = ps5.length ∧ z5 = strOfNums (ps5.getLastD []) ∧ Pr w w8 F5 D5 q p (mOf ps5) (dOf N ps5) ∧ Vd N ps5) := hid ⟨HE5.out.1, HE5.out.2, HP7.out.1.quiet hu8, HV5.out⟩
        clear ho8 hu8 HPy2
        go_wp2
        go_roundw
        case rel => exact ⟨j + 1, F5, D5, ps5, k5, z5, by omega, by go_num, rfl, rfl, HK5.out, HF⟩
        case measure => simp [intOf]; omega
    · obtain rfl : j = xs.length := by omega
      have HB := hid HW.out.2.2.1.bel
      go_wp2
      go_ret
      exact ⟨rfl, HB.out⟩
end Go.Proofs.Ytbcmaobopglooaa.Up
