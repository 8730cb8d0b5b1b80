/-
  A log that goes on upon a disk that is up; a log, its disk and the texts of its units; the walk of LogEpochs.
-/
import Derived.Test.YtheopehhpoikdaaGz
set_option linter.unusedVariables false
set_option linter.unusedSimpArgs false
namespace Go.Proofs.Ytheopehhpoikdaa.Gl
open Go.RowKit Go.Proofs.Ytheopehhpoikdaa Go.Proofs.Ytheopehhpoikdaa.B Go.Proofs.Ytheopehhpoikdaa.Cm Go.Proofs.Ytheopehhpoikdaa.Sm Go.Proofs.Ytheopehhpoikdaa.Dk Go.Proofs.Ytheopehhpoikdaa.Gp
/-- A log behind n appends, on a disk that is up and has no fuse. -/
structure Live (m : Lm) (d : Dm) (fr count : Nat) (ep : Int) (nb n : Nat) : Prop where
  snd : Snd m d
  fr : m.fr = fr
  count : m.count = count
  ep : m.ep = ep
  over : m.over = false
  down : d.down = false
  fuse : d.fuse = -1
  nb : d.nb = nb
  size : d.log.length ≤ 258 * n
theorem nbl_le {u : List Int} (h : u.length ≤ 60000) : nbl u ≤ 258 := by unfold nbl; omega
theorem Live.step {m : Lm} {d : Dm} {fr count nb n : Nat} {ep : Int} (h : Live m d fr count ep nb n) {u : List Int} (hb : Byte u) (hn : n ≤ 1000) :
    (m.ap d u).1 = apC m u ∧ Live (m.ap d u).2.2 (m.ap d u).2.1 fr count ep nb (n + 1) ∧ (m.ap d u).2.2.us = (if apC m u = 0 then m.us ++ [u] else m.us) := by
  by_cases hc : apC m u = 0
  · have hf : d.fuse < 0 := by rw [h.fuse]; decide
    obtain ⟨h1, h2, h3⟩ := apC_ok hc
    have h4 := nbl_le h2
    rw [ap_alive h.over h.down hf hc, if_pos hc]
    have hs := h.size
    refine ⟨hc.symm, ⟨h.snd.add hc hb (.inl hf) (by omega), h.fr, h.count, h.ep, h.over, h.down, ?_, h.nb, ?_⟩, rfl⟩
    · simp only [wrs]
      rw [if_neg (by omega)]
      exact h.fuse
    · simp only [wrs, List.length_append, List.length_map, List.length_range]
      omega
  · rw [ap_stop h.over d hc, if_neg hc]
    exact ⟨rfl, ⟨h.snd, h.fr, h.count, h.ep, h.over, h.down, h.fuse, h.nb, by have := h.size; simp only; omega⟩, rfl⟩
theorem Live.new {fr count nb : Nat} {ep : Int} (hnb : nb ≤ 65536) (ha : fr + count ≤ nb) (hep : 0 ≤ ep ∧ ep ≤ 18446744073709551615) : Live (Lm.new fr count ep) ⟨nb, [], -1, false⟩ fr count ep nb 0 :=
  ⟨Snd.new hnb ha hep, rfl, rfl, rfl, rfl, rfl, rfl, rfl, by simp⟩
/-- What Open answers of it. -/
theorem Live.opened {m : Lm} {d : Dm} {fr count nb n : Nat} {ep : Int} (h : Live m d fr count ep nb n) (hc : 1 ≤ count) (ha : fr + count ≤ nb) : opL d fr count ep = (0, some m) := by
  have h1 := h.snd.ar
  rw [h.ep, h.fr, h.count] at h1
  rw [opL_ar h.down hc (by rw [h.nb]; exact ha) h1]
  obtain ⟨a, b, c, us, used, ov⟩ := m
  have h2 := h.fr
  have h3 := h.count
  have h4 := h.ep
  have h5 := h.over
  simp only at h2 h3 h4 h5
  subst h2 h3 h4 h5
  rfl
theorem Snd.later {m : Lm} {d : Dm} (h : Snd m d) {e2 : Int} (hlt : m.ep < e2) (h2 : e2 ≤ 18446744073709551615) : Snd { m with ep := e2, us := [], used := 0 } d :=
  ⟨h.ar.later hlt h2, h.fit, ⟨Nat.zero_le _, h.ok.area, ⟨by have := h.ok.ep; simp only; omega, h2⟩, by simp, fun x hx => (by cases hx)⟩, h.dok, h.area, fun x hx => (by cases hx), h.size⟩
theorem Live.later {m : Lm} {d : Dm} {fr count nb n : Nat} {ep e2 : Int} (h : Live m d fr count ep nb n) (hlt : ep < e2) (h2 : e2 ≤ 18446744073709551615) : Live { m with ep := e2, us := [], used := 0 } d fr count e2 nb n :=
  ⟨h.snd.later (by rw [h.ep]; exact hlt) h2, h.fr, h.count, rfl, h.over, h.down, h.fuse, h.nb, h.size⟩
theorem Live.opened_later {m : Lm} {d : Dm} {fr count nb n : Nat} {ep e2 : Int} (h : Live m d fr count ep nb n) (hc : 1 ≤ count) (ha : fr + count ≤ nb) (hlt : ep < e2) (h2 : e2 ≤ 18446744073709551615) : opL d fr count e2 = (0, some (Lm.new fr count e2)) := by
  have h1 := h.snd.ar
  rw [h.ep, h.fr, h.count] at h1
  exact opL_ar h.down hc (by rw [h.nb]; exact ha) (h1.later hlt h2)
/-- A log, its disk, and the texts of its units. -/
structure Ts (w W : World) (F D : Nat → Prop) (q p : Nat) (m : Lm) (d : Dm) (v : Value) : Prop where
  pl : Pl w W F D q p m d
  tx : W.ownsRow 0 9 1 v m.us.length (m.us.map st)
  tn : ∀ g, v.ownBlock = some g → w.heap.size ≤ g ∧ ¬ F g ∧ ¬ D g
section
variable {w W W' : World} {F D : Nat → Prop} {q p : Nat} {m : Lm} {d : Dm} {v : Value}
theorem Ts.quiet (h : Ts w W F D q p m d v) (hu : Upd No W W') : Ts w W' F D q p m d v := ⟨h.pl.quiet hu, own_upd h.tx hu fun _ _ => no_ _, h.tn⟩
end
/-- Open, upon a disk. -/
theorem open_pl {w W : World} {D : Nat → Prop} {p fr count : Nat} {d : Dm} {ep : Int} {m : Lm} (h : Pd w W D p d) (hok : d.ok) (hfit : Fit d) (hep : 0 ≤ ep ∧ ep ≤ 18446744073709551615) (ho : opL d fr count ep = (0, some m)) :
    Calls Try.prog 9 #[.pointer (some ⟨p, 0, none⟩), .int .i64 fr, .int .i64 count, .int .u64 ep] W fun e w' => ∃ q F, e = .returned (.tuple #[.pointer (some ⟨q, 0, none⟩), .int .i64 0]) ∧ Pl w w' F D q p m d ∧ m.ok ∧ Upd No W w' := by
  have h1 := open_ p d D fr count ep W h.dk hok hfit hep
  rw [ho] at h1
  refine h1.mono ?_
  rintro e w' ⟨q, F, rfl, hl, hmo, hF, hu⟩
  exact ⟨q, F, rfl, h.opened hl hF hu, hmo, hu⟩
set_option maxHeartbeats 4000000 in
set_option maxRecDepth 100000 in
theorem epochs (A B : Option Addr) (c d : Nat) (xs ys : List Oi) (Y : Nat) (w : World) (hr : Rd w 3 A xs.length (xs.flatMap ocells)) (hl : xs.length ≤ c ∧ c ≤ maxLen) (hx : ∀ x ∈ xs, Orow w x ∧ Byte x.2.1 ∧ -9223372036854775808 ≤ x.1.2 ∧ x.1.2 ≤ 9223372036854775807)
    (hry : Rd w 3 B ys.length (ys.flatMap ocells)) (hly : ys.length ≤ d ∧ d ≤ maxLen) (hy : ∀ x ∈ ys, Orow w x ∧ Byte x.2.1 ∧ -9223372036854775808 ≤ x.1.2 ∧ x.1.2 ≤ 9223372036854775807) (hY : Y ≤ 255) :
    Calls Try.prog 4 #[.slice A xs.length c, .slice B ys.length d, .int .u8 Y] w fun e w' => e = .returned (.bool true) ∧ Below w.heap.size w w' := by
  have hl1 : xs.length ≤ 9223372036854775807 := by have := hl.1; have := hl.2; simp only [maxLen] at this; omega
  have hl2 : ys.length ≤ 9223372036854775807 := by have := hly.1; have := hly.2; simp only [maxLen] at this; omega
  have HX := hid hx
  have HY := hid hy
  have HRx := hid fun W (hu : Upd No w W) => Rd.upd hr (by omega) hu fun _ _ => no_ _
  have HRy := hid fun W (hu : Upd No w W) => Rd.upd hry (by omega) hu fun _ _ => no_ _
  clear hl hly hx hy hr hry
  by_cases h20 : 20 < xs.length ∨ 20 < ys.length
  · rcases h20 with h20 | h20
    case' inl => have h20' : (20 : Int) < (xs.length : Int) := by omega
    case' inr =>
      have h20y : (20 : Int) < (ys.length : Int) := by omega
      by_cases h20' : (20 : Int) < (xs.length : Int)
    all_goals
      go_enter Try.func4, Try.ntmps4
      go_wp2_with (fail)
      refine Calls.mono (awake w) ?_
      rintro e w1 ⟨rfl, hb1⟩
      have HB1 := hid hb1
      clear hb1
      go_wp2_with (fail)
      refine Calls.mono (awake w1) ?_
      rintro e w2 ⟨rfl, hb2⟩
      have HB2 := hid (HB1.out.trans (hb2.mono HB1.out.size))
      clear hb2
      go_wp2
      go_ret
      exact ⟨rfl, HB2.out⟩
  have h20x : ¬ (20 : Int) < (xs.length : Int) := by omega
  have h20y : ¬ (20 : Int) < (ys.length : Int) := by omega
  have hxn : xs.length ≤ 20 := by omega
  have hyn : ys.length ≤ 20 := by omega
  clear h20
  go_enter Try.func4, Try.ntmps4
  go_wp2_with (fail)
  refine Calls.mono (awake w) ?_
  rintro e w1 ⟨rfl, hb1⟩
  have HND := hid (new_disk 40 w w1 hb1 (by omega))
  clear hb1
  go_wp2_with (fail)
  refine HND.out.mono ?_
  rintro e w2 ⟨p, D0, rfl, hd2⟩
  have HO := hid (open_new (fr := 0) (count := 40) (ep := 7) hd2 (by omega) (by omega) (by omega) (by omega))
  clear hd2 HND
  go_wp2_with (fail)
  refine HO.out.mono ?_
  rintro e w3 ⟨q, F0, rfl, hp3⟩
  have HP3 := hid (And.intro hp3 (Live.new (fr := 0) (count := 40) (nb := 40) (ep := 7) (by omega) (by omega) (by omega)))
  clear hp3 HO
  go_wp2_with (fail)
  go_loopw [40] (fun v40 W => ∃ (j : Nat) (F D : Nat → Prop) (m : Lm) (dd : Dm), j ≤ xs.length ∧ v40 = .int .i64 j ∧ Hid (Pl w W F D q p m dd ∧ Live m dd 0 40 7 40 j)) (fun v40 _ => xs.length - (intOf v40).toNat)
  case atStart => exact ⟨0, F0, D0, _, _, by omega, rfl, HP3⟩
  case round =>
    clear HP3
    obtain ⟨j, F, D, m, dd, hj, rfl, HW⟩ := hrel
    by_cases hlt : j < xs.length
    · have hU := Upd.of_below No HW.out.1.bel
      obtain ⟨ad, rfl, x0, x1, x2⟩ := op_at (HRx.out _ hU) hlt
      obtain ⟨ho, hby, hn1, hn2⟩ := HX.out _ (List.getElem_mem hlt)
      generalize xs[j] = o at *
      obtain ⟨⟨k0, n0⟩, b0, v0⟩ := o
      have ho' := ho.upd (F := No) hU
      obtain ⟨Ab, cb, hvb, _, hcb1, hcb2⟩ := ho
      simp only at x0 x1 x2 hby hn1 hn2 hvb hcb1
      subst hvb
      have HUt := hid (unit_ _ wr ho' ⟨hn1, hn2⟩)
      have hul := unitN_le b0 (min (max n0 0) 40).toNat
      have HBu : Hid (Byte (unitL n0 b0)) := hid (unitN_byte hby _)
      unfold UtOut at HUt
      simp only at HUt
      have hul2 : (unitL n0 b0).length ≤ 4000 := hul
      generalize unitL n0 b0 = u at *
      have hj1 : (0 : Int) ≤ (j : Int) := by omega
      have hj2 : (j : Int) < (xs.length : Int) := by omega
      clear ho' hby hul hU
      go_wp2_with (fail)
      refine HUt.out.mono ?_
      rintro e w5 ⟨A5, c5, rfl, hc51, hc52, hr5, hA5, hu5⟩
      have HW5 := hid (HW.out.1.quiet hu5)
      have HA := hid (append_pl HW5.out HW.out.2.snd hr5 hc51 hc52 (fun ad e => by
        have h1 := hA5 ad e
        exact ⟨fun h => by have := HW.out.1.dk.lt _ h; omega, fun h => by have := HW.out.1.lg.lt _ h; omega⟩) HBu.out)
      obtain ⟨s1, s2, s3⟩ := HW.out.2.step HBu.out (by omega)
      have HLv := hid s2
      clear hc51 hc52 hr5 hA5 hu5 HUt x0 x1 x2 s1 s2 s3
      generalize m.ap dd u = r at *
      obtain ⟨rc, d2, m2⟩ := r
      go_wp2_with (fail)
      refine HA.out.mono ?_
      rintro e w6 ⟨rfl, F6, D6, hp6, _⟩
      have HP6 := hid (And.intro hp6 HLv.out)
      try simp only at HP6
      clear hp6 HA HLv
      go_wp2
      go_roundw
      case rel => exact ⟨j + 1, F6, D6, m2, d2, by omega, by go_num, HP6⟩
      case measure => simp [intOf]; omega
    · obtain rfl : j = xs.length := by omega
      obtain ⟨wo, rfl⟩ : ∃ wo : World, wo = wr := ⟨_, rfl⟩
      obtain ⟨E, hE⟩ : ∃ E : Nat, E = 8 + Y := ⟨_, rfl⟩
      have HEi := hid (show (8 : Int) + (Y : Int) = (E : Int) by omega)
      have hE7 : (7 : Int) < (E : Int) := by omega
      have hEr : (0 : Int) ≤ (E : Int) ∧ (E : Int) ≤ 18446744073709551615 := by omega
      have HEr := hid (And.intro hE7 hEr)
      have HOx := hid (open_pl HW.out.1.disk HW.out.2.snd.dok HW.out.2.snd.fit hEr (HW.out.2.opened_later (e2 := (E : Int)) (by omega) (by omega) hE7 hEr.2))
      clear hE hE7 hEr
      go_wp2_with (fail)
      rw [HEi.out]
      refine HOx.out.mono ?_
      rintro e w7 ⟨q7, F7, rfl, hp7, hmo7, hu7⟩
      have HP7 := hid (And.intro hp7 (HW.out.1.quiet hu7))
      have HUn := hid (units q7 p _ F7 w7 hp7.lg hmo7)
      have HMo := hid hmo7
      unfold UnOut at HUn
      rw [show (Lm.new 0 40 (E : Int)).us = [] from rfl] at HUn
      simp only [List.length_nil] at HUn
      clear hp7 hmo7 hu7 HOx
      go_wp2_with (fail)
      refine HUn.out.mono ?_
      rintro e w8 ⟨A8, c8, rfl, _, hu8⟩
      have HP8 := hid (And.intro (HP7.out.1.quiet hu8) (HP7.out.2.quiet hu8))
      have hRm := room q7 p _ F7 w8 HP8.out.1.lg HMo.out
      rw [show (Lm.new 0 40 (E : Int)).count - (Lm.new 0 40 (E : Int)).used = 40 from rfl] at hRm
      have HRm := hid hRm
      clear hu8 HUn HP7 hRm
      go_wp2_with (fail)
      refine HRm.out.mono ?_
      rintro e w9 ⟨rfl, hu9⟩
      have HP9 := hid (HP8.out.2.quiet hu9)
      have hRs := reset q p m F (E : Int) w9 HP9.out.lg
      have hrs : m.rs (E : Int) = (0, { m with ep := (E : Int), us := [], used := 0 }) := by
        unfold Lm.rs
        rw [HW.out.2.over, if_neg (by simp), HW.out.2.ep, if_neg (by have := HEr.out.1; omega)]
      rw [hrs] at hRs
      have HRs := hid hRs
      have HLv := hid (HW.out.2.later HEr.out.1 HEr.out.2.2)
      have HUs := hid (show ({ m with ep := (E : Int), us := [], used := 0 } : Lm).us = [] from rfl)
      generalize ({ m with ep := (E : Int), us := [], used := 0 } : Lm) = m2 at *
      clear hu9 hRs hrs HRm HP8
      go_wp2_with (fail)
      refine HRs.out.mono ?_
      rintro e w10 ⟨rfl, hlg10, hu10⟩
      have HT10 : Hid (Ts w w10 F D q p m2 dd (.slice none 0 0) ∧ Live m2 dd 0 40 (E : Int) 40 (xs.length + 0)) := hid ⟨⟨⟨hlg10, HP9.out.dk.upd hu10 fun k hk hf => HP9.out.fd k hf hk, HP9.out.fd, HP9.out.own, HP9.out.bel.trans (hu10.below HP9.out.bel.size fun k hk => HP9.out.own k (.inl hk))⟩, by rw [HUs.out]; exact World.ownsRow_nil _ _ _ _, fun g hg => by simp [Value.ownBlock] at hg⟩, HLv.out⟩
      clear hlg10 hu10 HRs HP9 HLv HUs HW
      go_wp2_with (fail)
      go_loopw [14, 81] (fun v14 v81 W => ∃ (i : Nat) (F D : Nat → Prop) (m : Lm) (dd : Dm), i ≤ ys.length ∧ v81 = .int .i64 i ∧ Hid (Ts w W F D q p m dd v14 ∧ Live m dd 0 40 (E : Int) 40 (xs.length + i))) (fun _ v81 _ => ys.length - (intOf v81).toNat)
      case atStart => exact ⟨0, F, D, m2, dd, by omega, rfl, HT10⟩
      case round =>
        clear HT10 F D m2 dd
        obtain ⟨i, F, D, m, dd, hi, rfl, HW⟩ := hrel
        obtain ⟨Av, cv, hv14, _, _⟩ := own_shape HW.out.1.tx
        subst hv14
        by_cases hlt2 : i < ys.length
        · have hU := Upd.of_below No HW.out.1.pl.bel
          obtain ⟨ad, rfl, x0, x1, x2⟩ := op_at (HRy.out _ hU) hlt2
          obtain ⟨ho, hby, hn1, hn2⟩ := HY.out _ (List.getElem_mem hlt2)
          generalize ys[i] = o at *
          obtain ⟨⟨k0, n0⟩, b0, v0⟩ := o
          have ho' := ho.upd (F := No) hU
          obtain ⟨Ab, cb, hvb, _, hcb1, hcb2⟩ := ho
          simp only at x0 x1 x2 hby hn1 hn2 hvb hcb1
          subst hvb
          have HUt := hid (unit_ _ wr ho' ⟨hn1, hn2⟩)
          have hul := unitN_le b0 (min (max n0 0) 40).toNat
          have HBu : Hid (Byte (unitL n0 b0)) := hid (unitN_byte hby _)
          unfold UtOut at HUt
          simp only at HUt
          have hul2 : (unitL n0 b0).length ≤ 4000 := hul
          generalize unitL n0 b0 = u at *
          have hi1 : (0 : Int) ≤ (i : Int) := by omega
          have hi2 : (i : Int) < (ys.length : Int) := by omega
          clear ho' hby hul hU
          go_wp2_with (fail)
          refine HUt.out.mono ?_
          rintro e w5 ⟨A5, c5, rfl, hc51, hc52, hr5, hA5, hu5⟩
          have HW5 := hid (HW.out.1.quiet hu5)
          have hAA := append_pl HW5.out.pl HW.out.2.snd hr5 hc51 hc52 (fun ad e => by
            have h1 := hA5 ad e
            exact ⟨fun h => by have := HW.out.1.pl.dk.lt _ h; omega, fun h => by have := HW.out.1.pl.lg.lt _ h; omega⟩) HBu.out
          obtain ⟨s1, s2, s3⟩ := HW.out.2.step HBu.out (by omega)
          rw [s1] at hAA
          have HA := hid hAA
          have HLv := hid (And.intro s2 s3)
          have HR5 := hid (And.intro hr5 hA5)
          have hwz := HW.out.1.pl.bel.size
          clear hc51 hc52 hr5 hA5 hu5 HUt x0 x1 x2 s1 s2 s3 hAA
          generalize m.ap dd u = r at *
          obtain ⟨rc, d2, m2⟩ := r
          simp only at HA HLv
          have HX6 := hid (And.intro (HW.out.2.opened (by omega) (by omega)) HW.out.2)
          by_cases hc : apC m u = 0
          case' pos =>
            rw [if_pos hc] at HLv
            rw [hc] at HA
            clear hc
            go_wp2_with (fail)
            refine HA.out.mono ?_
            rintro e w6 ⟨rfl, F6, D6, hp6, hu6, hs6⟩
            have htx6 : w6.ownsRow 0 9 1 (.slice Av m.us.length cv) m.us.length (m.us.map st) := own_upd HW5.out.tx hu6 fun g hg h => h.elim (HW5.out.tn g hg).2.1 (HW5.out.tn g hg).2.2
            have hA6 : ∀ ad, A5 = some ad → ¬ (F ad.block ∨ D ad.block) := fun ad e h => by
              have h1 := HR5.out.2 ad e
              rcases h with h | h
              · have := HW.out.1.pl.lg.lt _ h; omega
              · have := HW.out.1.pl.dk.lt _ h; omega
            have hr6 : Rn w6 .u8 A5 u := Rd.upd HR5.out.1 (by omega) hu6 hA6
            have hcv := conv_all hr6 c5
            have htn6 : ∀ g, (Value.slice Av m.us.length cv).ownBlock = some g → w.heap.size ≤ g ∧ ¬ F6 g ∧ ¬ D6 g := fun g hg => by
              obtain ⟨t1, t2, t3⟩ := HW5.out.tn g hg
              have hlt := (HW5.out.tx.lt g hg).2
              refine ⟨t1, fun h => ?_, fun h => ?_⟩
              · rcases hs6 g (.inl h) with h | h
                · exact h.elim t2 t3
                · omega
              · rcases hs6 g (.inr h) with h | h
                · exact h.elim t2 t3
                · omega
            have hml : m.us.length ≤ 65536 := HW.out.2.snd.ok.many
            have HT6 := hid (And.intro hp6 (And.intro htx6 (And.intro htn6 hcv)))
            have hcv6 := hcv w6 (Upd.refl _ _)
            have hml2 : m.us.length + 1 ≤ 9223372036854775807 := by omega
            have hml3 : (m.us.length + 1) * 16 ≤ 140737488355328 := by omega
            clear hp6 hu6 hs6 htx6 hA6 hr6 hcv htn6 HA
            unfold st at hcv6
            go_wp2_with (at_builtin; refine ap_row 0 rfl (.tmp 93) (.tmp 96) 42 9 (.string ⟨#[]⟩) 1 16 rfl Try.underlying42 str_info rfl (by omega) (.slice Av m.us.length cv) m.us.length (m.us.map st) (some ⟨w6.heap.size, 0, none⟩) 1 1 [st u] rfl rfl (HT6.out.2.1.alloc _) (Rd_lit w6 _ 1 1 _ rfl) (by intro z hz; obtain rfl := List.mem_singleton.1 hz; rfl) hml2 hml3 (Nat.zero_le _) ?_; intro A7 c7 w7 ho7 hg7 hat7)
            have hal : Upd No w6 (w6.alloc (.cells #[.string (strOfNums u)] 9)) := (Upd.refl _ _).alloc _
            have HT : Hid (Ts w w7 F6 D6 q p m2 d2 (.slice A7 (m.us.length + 1) c7) ∧ Live m2 d2 0 40 (E : Int) 40 (xs.length + (i + 1))) := hid ⟨by
              have hu7 : Upd (fun k => (Value.slice Av m.us.length cv).ownBlock = some k) w6 w7 := (hal.mono fun _ _ h => h.elim).grown hg7 fun k hk => .inl hk
              have h1 := HT6.out.1
              have h2 := HT6.out.2.2.1
              refine ⟨⟨h1.lg.upd hu7 fun k hk e => (h2 k e).2.1 hk, h1.dk.upd hu7 fun k hk e => (h2 k e).2.2 hk, h1.fd, h1.own, h1.bel.trans (hu7.below h1.bel.size fun k hk => (h2 k hk).1)⟩, ?_, fun g hg => ?_⟩
              · rw [HLv.out.2, List.length_append, List.map_append]
                exact ho7
              · rcases hat7 g hg with e | e
                · exact h2 g e
                · have hz := hal.size
                  have h3 := h1.bel.size
                  exact ⟨by omega, fun h => by have := h1.lg.lt g h; omega, fun h => by have := h1.dk.lt g h; omega⟩, HLv.out.1⟩
            clear ho7 hg7 hat7 hal hcv6 HT6 HLv HX6 HW5 HR5
          case' neg =>
            rw [if_neg hc] at HLv
            have hne : (apC m u == 0) = false := by simpa using hc
            clear hc
            generalize apC m u = rc2 at *
            go_wp2_with (fail)
            refine HA.out.mono ?_
            rintro e w6 ⟨rfl, F6, D6, hp6, hu6, hs6⟩
            have HT : Hid (Ts w w6 F6 D6 q p m2 d2 (.slice Av m.us.length cv) ∧ Live m2 d2 0 40 (E : Int) 40 (xs.length + (i + 1))) := hid ⟨⟨hp6, by
              rw [HLv.out.2]
              exact own_upd HW5.out.tx hu6 fun g hg h => h.elim (HW5.out.tn g hg).2.1 (HW5.out.tn g hg).2.2, fun g hg => by
              obtain ⟨t1, t2, t3⟩ := HW5.out.tn g hg
              have hlt := (HW5.out.tx.lt g hg).2
              refine ⟨t1, fun h => ?_, fun h => ?_⟩
              · rcases hs6 g (.inl h) with h | h
                · exact h.elim t2 t3
                · omega
              · rcases hs6 g (.inr h) with h | h
                · exact h.elim t2 t3
                · omega⟩, HLv.out.1⟩
            clear hp6 hu6 hs6 HA HLv HX6 HW5 HR5
            go_wp2_with (fail)
          all_goals
            refine Calls.mono (open_pl HT.out.1.pl.disk HT.out.2.snd.dok HT.out.2.snd.fit HEr.out.2 (HT.out.2.opened (by omega) (by omega))) ?_
            rintro e w8 ⟨q8, F8, rfl, hp8, hmo8, hu8⟩
            have HT8 := hid (And.intro (HT.out.1.quiet hu8) (And.intro HT.out.2 hp8))
            have HUn := hid (units q8 p _ F8 w8 hp8.lg hmo8)
            unfold UnOut at HUn
            clear hp8 hmo8 hu8
            go_wp2_with (fail)
            refine HUn.out.mono ?_
            rintro e w9 ⟨A9, c9, rfl, hun9, hu9⟩
            have HT9 := hid (And.intro (HT8.out.1.quiet hu9) HT.out.2)
            have htx := HT9.out.1.tx
            obtain ⟨_, _, hsv, _, _⟩ := own_shape htx
            simp only [Value.slice.injEq] at hsv
            obtain ⟨rfl, hsv2, rfl⟩ := hsv
            rw [hsv2] at htx
            have HV2 := hid hsv2
            clear hsv2
            have HSm := hid fun dd => same_ (d := dd) hun9 (Rd.of_own htx) HT9.out.2.snd.ok.many
            clear htx hun9 hu9 HUn HT8
            go_wp2_with (fail)
            conv => arg 3; rw [HV2.out]
            refine (HSm.out _).mono ?_
            rintro e w10 ⟨rfl, hu10⟩
            have HT10 := hid (And.intro (HT9.out.1.quiet hu10) HT9.out.2)
            clear hu10 HSm HT9
            go_wp2
            go_roundw
            case rel => exact ⟨i + 1, F6, D6, m2, d2, by omega, by go_num, HT10⟩
            case measure => simp [intOf]; omega
        · obtain rfl : i = ys.length := by omega
          have HE := hid HW.out.1.pl.bel
          go_wp2
          go_ret
          exact ⟨rfl, HE.out⟩
theorem epochs_law (A B : Option Addr) (c d : Nat) (xs ys : List Oi) (n : Int) (w : World) (hr : Rd w 3 A xs.length (xs.flatMap ocells)) (hl : xs.length ≤ c ∧ c ≤ maxLen) (hx : ∀ x ∈ xs, Orow w x ∧ Byte x.2.1 ∧ -9223372036854775808 ≤ x.1.2 ∧ x.1.2 ≤ 9223372036854775807)
    (hry : Rd w 3 B ys.length (ys.flatMap ocells)) (hly : ys.length ≤ d ∧ d ≤ maxLen) (hy : ∀ x ∈ ys, Orow w x ∧ Byte x.2.1 ∧ -9223372036854775808 ≤ x.1.2 ∧ x.1.2 ≤ 9223372036854775807) (hn : 0 ≤ n ∧ n ≤ 255) :
    Calls Try.prog 4 #[.slice A xs.length c, .slice B ys.length d, .int .u8 n] w fun e w' => e = .returned (.bool true) ∧ Below w.heap.size w w' := by
  obtain ⟨N, rfl⟩ : ∃ N : Nat, n = N := ⟨n.toNat, by omega⟩
  exact epochs A B c d xs ys N w hr hl hx hry hly hy (by omega)
end Go.Proofs.Ytheopehhpoikdaa.Gl
