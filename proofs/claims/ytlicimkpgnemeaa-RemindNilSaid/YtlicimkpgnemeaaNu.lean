/-
  The walks of RemindSeries, RemindNil.
-/
import Derived.Test.YtlicimkpgnemeaaNa
set_option linter.unusedVariables false
set_option linter.unusedSimpArgs false
namespace Go.Proofs.Ytlicimkpgnemeaa.Nd
open Go.RowKit Go.Proofs.Ytlicimkpgnemeaa.B Go.Proofs.Ytlicimkpgnemeaa.Op
theorem next_one (r : Rm) : nextR [r] r = if r.due + r.per ≤ 9223372036854775807 then [{ r with due := r.due + r.per }] else [] := by
  have h : del r.actor r.name [r] = [] := by
    unfold del
    rw [List.filter_cons, ke_iff.2 ⟨rfl, rfl⟩]
    rfl
  unfold nextR
  rw [h]
  rfl
theorem serve_cons (r : Rm) (t : List Rm) (now : Int) : serveR (r :: t) now = if now < r.due then (none, r :: t) else (some r, nextR (r :: t) r) := by
  by_cases h : now < r.due <;> simp [serveR, dueR, h]
set_option maxHeartbeats 4000000 in
set_option maxRecDepth 100000 in
theorem series_law (due per now : Int) (n : Int) (w : World) (hd : I64 due) (hp : I64 per) (hn : 0 ≤ n ∧ n ≤ 255) :
    Calls Try.prog 5 #[.int .i64 due, .int .i64 per, .int .i64 now, .int .u8 n] w fun e w' => e = .returned (.bool true) ∧ Below w.heap.size w w' := by
  obtain ⟨N, rfl⟩ : ∃ N : Nat, n = (N : Int) := ⟨n.toNat, by omega⟩
  have hwN : IntKind.i64.wrap (N : Int) = (N : Int) := IntWalk.i64_in _ (by omega)
  have HS := hid fun (W : World) (F : Nat → Prop) (q : Nat) (h : Pq w W F q []) => set_pq h ⟨sa, sn, due, per, 7⟩ ⟨hd, hp, by unfold I64; simp⟩
  have hwr := wrong_a sn due per 7 (by decide)
  unfold rv at HS
  simp only [sa, sn] at HS hwr
  obtain ⟨hd1, hd2⟩ := hd
  obtain ⟨hp1, hp2⟩ := hp
  by_cases hbad : due < 0 ∨ per < 1
  · rw [if_pos hbad] at hwr
    have hse : setR [] ⟨⟨#[97]⟩, ⟨#[110]⟩, due, per, 7⟩ = (3, []) := by
      unfold setR
      rw [if_pos (by rw [hwr]; simp), hwr]
    rw [hse] at HS
    clear hse hwr
    have hdis : due < 0 ∨ (¬ due < 0 ∧ per < 1) := by omega
    clear hbad
    go_enter Try.func5, Try.ntmps5
    go_wp2_with (fail)
    refine (awake w).mono ?_
    rintro e w1 ⟨rfl, hb1⟩
    have HP := hid (Pq.new hb1)
    go_wp2_with (fail)
    refine (new_ w1).mono ?_
    rintro e w2 ⟨rfl, rfl⟩
    go_wp2_with (fail)
    refine (HS.out _ _ _ HP.out).mono ?_
    rintro e w3 ⟨rfl, F3, hp3, _⟩
    have hal := all_ _ F3 [] w3 hp3.qo (by simp)
    unfold NewR at hal
    have HA := hid hal
    have HP3 := hid hp3
    clear hal hp3 HS HP hb1
    rcases hdis with h | ⟨h, h2⟩
    all_goals
      go_wp2_with (fail)
      refine HA.out.mono ?_
      rintro e w4 ⟨A4, c4, rfl, _, hu4⟩
      have HB := hid (HP3.out.quiet hu4).bel
      clear hu4
      try simp only [List.length_nil]
      go_wp2
      go_ret
      exact ⟨rfl, HB.out⟩
  · rw [if_neg hbad] at hwr
    have hse := set_first hwr
    rw [hse] at HS
    have hd0 : ¬ due < 0 := by omega
    have hp0 : ¬ per < 1 := by omega
    clear hse hwr hbad
    go_enter Try.func5, Try.ntmps5
    go_wp2_with (fail)
    refine (awake w).mono ?_
    rintro e w1 ⟨rfl, hb1⟩
    have HP := hid (Pq.new hb1)
    go_wp2_with (fail)
    refine (new_ w1).mono ?_
    rintro e w2 ⟨rfl, rfl⟩
    obtain ⟨q, hq⟩ : ∃ q, q = w1.heap.size := ⟨_, rfl⟩
    have HS2 := hid (HS.out _ _ _ HP.out)
    rw [← hq] at HS2 ⊢
    clear hq HP HS hb1
    go_wp2_with (fail)
    refine HS2.out.mono ?_
    rintro e w3 ⟨rfl, F3, hp3, _⟩
    have HP3 := hid hp3
    clear hp3 HS2
    go_wp2_with (fail)
    try rw [hwN]
    go_loopw [11, 12, 40] (fun v11 v12 v40 W => ∃ (j : Nat) (nx : Int) (over : Bool) (F : Nat → Prop) (l : List Rm), j ≤ N ∧ v40 = .int .i64 j ∧ v11 = .int .i64 nx ∧ v12 = .bool over ∧ Hid (Pq w W F q l ∧ (over = true → l = []) ∧ (over = false → l = [⟨⟨#[97]⟩, ⟨#[110]⟩, nx, per, 7⟩] ∧ 0 ≤ nx ∧ nx ≤ 9223372036854775807))) (fun _ _ v40 _ => N - (intOf v40).toNat)
    case atStart => exact ⟨0, due, false, F3, _, by omega, rfl, rfl, rfl, hid ⟨HP3.out, fun h => (by cases h), fun _ => ⟨rfl, by omega, by omega⟩⟩⟩
    case round =>
      clear HP3
      obtain ⟨j, nx, over, F, l, hj, rfl, rfl, rfl, HW⟩ := hrel
      have hsv := serve_pq HW.out.1 now
      have hal := fun (W : World) (F' : Nat → Prop) (l' : List Rm) (h : Pq w W F' q l') => all_ q F' l' W h.qo (by have := h.inv.len; omega)
      unfold NewR at hal
      have HA := hid hal
      clear hal
      by_cases hlt : j < N
      · have hj2 : (j : Int) < (N : Int) := by omega
        rcases over with _ | _
        · obtain ⟨rfl, h0, h1⟩ := HW.out.2.2 rfl
          by_cases hnx : nx ≤ now
          · have hs : serveR [⟨⟨#[97]⟩, ⟨#[110]⟩, nx, per, 7⟩] now = (some ⟨⟨#[97]⟩, ⟨#[110]⟩, nx, per, 7⟩, nextR [⟨⟨#[97]⟩, ⟨#[110]⟩, nx, per, 7⟩] ⟨⟨#[97]⟩, ⟨#[110]⟩, nx, per, 7⟩) := by
              rw [serve_cons, if_neg (by simp only; omega)]
            rw [hs, next_one] at hsv
            simp only [tell, rv, Option.getD_some, Option.isSome_some] at hsv
            have HV := hid hsv
            clear hs hsv HA
            by_cases hov : nx + per ≤ 9223372036854775807
            · rw [if_pos hov] at HV
              have hov' : ¬ 9223372036854775807 - per < nx := by omega
              go_wp2_with (fail)
              refine HV.out.mono ?_
              rintro e w4 ⟨rfl, F4, hp4, _⟩
              have HP4 := hid fun o => hp4.quiet ((Upd.refl No w4).alloc o)
              clear hp4 HV
              go_wp2
              go_roundw
              case rel => exact ⟨j + 1, nx + per, _, F4, _, by omega, by go_num, rfl, rfl, hid ⟨HP4.out _, fun h => (by first | (simp at h; done) | (simp at h; omega)), fun _ => ⟨rfl, by omega, by omega⟩⟩⟩
              case measure => simp [intOf]; omega
            · rw [if_neg hov] at HV
              have hov' : 9223372036854775807 - per < nx := by omega
              clear hov
              go_wp2_with (fail)
              refine HV.out.mono ?_
              rintro e w4 ⟨rfl, F4, hp4, _⟩
              have HP4 := hid fun o => hp4.quiet ((Upd.refl No w4).alloc o)
              clear hp4 HV
              go_wp2
              go_roundw
              case rel => exact ⟨j + 1, _, _, F4, _, by omega, by go_num, rfl, rfl, hid ⟨HP4.out _, fun _ => rfl, fun h => (by first | (simp at h; done) | (simp at h; omega))⟩⟩
              case measure => simp [intOf]; omega
          · have hs : serveR [⟨⟨#[97]⟩, ⟨#[110]⟩, nx, per, 7⟩] now = (none, [⟨⟨#[97]⟩, ⟨#[110]⟩, nx, per, 7⟩]) := by
              rw [serve_cons, if_pos (by simp only; omega)]
            rw [hs] at hsv
            simp only [tell, rv, zr, Option.getD_none, Option.isSome_none] at hsv
            have HV := hid hsv
            clear hs hsv
            go_wp2_with (fail)
            refine HV.out.mono ?_
            rintro e w4 ⟨rfl, F4, hp4, _⟩
            have HP4 := hid fun o => hp4.quiet ((Upd.refl No w4).alloc o)
            clear hp4 HV
            go_wp2_with (fail)
            refine (HA.out _ _ _ (HP4.out _)).mono ?_
            rintro e w5 ⟨A5, c5, rfl, _, hu5⟩
            have HB := hid ((HP4.out _).quiet hu5).bel
            clear hu5
            try simp only [List.length_cons, List.length_nil]
            go_wp2
            go_ret
            exact ⟨rfl, HB.out⟩
        · obtain rfl := HW.out.2.1 rfl
          have hs : serveR [] now = (none, []) := rfl
          rw [hs] at hsv
          simp only [tell, rv, zr, Option.getD_none, Option.isSome_none] at hsv
          have HV := hid hsv
          clear hs hsv
          go_wp2_with (fail)
          refine HV.out.mono ?_
          rintro e w4 ⟨rfl, F4, hp4, _⟩
          have HP4 := hid fun o => hp4.quiet ((Upd.refl No w4).alloc o)
          clear hp4 HV
          go_wp2_with (fail)
          refine (HA.out _ _ _ (HP4.out _)).mono ?_
          rintro e w5 ⟨A5, c5, rfl, _, hu5⟩
          have HB := hid ((HP4.out _).quiet hu5).bel
          clear hu5
          try simp only [List.length_cons, List.length_nil]
          go_wp2
          go_ret
          exact ⟨rfl, HB.out⟩
      · have hj2 : ¬ (j : Int) < (N : Int) := by omega
        clear hsv
        rcases over with _ | _
        · obtain ⟨rfl, _, _⟩ := HW.out.2.2 rfl
          go_wp2_with (fail)
          refine (HA.out _ _ _ HW.out.1).mono ?_
          rintro e w5 ⟨A5, c5, rfl, _, hu5⟩
          have HB := hid (HW.out.1.quiet hu5).bel
          clear hu5
          try simp only [List.length_cons, List.length_nil]
          go_wp2
          go_ret
          exact ⟨rfl, HB.out⟩
        · obtain rfl := HW.out.2.1 rfl
          go_wp2_with (fail)
          refine (HA.out _ _ _ HW.out.1).mono ?_
          rintro e w5 ⟨A5, c5, rfl, _, hu5⟩
          have HB := hid (HW.out.1.quiet hu5).bel
          clear hu5
          try simp only [List.length_cons, List.length_nil]
          go_wp2
          go_ret
          exact ⟨rfl, HB.out⟩
set_option maxHeartbeats 400000 in
theorem encode_nil (w : World) : Calls Try.prog 20 #[.pointer none] w fun e w' => e = .returned (.slice none 0 0) ∧ w = w' := by
  go_enter Try.func20, Try.ntmps20
  go_wp2
  go_ret
  exact ⟨rfl, rfl⟩
set_option maxHeartbeats 2000000 in
set_option maxRecDepth 100000 in
theorem nil_law (r : Rm) (now : Int) (w : World) : Calls Try.prog 8 #[rv r, .int .i64 now] w fun e w' => e = .returned (.bool true) ∧ Below w.heap.size w w' := by
  have HSt := hid fun W => set_nil r W
  have HCn := hid fun W => cancel_nil r.actor r.name W
  have HW1 : Hid (∃ w1 p, w1 = w.alloc (.cells #[.string r.actor, .string r.name, .int .i64 r.due, .int .i64 r.per, .int .i64 r.kind] 27) ∧ p = w.heap.size ∧ Blk w1 p 27 #[.string r.actor, .string r.name, .int .i64 r.due, .int .i64 r.per, .int .i64 r.kind] ∧ Upd No w w1) := hid ⟨_, _, rfl, rfl, Blk.fresh _ _ _, (Upd.refl _ _).alloc _⟩
  have HDn := hid fun W => due_none (.pointer none) now W (.inl rfl)
  have HVn := hid fun W => serve_nil now W
  simp only [tell, rv, zr, Option.getD_none, Option.isSome_none] at HDn HVn
  obtain ⟨ac, an, ad, ap, ak⟩ := r
  unfold rv at HSt ⊢
  simp only at HSt HCn HW1 ⊢
  have hdis : (1000 < an.size) ∨ (¬ 1000 < an.size ∧ 1000 < ac.size) ∨ (¬ 1000 < an.size ∧ ¬ 1000 < ac.size) := by omega
  rcases hdis with h | ⟨h, h2⟩ | ⟨h, h2⟩
  · have h' : (1000 : Int) < (an.size : Int) := by omega
    go_enter Try.func8, Try.ntmps8
    go_wp2_with (fail)
    obtain ⟨w1, p, hw1, hp, hb1, hu1⟩ := HW1.out
    try rw [← hw1]
    try rw [← hp]
    have HB1 := hid hb1
    have HU1 := hid (hu1.old (Nat.le_refl _))
    clear hw1 hp hb1 hu1 HW1
    refine (awake w1).mono ?_
    rintro e w2 ⟨rfl, hb2⟩
    have HB2 := hid (HU1.out.trans (hb2.mono HU1.out.size))
    have HC2 := hid (HB1.out.upd (Upd.of_below No hb2) (no_ _))
    obtain ⟨x0, x1, x2, x3, x4⟩ := box5 HC2.out
    clear hb2 HB1
    go_wp2_with (fail)
    refine (awake w2).mono ?_
    rintro e w3 ⟨rfl, hb3⟩
    have HE := hid (HB2.out.trans (hb3.mono HB2.out.size))
    clear hb3
    go_wp2
    go_ret
    exact ⟨rfl, HE.out⟩
  · have h' : ¬ (1000 : Int) < (an.size : Int) := by omega
    have h2' : (1000 : Int) < (ac.size : Int) := by omega
    go_enter Try.func8, Try.ntmps8
    go_wp2_with (fail)
    obtain ⟨w1, p, hw1, hp, hb1, hu1⟩ := HW1.out
    try rw [← hw1]
    try rw [← hp]
    have HB1 := hid hb1
    have HU1 := hid (hu1.old (Nat.le_refl _))
    clear hw1 hp hb1 hu1 HW1
    refine (awake w1).mono ?_
    rintro e w2 ⟨rfl, hb2⟩
    have HB2 := hid (HU1.out.trans (hb2.mono HU1.out.size))
    have HC2 := hid (HB1.out.upd (Upd.of_below No hb2) (no_ _))
    obtain ⟨x0, x1, x2, x3, x4⟩ := box5 HC2.out
    clear hb2 HB1
    go_wp2_with (fail)
    refine (awake w2).mono ?_
    rintro e w3 ⟨rfl, hb3⟩
    have HE := hid (HB2.out.trans (hb3.mono HB2.out.size))
    clear hb3
    go_wp2
    go_ret
    exact ⟨rfl, HE.out⟩
  · have h' : ¬ (1000 : Int) < (an.size : Int) := by omega
    have h2' : ¬ (1000 : Int) < (ac.size : Int) := by omega
    go_enter Try.func8, Try.ntmps8
    go_wp2_with (fail)
    obtain ⟨w1, p, hw1, hp, hb1, hu1⟩ := HW1.out
    try rw [← hw1]
    try rw [← hp]
    have HB1 := hid hb1
    have HU1 := hid (hu1.old (Nat.le_refl _))
    clear hw1 hp hb1 hu1 HW1
    refine (awake w1).mono ?_
    rintro e w2 ⟨rfl, hb2⟩
    have HB2 := hid (HU1.out.trans (hb2.mono HU1.out.size))
    have HC2 := hid (HB1.out.upd (Upd.of_below No hb2) (no_ _))
    obtain ⟨x0, x1, x2, x3, x4⟩ := box5 HC2.out
    clear hb2 HB1
    go_wp2_with (fail)
    refine (HDn.out _).mono ?_
    rintro e w3 ⟨rfl, hu3⟩
    have HU3 : Hid (∀ o, Upd No w2 (w3.alloc o)) := hid fun o => hu3.alloc o
    clear hu3 x0 x1 x2 x3 x4
    go_wp2_with (fail)
    refine (HVn.out _).mono ?_
    rintro e w4 ⟨rfl, hu4⟩
    have HU4 : Hid (∀ o, Upd No w2 (w4.alloc o)) := hid fun o => ((HU3.out _).next hu4).alloc o
    have hx := fun o => box5 (HC2.out.upd (HU4.out o) (no_ _))
    have x0 := fun o => (hx o).1
    have x1 := fun o => (hx o).2.1
    have x2 := fun o => (hx o).2.2.1
    have x3 := fun o => (hx o).2.2.2.1
    have x4 := fun o => (hx o).2.2.2.2
    clear hu4 hx
    go_wp2_with (fail)
    refine (HSt.out _).mono ?_
    rintro e w5 ⟨rfl, hu5⟩
    have HU5 := hid ((HU4.out _).next hu5)
    obtain ⟨y0, y1, y2, y3, y4⟩ := box5 (HC2.out.upd HU5.out (no_ _))
    clear hu5 x0 x1 x2 x3 x4
    go_wp2_with (fail)
    refine (HCn.out _).mono ?_
    rintro e w6 ⟨rfl, rfl⟩
    go_wp2_with (fail)
    refine (all_nil _).mono ?_
    rintro e w6 ⟨rfl, rfl⟩
    go_wp2_with (fail)
    refine (encode_nil _).mono ?_
    rintro e w6 ⟨rfl, rfl⟩
    have HE := hid (HB2.out.trans (HU5.out.old HB2.out.size))
    go_wp2
    go_ret
    exact ⟨rfl, HE.out⟩
end Go.Proofs.Ytlicimkpgnemeaa.Nd
