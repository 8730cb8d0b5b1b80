/-
  The walk of JournalPlays.
-/
import Derived.Test.YtjhmmffejfomkaaJu
set_option linter.unusedVariables false
set_option linter.unusedSimpArgs false
namespace Go.Proofs.Ytjhmmffejfomkaa.Jn
open Go.RowKit Go.Proofs.Ytjhmmffejfomkaa Go.Proofs.Ytjhmmffejfomkaa.B Go.Proofs.Ytjhmmffejfomkaa.Op
/-- Both journals hold s. -/
structure Bo (w W : World) (F : Nat → Prop) (p : Nat) (G : Nat → Prop) (q : Nat) (s : S) : Prop where
  a : On w W F p s
  b : Rj W G q s
  fg : ∀ k, F k → ¬ G k
  own : ∀ k, G k → w.heap.size ≤ k
  vr : IntKind.u64.wrap s.2.2 = s.2.2
section
variable {w W W1 W2 : World} {F F' G G' : Nat → Prop} {p q : Nat} {s t : S}
theorem Bo.moved (h : Bo w W F p G q s) (ha : Jd W1 F' p t) (hm : Mv F F' W W1) (hb : Rj W2 G' q t) (hm2 : Mv G G' W1 W2) (ok : Ok t) (le : t.2.1.length ≤ 16) (vr : IntKind.u64.wrap t.2.2 = t.2.2) : Bo w W2 F' p G' q t := by
  have h1 := h.a.moved ha hm ok le
  have hF : ∀ k, F' k → ¬ G k := fun k hk hg => (hm.sub k hk).elim (fun hf => h.fg k hf hg) fun hn => by have := h.b.lt k hg; omega
  have hb2 : Below w.heap.size w W2 := h1.bel.trans (hm2.upd.below h1.bel.size h.own)
  exact ⟨h1.upd hm2.upd hb2 hF, hb, fun k hk hg => (hm2.sub k hg).elim (hF k hk) fun hn => by have := ha.lt k hk; omega, fun k hk => (hm2.sub k hk).elim (h.own k) fun hn => Nat.le_trans h1.bel.size hn, vr⟩
theorem Bo.quiet (h : Bo w W F p G q s) (hu : Upd No W W1) : Bo w W1 F p G q s := ⟨h.a.quiet hu, h.b.upd hu fun _ _ => no_ _, h.fg, h.own, h.vr⟩
end
theorem wrap_wrap (x : Int) : IntKind.u64.wrap (IntKind.u64.wrap x) = IntKind.u64.wrap x := by
  simp only [wrapU]
  omega
theorem addS_vr {s : S} (l : List Ev) (h : IntKind.u64.wrap s.2.2 = s.2.2) : IntKind.u64.wrap (addS s l).2.2.2 = (addS s l).2.2.2 := by
  unfold addS
  split
  · exact h
  · exact wrap_wrap _
set_option maxHeartbeats 4000000 in
set_option maxRecDepth 100000 in
theorem law_plays (A : Option Addr) (c : Nat) (xs : List Lv) (folds : Int) (z : Bool) (w : World) (hr : Rd w 1 A xs.length (xs.map (·.2))) (hl : xs.length ≤ maxLen) (hx : ∀ x ∈ xs, InE w x) (hf1 : 0 ≤ folds ∧ folds ≤ 18446744073709551615) :
    Calls Try.prog 4 #[.slice A xs.length c, .int .u64 folds, .bool z] w fun e w' => e = .returned (.bool true) ∧ Below w.heap.size w w' := by
  have HXs := hid (And.intro hr (And.intro hx hl))
  clear hr hl hx
  go_enter Try.func4, Try.ntmps4
  go_wp2_with (fail)
  refine Calls.mono (awake w) ?_
  rintro e w1 ⟨rfl, hb1⟩
  have HB1 := hid hb1
  have hRow : ∀ W, Below w.heap.size w W → Rd W 1 A xs.length (xs.map (·.2)) ∧ ∀ x ∈ xs, InE W x := fun W hb => ⟨Rd.below HXs.out.1 (by omega) hb, fun x hx => by
    obtain ⟨A2, c2, e, h2⟩ := HXs.out.2.1 x hx
    exact ⟨A2, c2, e, Rd.below h2 (by omega) hb⟩⟩
  have HRow := hid hRow
  clear hb1 hRow
  go_wp2_with (fail)
  refine Calls.mono (few (HRow.out _ HB1.out).1 (HRow.out _ HB1.out).2 HXs.out.2.2) ?_
  rintro e w1' ⟨b, rfl, rfl, hb⟩
  rcases b with _ | _
  · clear hb
    go_wp2_with (fail)
    refine Calls.mono (awake w1) ?_
    rintro e w2 ⟨rfl, hb2⟩
    have HB2 := hid (HB1.out.trans (hb2.mono HB1.out.size))
    clear hb2
    go_wp2
    go_ret
    exact ⟨rfl, HB2.out⟩
  obtain ⟨h61, h500⟩ := hb rfl
  have H500 := hid h500
  clear hb h500
  go_wp2_with (fail)
  refine Calls.mono (new2 w w1 HB1.out) ?_
  rintro e w2 ⟨rfl, hO2, hu2⟩
  have HO2 := hid (And.intro hO2 hu2)
  clear hO2 hu2
  have hvr : IntKind.u64.wrap s0.2.2 = s0.2.2 := rfl
  cases z
  case' false =>
    have HS0 : Hid (∃ (F0 G0 : Nat → Prop) (p q : Nat) (w3 : World), w3 = w2.alloc (.cells #[.int .i64 0, .int .i64 0, .int .i64 0, .int .i64 0, .int .i64 0, .int .i64 0, .int .i64 0, .int .i64 0, .slice none 0 0, .int .u64 0] 44) ∧ Bo w w3 F0 p G0 q s0 ∧ w1.heap.size = p ∧ w2.heap.size = q) :=
      hid ⟨_, _, _, _, _, rfl, ⟨HO2.out.1.quiet ((Upd.refl No w2).alloc _), Rj.new rfl, fun k hk hg => by have := HO2.out.1.jd.lt k hk; omega, fun k hk => by have := HO2.out.1.bel.size; omega, hvr⟩, rfl, rfl⟩
    go_wp2_with (fail)
  case' true =>
    have HS0 : Hid (∃ (F0 G0 : Nat → Prop) (p q : Nat) (w3 : World), w3 = (w2.alloc (.cells #[.int .i64 0, .int .i64 0, .int .i64 0, .int .i64 0, .int .i64 0, .int .i64 0, .int .i64 0, .int .i64 0, .slice none 0 0, .int .u64 0] 44)).alloc (.cells #[.int .i64 0, .int .i64 0, .int .i64 0, .int .i64 0, .int .i64 0, .int .i64 0, .int .i64 0, .int .i64 0, .slice none 0 0, .int .u64 0] 46) ∧ Bo w w3 F0 p G0 q s0 ∧ w2.heap.size + 1 = p ∧ w2.heap.size = q) :=
      hid ⟨fun k => k = w2.heap.size + 1, fun k => k = w2.heap.size, _, _, _, rfl, ⟨⟨by
        have := Jd.new (w := w2.alloc (.cells #[.int .i64 0, .int .i64 0, .int .i64 0, .int .i64 0, .int .i64 0, .int .i64 0, .int .i64 0, .int .i64 0, .slice none 0 0, .int .u64 0] 44)) rfl
        simp at this
        exact this, fun k hk => by have := HO2.out.1.bel.size; omega, HO2.out.1.bel.trans ((((Upd.refl No w2).alloc _).alloc _).old HO2.out.1.bel.size), Ok.s0, by simp [s0]⟩, (Rj.new rfl).upd ((Upd.refl No _).alloc _) (fun _ _ => no_ _), fun k hk hg => by omega, fun k hk => by have := HO2.out.1.bel.size; omega, hvr⟩, rfl, rfl⟩
    go_wp2_with (fail)
  all_goals
    obtain ⟨F0, G0, p, q, w3, hw3, hS, hp, hq⟩ := HS0.out
    rw [← hw3, hp, hq]
    have HSt := hid hS
    clear hw3 hp hq hS HS0 HO2 hvr
    go_loopw [26] (fun v26 W => ∃ (j : Nat) (F G : Nat → Prop) (s : S), j ≤ xs.length ∧ v26 = .int .i64 j ∧ Hid (Bo w W F p G q s)) (fun v26 _ => xs.length - (intOf v26).toNat)
    case atStart => exact ⟨0, F0, G0, s0, by omega, rfl, HSt⟩
    case round =>
      clear HSt F0 G0
      obtain ⟨j, F, G, s, hj, rfl, HW⟩ := hrel
      by_cases hlt : j < xs.length
      · obtain ⟨ad, A2, c2, rfl, x0, x1⟩ := row_lv HXs.out.1 HXs.out.2.1 hlt
        have HNG : Hid (∀ bd, A2 = some bd → 0 < xs[j].1.length → ¬ G bd.block) := hid fun bd e h0 hg => by
          obtain ⟨bd', e', hlt'⟩ := x1.lt h0 (by omega)
          rw [e] at e'
          cases e'
          have := HW.out.own _ hg
          omega
        have CE : Hid (∀ W, Below w.heap.size w W → W.cell? (ad.add j) = some (.slice A2 xs[j].1.length c2) ∧ Rd W 2 A2 xs[j].1.length (ecs xs[j].1)) := hid fun W hb =>
          ⟨(hb.cell (World.block_lt_of_cell? _ _ x0)).trans x0, Rd.below x1 (by omega) hb⟩
        clear x0 x1
        have h5 := H500.out _ (List.getElem_mem hlt)
        generalize xs[j].1 = l at *
        have hj1 : (0 : Int) ≤ (j : Int) := by omega
        have hj2 : (j : Int) < (xs.length : Int) := by omega
        have hA := fun W A' c' (h : Jd W F p s) (hR : Rd W 2 A' l.length (ecs l)) => add (c := c') h HW.out.a.ok HW.out.a.le hR h5
        have hB := fun W A' c' (h : Rj W G q s) (hR : Rd W 2 A' l.length (ecs l)) (hd : ∀ ad, A' = some ad → 0 < l.length → ¬ G ad.block) => radd (c := c') h HW.out.a.ok HW.out.a.le HW.out.vr hR hd (by omega)
        have hOk := addS_ok (l := l) HW.out.a.ok HW.out.a.le
        have hVr := addS_vr l HW.out.vr
        unfold AddOut at hA
        unfold RAddOut at hB
        generalize addS s l = r at *
        obtain ⟨cd, s5⟩ := r
        simp only at hA hB hOk hVr
        have HA := hid hA
        have HB := hid hB
        have HOk := hid (And.intro hOk hVr)
        clear hA hB hOk hVr
        go_wp2_with (fail)
        refine wp_region_held_drew (S := fun W => Below w.heap.size w W) (by kernel_rfl) (below_drew HW.out.a.bel) (fun hS => ?_)
        refine rg_at 0 (by decide) (fun oi hoi => ?_)
        have ho2 := hoi; simp only [List.getElem?_toArray, List.getElem?_cons_succ, List.getElem?_cons_zero, Option.some.injEq] at ho2; subst ho2
        refine rg_take (v := ?_) 0 hoi (by kernel_rfl) (by kernel_rfl) (by kernel_rfl) (fun _ _ _ h => h) (by rfl) ?_ hS ?_
        rotate_left
        · intro w _; go_simp; try with_reducible rfl
        clear hoi; try simp only [Act.put, List.setIfInBounds_toArray, List.set_cons_zero, List.set_cons_succ]
        refine rg_at 1 (by decide) (fun oi hoi => ?_)
        have ho2 := hoi; simp only [List.getElem?_toArray, List.getElem?_cons_succ, List.getElem?_cons_zero, Option.some.injEq] at ho2; subst ho2
        refine rg_take (v := ?_) 1 hoi (by kernel_rfl) (by kernel_rfl) (by kernel_rfl) (fun _ _ _ h => h) (by rfl) ?_ hS ?_
        rotate_left
        · intro w _; go_simp; try with_reducible rfl
        clear hoi; try simp only [Act.put, List.setIfInBounds_toArray, List.set_cons_zero, List.set_cons_succ]
        refine rg_at 2 (by decide) (fun oi hoi => ?_)
        have ho2 := hoi; simp only [List.getElem?_toArray, List.getElem?_cons_succ, List.getElem?_cons_zero, Option.some.injEq] at ho2; subst ho2
        refine rg_take (v := ?_) 2 hoi (by kernel_rfl) (by kernel_rfl) (by kernel_rfl) (fun _ _ _ h => h) (by rfl) ?_ hS ?_
        rotate_left
        · intro w _; go_simp; try with_reducible rfl
        clear hoi; try simp only [Act.put, List.setIfInBounds_toArray, List.set_cons_zero, List.set_cons_succ]
        refine rg_at 3 (by decide) (fun oi hoi => ?_)
        have ho2 := hoi; simp only [List.getElem?_toArray, List.getElem?_cons_succ, List.getElem?_cons_zero, Option.some.injEq] at ho2; subst ho2
        refine rg_take (v := ?_) 3 hoi (by kernel_rfl) (by kernel_rfl) (by kernel_rfl) (fun _ _ _ h => h) (by rfl) ?_ hS ?_
        rotate_left
        · intro w _; go_simp; try with_reducible rfl
        clear hoi; try simp only [Act.put, List.setIfInBounds_toArray, List.set_cons_zero, List.set_cons_succ]
        refine rg_at 4 (by decide) (fun oi hoi => ?_)
        have ho2 := hoi; simp only [List.getElem?_toArray, List.getElem?_cons_succ, List.getElem?_cons_zero, Option.some.injEq] at ho2; subst ho2
        refine rg_take (v := ?_) 4 hoi (by kernel_rfl) (by kernel_rfl) (by kernel_rfl) (fun _ _ _ h => h) (by rfl) ?_ hS ?_
        rotate_left
        · intro w hw; have hf := (CE.out w hw).1; clear hw; go_simp; try with_reducible rfl
        clear hoi; try simp only [Act.put, List.setIfInBounds_toArray, List.set_cons_zero, List.set_cons_succ]
        refine rg_at 7 (by decide) (fun oi hoi => ?_)
        have ho2 := hoi; simp only [List.getElem?_toArray, List.getElem?_cons_succ, List.getElem?_cons_zero, Option.some.injEq] at ho2; subst ho2
        refine rg_take (v := ?_) 7 hoi (by kernel_rfl) (by kernel_rfl) (by kernel_rfl) (fun _ _ _ h => h) (by rfl) ?_ hS ?_
        rotate_left
        · intro w _; go_simp; try with_reducible rfl
        clear hoi; try simp only [Act.put, List.setIfInBounds_toArray, List.set_cons_zero, List.set_cons_succ]
        refine rg_at 8 (by decide) (fun oi hoi => ?_)
        have ho2 := hoi; simp only [List.getElem?_toArray, List.getElem?_cons_succ, List.getElem?_cons_zero, Option.some.injEq] at ho2; subst ho2
        refine rg_take (v := ?_) 8 hoi (by kernel_rfl) (by kernel_rfl) (by kernel_rfl) (fun _ _ _ h => h) (by rfl) ?_ hS ?_
        rotate_left
        · intro w _; go_simp; try with_reducible rfl
        clear hoi; try simp only [Act.put, List.setIfInBounds_toArray, List.set_cons_zero, List.set_cons_succ]
        refine rg_at 9 (by decide) (fun oi hoi => ?_)
        have ho2 := hoi; simp only [List.getElem?_toArray, List.getElem?_cons_succ, List.getElem?_cons_zero, Option.some.injEq] at ho2; subst ho2
        refine rg_take (v := ?_) 9 hoi (by kernel_rfl) (by kernel_rfl) (by kernel_rfl) (fun _ _ _ h => h) (by rfl) ?_ hS ?_
        rotate_left
        · intro w _; go_simp; try with_reducible rfl
        clear hoi; try simp only [Act.put, List.setIfInBounds_toArray, List.set_cons_zero, List.set_cons_succ]
        refine rg_at 10 (by decide) (fun oi hoi => ?_)
        have ho2 := hoi; simp only [List.getElem?_toArray, List.getElem?_cons_succ, List.getElem?_cons_zero, Option.some.injEq] at ho2; subst ho2
        refine rg_take (v := ?_) 10 hoi (by kernel_rfl) (by kernel_rfl) (by kernel_rfl) (fun _ _ _ h => h) (by rfl) ?_ hS ?_
        rotate_left
        · intro w _; go_simp; try with_reducible rfl
        clear hoi; try simp only [Act.put, List.setIfInBounds_toArray, List.set_cons_zero, List.set_cons_succ]
        refine rg_at 11 (by decide) (fun oi hoi => ?_)
        have ho2 := hoi; simp only [List.getElem?_toArray, List.getElem?_cons_succ, List.getElem?_cons_zero, Option.some.injEq] at ho2; subst ho2
        refine rg_take (v := ?_) 11 hoi (by kernel_rfl) (by kernel_rfl) (by kernel_rfl) (fun _ _ _ h => h) (by rfl) ?_ hS ?_
        rotate_left
        · intro w hw; have hf := (CE.out w hw).1; clear hw; go_simp; try with_reducible rfl
        clear hoi; try simp only [Act.put, List.setIfInBounds_toArray, List.set_cons_zero, List.set_cons_succ]
        refine rg_at 5 (by decide) (fun oi hoi => ?_)
        have ho2 := hoi; simp only [List.getElem?_toArray, List.getElem?_cons_succ, List.getElem?_cons_zero, Option.some.injEq] at ho2; subst ho2
        refine rg_call 5 (by kernel_rfl) hoi (by rfl) (fun K hK => ?_)
        clear hoi
        go_simp
        refine Calls.mono (theirs (CE.out _ hS).2 (by omega)) ?_
        rintro e w4 ⟨A4, c4, rfl, hR4, hu4⟩
        have hW4 := HW.out.quiet (Upd.of_drew hu4)
        go_wp2_with (fail)
        refine hK.out _ _ (hW4.a.bel) (fun hS => ?_)
        clear hK K
        try simp only [Act.put, List.setIfInBounds_toArray, List.set_cons_zero, List.set_cons_succ]
        refine rg_at 6 (by decide) (fun oi hoi => ?_)
        have ho2 := hoi; simp only [List.getElem?_toArray, List.getElem?_cons_succ, List.getElem?_cons_zero, Option.some.injEq] at ho2; subst ho2
        refine rg_call 6 (by kernel_rfl) hoi (by rfl) (fun K hK => ?_)
        clear hoi
        go_simp
        refine Calls.mono (HA.out _ _ _ hW4.a.jd hR4) ?_
        rintro e w5 ⟨rfl, F5, hw5, hm5⟩
        have hb5 := hW4.b.upd hm5.upd (fun k hk hf => hW4.fg k hf hk)
        have hS5 := hW4.a.bel.trans (hm5.upd.below hW4.a.bel.size hW4.a.own)
        go_wp2_with (fail)
        refine hK.out _ _ (hS5) (fun hS => ?_)
        clear hK K
        try simp only [Act.put, List.setIfInBounds_toArray, List.set_cons_zero, List.set_cons_succ]
        refine rg_at 12 (by decide) (fun oi hoi => ?_)
        have ho2 := hoi; simp only [List.getElem?_toArray, List.getElem?_cons_succ, List.getElem?_cons_zero, Option.some.injEq] at ho2; subst ho2
        refine rg_call 12 (by kernel_rfl) hoi (by rfl) (fun K hK => ?_)
        clear hoi
        go_simp
        refine Calls.mono (HB.out _ _ _ hb5 (CE.out _ hS5).2 HNG.out) ?_
        rintro e w6 ⟨rfl, G6, hw6, hm6⟩
        have HW6 := hid (hW4.moved hw5 hm5 hw6 hm6 HOk.out.1.1 HOk.out.1.2 HOk.out.2)
        go_wp2_with (fail)
        refine hK.out _ _ (HW6.out.a.bel) (fun hS => ?_)
        clear hK K
        try simp only [Act.put, List.setIfInBounds_toArray, List.set_cons_zero, List.set_cons_succ]
        refine rg_at 13 (by decide) (fun oi hoi => ?_)
        have ho2 := hoi; simp only [List.getElem?_toArray, List.getElem?_cons_succ, List.getElem?_cons_zero, Option.some.injEq] at ho2; subst ho2
        refine rg_take (v := ?_) 13 hoi (by kernel_rfl) (by kernel_rfl) (by kernel_rfl) (fun _ _ _ h => h) (by rfl) ?_ hS ?_
        rotate_left
        · intro w _; go_simp; try with_reducible rfl
        clear hoi; try simp only [Act.put, List.setIfInBounds_toArray, List.set_cons_zero, List.set_cons_succ]
        refine rg_at 14 (by decide) (fun oi hoi => ?_)
        have ho2 := hoi; simp only [List.getElem?_toArray, List.getElem?_cons_succ, List.getElem?_cons_zero, Option.some.injEq] at ho2; subst ho2
        refine rg_take (v := ?_) 14 hoi (by kernel_rfl) (by kernel_rfl) (by kernel_rfl) (fun _ _ _ h => h) (by rfl) ?_ hS ?_
        rotate_left
        · intro w _; go_simp; try with_reducible rfl
        clear hoi; try simp only [Act.put, List.setIfInBounds_toArray, List.set_cons_zero, List.set_cons_succ]
        refine rg_at 15 (by decide) (fun oi hoi => ?_)
        have ho2 := hoi; simp only [List.getElem?_toArray, List.getElem?_cons_succ, List.getElem?_cons_zero, Option.some.injEq] at ho2; subst ho2
        refine rg_take (v := ?_) 15 hoi (by kernel_rfl) (by kernel_rfl) (by kernel_rfl) (fun _ _ _ h => h) (by rfl) ?_ hS ?_
        rotate_left
        · intro w _; go_simp; try with_reducible rfl
        clear hoi; try simp only [Act.put, List.setIfInBounds_toArray, List.set_cons_zero, List.set_cons_succ]
        refine rg_at 16 (by decide) (fun oi hoi => ?_)
        have ho2 := hoi; simp only [List.getElem?_toArray, List.getElem?_cons_succ, List.getElem?_cons_zero, Option.some.injEq] at ho2; subst ho2
        refine rg_take (v := ?_) 16 hoi (by kernel_rfl) (by kernel_rfl) (by kernel_rfl) (fun _ _ _ h => h) (by rfl) ?_ hS ?_
        rotate_left
        · intro w _; go_simp; try with_reducible rfl
        clear hoi; try simp only [Act.put, List.setIfInBounds_toArray, List.set_cons_zero, List.set_cons_succ]
        refine rg_at 17 (by decide) (fun oi hoi => ?_)
        have ho2 := hoi; simp only [List.getElem?_toArray, List.getElem?_cons_succ, List.getElem?_cons_zero, Option.some.injEq] at ho2; subst ho2
        refine rg_call 17 (by kernel_rfl) hoi (by rfl) (fun K hK => ?_)
        clear hoi
        go_simp
        refine Calls.mono (same HW6.out.a.jd HW6.out.b HOk.out.1.1) ?_
        rintro e w7 ⟨rfl, hu7⟩
        have HW7 := hid (HW6.out.quiet hu7)
        go_wp2_with (fail)
        refine hK.out _ _ (HW7.out.a.bel) (fun hS => ?_)
        clear hK K
        try simp only [Act.put, List.setIfInBounds_toArray, List.set_cons_zero, List.set_cons_succ]
        refine rg_at 18 (by decide) (fun oi hoi => ?_)
        have ho2 := hoi; simp only [List.getElem?_toArray, List.getElem?_cons_succ, List.getElem?_cons_zero, Option.some.injEq] at ho2; subst ho2
        refine rg_take (v := ?_) 18 hoi (by kernel_rfl) (by kernel_rfl) (by kernel_rfl) (fun _ _ _ h => h) (by rfl) ?_ hS ?_
        rotate_left
        · intro w _; go_simp; try with_reducible rfl
        clear hoi; try simp only [Act.put, List.setIfInBounds_toArray, List.set_cons_zero, List.set_cons_succ]
        refine rg_at 19 (by decide) (fun oi hoi => ?_)
        have ho2 := hoi; simp only [List.getElem?_toArray, List.getElem?_cons_succ, List.getElem?_cons_zero, Option.some.injEq] at ho2; subst ho2
        refine rg_take (v := ?_) 19 hoi (by kernel_rfl) (by kernel_rfl) (by kernel_rfl) (fun _ _ _ h => h) (by rfl) ?_ hS ?_
        rotate_left
        · intro w _; go_simp; try with_reducible rfl
        clear hoi; try simp only [Act.put, List.setIfInBounds_toArray, List.set_cons_zero, List.set_cons_succ]
        refine wpAnyH_done (by kernel_rfl) ?_ _
        clear hR4 hu4 hW4 hw5 hm5 hb5 hS5 hw6 hm6 hu7 hS
        go_wp2_with (fail)
        all_goals first
          | (refine Calls.mono (Fold HW7.out.a.jd HW7.out.a.ok) ?_
             rintro e w8 ⟨rfl, F8, h8, hm8⟩
             have HB8 := hid (And.intro h8 (And.intro hm8 (HW7.out.b.upd hm8.upd (fun k hk hf => HW7.out.fg k hf hk))))
             clear h8 hm8
             go_wp2_with (fail)
             refine Calls.mono (rFold HB8.out.2.2 HW7.out.a.ok) ?_
             rintro e w9 ⟨rfl, G9, h9, hm9⟩
             have hk9 := foldS_ok s5.2.1.length HW7.out.a.ok HW7.out.a.le
             have HW9 := hid (HW7.out.moved HB8.out.1 HB8.out.2.1 h9 hm9 hk9.1 hk9.2 HW7.out.vr)
             clear h9 hm9 hk9 HB8
             generalize foldS s5 s5.2.1.length = s9 at *
             go_wp2_with (fail)
             refine Calls.mono (same HW9.out.a.jd HW9.out.b HW9.out.a.ok) ?_
             rintro e w10 ⟨rfl, hu10⟩
             have HW10 := hid (HW9.out.quiet hu10)
             clear hu10
             go_wp2
             go_roundw
             case rel => exact ⟨j + 1, F8, G9, s9, by omega, by go_num, HW10⟩
             case measure => simp [intOf]; omega)
          | (refine ⟨⟨j + 1, F5, G6, s5, by omega, by go_num, HW7⟩, ?_⟩
             simp [intOf]; omega)
      · obtain rfl : j = xs.length := by omega
        have HE := hid HW.out.a.bel
        go_wp2
        go_ret
        exact ⟨rfl, HE.out⟩
end Go.Proofs.Ytjhmmffejfomkaa.Jn
