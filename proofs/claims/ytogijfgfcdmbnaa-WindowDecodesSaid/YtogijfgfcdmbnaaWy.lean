/-
  The walk of WindowPlays.
-/
import Derived.Test.YtogijfgfcdmbnaaWo
set_option linter.unusedVariables false
set_option linter.unusedSimpArgs false
namespace Go.Proofs.Ytogijfgfcdmbnaa.Ww
open Go.RowKit Go.Proofs.Ytogijfgfcdmbnaa Go.Proofs.Ytogijfgfcdmbnaa.B Go.Proofs.Ytogijfgfcdmbnaa.Df Go.Proofs.Ytogijfgfcdmbnaa.Ws Go.Proofs.Ytogijfgfcdmbnaa.Mp Go.Proofs.Ytogijfgfcdmbnaa.Wp Go.Proofs.Ytogijfgfcdmbnaa.Op
/-- Both windows hold x. -/
structure Bw (w W : World) (F : Nat → Prop) (p n : Nat) (G : Nat → Prop) (q : Nat) (x : St) : Prop where
  a : On w W F p n x
  b : Rw W G q x
  fg : ∀ k, F k → ¬ G k
  own : ∀ k, G k → w.heap.size ≤ k
section
variable {w W W1 W2 : World} {F F' G G' : Nat → Prop} {p q n : Nat} {x y : St}
theorem Bw.moved (h : Bw w W F p n G q x) (ha : Wd W1 F' p y (n + 1)) (hm : Mv F F' W W1) (hb : Rw W2 G' q y) (hm2 : Mv G G' W1 W2) (ok : Ok y) : Bw w W2 F' p (n + 1) G' q y := by
  have h1 := h.a.moved ha hm ok
  have hF : ∀ k, F' k → ¬ G k := fun k hk hg => (hm.sub k hk).elim (fun hf => h.fg k hf hg) fun hn => by have := h.b.lt k hg; omega
  have hb2 : Below w.heap.size w W2 := h1.bel.trans (hm2.upd.below h1.bel.size h.own)
  exact ⟨h1.upd hm2.upd hb2 hF, hb, fun k hk hg => (hm2.sub k hg).elim (hF k hk) fun hn => by have := ha.lt k hk; omega, fun k hk => (hm2.sub k hk).elim (h.own k) fun hn => Nat.le_trans h1.bel.size hn⟩
theorem Bw.quiet (h : Bw w W F p n G q x) (hu : Upd No W W1) : Bw w W1 F p n G q x := ⟨h.a.quiet hu, h.b.upd hu fun _ _ => no_ _, h.fg, h.own⟩
end
set_option maxHeartbeats 4000000 in
set_option maxRecDepth 100000 in
theorem law_plays (A B : Option Addr) (c d : Nat) (xs ys : List Pr) (z : Bool) (w : World) (hr : Rd w 2 A xs.length (xs.flatMap prc)) (hl : xs.length ≤ maxLen) (hk : ∀ x ∈ xs, Wp.Key x.1 ∧ Wp.Key x.2)
    (hry : Rd w 2 B ys.length (ys.flatMap prc)) (hly : ys.length ≤ maxLen) (hky : ∀ x ∈ ys, Wp.Key x.1 ∧ Wp.Key x.2) :
    Calls Try.prog 5 #[.slice A xs.length c, .slice B ys.length d, .bool z] w fun e w' => e = .returned (.bool true) ∧ Below w.heap.size w w' := by
  simp only [maxLen] at hl hly
  have HKx := hid hk
  have HKy := hid hky
  clear hk hky
  by_cases h300 : 300 < xs.length
  · have h300' : (300 : Int) < (xs.length : Int) := by omega
    go_enter Try.func5, Try.ntmps5
    go_wp2_with (fail)
    refine Calls.mono (awake w) ?_
    rintro e w1 ⟨rfl, hb1⟩
    have HB1 := hid hb1
    clear hb1
    go_wp2_with (fail)
    refine Calls.mono (awake w1) ?_
    rintro e w2 ⟨rfl, hb2⟩
    have HB2 := hid (HB1.out.trans (hb2.mono HB1.out.size))
    clear hb2
    go_wp2
    go_ret
    exact ⟨rfl, HB2.out⟩
  have hx300 : ¬ (300 : Int) < (xs.length : Int) := by omega
  by_cases h301 : 300 < ys.length
  · have h301' : (300 : Int) < (ys.length : Int) := by omega
    go_enter Try.func5, Try.ntmps5
    go_wp2_with (fail)
    refine Calls.mono (awake w) ?_
    rintro e w1 ⟨rfl, hb1⟩
    have HB1 := hid hb1
    clear hb1
    go_wp2_with (fail)
    refine Calls.mono (awake w1) ?_
    rintro e w2 ⟨rfl, hb2⟩
    have HB2 := hid (HB1.out.trans (hb2.mono HB1.out.size))
    clear hb2
    go_wp2
    go_ret
    exact ⟨rfl, HB2.out⟩
  have hy300 : ¬ (300 : Int) < (ys.length : Int) := by omega
  have hxn : xs.length ≤ 300 := by omega
  have hyn : ys.length ≤ 300 := by omega
  clear h300 h301
  go_enter Try.func5, Try.ntmps5
  go_wp2_with (fail)
  refine Calls.mono (awake w) ?_
  rintro e w1 ⟨rfl, hb1⟩
  have HB1 := hid hb1
  clear hb1
  go_wp2_with (fail)
  refine Calls.mono (new2 w w1 HB1.out) ?_
  rintro e w2 ⟨rfl, hO2, hu2⟩
  have HO2 := hid (And.intro hO2 hu2)
  clear hO2 hu2
  cases z
  case' false =>
    have HS0 : Hid (∃ (F0 G0 : Nat → Prop) (p q : Nat), Bw w (w2.alloc (.cells #[.slice none 0 0] 38)) F0 p 0 G0 q [] ∧ w1.heap.size = p ∧ w2.heap.size = q) :=
      hid ⟨_, _, _, _, ⟨HO2.out.1.quiet ((Upd.refl No w2).alloc _), Rw.new rfl, fun k hk hg => by have := HO2.out.1.wd.lt k hk; omega, fun k hk => by have := HO2.out.1.bel.size; omega⟩, rfl, rfl⟩
    go_wp2_with (fail)
    generalize w2.alloc (.cells #[.slice none 0 0] 38) = w3 at *
  case' true =>
    have HS0 : Hid (∃ (F0 G0 : Nat → Prop) (p q : Nat), Bw w ((w2.alloc (.cells #[.slice none 0 0] 38)).alloc (.cells #[.map none, .slice none 0 0] 41)) F0 p 0 G0 q [] ∧ w2.heap.size + 1 = p ∧ w2.heap.size = q) :=
      hid ⟨fun k => k = w2.heap.size + 1, fun k => k = w2.heap.size, _, _, ⟨⟨⟨_, _, _, _, by
        have := Wx.new (w := w2.alloc (.cells #[.slice none 0 0] 38)) rfl
        simpa using this⟩, fun k hk => by have := HO2.out.1.bel.size; omega, HO2.out.1.bel.trans ((((Upd.refl No w2).alloc _).alloc _).old HO2.out.1.bel.size), Ok.nil⟩, (Rw.new rfl).upd ((Upd.refl No _).alloc _) (fun _ _ => no_ _), fun k hk hg => by omega, fun k hk => by have := HO2.out.1.bel.size; omega⟩, rfl, rfl⟩
    go_wp2_with (fail)
    generalize (w2.alloc (.cells #[.slice none 0 0] 38)).alloc (.cells #[.map none, .slice none 0 0] 41) = w3 at *
  all_goals
    obtain ⟨F0, G0, p, q, hS, hp, hq⟩ := HS0.out
    rw [hp, hq]
    have HSt := hid hS
    clear hp hq hS HS0 HO2
    go_loopw [32] (fun v32 W => ∃ (j : Nat) (F G : Nat → Prop) (x : St), j ≤ xs.length ∧ v32 = .int .i64 j ∧ Hid (Bw w W F p j G q x)) (fun v32 _ => xs.length - (intOf v32).toNat)
    case atStart => exact ⟨0, F0, G0, [], by omega, rfl, HSt⟩
    case round =>
      clear HSt F0 G0
      obtain ⟨j, F, G, x, hj, rfl, HW⟩ := hrel
      by_cases hlt : j < xs.length
      · obtain ⟨ad, rfl, x0, x1⟩ := pr_at hr hlt
        have hkk := HKx.out _ (List.getElem_mem hlt)
        generalize xs[j] = e0 at *
        obtain ⟨c0, s0⟩ := e0
        simp only at x0 x1 hkk
        have CE : Hid (∀ W, Below w.heap.size w W → W.cell? (ad.add (j * 2)) = some (.int .u64 c0) ∧ W.cell? ⟨(ad.add (j * 2)).block, (ad.add (j * 2)).off + 1, none⟩ = some (.int .u64 s0)) := hid fun W hb =>
          ⟨(hb.cell (World.block_lt_of_cell? _ _ x0)).trans x0, (hb.cell (World.block_lt_of_cell? _ _ x1)).trans x1⟩
        have hj1 : (0 : Int) ≤ (j : Int) := by omega
        have hj2 : (j : Int) < (xs.length : Int) := by omega
        clear x0 x1
        have hA := fun W (h : Wd W F p x j) => add c0 s0 h hkk.1 hkk.2 HW.out.a.ok (by omega)
        have hB := fun W (h : Rw W G q x) => radd c0 s0 h HW.out.a.ok
        have hOk := HW.out.a.ok.add hkk.1 hkk.2
        unfold AddOut at hA
        unfold RAdd at hB
        generalize addX x c0 s0 = r at *
        obtain ⟨b, y⟩ := r
        simp only at hA hB hOk
        have HA := hid hA
        have HB := hid hB
        have HOk := hid hOk
        clear hA hB hOk
        rcases b with _ | _
        all_goals
          go_wp2_with (fail)
          refine wp_region_held_drew (S := fun W => Below w.heap.size w W) (by kernel_rfl) (below_drew HW.out.a.bel) (fun hS => ?_)
          refine rg_at 0 (by decide) (fun oi hoi => ?_)
          have ho2 := hoi; simp only [List.getElem?_toArray, List.getElem?_cons_succ, List.getElem?_cons_zero, Option.some.injEq] at ho2; subst ho2
          refine rg_take (v := ?_) 0 hoi (by kernel_rfl) (by kernel_rfl) (by kernel_rfl) (fun _ _ _ h => h) (by rfl) ?_ hS ?_
          rotate_left
          · intro w _; go_simp; try with_reducible rfl
          clear hoi; try simp only [Act.put, List.setIfInBounds_toArray, List.set_cons_zero, List.set_cons_succ]
          refine rg_at 1 (by decide) (fun oi hoi => ?_)
          have ho2 := hoi; simp only [List.getElem?_toArray, List.getElem?_cons_succ, List.getElem?_cons_zero, Option.some.injEq] at ho2; subst ho2
          refine rg_take (v := ?_) 1 hoi (by kernel_rfl) (by kernel_rfl) (by kernel_rfl) (fun _ _ _ h => h) (by rfl) ?_ hS ?_
          rotate_left
          · intro w _; go_simp; try with_reducible rfl
          clear hoi; try simp only [Act.put, List.setIfInBounds_toArray, List.set_cons_zero, List.set_cons_succ]
          refine rg_at 2 (by decide) (fun oi hoi => ?_)
          have ho2 := hoi; simp only [List.getElem?_toArray, List.getElem?_cons_succ, List.getElem?_cons_zero, Option.some.injEq] at ho2; subst ho2
          refine rg_take (v := ?_) 2 hoi (by kernel_rfl) (by kernel_rfl) (by kernel_rfl) (fun _ _ _ h => h) (by rfl) ?_ hS ?_
          rotate_left
          · intro w _; go_simp; try with_reducible rfl
          clear hoi; try simp only [Act.put, List.setIfInBounds_toArray, List.set_cons_zero, List.set_cons_succ]
          refine rg_at 3 (by decide) (fun oi hoi => ?_)
          have ho2 := hoi; simp only [List.getElem?_toArray, List.getElem?_cons_succ, List.getElem?_cons_zero, Option.some.injEq] at ho2; subst ho2
          refine rg_take (v := ?_) 3 hoi (by kernel_rfl) (by kernel_rfl) (by kernel_rfl) (fun _ _ _ h => h) (by rfl) ?_ hS ?_
          rotate_left
          · intro w _; go_simp; try with_reducible rfl
          clear hoi; try simp only [Act.put, List.setIfInBounds_toArray, List.set_cons_zero, List.set_cons_succ]
          refine rg_at 4 (by decide) (fun oi hoi => ?_)
          have ho2 := hoi; simp only [List.getElem?_toArray, List.getElem?_cons_succ, List.getElem?_cons_zero, Option.some.injEq] at ho2; subst ho2
          refine rg_take (v := ?_) 4 hoi (by kernel_rfl) (by kernel_rfl) (by kernel_rfl) (fun _ _ _ h => h) (by rfl) ?_ hS ?_
          rotate_left
          · intro w _; go_simp; try with_reducible rfl
          clear hoi; try simp only [Act.put, List.setIfInBounds_toArray, List.set_cons_zero, List.set_cons_succ]
          refine rg_at 5 (by decide) (fun oi hoi => ?_)
          have ho2 := hoi; simp only [List.getElem?_toArray, List.getElem?_cons_succ, List.getElem?_cons_zero, Option.some.injEq] at ho2; subst ho2
          refine rg_take (v := ?_) 5 hoi (by kernel_rfl) (by kernel_rfl) (by kernel_rfl) (fun _ _ _ h => h) (by rfl) ?_ hS ?_
          rotate_left
          · intro w hw; have hf := (CE.out w hw).1; clear hw; go_simp; try with_reducible rfl
          clear hoi; try simp only [Act.put, List.setIfInBounds_toArray, List.set_cons_zero, List.set_cons_succ]
          refine rg_at 6 (by decide) (fun oi hoi => ?_)
          have ho2 := hoi; simp only [List.getElem?_toArray, List.getElem?_cons_succ, List.getElem?_cons_zero, Option.some.injEq] at ho2; subst ho2
          refine rg_take (v := ?_) 6 hoi (by kernel_rfl) (by kernel_rfl) (by kernel_rfl) (fun _ _ _ h => h) (by rfl) ?_ hS ?_
          rotate_left
          · intro w _; go_simp; try with_reducible rfl
          clear hoi; try simp only [Act.put, List.setIfInBounds_toArray, List.set_cons_zero, List.set_cons_succ]
          refine rg_at 7 (by decide) (fun oi hoi => ?_)
          have ho2 := hoi; simp only [List.getElem?_toArray, List.getElem?_cons_succ, List.getElem?_cons_zero, Option.some.injEq] at ho2; subst ho2
          refine rg_take (v := ?_) 7 hoi (by kernel_rfl) (by kernel_rfl) (by kernel_rfl) (fun _ _ _ h => h) (by rfl) ?_ hS ?_
          rotate_left
          · intro w _; go_simp; try with_reducible rfl
          clear hoi; try simp only [Act.put, List.setIfInBounds_toArray, List.set_cons_zero, List.set_cons_succ]
          refine rg_at 8 (by decide) (fun oi hoi => ?_)
          have ho2 := hoi; simp only [List.getElem?_toArray, List.getElem?_cons_succ, List.getElem?_cons_zero, Option.some.injEq] at ho2; subst ho2
          refine rg_take (v := ?_) 8 hoi (by kernel_rfl) (by kernel_rfl) (by kernel_rfl) (fun _ _ _ h => h) (by rfl) ?_ hS ?_
          rotate_left
          · intro w _; go_simp; try with_reducible rfl
          clear hoi; try simp only [Act.put, List.setIfInBounds_toArray, List.set_cons_zero, List.set_cons_succ]
          refine rg_at 9 (by decide) (fun oi hoi => ?_)
          have ho2 := hoi; simp only [List.getElem?_toArray, List.getElem?_cons_succ, List.getElem?_cons_zero, Option.some.injEq] at ho2; subst ho2
          refine rg_take (v := ?_) 9 hoi (by kernel_rfl) (by kernel_rfl) (by kernel_rfl) (fun _ _ _ h => h) (by rfl) ?_ hS ?_
          rotate_left
          · intro w _; go_simp; try with_reducible rfl
          clear hoi; try simp only [Act.put, List.setIfInBounds_toArray, List.set_cons_zero, List.set_cons_succ]
          refine rg_at 10 (by decide) (fun oi hoi => ?_)
          have ho2 := hoi; simp only [List.getElem?_toArray, List.getElem?_cons_succ, List.getElem?_cons_zero, Option.some.injEq] at ho2; subst ho2
          refine rg_take (v := ?_) 10 hoi (by kernel_rfl) (by kernel_rfl) (by kernel_rfl) (fun _ _ _ h => h) (by rfl) ?_ hS ?_
          rotate_left
          · intro w hw; have hf := (CE.out w hw).2; clear hw; go_simp; try with_reducible rfl
          clear hoi; try simp only [Act.put, List.setIfInBounds_toArray, List.set_cons_zero, List.set_cons_succ]
          refine rg_at 12 (by decide) (fun oi hoi => ?_)
          have ho2 := hoi; simp only [List.getElem?_toArray, List.getElem?_cons_succ, List.getElem?_cons_zero, Option.some.injEq] at ho2; subst ho2
          refine rg_take (v := ?_) 12 hoi (by kernel_rfl) (by kernel_rfl) (by kernel_rfl) (fun _ _ _ h => h) (by rfl) ?_ hS ?_
          rotate_left
          · intro w _; go_simp; try with_reducible rfl
          clear hoi; try simp only [Act.put, List.setIfInBounds_toArray, List.set_cons_zero, List.set_cons_succ]
          refine rg_at 13 (by decide) (fun oi hoi => ?_)
          have ho2 := hoi; simp only [List.getElem?_toArray, List.getElem?_cons_succ, List.getElem?_cons_zero, Option.some.injEq] at ho2; subst ho2
          refine rg_take (v := ?_) 13 hoi (by kernel_rfl) (by kernel_rfl) (by kernel_rfl) (fun _ _ _ h => h) (by rfl) ?_ hS ?_
          rotate_left
          · intro w _; go_simp; try with_reducible rfl
          clear hoi; try simp only [Act.put, List.setIfInBounds_toArray, List.set_cons_zero, List.set_cons_succ]
          refine rg_at 14 (by decide) (fun oi hoi => ?_)
          have ho2 := hoi; simp only [List.getElem?_toArray, List.getElem?_cons_succ, List.getElem?_cons_zero, Option.some.injEq] at ho2; subst ho2
          refine rg_take (v := ?_) 14 hoi (by kernel_rfl) (by kernel_rfl) (by kernel_rfl) (fun _ _ _ h => h) (by rfl) ?_ hS ?_
          rotate_left
          · intro w _; go_simp; try with_reducible rfl
          clear hoi; try simp only [Act.put, List.setIfInBounds_toArray, List.set_cons_zero, List.set_cons_succ]
          refine rg_at 15 (by decide) (fun oi hoi => ?_)
          have ho2 := hoi; simp only [List.getElem?_toArray, List.getElem?_cons_succ, List.getElem?_cons_zero, Option.some.injEq] at ho2; subst ho2
          refine rg_take (v := ?_) 15 hoi (by kernel_rfl) (by kernel_rfl) (by kernel_rfl) (fun _ _ _ h => h) (by rfl) ?_ hS ?_
          rotate_left
          · intro w _; go_simp; try with_reducible rfl
          clear hoi; try simp only [Act.put, List.setIfInBounds_toArray, List.set_cons_zero, List.set_cons_succ]
          refine rg_at 16 (by decide) (fun oi hoi => ?_)
          have ho2 := hoi; simp only [List.getElem?_toArray, List.getElem?_cons_succ, List.getElem?_cons_zero, Option.some.injEq] at ho2; subst ho2
          refine rg_take (v := ?_) 16 hoi (by kernel_rfl) (by kernel_rfl) (by kernel_rfl) (fun _ _ _ h => h) (by rfl) ?_ hS ?_
          rotate_left
          · intro w _; go_simp; try with_reducible rfl
          clear hoi; try simp only [Act.put, List.setIfInBounds_toArray, List.set_cons_zero, List.set_cons_succ]
          refine rg_at 17 (by decide) (fun oi hoi => ?_)
          have ho2 := hoi; simp only [List.getElem?_toArray, List.getElem?_cons_succ, List.getElem?_cons_zero, Option.some.injEq] at ho2; subst ho2
          refine rg_take (v := ?_) 17 hoi (by kernel_rfl) (by kernel_rfl) (by kernel_rfl) (fun _ _ _ h => h) (by rfl) ?_ hS ?_
          rotate_left
          · intro w hw; have hf := (CE.out w hw).1; clear hw; go_simp; try with_reducible rfl
          clear hoi; try simp only [Act.put, List.setIfInBounds_toArray, List.set_cons_zero, List.set_cons_succ]
          refine rg_at 18 (by decide) (fun oi hoi => ?_)
          have ho2 := hoi; simp only [List.getElem?_toArray, List.getElem?_cons_succ, List.getElem?_cons_zero, Option.some.injEq] at ho2; subst ho2
          refine rg_take (v := ?_) 18 hoi (by kernel_rfl) (by kernel_rfl) (by kernel_rfl) (fun _ _ _ h => h) (by rfl) ?_ hS ?_
          rotate_left
          · intro w _; go_simp; try with_reducible rfl
          clear hoi; try simp only [Act.put, List.setIfInBounds_toArray, List.set_cons_zero, List.set_cons_succ]
          refine rg_at 19 (by decide) (fun oi hoi => ?_)
          have ho2 := hoi; simp only [List.getElem?_toArray, List.getElem?_cons_succ, List.getElem?_cons_zero, Option.some.injEq] at ho2; subst ho2
          refine rg_take (v := ?_) 19 hoi (by kernel_rfl) (by kernel_rfl) (by kernel_rfl) (fun _ _ _ h => h) (by rfl) ?_ hS ?_
          rotate_left
          · intro w _; go_simp; try with_reducible rfl
          clear hoi; try simp only [Act.put, List.setIfInBounds_toArray, List.set_cons_zero, List.set_cons_succ]
          refine rg_at 20 (by decide) (fun oi hoi => ?_)
          have ho2 := hoi; simp only [List.getElem?_toArray, List.getElem?_cons_succ, List.getElem?_cons_zero, Option.some.injEq] at ho2; subst ho2
          refine rg_take (v := ?_) 20 hoi (by kernel_rfl) (by kernel_rfl) (by kernel_rfl) (fun _ _ _ h => h) (by rfl) ?_ hS ?_
          rotate_left
          · intro w _; go_simp; try with_reducible rfl
          clear hoi; try simp only [Act.put, List.setIfInBounds_toArray, List.set_cons_zero, List.set_cons_succ]
          refine rg_at 21 (by decide) (fun oi hoi => ?_)
          have ho2 := hoi; simp only [List.getElem?_toArray, List.getElem?_cons_succ, List.getElem?_cons_zero, Option.some.injEq] at ho2; subst ho2
          refine rg_take (v := ?_) 21 hoi (by kernel_rfl) (by kernel_rfl) (by kernel_rfl) (fun _ _ _ h => h) (by rfl) ?_ hS ?_
          rotate_left
          · intro w _; go_simp; try with_reducible rfl
          clear hoi; try simp only [Act.put, List.setIfInBounds_toArray, List.set_cons_zero, List.set_cons_succ]
          refine rg_at 22 (by decide) (fun oi hoi => ?_)
          have ho2 := hoi; simp only [List.getElem?_toArray, List.getElem?_cons_succ, List.getElem?_cons_zero, Option.some.injEq] at ho2; subst ho2
          refine rg_take (v := ?_) 22 hoi (by kernel_rfl) (by kernel_rfl) (by kernel_rfl) (fun _ _ _ h => h) (by rfl) ?_ hS ?_
          rotate_left
          · intro w hw; have hf := (CE.out w hw).2; clear hw; go_simp; try with_reducible rfl
          clear hoi; try simp only [Act.put, List.setIfInBounds_toArray, List.set_cons_zero, List.set_cons_succ]
          refine rg_at 11 (by decide) (fun oi hoi => ?_)
          have ho2 := hoi; simp only [List.getElem?_toArray, List.getElem?_cons_succ, List.getElem?_cons_zero, Option.some.injEq] at ho2; subst ho2
          refine rg_call 11 (by kernel_rfl) hoi (by rfl) (fun K hK => ?_)
          clear hoi
          go_simp
          refine Calls.mono (HA.out _ (HW.out.a.wd.upd (Upd.drew (Upd.refl No wr)) (fun _ _ => no_ _))) ?_
          rintro e w4 ⟨rfl, F4, hw4, hm4⟩
          have hm4' : Mv F F4 wr w4 := ⟨Upd.of_drew hm4.upd, hm4.sub⟩
          have hb4 := HW.out.b.upd hm4'.upd (fun k hk hf => HW.out.fg k hf hk)
          have hS4 := HW.out.a.bel.trans (hm4'.upd.below HW.out.a.bel.size HW.out.a.own)
          go_wp2_with (fail)
          refine hK.out _ _ (hS4) (fun hS => ?_)
          clear hK K
          try simp only [Act.put, List.setIfInBounds_toArray, List.set_cons_zero, List.set_cons_succ]
          refine rg_at 23 (by decide) (fun oi hoi => ?_)
          have ho2 := hoi; simp only [List.getElem?_toArray, List.getElem?_cons_succ, List.getElem?_cons_zero, Option.some.injEq] at ho2; subst ho2
          refine rg_call 23 (by kernel_rfl) hoi (by rfl) (fun K hK => ?_)
          clear hoi
          go_simp
          refine Calls.mono (HB.out _ hb4) ?_
          rintro e w5 ⟨rfl, G5, hw5, hm5⟩
          have HW5 := hid (HW.out.moved hw4 hm4' hw5 hm5 HOk.out)
          go_wp2_with (fail)
          refine hK.out _ _ (HW5.out.a.bel) (fun hS => ?_)
          clear hK K
          try simp only [Act.put, List.setIfInBounds_toArray, List.set_cons_zero, List.set_cons_succ]
          refine rg_at 24 (by decide) (fun oi hoi => ?_)
          have ho2 := hoi; simp only [List.getElem?_toArray, List.getElem?_cons_succ, List.getElem?_cons_zero, Option.some.injEq] at ho2; subst ho2
          refine rg_take (v := ?_) 24 hoi (by kernel_rfl) (by kernel_rfl) (by kernel_rfl) (fun _ _ _ h => h) (by rfl) ?_ hS ?_
          rotate_left
          · intro w _; go_simp; try with_reducible rfl
          clear hoi; try simp only [Act.put, List.setIfInBounds_toArray, List.set_cons_zero, List.set_cons_succ]
          refine rg_at 25 (by decide) (fun oi hoi => ?_)
          have ho2 := hoi; simp only [List.getElem?_toArray, List.getElem?_cons_succ, List.getElem?_cons_zero, Option.some.injEq] at ho2; subst ho2
          refine rg_take (v := ?_) 25 hoi (by kernel_rfl) (by kernel_rfl) (by kernel_rfl) (fun _ _ _ h => h) (by rfl) ?_ hS ?_
          rotate_left
          · intro w _; go_simp; try with_reducible rfl
          clear hoi; try simp only [Act.put, List.setIfInBounds_toArray, List.set_cons_zero, List.set_cons_succ]
          refine rg_at 26 (by decide) (fun oi hoi => ?_)
          have ho2 := hoi; simp only [List.getElem?_toArray, List.getElem?_cons_succ, List.getElem?_cons_zero, Option.some.injEq] at ho2; subst ho2
          refine rg_take (v := ?_) 26 hoi (by kernel_rfl) (by kernel_rfl) (by kernel_rfl) (fun _ _ _ h => h) (by rfl) ?_ hS ?_
          rotate_left
          · intro w _; go_simp; try with_reducible rfl
          clear hoi; try simp only [Act.put, List.setIfInBounds_toArray, List.set_cons_zero, List.set_cons_succ]
          refine rg_at 27 (by decide) (fun oi hoi => ?_)
          have ho2 := hoi; simp only [List.getElem?_toArray, List.getElem?_cons_succ, List.getElem?_cons_zero, Option.some.injEq] at ho2; subst ho2
          refine rg_take (v := ?_) 27 hoi (by kernel_rfl) (by kernel_rfl) (by kernel_rfl) (fun _ _ _ h => h) (by rfl) ?_ hS ?_
          rotate_left
          · intro w _; go_simp; try with_reducible rfl
          clear hoi; try simp only [Act.put, List.setIfInBounds_toArray, List.set_cons_zero, List.set_cons_succ]
          refine rg_at 28 (by decide) (fun oi hoi => ?_)
          have ho2 := hoi; simp only [List.getElem?_toArray, List.getElem?_cons_succ, List.getElem?_cons_zero, Option.some.injEq] at ho2; subst ho2
          refine rg_call 28 (by kernel_rfl) hoi (by rfl) (fun K hK => ?_)
          clear hoi
          go_simp
          refine Calls.mono (same HW5.out.a.wd HW5.out.b HOk.out) ?_
          rintro e w6 ⟨rfl, hu6⟩
          have HW6 := hid (HW5.out.quiet hu6)
          go_wp2_with (fail)
          refine hK.out _ _ (HW6.out.a.bel) (fun hS => ?_)
          clear hK K
          try simp only [Act.put, List.setIfInBounds_toArray, List.set_cons_zero, List.set_cons_succ]
          refine rg_at 29 (by decide) (fun oi hoi => ?_)
          have ho2 := hoi; simp only [List.getElem?_toArray, List.getElem?_cons_succ, List.getElem?_cons_zero, Option.some.injEq] at ho2; subst ho2
          refine rg_take (v := ?_) 29 hoi (by kernel_rfl) (by kernel_rfl) (by kernel_rfl) (fun _ _ _ h => h) (by rfl) ?_ hS ?_
          rotate_left
          · intro w _; go_simp; try with_reducible rfl
          clear hoi; try simp only [Act.put, List.setIfInBounds_toArray, List.set_cons_zero, List.set_cons_succ]
          refine rg_at 30 (by decide) (fun oi hoi => ?_)
          have ho2 := hoi; simp only [List.getElem?_toArray, List.getElem?_cons_succ, List.getElem?_cons_zero, Option.some.injEq] at ho2; subst ho2
          refine rg_take (v := ?_) 30 hoi (by kernel_rfl) (by kernel_rfl) (by kernel_rfl) (fun _ _ _ h => h) (by rfl) ?_ hS ?_
          rotate_left
          · intro w _; go_simp; try with_reducible rfl
          clear hoi; try simp only [Act.put, List.setIfInBounds_toArray, List.set_cons_zero, List.set_cons_succ]
          refine wpAnyH_done (by kernel_rfl) ?_ _
          clear hw4 hm4 hm4' hb4 hS4 hw5 hm5 hu6 hS
          go_wp2
          go_roundw
          case rel => exact ⟨j + 1, F4, G5, y, by omega, by go_num, HW6⟩
          case measure => simp [intOf]; omega
      · obtain rfl : j = xs.length := by omega
        obtain ⟨wo, hwo⟩ : ∃ wo : World, wo = wr := ⟨_, rfl⟩
        rw [← hwo] at HW ⊢
        clear hwo wr
        go_wp2_with (fail)
        go_loopw [69] (fun v69 W => ∃ (j : Nat), j ≤ ys.length ∧ v69 = .int .i64 j ∧ Hid (Upd No wo W)) (fun v69 _ => ys.length - (intOf v69).toNat)
        case atStart => exact ⟨0, by omega, rfl, hid (Upd.refl _ _)⟩
        case round =>
          obtain ⟨j, hj, rfl, HU⟩ := hrel
          by_cases hlt : j < ys.length
          · obtain ⟨bd, rfl, x0, x1⟩ := pr_at hry hlt
            have hkk := HKy.out _ (List.getElem_mem hlt)
            generalize ys[j] = e0 at *
            obtain ⟨c0, s0⟩ := e0
            simp only at x0 x1 hkk
            have CE : Hid (∀ W, Upd No wo W → W.cell? (bd.add (j * 2)) = some (.int .u64 c0) ∧ W.cell? ⟨(bd.add (j * 2)).block, (bd.add (j * 2)).off + 1, none⟩ = some (.int .u64 s0)) := hid fun W hu => by
              have hb := (HW.out.a.quiet hu).bel
              exact ⟨(hb.cell (World.block_lt_of_cell? _ _ x0)).trans x0, (hb.cell (World.block_lt_of_cell? _ _ x1)).trans x1⟩
            have hj1 : (0 : Int) ≤ (j : Int) := by omega
            have hj2 : (j : Int) < (ys.length : Int) := by omega
            clear x0 x1
            have hsl := HW.out.a.ok.sr_le c0
            have hA := fun W (hu : Upd No wo W) => seen c0 s0 (HW.out.quiet hu).a.wd hkk.1
            have hB := fun W (hu : Upd No wo W) => rseen c0 s0 (HW.out.quiet hu).b HW.out.a.ok
            have hSA := fun W (hu : Upd No wo W) => serials c0 (HW.out.quiet hu).a.wd hkk.1 hsl
            have hSB := fun W (hu : Upd No wo W) => rserials c0 (HW.out.quiet hu).b HW.out.a.ok
            generalize sr x c0 = l at *
            generalize decide (s0 ∈ l) = b at *
            have HA := hid hA
            have HB := hid hB
            have HSA := hid hSA
            have HSB := hid hSB
            clear hA hB hSA hSB
            rcases b with _ | _
            all_goals
              go_wp2_with (fail)
              refine wp_region_held_drew (S := fun W => Upd No wo W) (by kernel_rfl) HU.out.drew (fun hS => ?_)
              refine rg_at 0 (by decide) (fun oi hoi => ?_)
              have ho2 := hoi; simp only [List.getElem?_toArray, List.getElem?_cons_succ, List.getElem?_cons_zero, Option.some.injEq] at ho2; subst ho2
              refine rg_take (v := ?_) 0 hoi (by kernel_rfl) (by kernel_rfl) (by kernel_rfl) (fun _ _ _ h => h) (by rfl) ?_ hS ?_
              rotate_left
              · intro w _; go_simp; try with_reducible rfl
              clear hoi; try simp only [Act.put, List.setIfInBounds_toArray, List.set_cons_zero, List.set_cons_succ]
              refine rg_at 1 (by decide) (fun oi hoi => ?_)
              have ho2 := hoi; simp only [List.getElem?_toArray, List.getElem?_cons_succ, List.getElem?_cons_zero, Option.some.injEq] at ho2; subst ho2
              refine rg_take (v := ?_) 1 hoi (by kernel_rfl) (by kernel_rfl) (by kernel_rfl) (fun _ _ _ h => h) (by rfl) ?_ hS ?_
              rotate_left
              · intro w _; go_simp; try with_reducible rfl
              clear hoi; try simp only [Act.put, List.setIfInBounds_toArray, List.set_cons_zero, List.set_cons_succ]
              refine rg_at 2 (by decide) (fun oi hoi => ?_)
              have ho2 := hoi; simp only [List.getElem?_toArray, List.getElem?_cons_succ, List.getElem?_cons_zero, Option.some.injEq] at ho2; subst ho2
              refine rg_take (v := ?_) 2 hoi (by kernel_rfl) (by kernel_rfl) (by kernel_rfl) (fun _ _ _ h => h) (by rfl) ?_ hS ?_
              rotate_left
              · intro w _; go_simp; try with_reducible rfl
              clear hoi; try simp only [Act.put, List.setIfInBounds_toArray, List.set_cons_zero, List.set_cons_succ]
              refine rg_at 3 (by decide) (fun oi hoi => ?_)
              have ho2 := hoi; simp only [List.getElem?_toArray, List.getElem?_cons_succ, List.getElem?_cons_zero, Option.some.injEq] at ho2; subst ho2
              refine rg_take (v := ?_) 3 hoi (by kernel_rfl) (by kernel_rfl) (by kernel_rfl) (fun _ _ _ h => h) (by rfl) ?_ hS ?_
              rotate_left
              · intro w _; go_simp; try with_reducible rfl
              clear hoi; try simp only [Act.put, List.setIfInBounds_toArray, List.set_cons_zero, List.set_cons_succ]
              refine rg_at 4 (by decide) (fun oi hoi => ?_)
              have ho2 := hoi; simp only [List.getElem?_toArray, List.getElem?_cons_succ, List.getElem?_cons_zero, Option.some.injEq] at ho2; subst ho2
              refine rg_take (v := ?_) 4 hoi (by kernel_rfl) (by kernel_rfl) (by kernel_rfl) (fun _ _ _ h => h) (by rfl) ?_ hS ?_
              rotate_left
              · intro w _; go_simp; try with_reducible rfl
              clear hoi; try simp only [Act.put, List.setIfInBounds_toArray, List.set_cons_zero, List.set_cons_succ]
              refine rg_at 5 (by decide) (fun oi hoi => ?_)
              have ho2 := hoi; simp only [List.getElem?_toArray, List.getElem?_cons_succ, List.getElem?_cons_zero, Option.some.injEq] at ho2; subst ho2
              refine rg_take (v := ?_) 5 hoi (by kernel_rfl) (by kernel_rfl) (by kernel_rfl) (fun _ _ _ h => h) (by rfl) ?_ hS ?_
              rotate_left
              · intro w hw; have hf := (CE.out _ hw).1; clear hw; go_simp; try with_reducible rfl
              clear hoi; try simp only [Act.put, List.setIfInBounds_toArray, List.set_cons_zero, List.set_cons_succ]
              refine rg_at 6 (by decide) (fun oi hoi => ?_)
              have ho2 := hoi; simp only [List.getElem?_toArray, List.getElem?_cons_succ, List.getElem?_cons_zero, Option.some.injEq] at ho2; subst ho2
              refine rg_take (v := ?_) 6 hoi (by kernel_rfl) (by kernel_rfl) (by kernel_rfl) (fun _ _ _ h => h) (by rfl) ?_ hS ?_
              rotate_left
              · intro w _; go_simp; try with_reducible rfl
              clear hoi; try simp only [Act.put, List.setIfInBounds_toArray, List.set_cons_zero, List.set_cons_succ]
              refine rg_at 7 (by decide) (fun oi hoi => ?_)
              have ho2 := hoi; simp only [List.getElem?_toArray, List.getElem?_cons_succ, List.getElem?_cons_zero, Option.some.injEq] at ho2; subst ho2
              refine rg_take (v := ?_) 7 hoi (by kernel_rfl) (by kernel_rfl) (by kernel_rfl) (fun _ _ _ h => h) (by rfl) ?_ hS ?_
              rotate_left
              · intro w _; go_simp; try with_reducible rfl
              clear hoi; try simp only [Act.put, List.setIfInBounds_toArray, List.set_cons_zero, List.set_cons_succ]
              refine rg_at 8 (by decide) (fun oi hoi => ?_)
              have ho2 := hoi; simp only [List.getElem?_toArray, List.getElem?_cons_succ, List.getElem?_cons_zero, Option.some.injEq] at ho2; subst ho2
              refine rg_take (v := ?_) 8 hoi (by kernel_rfl) (by kernel_rfl) (by kernel_rfl) (fun _ _ _ h => h) (by rfl) ?_ hS ?_
              rotate_left
              · intro w _; go_simp; try with_reducible rfl
              clear hoi; try simp only [Act.put, List.setIfInBounds_toArray, List.set_cons_zero, List.set_cons_succ]
              refine rg_at 9 (by decide) (fun oi hoi => ?_)
              have ho2 := hoi; simp only [List.getElem?_toArray, List.getElem?_cons_succ, List.getElem?_cons_zero, Option.some.injEq] at ho2; subst ho2
              refine rg_take (v := ?_) 9 hoi (by kernel_rfl) (by kernel_rfl) (by kernel_rfl) (fun _ _ _ h => h) (by rfl) ?_ hS ?_
              rotate_left
              · intro w _; go_simp; try with_reducible rfl
              clear hoi; try simp only [Act.put, List.setIfInBounds_toArray, List.set_cons_zero, List.set_cons_succ]
              refine rg_at 10 (by decide) (fun oi hoi => ?_)
              have ho2 := hoi; simp only [List.getElem?_toArray, List.getElem?_cons_succ, List.getElem?_cons_zero, Option.some.injEq] at ho2; subst ho2
              refine rg_take (v := ?_) 10 hoi (by kernel_rfl) (by kernel_rfl) (by kernel_rfl) (fun _ _ _ h => h) (by rfl) ?_ hS ?_
              rotate_left
              · intro w hw; have hf := (CE.out _ hw).2; clear hw; go_simp; try with_reducible rfl
              clear hoi; try simp only [Act.put, List.setIfInBounds_toArray, List.set_cons_zero, List.set_cons_succ]
              refine rg_at 12 (by decide) (fun oi hoi => ?_)
              have ho2 := hoi; simp only [List.getElem?_toArray, List.getElem?_cons_succ, List.getElem?_cons_zero, Option.some.injEq] at ho2; subst ho2
              refine rg_take (v := ?_) 12 hoi (by kernel_rfl) (by kernel_rfl) (by kernel_rfl) (fun _ _ _ h => h) (by rfl) ?_ hS ?_
              rotate_left
              · intro w _; go_simp; try with_reducible rfl
              clear hoi; try simp only [Act.put, List.setIfInBounds_toArray, List.set_cons_zero, List.set_cons_succ]
              refine rg_at 13 (by decide) (fun oi hoi => ?_)
              have ho2 := hoi; simp only [List.getElem?_toArray, List.getElem?_cons_succ, List.getElem?_cons_zero, Option.some.injEq] at ho2; subst ho2
              refine rg_take (v := ?_) 13 hoi (by kernel_rfl) (by kernel_rfl) (by kernel_rfl) (fun _ _ _ h => h) (by rfl) ?_ hS ?_
              rotate_left
              · intro w _; go_simp; try with_reducible rfl
              clear hoi; try simp only [Act.put, List.setIfInBounds_toArray, List.set_cons_zero, List.set_cons_succ]
              refine rg_at 14 (by decide) (fun oi hoi => ?_)
              have ho2 := hoi; simp only [List.getElem?_toArray, List.getElem?_cons_succ, List.getElem?_cons_zero, Option.some.injEq] at ho2; subst ho2
              refine rg_take (v := ?_) 14 hoi (by kernel_rfl) (by kernel_rfl) (by kernel_rfl) (fun _ _ _ h => h) (by rfl) ?_ hS ?_
              rotate_left
              · intro w _; go_simp; try with_reducible rfl
              clear hoi; try simp only [Act.put, List.setIfInBounds_toArray, List.set_cons_zero, List.set_cons_succ]
              refine rg_at 15 (by decide) (fun oi hoi => ?_)
              have ho2 := hoi; simp only [List.getElem?_toArray, List.getElem?_cons_succ, List.getElem?_cons_zero, Option.some.injEq] at ho2; subst ho2
              refine rg_take (v := ?_) 15 hoi (by kernel_rfl) (by kernel_rfl) (by kernel_rfl) (fun _ _ _ h => h) (by rfl) ?_ hS ?_
              rotate_left
              · intro w _; go_simp; try with_reducible rfl
              clear hoi; try simp only [Act.put, List.setIfInBounds_toArray, List.set_cons_zero, List.set_cons_succ]
              refine rg_at 16 (by decide) (fun oi hoi => ?_)
              have ho2 := hoi; simp only [List.getElem?_toArray, List.getElem?_cons_succ, List.getElem?_cons_zero, Option.some.injEq] at ho2; subst ho2
              refine rg_take (v := ?_) 16 hoi (by kernel_rfl) (by kernel_rfl) (by kernel_rfl) (fun _ _ _ h => h) (by rfl) ?_ hS ?_
              rotate_left
              · intro w _; go_simp; try with_reducible rfl
              clear hoi; try simp only [Act.put, List.setIfInBounds_toArray, List.set_cons_zero, List.set_cons_succ]
              refine rg_at 17 (by decide) (fun oi hoi => ?_)
              have ho2 := hoi; simp only [List.getElem?_toArray, List.getElem?_cons_succ, List.getElem?_cons_zero, Option.some.injEq] at ho2; subst ho2
              refine rg_take (v := ?_) 17 hoi (by kernel_rfl) (by kernel_rfl) (by kernel_rfl) (fun _ _ _ h => h) (by rfl) ?_ hS ?_
              rotate_left
              · intro w hw; have hf := (CE.out _ hw).1; clear hw; go_simp; try with_reducible rfl
              clear hoi; try simp only [Act.put, List.setIfInBounds_toArray, List.set_cons_zero, List.set_cons_succ]
              refine rg_at 18 (by decide) (fun oi hoi => ?_)
              have ho2 := hoi; simp only [List.getElem?_toArray, List.getElem?_cons_succ, List.getElem?_cons_zero, Option.some.injEq] at ho2; subst ho2
              refine rg_take (v := ?_) 18 hoi (by kernel_rfl) (by kernel_rfl) (by kernel_rfl) (fun _ _ _ h => h) (by rfl) ?_ hS ?_
              rotate_left
              · intro w _; go_simp; try with_reducible rfl
              clear hoi; try simp only [Act.put, List.setIfInBounds_toArray, List.set_cons_zero, List.set_cons_succ]
              refine rg_at 19 (by decide) (fun oi hoi => ?_)
              have ho2 := hoi; simp only [List.getElem?_toArray, List.getElem?_cons_succ, List.getElem?_cons_zero, Option.some.injEq] at ho2; subst ho2
              refine rg_take (v := ?_) 19 hoi (by kernel_rfl) (by kernel_rfl) (by kernel_rfl) (fun _ _ _ h => h) (by rfl) ?_ hS ?_
              rotate_left
              · intro w _; go_simp; try with_reducible rfl
              clear hoi; try simp only [Act.put, List.setIfInBounds_toArray, List.set_cons_zero, List.set_cons_succ]
              refine rg_at 20 (by decide) (fun oi hoi => ?_)
              have ho2 := hoi; simp only [List.getElem?_toArray, List.getElem?_cons_succ, List.getElem?_cons_zero, Option.some.injEq] at ho2; subst ho2
              refine rg_take (v := ?_) 20 hoi (by kernel_rfl) (by kernel_rfl) (by kernel_rfl) (fun _ _ _ h => h) (by rfl) ?_ hS ?_
              rotate_left
              · intro w _; go_simp; try with_reducible rfl
              clear hoi; try simp only [Act.put, List.setIfInBounds_toArray, List.set_cons_zero, List.set_cons_succ]
              refine rg_at 21 (by decide) (fun oi hoi => ?_)
              have ho2 := hoi; simp only [List.getElem?_toArray, List.getElem?_cons_succ, List.getElem?_cons_zero, Option.some.injEq] at ho2; subst ho2
              refine rg_take (v := ?_) 21 hoi (by kernel_rfl) (by kernel_rfl) (by kernel_rfl) (fun _ _ _ h => h) (by rfl) ?_ hS ?_
              rotate_left
              · intro w _; go_simp; try with_reducible rfl
              clear hoi; try simp only [Act.put, List.setIfInBounds_toArray, List.set_cons_zero, List.set_cons_succ]
              refine rg_at 22 (by decide) (fun oi hoi => ?_)
              have ho2 := hoi; simp only [List.getElem?_toArray, List.getElem?_cons_succ, List.getElem?_cons_zero, Option.some.injEq] at ho2; subst ho2
              refine rg_take (v := ?_) 22 hoi (by kernel_rfl) (by kernel_rfl) (by kernel_rfl) (fun _ _ _ h => h) (by rfl) ?_ hS ?_
              rotate_left
              · intro w hw; have hf := (CE.out _ hw).2; clear hw; go_simp; try with_reducible rfl
              clear hoi; try simp only [Act.put, List.setIfInBounds_toArray, List.set_cons_zero, List.set_cons_succ]
              refine rg_at 11 (by decide) (fun oi hoi => ?_)
              have ho2 := hoi; simp only [List.getElem?_toArray, List.getElem?_cons_succ, List.getElem?_cons_zero, Option.some.injEq] at ho2; subst ho2
              refine rg_call 11 (by kernel_rfl) hoi (by rfl) (fun K hK => ?_)
              clear hoi
              go_simp
              refine Calls.mono (HA.out _ hS) ?_
              rintro e w4 ⟨rfl, rfl⟩
              go_wp2_with (fail)
              refine hK.out _ _ (hS) (fun hS => ?_)
              clear hK K
              try simp only [Act.put, List.setIfInBounds_toArray, List.set_cons_zero, List.set_cons_succ]
              refine rg_at 23 (by decide) (fun oi hoi => ?_)
              have ho2 := hoi; simp only [List.getElem?_toArray, List.getElem?_cons_succ, List.getElem?_cons_zero, Option.some.injEq] at ho2; subst ho2
              refine rg_call 23 (by kernel_rfl) hoi (by rfl) (fun K hK => ?_)
              clear hoi
              go_simp
              refine Calls.mono (HB.out _ hS) ?_
              rintro e w5 ⟨rfl, hu5⟩
              have hS5 := Upd.next hS hu5
              go_wp2_with (fail)
              refine hK.out _ _ ((by exact hS5)) (fun hS => ?_)
              clear hK K
              try simp only [Act.put, List.setIfInBounds_toArray, List.set_cons_zero, List.set_cons_succ]
              refine rg_at 24 (by decide) (fun oi hoi => ?_)
              have ho2 := hoi; simp only [List.getElem?_toArray, List.getElem?_cons_succ, List.getElem?_cons_zero, Option.some.injEq] at ho2; subst ho2
              refine rg_take (v := ?_) 24 hoi (by kernel_rfl) (by kernel_rfl) (by kernel_rfl) (fun _ _ _ h => h) (by rfl) ?_ hS ?_
              rotate_left
              · intro w _; go_simp; try with_reducible rfl
              clear hoi; try simp only [Act.put, List.setIfInBounds_toArray, List.set_cons_zero, List.set_cons_succ]
              refine rg_at 25 (by decide) (fun oi hoi => ?_)
              have ho2 := hoi; simp only [List.getElem?_toArray, List.getElem?_cons_succ, List.getElem?_cons_zero, Option.some.injEq] at ho2; subst ho2
              refine rg_take (v := ?_) 25 hoi (by kernel_rfl) (by kernel_rfl) (by kernel_rfl) (fun _ _ _ h => h) (by rfl) ?_ hS ?_
              rotate_left
              · intro w _; go_simp; try with_reducible rfl
              clear hoi; try simp only [Act.put, List.setIfInBounds_toArray, List.set_cons_zero, List.set_cons_succ]
              refine rg_at 26 (by decide) (fun oi hoi => ?_)
              have ho2 := hoi; simp only [List.getElem?_toArray, List.getElem?_cons_succ, List.getElem?_cons_zero, Option.some.injEq] at ho2; subst ho2
              refine rg_take (v := ?_) 26 hoi (by kernel_rfl) (by kernel_rfl) (by kernel_rfl) (fun _ _ _ h => h) (by rfl) ?_ hS ?_
              rotate_left
              · intro w _; go_simp; try with_reducible rfl
              clear hoi; try simp only [Act.put, List.setIfInBounds_toArray, List.set_cons_zero, List.set_cons_succ]
              refine rg_at 27 (by decide) (fun oi hoi => ?_)
              have ho2 := hoi; simp only [List.getElem?_toArray, List.getElem?_cons_succ, List.getElem?_cons_zero, Option.some.injEq] at ho2; subst ho2
              refine rg_take (v := ?_) 27 hoi (by kernel_rfl) (by kernel_rfl) (by kernel_rfl) (fun _ _ _ h => h) (by rfl) ?_ hS ?_
              rotate_left
              · intro w _; go_simp; try with_reducible rfl
              clear hoi; try simp only [Act.put, List.setIfInBounds_toArray, List.set_cons_zero, List.set_cons_succ]
              refine rg_at 28 (by decide) (fun oi hoi => ?_)
              have ho2 := hoi; simp only [List.getElem?_toArray, List.getElem?_cons_succ, List.getElem?_cons_zero, Option.some.injEq] at ho2; subst ho2
              refine rg_take (v := ?_) 28 hoi (by kernel_rfl) (by kernel_rfl) (by kernel_rfl) (fun _ _ _ h => h) (by rfl) ?_ hS ?_
              rotate_left
              · intro w _; go_simp; try with_reducible rfl
              clear hoi; try simp only [Act.put, List.setIfInBounds_toArray, List.set_cons_zero, List.set_cons_succ]
              refine rg_at 29 (by decide) (fun oi hoi => ?_)
              have ho2 := hoi; simp only [List.getElem?_toArray, List.getElem?_cons_succ, List.getElem?_cons_zero, Option.some.injEq] at ho2; subst ho2
              refine rg_take (v := ?_) 29 hoi (by kernel_rfl) (by kernel_rfl) (by kernel_rfl) (fun _ _ _ h => h) (by rfl) ?_ hS ?_
              rotate_left
              · intro w _; go_simp; try with_reducible rfl
              clear hoi; try simp only [Act.put, List.setIfInBounds_toArray, List.set_cons_zero, List.set_cons_succ]
              refine rg_at 30 (by decide) (fun oi hoi => ?_)
              have ho2 := hoi; simp only [List.getElem?_toArray, List.getElem?_cons_succ, List.getElem?_cons_zero, Option.some.injEq] at ho2; subst ho2
              refine rg_take (v := ?_) 30 hoi (by kernel_rfl) (by kernel_rfl) (by kernel_rfl) (fun _ _ _ h => h) (by rfl) ?_ hS ?_
              rotate_left
              · intro w _; go_simp; try with_reducible rfl
              clear hoi; try simp only [Act.put, List.setIfInBounds_toArray, List.set_cons_zero, List.set_cons_succ]
              refine rg_at 31 (by decide) (fun oi hoi => ?_)
              have ho2 := hoi; simp only [List.getElem?_toArray, List.getElem?_cons_succ, List.getElem?_cons_zero, Option.some.injEq] at ho2; subst ho2
              refine rg_take (v := ?_) 31 hoi (by kernel_rfl) (by kernel_rfl) (by kernel_rfl) (fun _ _ _ h => h) (by rfl) ?_ hS ?_
              rotate_left
              · intro w hw; have hf := (CE.out _ hw).1; clear hw; go_simp; try with_reducible rfl
              clear hoi; try simp only [Act.put, List.setIfInBounds_toArray, List.set_cons_zero, List.set_cons_succ]
              refine rg_at 33 (by decide) (fun oi hoi => ?_)
              have ho2 := hoi; simp only [List.getElem?_toArray, List.getElem?_cons_succ, List.getElem?_cons_zero, Option.some.injEq] at ho2; subst ho2
              refine rg_take (v := ?_) 33 hoi (by kernel_rfl) (by kernel_rfl) (by kernel_rfl) (fun _ _ _ h => h) (by rfl) ?_ hS ?_
              rotate_left
              · intro w _; go_simp; try with_reducible rfl
              clear hoi; try simp only [Act.put, List.setIfInBounds_toArray, List.set_cons_zero, List.set_cons_succ]
              refine rg_at 34 (by decide) (fun oi hoi => ?_)
              have ho2 := hoi; simp only [List.getElem?_toArray, List.getElem?_cons_succ, List.getElem?_cons_zero, Option.some.injEq] at ho2; subst ho2
              refine rg_take (v := ?_) 34 hoi (by kernel_rfl) (by kernel_rfl) (by kernel_rfl) (fun _ _ _ h => h) (by rfl) ?_ hS ?_
              rotate_left
              · intro w _; go_simp; try with_reducible rfl
              clear hoi; try simp only [Act.put, List.setIfInBounds_toArray, List.set_cons_zero, List.set_cons_succ]
              refine rg_at 35 (by decide) (fun oi hoi => ?_)
              have ho2 := hoi; simp only [List.getElem?_toArray, List.getElem?_cons_succ, List.getElem?_cons_zero, Option.some.injEq] at ho2; subst ho2
              refine rg_take (v := ?_) 35 hoi (by kernel_rfl) (by kernel_rfl) (by kernel_rfl) (fun _ _ _ h => h) (by rfl) ?_ hS ?_
              rotate_left
              · intro w _; go_simp; try with_reducible rfl
              clear hoi; try simp only [Act.put, List.setIfInBounds_toArray, List.set_cons_zero, List.set_cons_succ]
              refine rg_at 36 (by decide) (fun oi hoi => ?_)
              have ho2 := hoi; simp only [List.getElem?_toArray, List.getElem?_cons_succ, List.getElem?_cons_zero, Option.some.injEq] at ho2; subst ho2
              refine rg_take (v := ?_) 36 hoi (by kernel_rfl) (by kernel_rfl) (by kernel_rfl) (fun _ _ _ h => h) (by rfl) ?_ hS ?_
              rotate_left
              · intro w _; go_simp; try with_reducible rfl
              clear hoi; try simp only [Act.put, List.setIfInBounds_toArray, List.set_cons_zero, List.set_cons_succ]
              refine rg_at 37 (by decide) (fun oi hoi => ?_)
              have ho2 := hoi; simp only [List.getElem?_toArray, List.getElem?_cons_succ, List.getElem?_cons_zero, Option.some.injEq] at ho2; subst ho2
              refine rg_take (v := ?_) 37 hoi (by kernel_rfl) (by kernel_rfl) (by kernel_rfl) (fun _ _ _ h => h) (by rfl) ?_ hS ?_
              rotate_left
              · intro w _; go_simp; try with_reducible rfl
              clear hoi; try simp only [Act.put, List.setIfInBounds_toArray, List.set_cons_zero, List.set_cons_succ]
              refine rg_at 38 (by decide) (fun oi hoi => ?_)
              have ho2 := hoi; simp only [List.getElem?_toArray, List.getElem?_cons_succ, List.getElem?_cons_zero, Option.some.injEq] at ho2; subst ho2
              refine rg_take (v := ?_) 38 hoi (by kernel_rfl) (by kernel_rfl) (by kernel_rfl) (fun _ _ _ h => h) (by rfl) ?_ hS ?_
              rotate_left
              · intro w hw; have hf := (CE.out _ hw).1; clear hw; go_simp; try with_reducible rfl
              clear hoi; try simp only [Act.put, List.setIfInBounds_toArray, List.set_cons_zero, List.set_cons_succ]
              refine rg_at 32 (by decide) (fun oi hoi => ?_)
              have ho2 := hoi; simp only [List.getElem?_toArray, List.getElem?_cons_succ, List.getElem?_cons_zero, Option.some.injEq] at ho2; subst ho2
              refine rg_call 32 (by kernel_rfl) hoi (by rfl) (fun K hK => ?_)
              clear hoi
              go_simp
              refine Calls.mono (HSA.out _ hS) ?_
              rintro e w6 ⟨A6, c6, rfl, ho6, hu6⟩
              have hS6 := Upd.next hS hu6
              go_wp2_with (fail)
              refine hK.out _ _ ((by exact hS6)) (fun hS => ?_)
              clear hK K
              try simp only [Act.put, List.setIfInBounds_toArray, List.set_cons_zero, List.set_cons_succ]
              refine rg_at 39 (by decide) (fun oi hoi => ?_)
              have ho2 := hoi; simp only [List.getElem?_toArray, List.getElem?_cons_succ, List.getElem?_cons_zero, Option.some.injEq] at ho2; subst ho2
              refine rg_call 39 (by kernel_rfl) hoi (by rfl) (fun K hK => ?_)
              clear hoi
              go_simp
              refine Calls.mono (HSB.out _ hS) ?_
              rintro e w7 ⟨A7, c7, rfl, ho7, hu7⟩
              have hR6 : Rn w7 .u64 A6 l := Rd.upd (Rd.of_own ho6) (by omega) hu7 (fun _ _ => no_ _)
              have hR7 : Rn w7 .u64 A7 l := Rd.of_own ho7
              have hS7 := Upd.next hS hu7
              go_wp2_with (fail)
              refine hK.out _ _ ((by exact hS7)) (fun hS => ?_)
              clear hK K
              try simp only [Act.put, List.setIfInBounds_toArray, List.set_cons_zero, List.set_cons_succ]
              refine rg_at 40 (by decide) (fun oi hoi => ?_)
              have ho2 := hoi; simp only [List.getElem?_toArray, List.getElem?_cons_succ, List.getElem?_cons_zero, Option.some.injEq] at ho2; subst ho2
              refine rg_call 40 (by kernel_rfl) hoi (by rfl) (fun K hK => ?_)
              clear hoi
              go_simp
              have HSm := same13 (c := c6) (d := c7) hR6 hR7 (by omega) (by omega)
              simp only [decide_true] at HSm
              refine Calls.mono HSm ?_
              rintro e w8 ⟨rfl, hu8⟩
              have hS8 := Upd.next hS hu8
              go_wp2_with (fail)
              refine hK.out _ _ ((by exact hS8)) (fun hS => ?_)
              clear hK K
              try simp only [Act.put, List.setIfInBounds_toArray, List.set_cons_zero, List.set_cons_succ]
              refine rg_at 41 (by decide) (fun oi hoi => ?_)
              have ho2 := hoi; simp only [List.getElem?_toArray, List.getElem?_cons_succ, List.getElem?_cons_zero, Option.some.injEq] at ho2; subst ho2
              refine rg_take (v := ?_) 41 hoi (by kernel_rfl) (by kernel_rfl) (by kernel_rfl) (fun _ _ _ h => h) (by rfl) ?_ hS ?_
              rotate_left
              · intro w _; go_simp; try with_reducible rfl
              clear hoi; try simp only [Act.put, List.setIfInBounds_toArray, List.set_cons_zero, List.set_cons_succ]
              refine rg_at 42 (by decide) (fun oi hoi => ?_)
              have ho2 := hoi; simp only [List.getElem?_toArray, List.getElem?_cons_succ, List.getElem?_cons_zero, Option.some.injEq] at ho2; subst ho2
              refine rg_take (v := ?_) 42 hoi (by kernel_rfl) (by kernel_rfl) (by kernel_rfl) (fun _ _ _ h => h) (by rfl) ?_ hS ?_
              rotate_left
              · intro w _; go_simp; try with_reducible rfl
              clear hoi; try simp only [Act.put, List.setIfInBounds_toArray, List.set_cons_zero, List.set_cons_succ]
              refine wpAnyH_done (by kernel_rfl) ?_ _
              go_wp2
              go_roundw
              case rel => exact ⟨j + 1, by omega, by go_num, hid hS⟩
              case measure => simp [intOf]; omega
          · obtain rfl : j = ys.length := by omega
            have HE := hid (HW.out.quiet HU.out).a.bel
            go_wp2
            go_ret
            exact ⟨rfl, HE.out⟩
end Go.Proofs.Ytogijfgfcdmbnaa.Ww
