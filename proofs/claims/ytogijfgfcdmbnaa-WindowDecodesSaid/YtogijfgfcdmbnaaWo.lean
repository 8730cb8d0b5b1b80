/-
  An argument that is a list of clients and serials; the walk of WindowApart.
-/
import Derived.Test.YtogijfgfcdmbnaaWl
import Derived.Test.YtogijfgfcdmbnaaOp
set_option linter.unusedVariables false
set_option linter.unusedSimpArgs false
namespace Go.Proofs.Ytogijfgfcdmbnaa.Ww
open Go.ChangeShapes Go.WideShapes Go.ChangeAt Go.RowKit Go.Proofs.Ytogijfgfcdmbnaa Go.Proofs.Ytogijfgfcdmbnaa.B Go.Proofs.Ytogijfgfcdmbnaa.Df Go.Proofs.Ytogijfgfcdmbnaa.Ws Go.Proofs.Ytogijfgfcdmbnaa.Mp Go.Proofs.Ytogijfgfcdmbnaa.Wp Go.Proofs.Ytogijfgfcdmbnaa.Op
abbrev Pr := Int × Int
def prc (o : Pr) : List Value := [.int .u64 o.1, .int .u64 o.2]
theorem open_prs {H : Type} {enc : TypeId × Value → H} {W : World} {base : Nat} {v : Value} {d : DataW H} {p : List MemPlace}
    (hv : Value.okWide Try.prog W .any base 30 v) (h : DataW.Trod enc Try.prog W 0 (fun _ => true) true 30 v d p) :
    ∃ (xs : List Pr) (A : Option Addr) (c : Nat), v = .slice A xs.length c ∧ Rd W 2 A xs.length (xs.flatMap prc) ∧ (xs.length ≤ maxLen ∧ ∀ x ∈ xs, Wp.Key x.1 ∧ Wp.Key x.2) := by
  obtain ⟨xs, A, c, h1, h2, h3, h4, h5, h6, h7, h8⟩ := open_rows (α := Pr) 2 prc (fun o _ => Wp.Key o.1 ∧ Wp.Key o.2) Try.underlying30 (by kernel_rfl) (by omega)
    (fun n cs x hx hl => by
      obtain ⟨ys, k, hk, hxy, _, hxl, hf⟩ := DataW.trod_struct Try.underlying32 hx
      match ys, hxl, cs, hl with
      | [y0, y1], _, [v0, v1], _ =>
        have g0 := hf 0 _ rfl
        have g1 := hf 1 _ rfl
        have e0 : Try.prog.cellsOf 22 = 1 := by kernel_rfl
        simp [e0] at g0 g1
        obtain ⟨x0, z0, _, w0⟩ := DataW.trod_int Try.underlying22 g0
        obtain ⟨x1, z1, _, w1⟩ := DataW.trod_int Try.underlying22 g1
        simp only [List.cons.injEq, and_true] at z0 z1
        subst z0 z1
        exact ⟨(x0, x1), rfl, Law.wf_u64 w0, Law.wf_u64 w1⟩) hv h
  exact ⟨xs, A, c, h1, h2, Nat.le_trans h4 h5, fun x hx => (h7 x hx).elim fun _ h => h⟩
/-- The cells of a member. -/
theorem pr_at {W : World} {A : Option Addr} {xs : List Pr} (h : Rd W 2 A xs.length (xs.flatMap prc)) {i : Nat} (hi : i < xs.length) :
    ∃ ad, A = some ad ∧ W.cell? (ad.add (i * 2)) = some (.int .u64 xs[i].1) ∧ W.cell? ⟨(ad.add (i * 2)).block, (ad.add (i * 2)).off + 1, none⟩ = some (.int .u64 xs[i].2) := by
  obtain ⟨ad, e, hc⟩ := row_at h (fun _ _ => rfl) rfl hi
  have h0 := hc 0 (by omega)
  have h1 := hc 1 (by omega)
  rw [add_field _ _ _ (by omega)] at h1
  exact ⟨ad, e, h0, h1⟩
/-- Two windows that are new since w. -/
structure Tw (w W : World) (F : Nat → Prop) (p n : Nat) (x : St) (G : Nat → Prop) (q m : Nat) (y : St) : Prop where
  a : On w W F p n x
  b : On w W G q m y
  fg : ∀ k, F k → ¬ G k
section
variable {w W W' : World} {F F' G G' : Nat → Prop} {p q n m : Nat} {x x' y y' : St}
theorem Tw.left (h : Tw w W F p n x G q m y) (hw : Wd W' F' p x' (n + 1)) (hm : Mv F F' W W') (ok : Ok x') : Tw w W' F' p (n + 1) x' G q m y := by
  have ha := h.a.moved hw hm ok
  exact ⟨ha, h.b.upd hm.upd ha.bel fun k hk hf => h.fg k hf hk, fun k hk hg => (hm.sub k hk).elim (fun hf => h.fg k hf hg) fun hn => by have := h.b.wd.lt k hg; omega⟩
theorem Tw.right (h : Tw w W F p n x G q m y) (hw : Wd W' G' q y' (m + 1)) (hm : Mv G G' W W') (ok : Ok y') : Tw w W' F p n x G' q (m + 1) y' := by
  have hb := h.b.moved hw hm ok
  exact ⟨h.a.upd hm.upd hb.bel fun k hk hg => h.fg k hk hg, hb, fun k hk hg => (hm.sub k hg).elim (h.fg k hk) fun hn => by have := h.a.wd.lt k hk; omega⟩
end
theorem addX_len (x : St) (c s : Int) : (addX x c s).2.length ≤ x.length + 1 := by
  have h1 := List.length_filter_le (fun e : Int × List Int => decide (e.1 ≠ c)) x
  unfold addX
  split
  · simp
  · unfold cut64
    split
    · simp only [laid, rest, List.length_drop, List.length_append, List.length_singleton]; omega
    · simp only [laid, rest, List.length_append, List.length_singleton]; omega
theorem addX_sr (x : St) (c s c' : Int) (hl : x.length ≤ 63) : sr (addX x c s).2 c' = if c' = c then (if s ∈ sr x c then sr x c else cut4 (sr x c ++ [s])) else sr x c' := by
  have h1 := List.length_filter_le (fun e : Int × List Int => decide (e.1 ≠ c)) x
  unfold addX
  by_cases hs : s ∈ sr x c
  · rw [if_pos hs, if_pos hs]
    split
    · rename_i h; rw [h]
    · rfl
  · rw [if_neg hs, if_neg hs, cut64, if_neg (by simp only [laid, rest, List.length_append, List.length_singleton]; omega)]
    exact sr_laid x c s c'
set_option maxHeartbeats 2000000 in
theorem law_apart (A : Option Addr) (c : Nat) (xs : List Pr) (client : Int) (w : World) (hr : Rd w 2 A xs.length (xs.flatMap prc)) (hl : xs.length ≤ maxLen) (hk : ∀ x ∈ xs, Wp.Key x.1 ∧ Wp.Key x.2) (hc : Wp.Key client) :
    Calls Try.prog 4 #[.slice A xs.length c, .int .u64 client] w fun e w' => e = .returned (.bool true) ∧ Below w.heap.size w w' := by
  simp only [maxLen] at hl
  have HKy := hid hk
  by_cases h60 : 60 < xs.length
  · have h60' : (60 : Int) < (xs.length : Int) := by omega
    go_enter Try.func4, Try.ntmps4
    go_wp2_with (fail)
    refine Calls.mono (awake w) ?_
    rintro e w1 ⟨rfl, hb1⟩
    have HB1 := hid hb1
    clear hb1
    go_wp2_with (fail)
    refine Calls.mono (awake w1) ?_
    rintro e w2 ⟨rfl, hb2⟩
    have HB2 := hid (HB1.out.trans (hb2.mono HB1.out.size))
    clear hb2
    go_wp2
    go_ret
    exact ⟨rfl, HB2.out⟩
  · have h60' : ¬ (60 : Int) < (xs.length : Int) := by omega
    clear hk
    go_enter Try.func4, Try.ntmps4
    go_wp2_with (fail)
    refine Calls.mono (awake w) ?_
    rintro e w1 ⟨rfl, hb1⟩
    have HB1 := hid hb1
    clear hb1
    go_wp2_with (fail)
    refine Calls.mono (new2 w w1 HB1.out) ?_
    rintro e w2 ⟨rfl, hO2, hu2⟩
    have HO2 := hid (And.intro hO2 hu2)
    clear hO2 hu2
    go_wp2_with (fail)
    refine Calls.mono (new2 w w2 HO2.out.1.bel) ?_
    rintro e w3 ⟨rfl, hO3, hu3⟩
    have HT : Hid (Tw w w3 (fun k => k = w1.heap.size) w1.heap.size 0 [] (fun k => k = w2.heap.size) w2.heap.size 0 []) := hid ⟨HO2.out.1.quiet hu3, hO3, fun k h1 h2 => by
      have := HO2.out.1.wd.lt k h1
      omega⟩
    obtain ⟨p, hp⟩ : ∃ p, p = w1.heap.size := ⟨_, rfl⟩
    obtain ⟨q, hq⟩ : ∃ q, q = w2.heap.size := ⟨_, rfl⟩
    rw [← hp, ← hq] at HT ⊢
    clear hp hq hO3 hu3
    go_wp2_with (fail)
    go_loopw [21] (fun v21 W => ∃ (j n m : Nat) (F G : Nat → Prop) (x y : St), j ≤ xs.length ∧ n ≤ j ∧ m ≤ j ∧ v21 = .int .i64 j ∧ Hid (Tw w W F p n x G q m y) ∧ Hid (sr x client = sr y client) ∧ x.length ≤ j ∧ y.length ≤ j) (fun v21 _ => xs.length - (intOf v21).toNat)
    case atStart => exact ⟨0, 0, 0, _, _, [], [], by omega, by omega, by omega, rfl, HT, hid rfl, by simp, by simp⟩
    case round =>
      obtain ⟨j, n, m, F, G, x, y, hj, hnj, hmj, rfl, HTw, HE, hxj, hyj⟩ := hrel
      by_cases hlt : j < xs.length
      · obtain ⟨ad, rfl, x0, x1⟩ := pr_at hr hlt
        have hkk := HKy.out _ (List.getElem_mem hlt)
        generalize xs[j] = e0 at *
        obtain ⟨c0, s0⟩ := e0
        simp only at x0 x1 hkk
        have CE : Hid (∀ W, Below w.heap.size w W → W.cell? (ad.add (j * 2)) = some (.int .u64 c0) ∧ W.cell? ⟨(ad.add (j * 2)).block, (ad.add (j * 2)).off + 1, none⟩ = some (.int .u64 s0)) := hid fun W hb =>
          ⟨(hb.cell (World.block_lt_of_cell? _ _ x0)).trans x0, (hb.cell (World.block_lt_of_cell? _ _ x1)).trans x1⟩
        have hj1 : (0 : Int) ≤ (j : Int) := by omega
        have hj2 : (j : Int) < (xs.length : Int) := by omega
        clear x0 x1
        have HAx := hid fun W (h : Wd W F p x n) => add c0 s0 h hkk.1 hkk.2 HTw.out.a.ok (by omega)
        have HOk := hid (HTw.out.a.ok.add hkk.1 hkk.2)
        go_wp2_with (fail)
        refine wp_region_held_drew (S := fun W => Below w.heap.size w W) (by kernel_rfl) (below_drew HTw.out.a.bel) (fun hS => ?_)
        refine rg_at 0 (by decide) (fun oi hoi => ?_)
        have ho2 := hoi; simp only [List.getElem?_toArray, List.getElem?_cons_succ, List.getElem?_cons_zero, Option.some.injEq] at ho2; subst ho2
        refine rg_take (v := ?_) 0 hoi (by kernel_rfl) (by kernel_rfl) (by kernel_rfl) (fun _ _ _ h => h) (by rfl) ?_ hS ?_
        rotate_left
        · intro w _; go_simp; try with_reducible rfl
        clear hoi; try simp only [Act.put, List.setIfInBounds_toArray, List.set_cons_zero, List.set_cons_succ]
        refine rg_at 1 (by decide) (fun oi hoi => ?_)
        have ho2 := hoi; simp only [List.getElem?_toArray, List.getElem?_cons_succ, List.getElem?_cons_zero, Option.some.injEq] at ho2; subst ho2
        refine rg_take (v := ?_) 1 hoi (by kernel_rfl) (by kernel_rfl) (by kernel_rfl) (fun _ _ _ h => h) (by rfl) ?_ hS ?_
        rotate_left
        · intro w _; go_simp; try with_reducible rfl
        clear hoi; try simp only [Act.put, List.setIfInBounds_toArray, List.set_cons_zero, List.set_cons_succ]
        refine rg_at 2 (by decide) (fun oi hoi => ?_)
        have ho2 := hoi; simp only [List.getElem?_toArray, List.getElem?_cons_succ, List.getElem?_cons_zero, Option.some.injEq] at ho2; subst ho2
        refine rg_take (v := ?_) 2 hoi (by kernel_rfl) (by kernel_rfl) (by kernel_rfl) (fun _ _ _ h => h) (by rfl) ?_ hS ?_
        rotate_left
        · intro w _; go_simp; try with_reducible rfl
        clear hoi; try simp only [Act.put, List.setIfInBounds_toArray, List.set_cons_zero, List.set_cons_succ]
        refine rg_at 3 (by decide) (fun oi hoi => ?_)
        have ho2 := hoi; simp only [List.getElem?_toArray, List.getElem?_cons_succ, List.getElem?_cons_zero, Option.some.injEq] at ho2; subst ho2
        refine rg_take (v := ?_) 3 hoi (by kernel_rfl) (by kernel_rfl) (by kernel_rfl) (fun _ _ _ h => h) (by rfl) ?_ hS ?_
        rotate_left
        · intro w _; go_simp; try with_reducible rfl
        clear hoi; try simp only [Act.put, List.setIfInBounds_toArray, List.set_cons_zero, List.set_cons_succ]
        refine rg_at 4 (by decide) (fun oi hoi => ?_)
        have ho2 := hoi; simp only [List.getElem?_toArray, List.getElem?_cons_succ, List.getElem?_cons_zero, Option.some.injEq] at ho2; subst ho2
        refine rg_take (v := ?_) 4 hoi (by kernel_rfl) (by kernel_rfl) (by kernel_rfl) (fun _ _ _ h => h) (by rfl) ?_ hS ?_
        rotate_left
        · intro w _; go_simp; try with_reducible rfl
        clear hoi; try simp only [Act.put, List.setIfInBounds_toArray, List.set_cons_zero, List.set_cons_succ]
        refine rg_at 5 (by decide) (fun oi hoi => ?_)
        have ho2 := hoi; simp only [List.getElem?_toArray, List.getElem?_cons_succ, List.getElem?_cons_zero, Option.some.injEq] at ho2; subst ho2
        refine rg_take (v := ?_) 5 hoi (by kernel_rfl) (by kernel_rfl) (by kernel_rfl) (fun _ _ _ h => h) (by rfl) ?_ hS ?_
        rotate_left
        · intro w hw; have hf := (CE.out w hw).1; clear hw; go_simp; try with_reducible rfl
        clear hoi; try simp only [Act.put, List.setIfInBounds_toArray, List.set_cons_zero, List.set_cons_succ]
        refine rg_at 6 (by decide) (fun oi hoi => ?_)
        have ho2 := hoi; simp only [List.getElem?_toArray, List.getElem?_cons_succ, List.getElem?_cons_zero, Option.some.injEq] at ho2; subst ho2
        refine rg_take (v := ?_) 6 hoi (by kernel_rfl) (by kernel_rfl) (by kernel_rfl) (fun _ _ _ h => h) (by rfl) ?_ hS ?_
        rotate_left
        · intro w _; go_simp; try with_reducible rfl
        clear hoi; try simp only [Act.put, List.setIfInBounds_toArray, List.set_cons_zero, List.set_cons_succ]
        refine rg_at 7 (by decide) (fun oi hoi => ?_)
        have ho2 := hoi; simp only [List.getElem?_toArray, List.getElem?_cons_succ, List.getElem?_cons_zero, Option.some.injEq] at ho2; subst ho2
        refine rg_take (v := ?_) 7 hoi (by kernel_rfl) (by kernel_rfl) (by kernel_rfl) (fun _ _ _ h => h) (by rfl) ?_ hS ?_
        rotate_left
        · intro w _; go_simp; try with_reducible rfl
        clear hoi; try simp only [Act.put, List.setIfInBounds_toArray, List.set_cons_zero, List.set_cons_succ]
        refine rg_at 8 (by decide) (fun oi hoi => ?_)
        have ho2 := hoi; simp only [List.getElem?_toArray, List.getElem?_cons_succ, List.getElem?_cons_zero, Option.some.injEq] at ho2; subst ho2
        refine rg_take (v := ?_) 8 hoi (by kernel_rfl) (by kernel_rfl) (by kernel_rfl) (fun _ _ _ h => h) (by rfl) ?_ hS ?_
        rotate_left
        · intro w _; go_simp; try with_reducible rfl
        clear hoi; try simp only [Act.put, List.setIfInBounds_toArray, List.set_cons_zero, List.set_cons_succ]
        refine rg_at 9 (by decide) (fun oi hoi => ?_)
        have ho2 := hoi; simp only [List.getElem?_toArray, List.getElem?_cons_succ, List.getElem?_cons_zero, Option.some.injEq] at ho2; subst ho2
        refine rg_take (v := ?_) 9 hoi (by kernel_rfl) (by kernel_rfl) (by kernel_rfl) (fun _ _ _ h => h) (by rfl) ?_ hS ?_
        rotate_left
        · intro w _; go_simp; try with_reducible rfl
        clear hoi; try simp only [Act.put, List.setIfInBounds_toArray, List.set_cons_zero, List.set_cons_succ]
        refine rg_at 10 (by decide) (fun oi hoi => ?_)
        have ho2 := hoi; simp only [List.getElem?_toArray, List.getElem?_cons_succ, List.getElem?_cons_zero, Option.some.injEq] at ho2; subst ho2
        refine rg_take (v := ?_) 10 hoi (by kernel_rfl) (by kernel_rfl) (by kernel_rfl) (fun _ _ _ h => h) (by rfl) ?_ hS ?_
        rotate_left
        · intro w hw; have hf := (CE.out w hw).2; clear hw; go_simp; try with_reducible rfl
        clear hoi; try simp only [Act.put, List.setIfInBounds_toArray, List.set_cons_zero, List.set_cons_succ]
        refine rg_at 11 (by decide) (fun oi hoi => ?_)
        have ho2 := hoi; simp only [List.getElem?_toArray, List.getElem?_cons_succ, List.getElem?_cons_zero, Option.some.injEq] at ho2; subst ho2
        refine rg_call 11 (by kernel_rfl) hoi (by rfl) (fun K hK => ?_)
        clear hoi
        go_simp
        refine Calls.mono (HAx.out _ (HTw.out.a.wd.upd (Upd.drew (Upd.refl No wr)) (fun _ _ => no_ _))) ?_
        rintro e w4 ⟨rfl, F4, hw4, hm4⟩
        have HT4 := hid (HTw.out.left hw4 ⟨Upd.of_drew hm4.upd, hm4.sub⟩ HOk.out)
        go_wp2_with (fail)
        refine hK.out _ _ (HT4.out.a.bel) (fun hS => ?_)
        clear hK K
        try simp only [Act.put, List.setIfInBounds_toArray, List.set_cons_zero, List.set_cons_succ]
        refine rg_at 12 (by decide) (fun oi hoi => ?_)
        have ho2 := hoi; simp only [List.getElem?_toArray, List.getElem?_cons_succ, List.getElem?_cons_zero, Option.some.injEq] at ho2; subst ho2
        refine rg_call 12 (by kernel_rfl) hoi (by rfl) (fun K hK => ?_)
        clear hoi
        skip
        go_simp
        refine hK.out _ _ (HT4.out.a.bel) (fun hS => ?_)
        clear hK K
        try simp only [Act.put, List.setIfInBounds_toArray, List.set_cons_zero, List.set_cons_succ]
        refine wpAnyH_done (by kernel_rfl) ?_ _
        clear hS hw4 hm4 HOk HAx
        have hxl := addX_len x c0 s0
        obtain ⟨z0, z1⟩ := CE.out w4 HT4.out.a.bel
        by_cases hcc : c0 = client
        · subst hcc
          have HEn : Hid ((addX x c0 s0).1 = (addX y c0 s0).1 ∧ sr (addX x c0 s0).2 c0 = sr (addX y c0 s0).2 c0) := hid (by
            rw [addX_sr x c0 s0 c0 (by omega), addX_sr y c0 s0 c0 (by omega), HE.out]
            unfold addX
            rw [HE.out]
            split <;> simp)
          have HAy := hid (add c0 s0 HT4.out.b.wd hkk.1 hkk.2 HT4.out.b.ok (by omega))
          have HOy := hid (HT4.out.b.ok.add hkk.1 hkk.2)
          have hyl := addX_len y c0 s0
          rw [HEn.out.1]
          generalize (addX x c0 s0).2 = x' at *
          unfold AddOut at HAy
          generalize addX y c0 s0 = ry at *
          obtain ⟨by', y'⟩ := ry
          simp only at HAy HEn HOy hyl
          go_wp2_with (fail)
          refine Calls.mono HAy.out ?_
          rintro e w5 ⟨rfl, G5, hw5, hm5⟩
          have HT5 := hid (HT4.out.right hw5 hm5 HOy.out)
          clear hw5 hm5
          go_wp2
          go_roundw
          case rel => exact ⟨j + 1, n + 1, m + 1, F4, G5, x', y', by omega, by omega, by omega, by go_num, HT5, hid HEn.out.2, by omega, by omega⟩
          case measure => simp [intOf]; omega
        · have HEn : Hid (sr (addX x c0 s0).2 client = sr y client) := hid (by
            rw [addX_sr x c0 s0 client (by omega), if_neg (Ne.symm hcc), HE.out])
          have n1 : (c0 == client) = false := by simp [hcc]
          clear hcc
          generalize (addX x c0 s0).2 = x' at *
          generalize (addX x c0 s0).1 = b at *
          go_wp2
          go_roundw
          case rel => exact ⟨j + 1, n + 1, m, F4, G, x', y, by omega, by omega, by omega, by go_num, HT4, HEn, by omega, by omega⟩
          case measure => simp [intOf]; omega
      · obtain rfl : j = xs.length := by omega
        have HS1 := hid (serials client HTw.out.a.wd hc (HTw.out.a.ok.sr_le client))
        have HS2 := hid fun W (hu : Upd No wr W) => serials client (HTw.out.b.wd.upd hu fun _ _ => no_ _) hc (HTw.out.b.ok.sr_le client)
        have hl4 := HTw.out.b.ok.sr_le client
        rw [HE.out] at HS1
        generalize sr y client = l at *
        go_wp2_with (fail)
        refine Calls.mono HS1.out ?_
        rintro e w4 ⟨A4, c4, rfl, ho4, hu4⟩
        have HU4 := hid hu4
        have HR4 := hid (Rd.of_own ho4)
        clear ho4 hu4
        go_wp2_with (fail)
        refine Calls.mono (HS2.out _ HU4.out) ?_
        rintro e w5 ⟨A5, c5, rfl, ho5, hu5⟩
        have hR4 : Rn w5 .u64 A4 l := Rd.upd HR4.out (by omega) hu5 (fun _ _ => no_ _)
        have hR5 : Rn w5 .u64 A5 l := Rd.of_own ho5
        have HU5 := hid (HU4.out.next hu5)
        have HSm := same13 (c := c4) (d := c5) hR4 hR5 (by omega) (by omega)
        simp only [decide_true] at HSm
        clear ho5 hu5 hR4 hR5
        go_wp2_with (fail)
        refine Calls.mono HSm ?_
        rintro e w6 ⟨rfl, hu6⟩
        have HB := hid (HTw.out.a.bel.trans ((HU5.out.next hu6).old HTw.out.a.bel.size))
        clear hu6 HSm
        go_wp2
        go_ret
        exact ⟨rfl, HB.out⟩
end Go.Proofs.Ytogijfgfcdmbnaa.Ww
