/-
  The walks of ActivTwo and ActivNil.
-/
import Derived.Test.YtdhgeakdfbckeaaAp
set_option linter.unusedVariables false
set_option linter.unusedSimpArgs false
namespace Go.Proofs.Ytdhgeakdfbckeaa.At
open Go.RowKit Go.Proofs.Ytdhgeakdfbckeaa Go.Proofs.Ytdhgeakdfbckeaa.B Go.Proofs.Ytdhgeakdfbckeaa.Df Go.Proofs.Ytdhgeakdfbckeaa.Op
theorem clip_nat (n : Nat) (h : n ≤ 10000) : clip (n : Int) = ((max n 1 : Nat) : Int) := by
  unfold clip
  split
  · omega
  · rw [if_neg (by omega)]; omega
theorem mst_nat (n : Nat) (h : 1 ≤ n) : mst (n : Int) = (n : Int) := by
  unfold mst
  rw [if_neg (by omega)]
/-- Two tables that are new since w. -/
structure Tw (w W : World) (F : Nat → Prop) (p : Nat) (r : Int) (x : List ByteArray) (G : Nat → Prop) (q : Nat) (s : Int) (y : List ByteArray) : Prop where
  a : On w W F p r x
  b : On w W G q s y
  fg : ∀ k, F k → ¬ G k
section
variable {w W W' : World} {F F' G G' : Nat → Prop} {p q : Nat} {r s : Int} {x x' y y' : List ByteArray}
theorem Tw.left (h : Tw w W F p r x G q s y) (hw : Ta W' F' p r x') (hm : Mv F F' W W') (hl : x'.length ≤ 10000) : Tw w W' F' p r x' G q s y := by
  have ha := h.a.moved hw hm hl
  exact ⟨ha, h.b.upd hm.upd ha.bel fun k hk hf => h.fg k hf hk, fun k hk hg => (hm.sub k hk).elim (fun hf => h.fg k hf hg) fun hn => by have := h.b.ta.lt k hg; omega⟩
theorem Tw.right (h : Tw w W F p r x G q s y) (hw : Ta W' G' q s y') (hm : Mv G G' W W') (hl : y'.length ≤ 10000) : Tw w W' F p r x G' q s y' := by
  have hb := h.b.moved hw hm hl
  exact ⟨h.a.upd hm.upd hb.bel fun k hk hg => h.fg k hk hg, hb, fun k hk hg => (hm.sub k hg).elim (h.fg k hk) fun hn => by have := h.a.ta.lt k hk; omega⟩
theorem Tw.quiet (h : Tw w W F p r x G q s y) (hu : Upd No W W') : Tw w W' F p r x G q s y := ⟨h.a.quiet hu, h.b.quiet hu, h.fg⟩
end
theorem st_at {w : World} {A : Option Addr} {l : List ByteArray} (h : Rd w 1 A l.length (strs l)) {j : Nat} (hj : j < l.length) : ∃ ad, A = some ad ∧ w.cell? (ad.add j) = some (.string l[j]) := by
  obtain ⟨ad, u, e, hu, hc⟩ := h.at_ hj
  rw [strs, List.getElem?_map, List.getElem?_eq_getElem hj] at hu
  simp only [Option.map_some, Option.some.injEq] at hu
  exact ⟨ad, e, hu ▸ hc⟩
theorem two_end (M L : Nat) (hM : 1 ≤ M) (hL : M ≤ L) (l : List ByteArray) : (stk M l).length ≤ (stk L l).length ∧ stk M l = (stk L l).drop ((stk L l).length - (stk M l).length) := by
  have h1 := stk_rev M hM l
  have h2 := stk_rev L (by omega) l
  have hl1 : (stk M l).length = min M (dd l.reverse).length := by rw [← List.length_reverse, h1, List.length_take]
  have hl2 : (stk L l).length = min L (dd l.reverse).length := by rw [← List.length_reverse, h2, List.length_take]
  refine ⟨by omega, ?_⟩
  have h3 : (stk M l).reverse = (stk L l).reverse.take (stk M l).length := by
    rw [h1, h2, List.take_take, hl1]
    by_cases h : M ≤ (dd l.reverse).length
    · congr 1; omega
    · rw [List.take_of_length_le (by omega), List.take_of_length_le (by omega)]
  have h4 := congrArg List.reverse h3
  rw [List.reverse_reverse, List.take_reverse, List.reverse_reverse] at h4
  exact h4
set_option maxHeartbeats 2000000 in
theorem law_two (S T : Nat) (A : Option Addr) (c : Nat) (xs : List ByteArray) (w : World) (hS : S ≤ 255) (hT : T ≤ 255) (hr : Rd w 1 A xs.length (strs xs)) (hl : xs.length ≤ maxLen) :
    Calls Try.prog 6 #[.int .u8 S, .int .u8 T, .slice A xs.length c] w fun e w' => e = .returned (.bool true) ∧ Below w.heap.size w w' := by
  simp only [maxLen] at hl
  by_cases h300 : 300 < xs.length
  · have h300' : (300 : Int) < (xs.length : Int) := by omega
    go_enter Try.func6, Try.ntmps6
    go_wp2_with (fail)
    refine Calls.mono (awake w) ?_
    rintro e w1 ⟨rfl, hb1⟩
    have HB1 := hid hb1
    clear hb1
    go_wp2_with (fail)
    refine Calls.mono (awake w1) ?_
    rintro e w2 ⟨rfl, hb2⟩
    have HB2 := hid (HB1.out.trans (hb2.mono HB1.out.size))
    clear hb2
    go_wp2
    go_ret
    exact ⟨rfl, HB2.out⟩
  have hx300 : ¬ (300 : Int) < (xs.length : Int) := by omega
  clear h300
  obtain ⟨M, hM⟩ : ∃ M : Nat, M = max S 1 := ⟨_, rfl⟩
  obtain ⟨L, hL⟩ : ∃ L : Nat, L = max (S + T) 1 := ⟨_, rfl⟩
  have hML : 1 ≤ M ∧ M ≤ L ∧ L ≤ 510 := by omega
  have HC1 := hid fun W (hb : Below w.heap.size w W) => new2 (S : Int) w W hb
  have HC2 := hid fun W (hb : Below w.heap.size w W) => new2 ((S : Int) + (T : Int)) w W hb
  rw [clip_nat S (by omega), ← hM] at HC1
  rw [show (S : Int) + (T : Int) = ((S + T : Nat) : Int) from by simp, clip_nat (S + T) (by omega), ← hL] at HC2
  rw [show ((S + T : Nat) : Int) = (S : Int) + (T : Int) from by simp] at HC2
  clear hM hL
  go_enter Try.func6, Try.ntmps6
  go_wp2_with (fail)
  refine Calls.mono (awake w) ?_
  rintro e w1 ⟨rfl, hb1⟩
  have HB1 := hid hb1
  clear hb1
  go_wp2_with (fail)
  refine Calls.mono (HC1.out w1 HB1.out) ?_
  rintro e w2 ⟨rfl, hO2, hu2⟩
  have HO2 := hid hO2
  clear hO2 hu2
  go_wp2_with (fail)
  refine Calls.mono (HC2.out w2 HO2.out.bel) ?_
  rintro e w3 ⟨rfl, hO3, hu3⟩
  have HT : Hid (Tw w w3 (fun k => k = w1.heap.size) w1.heap.size M [] (fun k => k = w2.heap.size) w2.heap.size L []) := hid ⟨HO2.out.quiet hu3, hO3, fun k h1 h2 => by
    have := HO2.out.ta.lt k h1
    omega⟩
  obtain ⟨p, hp⟩ : ∃ p, p = w1.heap.size := ⟨_, rfl⟩
  obtain ⟨q, hq⟩ : ∃ q, q = w2.heap.size := ⟨_, rfl⟩
  rw [← hp, ← hq] at HT ⊢
  clear hp hq hO3 hu3
  go_wp2_with (fail)
  go_loopw [31] (fun v31 W => ∃ (j : Nat) (F G : Nat → Prop), j ≤ xs.length ∧ v31 = .int .i64 j ∧ Hid (Tw w W F p M (stk M (xs.take j)) G q L (stk L (xs.take j)))) (fun v31 _ => xs.length - (intOf v31).toNat)
  case atStart => exact ⟨0, _, _, by omega, rfl, HT⟩
  case round =>
    obtain ⟨j, F, G, hj, rfl, HTw⟩ := hrel
    by_cases hlt : j < xs.length
    · obtain ⟨ad, rfl, hc⟩ := st_at hr hlt
      have hj2 : (j : Int) < (xs.length : Int) := by omega
      have HN1 : Hid ((touchX (stk M (xs.take j)) (M : Int) xs[j]).1 = stk M (xs.take (j + 1))) := hid (by rw [List.take_succ_eq_append_getElem hlt, stk_snoc])
      have HN2 : Hid ((touchX (stk L (xs.take j)) (L : Int) xs[j]).1 = stk L (xs.take (j + 1))) := hid (by rw [List.take_succ_eq_append_getElem hlt, stk_snoc])
      have CE : Hid (∀ W, Below w.heap.size w W → W.cell? (ad.add j) = some (.string xs[j])) := hid fun W hb => (hb.cell (World.block_lt_of_cell? _ _ hc)).trans hc
      have hA := touch xs[j] HTw.out.a.ta HTw.out.a.le
      have hB := fun W (h : Ta W G q L (stk L (xs.take j))) => touch xs[j] h HTw.out.b.le
      rw [mst_nat M (by omega)] at hA
      rw [mst_nat L (by omega)] at hB
      unfold TouchOut at hA hB
      rw [HN1.out] at hA
      rw [HN2.out] at hB
      have hl1 := stk_le M (by omega) (xs.take (j + 1))
      have hl2 := stk_le L (by omega) (xs.take (j + 1))
      generalize (touchX (stk M (xs.take j)) (M : Int) xs[j]).2 = ra at *
      generalize (touchX (stk L (xs.take j)) (L : Int) xs[j]).2 = rb at *
      have HA := hid hA
      have HB := hid hB
      clear hA hB hc HN1 HN2
      have y0 := CE.out wr HTw.out.a.bel
      go_wp2_with (fail)
      refine Calls.mono HA.out ?_
      rintro e w4 ⟨rfl, F4, hw4, hm4⟩
      have HT4 := hid (HTw.out.left hw4 hm4 (by omega))
      clear hw4 hm4 y0
      have y0 := CE.out w4 HT4.out.a.bel
      go_wp2_with (fail)
      refine Calls.mono (HB.out _ HT4.out.b.ta) ?_
      rintro e w5 ⟨rfl, G5, hw5, hm5⟩
      have HT5 := hid (HT4.out.right hw5 hm5 (by omega))
      clear hw5 hm5 y0
      go_wp2
      go_roundw
      case rel => exact ⟨j + 1, F4, G5, by omega, by go_num, HT5⟩
      case measure => simp [intOf]; omega
    · obtain rfl : j = xs.length := by omega
      have hend := two_end M L (by omega) (by omega) xs
      rw [List.take_length] at HTw
      have hl1 := stk_le M (by omega) xs
      have hl2 := stk_le L (by omega) xs
      generalize stk M xs = x at *
      generalize stk L xs = y at *
      obtain ⟨n, hn⟩ : ∃ n, n = y.length - x.length := ⟨_, rfl⟩
      have HEnd := hid (And.intro hn hend.2)
      have hxy := hend.1
      have HL2 := hid fun W (hu : Upd No wr W) => list_ (HTw.out.b.quiet hu).ta (by omega)
      clear hend
      go_wp2_with (fail)
      refine Calls.mono (list_ HTw.out.a.ta (by omega)) ?_
      rintro e w4 ⟨A4, c4, rfl, ho4, hu4⟩
      have HU4 := hid hu4
      have HR4 := hid (Rd.of_own ho4)
      clear ho4 hu4
      go_wp2_with (fail)
      refine Calls.mono (HL2.out _ HU4.out) ?_
      rintro e w5 ⟨A5, c5, rfl, ho5, hu5⟩
      have hR4 := HR4.out.upd (by omega) hu5 (fun _ _ => no_ _)
      have HU5 := hid (HU4.out.next hu5)
      have hcc := Sl.cap (Sl.of_own ho5)
      obtain ⟨A6, hA6, hcut⟩ := cut_from (P := Try.prog) 28 9 .i64 Try.underlying28 (by kernel_rfl) A5 y.length c5 n (n : Int) rfl (by omega)
      have hR6 : Rd w5 1 A6 x.length (strs x) := by
        have h1 := Rd.drop (k := n) (Rd.of_own ho5) (by omega) hcc.1
        rw [Nat.mul_one, ← hA6] at h1
        have h2 : (strs y).drop n = strs x := by rw [strs, ← List.map_drop, hn, ← HEnd.out.2]; rfl
        rw [h2, show y.length - n = x.length from by omega] at h1
        exact h1
      rw [show y.length - n = x.length from by omega] at hcut
      have hsub : ((y.length : Int) - (x.length : Int)) = (n : Int) := by omega
      have HSm := hid (same03 (c := c4) (d := c5 - n) hR4 hR6 (by omega))
      have HX := hid (And.intro hA6 hcc)
      clear ho5 hu5 hR4 hR6 hA6 hcc hn
      go_wp2_with (fail)
      refine Calls.mono HSm.out ?_
      rintro e w6 ⟨rfl, hu6⟩
      have HE := hid (HTw.out.a.quiet (HU5.out.next hu6)).bel
      clear hu6
      go_wp2
      go_ret
      exact ⟨rfl, HE.out⟩
theorem two (n m : Int) (A : Option Addr) (c : Nat) (xs : List ByteArray) (w : World) (hn : 0 ≤ n ∧ n ≤ 255) (hm : 0 ≤ m ∧ m ≤ 255) (hr : Rd w 1 A xs.length (strs xs)) (hl : xs.length ≤ maxLen) :
    Calls Try.prog 6 #[.int .u8 n, .int .u8 m, .slice A xs.length c] w fun e w' => e = .returned (.bool true) ∧ Below w.heap.size w w' := by
  obtain ⟨N, rfl⟩ : ∃ N : Nat, n = N := ⟨n.toNat, by omega⟩
  obtain ⟨M, rfl⟩ : ∃ M : Nat, m = M := ⟨m.toNat, by omega⟩
  exact law_two N M A c xs w (by omega) (by omega) hr hl
end Go.Proofs.Ytdhgeakdfbckeaa.At
