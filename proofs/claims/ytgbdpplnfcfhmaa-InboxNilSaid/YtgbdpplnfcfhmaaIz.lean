/-
  The walk of reevelaw12.InboxNil.
-/
import Derived.Test.YtgbdpplnfcfhmaaIn
set_option linter.unusedVariables false
set_option linter.unusedSimpArgs false
namespace Go.Proofs.Ytgbdpplnfcfhmaa.Iz
open Go.RowKit Go.Proofs.Ytgbdpplnfcfhmaa.B Go.Proofs.Ytgbdpplnfcfhmaa.Lt Go.Proofs.Ytgbdpplnfcfhmaa.Ib Go.Proofs.Ytgbdpplnfcfhmaa.Ls Go.Proofs.Ytgbdpplnfcfhmaa.La Go.Proofs.Ytgbdpplnfcfhmaa.Ir Go.Proofs.Ytgbdpplnfcfhmaa.In Go.Proofs.Ytgbdpplnfcfhmaa.If
theorem In.updn {F : Nat → Prop} {w w' : World} {x : L} {v : Value} (h : Lt.In w x v) (hu : Upd F w w') (hn : 0 < x.2.2.2.length → ∀ g, v.ownBlock = some g → ¬ F g) : Lt.In w' x v := by
  by_cases h0 : 0 < x.2.2.2.length
  · exact Lt.In.upd h hu (hn h0)
  · obtain ⟨A, c, rfl, hr, h1⟩ := h
    have e : x.2.2.2 = [] := List.eq_nil_of_length_eq_zero (by omega)
    exact ⟨A, c, rfl, by rw [e]; exact Rd.nil_ _ _ _, h1⟩
theorem In.block {w : World} {x : L} {v : Value} (h : Lt.In w x v) (h0 : 0 < x.2.2.2.length) : ∀ g, v.ownBlock = some g → g < w.heap.size := by
  obtain ⟨A, c, rfl, hr, h1⟩ := h
  obtain ⟨ad, rfl, hl⟩ := hr.lt h0 (by omega)
  intro g hg
  have : ad.block = g := by simpa [Value.ownBlock] using hg
  omega
/-- What stays: the letter that came, its wanted copy, the inbox. -/
structure Kp (w W : World) (F : Nat → Prop) (p b1 b9 : Nat) (x : L) (u v9 : Value) (xs : List L) : Prop where
  box1 : Blk W b1 30 #[.string x.1, .int .u64 x.2.1, .int .i64 x.2.2.1, u]
  iu : Lt.In W x u
  box9 : Blk W b9 30 #[.string x.1, .int .u64 x.2.1, .int .i64 x.2.2.1, v9]
  i9 : Lt.In W x v9
  ib : Ib W F p xs
  bel : Below w.heap.size w W
theorem Kp.quiet {w W W' : World} {F : Nat → Prop} {p b1 b9 : Nat} {x : L} {u v9 : Value} {xs : List L} (h : Kp w W F p b1 b9 x u v9 xs) (hu : Upd No W W') : Kp w W' F p b1 b9 x u v9 xs :=
  ⟨h.box1.upd hu (no_ _), h.iu.upd hu (fun _ _ => no_ _), h.box9.upd hu (no_ _), h.i9.upd hu (fun _ _ => no_ _), h.ib.upd hu (fun _ _ => no_ _), h.bel.trans (hu.old h.bel.size)⟩
/-- What is turned is younger. -/
theorem Upd.young {F : Nat → Prop} {a b : World} (h : Upd F a b) (hF : ∀ k, F k → a.heap.size ≤ k) : Upd No a b := h.mono fun k hk hf => by have := hF k hf; omega
theorem Lp.box {ws W : World} {b n : Nat} {v : Value} {cells : Array Value} (h : Lp ws W v n) (hb : Blk ws b 30 cells) (hk : ∀ k, v.ownBlock = some k → ∃ cs, Blk ws k 2 cs) : Blk W b 30 cells :=
  hb.upd h.1 (fun e => (hk b e).elim fun cs hB => Blk.ne_type hB hb (by decide) rfl)
theorem Row.one {w : World} {F : Nat → Prop} {v : Value} {x : L} (h : Row w F v [x]) :
    ∃ (g off c : Nat) (u : Value) (cs : Array Value), v = .slice (some ⟨g, off, none⟩) 1 c ∧ 1 ≤ c ∧ c ≤ maxLen ∧ In w x u ∧ (∀ k, u.ownBlock = some k → F k ∧ ∃ cs, Blk w k 2 cs) ∧ Blk w g 30 cs ∧ cs[off]? = some (.string x.1) ∧ cs[off + 1]? = some (.int .u64 x.2.1) ∧ cs[off + 2]? = some (.int .i64 x.2.2.1) ∧ cs[off + 3]? = some u ∧ F g := by
  obtain ⟨ps, h1, h2, h3, h4⟩ := h
  match ps, h1 with
  | [(y, u)], h1 =>
    simp only [List.map_cons, List.map_nil, List.cons.injEq, and_true] at h1
    subst h1
    obtain ⟨hi, hk⟩ := h3 (y, u) (by simp)
    rcases h2.2 with ⟨_, h⟩ | ⟨g, off, cap, cur, rfl, _, hh, g1, g2, g3, hc⟩
    · simp at h
    · exact ⟨g, off, cap, u, cur, by simp, by simpa using g1, g2, hi, hk, hh, hc 0 _ rfl, hc 1 _ rfl, hc 2 _ rfl, hc 3 _ rfl, h4 g rfl⟩
theorem Kp.young {w a b : World} {F G : Nat → Prop} {p b1 b9 : Nat} {x : L} {u v9 : Value} {xs : List L} (h : Kp w a F p b1 b9 x u v9 xs) (hu : Upd G a b) (hG : ∀ k, G k → a.heap.size ≤ k) : Kp w b F p b1 b9 x u v9 xs := h.quiet (Upd.young hu hG)
/-- The arguments of the second copy are the caller's. -/
theorem Kp.own {w w8 w10 w11 W : World} {F : Nat → Prop} {p b1 b9 : Nat} {x : L} {u v9 v : Value} {ys : List L} (hx : Lt.In w x u) (hwp : w.heap.size ≤ p) (h8 : Kp w w8 (fun k => k = p) p b1 b9 x u v9 []) (h9 : ∀ k, v9.ownBlock = some k → ∃ cs, Blk w8 k 2 cs)
    (h10 : Kp w w10 (fun k => k = p) p b1 b9 x u v9 []) (hI : Ib w11 F p ys) (hm : Mv (fun k => k = p) F w10 w11) (hv : ∀ k, v.ownBlock = some k → w8.heap.size ≤ k ∧ k < w10.heap.size) (hL : Upd (fun k => v.ownBlock = some k) w11 W) : Kp w W F p b1 b9 x u v9 ys := by
  have hz := hm.upd.size
  have h1 := hm.upd
  have hp8 : p < w8.heap.size := h8.ib.lt p rfl
  have hsz := h8.bel.size
  have nb : ∀ k, k < w8.heap.size → ¬ v.ownBlock = some k := fun k hk e => by have := (hv k e).1; omega
  obtain ⟨vi, hbi, _⟩ := h8.ib
  have n1 : ¬ b1 = p := fun e => Blk.ne_type h8.box1 hbi (by decide) e
  have n9 : ¬ b9 = p := fun e => Blk.ne_type h8.box9 hbi (by decide) e
  refine ⟨(h10.box1.upd h1 n1).upd hL (nb _ h8.box1.lt), ?_, (h10.box9.upd h1 n9).upd hL (nb _ h8.box9.lt), ?_, hI.upd hL (fun k hk e => ?_), (h10.bel.trans (h1.below h10.bel.size (by rintro k rfl; exact hwp))).trans (hL.below (by have := h10.bel.size; omega) (fun k hk => by have := (hv k hk).1; omega))⟩
  · refine In.updn (In.updn h10.iu h1 fun h0 g hg e => ?_) hL fun h0 g hg e => ?_
    · have := In.block hx h0 g hg
      omega
    · exact nb g (by have := In.block hx h0 g hg; omega) e
  · refine In.updn (In.updn h10.i9 h1 fun h0 g hg e => ?_) hL fun h0 g hg e => ?_
    · obtain ⟨cs, hB⟩ := h9 g hg
      exact Blk.ne_type hB hbi (by decide) e
    · exact nb g (In.block h8.i9 h0 g hg) e
  · have := (hv k e).2
    rcases hm.sub k hk with rfl | h
    · exact nb _ hp8 e
    · omega
set_option maxHeartbeats 4000000 in
set_option maxRecDepth 100000 in
theorem law (x : L) (u : Value) (w : World) (hx : Lt.In w x u) (hsz : x.1.size ≤ maxLen) :
    Calls Try.prog 6 #[val x u] w fun e w' => e = .returned (.bool true) ∧ Below w.heap.size w w' := by
  have hx0 := hx
  obtain ⟨Au, cu, hue, _, hq1, hq2⟩ := hx0
  subst hue
  simp only [maxLen] at hsz hq1 hq2
  unfold val
  have hal : Upd No w (w.alloc (.cells #[.string x.1, .int .u64 x.2.1, .int .i64 x.2.2.1, .slice Au x.2.2.2.length cu] 30)) := (Upd.refl _ _).alloc _
  have hbx := Blk.fresh w 30 #[.string x.1, .int .u64 x.2.1, .int .i64 x.2.2.1, .slice Au x.2.2.2.length cu]
  have hsz0 := alloc_lt w (.cells #[.string x.1, .int .u64 x.2.1, .int .i64 x.2.2.1, .slice Au x.2.2.2.length cu] 30)
  go_enter Try.func6, Try.ntmps6
  go_wp2_with (fail)
  generalize w.alloc (.cells #[.string x.1, .int .u64 x.2.1, .int .i64 x.2.2.1, .slice Au x.2.2.2.length cu] 30) = wa at *
  refine (awake wa).mono ?_
  rintro e w1 ⟨rfl, hb1⟩
  have hu1 : Upd No w w1 := hal.next (Upd.of_below No hb1)
  have hB1 := hbx.upd (Upd.of_below No hb1) (no_ _)
  have hI1 := hx.upd hu1 (fun _ _ => no_ _)
  obtain ⟨y0, y1, y2, y3⟩ := box hB1
  by_cases hbig : 4 < x.2.2.2.length ∨ 40 < x.1.size
  · by_cases h4 : 4 < x.2.2.2.length
    · go_wp2_with (fail)
      refine (awake w1).mono ?_
      rintro e w2 ⟨rfl, hb2⟩
      have hf := (hu1.old (Nat.le_refl _)).trans (hb2.mono hu1.size)
      go_wp2
      go_ret
      exact ⟨rfl, hf⟩
    · have h5 : 40 < x.1.size := by omega
      go_wp2_with (fail)
      refine (awake w1).mono ?_
      rintro e w2 ⟨rfl, hb2⟩
      have hf := (hu1.old (Nat.le_refl _)).trans (hb2.mono hu1.size)
      go_wp2
      go_ret
      exact ⟨rfl, hf⟩
  · have h4 : ¬ 4 < x.2.2.2.length := by omega
    have h5 : ¬ 40 < x.1.size := by omega
    have hfm : formed x = true := by simp [formed]; omega
    go_wp2_with (fail)
    refine (first_nil w1).mono ?_
    rintro e w2 ⟨v4, rfl, hv4, hu2, _⟩
    obtain ⟨A4, c4, rfl, _⟩ := hv4
    simp only [val, zero]
    have hu3 := (hu1.next hu2).alloc (.cells #[.string ⟨#[]⟩, .int .u64 0, .int .i64 0, .slice A4 0 c4] 30)
    have hB3 := (hB1.upd hu2 (no_ _)).alloc (.cells #[.string ⟨#[]⟩, .int .u64 0, .int .i64 0, .slice A4 0 c4] 30)
    clear y0 y1 y2 y3 hB1 hI1 hu2 hb1 hbx hal
    go_wp2_with (fail)
    generalize w2.alloc (.cells #[.string ⟨#[]⟩, .int .u64 0, .int .i64 0, .slice A4 0 c4] 30) = w3 at *
    refine (pop_nil w3).mono ?_
    rintro e w4 ⟨v6, rfl, hv6, hu4, _⟩
    obtain ⟨A6, c6, rfl, _⟩ := hv6
    simp only [val, zero]
    have hu5 := (hu3.next hu4).alloc (.cells #[.string ⟨#[]⟩, .int .u64 0, .int .i64 0, .slice A6 0 c6] 30)
    have hB5 := (hB3.upd hu4 (no_ _)).alloc (.cells #[.string ⟨#[]⟩, .int .u64 0, .int .i64 0, .slice A6 0 c6] 30)
    clear hB3 hu4 hu3
    go_wp2_with (fail)
    generalize w4.alloc (.cells #[.string ⟨#[]⟩, .int .u64 0, .int .i64 0, .slice A6 0 c6] 30) = w5 at *
    refine (new_ w5).mono ?_
    rintro e w6 ⟨rfl, hIb, hu6⟩
    have hB6 := hB5.upd hu6 (no_ _)
    have hu06 := hu5.next hu6
    have hI6 := hx.upd hu06 (fun _ _ => no_ _)
    have hpw : w.heap.size ≤ w5.heap.size := hu5.size
    obtain ⟨y0, y1, y2, y3⟩ := box hB6
    have HC := hid (rcopy_ x _ w6 hI6 (by omega))
    unfold val at HC
    clear hu6 hu5 hB5
    go_wp2_with (fail)
    refine Calls.mono HC.out ?_
    rintro e w7 ⟨v9, rfl, hv9, hu7, hf9⟩
    have hv9' := hv9
    obtain ⟨A9, c9, rfl, _⟩ := hv9'
    unfold val
    have K8 : Kp w (w7.alloc (.cells #[.string x.1, .int .u64 x.2.1, .int .i64 x.2.2.1, .slice A9 x.2.2.2.length c9] 30)) (fun k => k = w5.heap.size) w5.heap.size w.heap.size w7.heap.size x (.slice Au x.2.2.2.length cu) (.slice A9 x.2.2.2.length c9) [] :=
      ⟨(hB6.upd hu7 (no_ _)).alloc _, (hI6.upd hu7 (fun _ _ => no_ _)).upd ((Upd.refl No w7).alloc _) (fun _ _ => no_ _), Blk.fresh _ _ _, hv9.upd ((Upd.refl No w7).alloc _) (fun _ _ => no_ _), (hIb.upd hu7 (fun _ _ => no_ _)).upd ((Upd.refl No w7).alloc _) (fun _ _ => no_ _), (hu06.old (Nat.le_refl _)).trans ((hu7.alloc _).old hu06.size)⟩
    have h9k : ∀ k, (Value.slice A9 x.2.2.2.length c9).ownBlock = some k → ∃ cs, Blk (w7.alloc (.cells #[.string x.1, .int .u64 x.2.1, .int .i64 x.2.2.1, .slice A9 x.2.2.2.length c9] 30)) k 2 cs := fun k hk => (hf9 k hk).2.elim fun cs hB => ⟨cs, hB.alloc _⟩
    clear y0 y1 y2 y3 hB6 hI6 hIb hu06 hv9 hu7 hf9 HC
    obtain ⟨y0, y1, y2, y3⟩ := box K8.box1
    go_wp2_with (fail)
    generalize w7.alloc (.cells #[.string x.1, .int .u64 x.2.1, .int .i64 x.2.2.1, .slice A9 x.2.2.2.length c9] 30) = w8 at *
    generalize w5.heap.size = p at *
    have hp8 : p < w8.heap.size := K8.ib.lt p rfl
    have hwp : w.heap.size ≤ p := hpw
    have HC := hid (rcopy_ x _ w8 K8.iu (by omega))
    unfold val at HC
    refine Calls.mono HC.out ?_
    rintro e w9 ⟨v10, rfl, hv10, hu9, hf10⟩
    have hv10' := hv10
    obtain ⟨A10, c10, rfl, _⟩ := hv10'
    unfold val
    have hal10 : Upd No w9 (w9.alloc (.cells #[.string x.1, .int .u64 x.2.1, .int .i64 x.2.2.1, .slice A10 x.2.2.2.length c10] 30)) := (Upd.refl _ _).alloc _
    have K10 := (K8.quiet hu9).quiet hal10
    have hv10a := hv10.upd hal10 (fun _ _ => no_ _)
    have hf10a : ∀ k, (Value.slice A10 x.2.2.2.length c10).ownBlock = some k → w8.heap.size ≤ k ∧ ∃ cs, Blk (w9.alloc (.cells #[.string x.1, .int .u64 x.2.1, .int .i64 x.2.2.1, .slice A10 x.2.2.2.length c10] 30)) k 2 cs := fun k hk => ⟨(hf10 k hk).1, (hf10 k hk).2.elim fun cs hB => ⟨cs, hB.alloc _⟩⟩
    have hb10 := Blk.fresh w9 30 #[.string x.1, .int .u64 x.2.1, .int .i64 x.2.2.1, .slice A10 x.2.2.2.length c10]
    have hz89 := hu9.size
    have hz910 := hal10.size
    have hb9lt := K8.box9.lt
    clear y0 y1 y2 y3 HC hv10 hf10 hu9 hal10
    obtain ⟨y0, y1, y2, y3⟩ := box hb10
    have HP := hid (push p [] _ x _ (w9.alloc (.cells #[.string x.1, .int .u64 x.2.1, .int .i64 x.2.2.1, .slice A10 x.2.2.2.length c10] 30)) K10.ib hv10a)
    rw [show pushL [] x = (0, [x]) from by simp [pushL, hfm]] at HP
    unfold val at HP
    go_wp2_with (fail)
    generalize (w9.alloc (.cells #[.string x.1, .int .u64 x.2.1, .int .i64 x.2.2.1, .slice A10 x.2.2.2.length c10] 30)) = w10 at *
    refine Calls.mono HP.out ?_
    rintro e w11 ⟨rfl, F11, hI11, hm11⟩
    have hb11 := hb10.upd hm11.upd (by omega)
    have hv11 := hv10a.upd hm11.upd (fun k hk e => by have := (hf10a k hk).1; omega)
    have hf11 : ∀ k, (Value.slice A10 x.2.2.2.length c10).ownBlock = some k → w8.heap.size ≤ k ∧ k < w10.heap.size ∧ ∃ cs, Blk w11 k 2 cs := fun k hk => ⟨(hf10a k hk).1, (hf10a k hk).2.elim fun cs hB => hB.lt, (hf10a k hk).2.elim fun cs hB => ⟨cs, hB.upd hm11.upd (by have := (hf10a k hk).1; omega)⟩⟩
    have HLp := Lp.start hv11 (fun k hk => (hf11 k hk).2.2)
    have HK : Hid (∀ W, Lp w11 W (.slice A10 x.2.2.2.length c10) x.2.2.2.length → Kp w W F11 p w.heap.size w7.heap.size x (.slice Au x.2.2.2.length cu) (.slice A9 x.2.2.2.length c9) [x] ∧ Blk W w9.heap.size 30 #[.string x.1, .int .u64 x.2.1, .int .i64 x.2.2.1, .slice A10 x.2.2.2.length c10]) :=
      hid fun W hL => ⟨Kp.own hx hwp K8 h9k K10 hI11 hm11 (fun k hk => ⟨(hf11 k hk).1, (hf11 k hk).2.1⟩) hL.1, Lp.box hL hb11 fun k hk => (hf11 k hk).2.2⟩
    clear y0 y1 y2 y3 hb10 hv10a hf10a HP
    obtain ⟨y0, y1, y2, y3⟩ := box hb11
    go_wp2_with (fail)
    obtain ⟨wo, hwo⟩ : ∃ wo : World, wo = w11 := ⟨_, rfl⟩
    go_loopw [55] (fun vv W => ∃ j : Nat, j ≤ x.2.2.2.length ∧ vv = .int .i64 j ∧ Hid (Lp w11 W (.slice A10 x.2.2.2.length c10) x.2.2.2.length)) (fun vv _ => x.2.2.2.length - (intOf vv).toNat)
    case atStart => exact ⟨0, by omega, rfl, hid HLp⟩
    case round =>
      obtain ⟨j, hj, rfl, hH⟩ := hrel
      by_cases hlt : j < x.2.2.2.length
      · obtain ⟨g, off, cg, cs, hve, hB, hcs⟩ := hH.out.2 (by omega)
        simp only [Value.slice.injEq, true_and] at hve
        obtain ⟨rfl, rfl⟩ := hve
        obtain ⟨zx, hzx⟩ := hcs j hlt
        have hcj : wr.cell? ⟨g, off + j, none⟩ = some (.int .i64 zx) := (hB.cell _).trans hzx
        have hfj := hB.free (off + j)
        obtain ⟨q0, q1, q2, q3⟩ := box (HK.out wr hH.out).2
        have hj1 : (0 : Int) ≤ (j : Int) := by omega
        have hj2 : (j : Int) < (x.2.2.2.length : Int) := by omega
        have HN := hid (fun z => Lp.put hH.out rfl hB hcs hlt z)
        clear hzx
        go_wp2
        go_roundw
        case rel => exact ⟨j + 1, by omega, by go_num, hid (HN.out _)⟩
        case measure => simp [intOf]; omega
      · obtain rfl : j = x.2.2.2.length := by omega
        have K12 := (HK.out wr hH.out).1
        clear hH HK HLp hb11 hv11 hf11 hI11 hm11 K10 K8 h9k y0 y1 y2 y3 hz89 hz910 hb9lt
        generalize wr = w12 at *
        clear hwo
        go_wp2_with (fail)
        refine (first_some p x [] F11 w12 K12.ib (by omega)).mono ?_
        rintro e w13 ⟨v13, rfl, hv13, hu13, hf13⟩
        have hv13' := hv13
        obtain ⟨A13, c13, rfl, _⟩ := hv13'
        simp only [val]
        have hal13 : Upd No w13 (w13.alloc (.cells #[.string x.1, .int .u64 x.2.1, .int .i64 x.2.2.1, .slice A13 x.2.2.2.length c13] 30)) := (Upd.refl _ _).alloc _
        have hb13 := Blk.fresh w13 30 #[.string x.1, .int .u64 x.2.1, .int .i64 x.2.2.1, .slice A13 x.2.2.2.length c13]
        have K13 := hid (K12.quiet (hu13.next hal13))
        have hv13a := hv13.upd hal13 (fun _ _ => no_ _)
        have hf13a : ∀ k, (Value.slice A13 x.2.2.2.length c13).ownBlock = some k → w12.heap.size ≤ k ∧ ∃ cs, Blk (w13.alloc (.cells #[.string x.1, .int .u64 x.2.1, .int .i64 x.2.2.1, .slice A13 x.2.2.2.length c13] 30)) k 2 cs := fun k hk => ⟨(hf13 k hk).1, (hf13 k hk).2.elim fun cs hB => ⟨cs, hB.alloc _⟩⟩
        have HU13 := hid (hu13.next hal13)
        clear hv13 hf13 hu13 hal13
        obtain ⟨y0, y1, y2, y3⟩ := box hb13
        go_wp2_with (fail)
        generalize (w13.alloc (.cells #[.string x.1, .int .u64 x.2.1, .int .i64 x.2.2.1, .slice A13 x.2.2.2.length c13] 30)) = w14 at *
        have HLp := Lp.start hv13a (fun k hk => (hf13a k hk).2)
        have HK : Hid (∀ W, Lp w14 W (.slice A13 x.2.2.2.length c13) x.2.2.2.length → Kp w W F11 p w.heap.size w7.heap.size x (.slice Au x.2.2.2.length cu) (.slice A9 x.2.2.2.length c9) [x] ∧ Blk W w13.heap.size 30 #[.string x.1, .int .u64 x.2.1, .int .i64 x.2.2.1, .slice A13 x.2.2.2.length c13]) :=
          hid fun W hL => ⟨K12.quiet (Upd.young ((HU13.out.mono fun _ _ h => h.elim).next hL.1) fun k hk => (hf13a k hk).1), Lp.box hL hb13 fun k hk => (hf13a k hk).2⟩
        clear y0 y1 y2 y3 K12 K13 HU13 hv13a hf13a
        obtain ⟨y0, y1, y2, y3⟩ := box hb13
        obtain ⟨wo2, hwo2⟩ : ∃ wo2 : World, wo2 = w14 := ⟨_, rfl⟩
        go_wp2_with (fail)
        go_loopw [74] (fun vv W => ∃ j : Nat, j ≤ x.2.2.2.length ∧ vv = .int .i64 j ∧ Hid (Lp w14 W (.slice A13 x.2.2.2.length c13) x.2.2.2.length)) (fun vv _ => x.2.2.2.length - (intOf vv).toNat)
        case atStart => exact ⟨0, by omega, rfl, hid HLp⟩
        case round =>
          obtain ⟨j, hj, rfl, hH⟩ := hrel
          by_cases hlt : j < x.2.2.2.length
          · obtain ⟨g, off, cg, cs, hve, hB, hcs⟩ := hH.out.2 (by omega)
            simp only [Value.slice.injEq, true_and] at hve
            obtain ⟨rfl, rfl⟩ := hve
            obtain ⟨zx, hzx⟩ := hcs j hlt
            have hcj : wr.cell? ⟨g, off + j, none⟩ = some (.int .i64 zx) := (hB.cell _).trans hzx
            have hfj := hB.free (off + j)
            obtain ⟨q0, q1, q2, q3⟩ := box (HK.out wr hH.out).2
            have hj1 : (0 : Int) ≤ (j : Int) := by omega
            have hj2 : (j : Int) < (x.2.2.2.length : Int) := by omega
            have HN := hid (fun z => Lp.put hH.out rfl hB hcs hlt z)
            clear hzx
            go_wp2
            go_roundw
            case rel => exact ⟨j + 1, by omega, by go_num, hid (HN.out _)⟩
            case measure => simp [intOf]; omega
          · obtain rfl : j = x.2.2.2.length := by omega
            have K15 := (HK.out wr hH.out).1
            clear hH HK HLp hb13 y0 y1 y2 y3
            generalize wr = w15 at *
            clear hwo2
            go_wp2_with (fail)
            refine (iall p [x] F11 w15 K15.ib (by simpa using by omega) (by simp)).mono ?_
            rintro e w16 ⟨v16, G, rfl, hR16, hG16, hu16⟩
            obtain ⟨g, off, c16, u16, cs16, rfl, hc1, hcm, hi16, hk16, hb16, hd0, hd1, hd2, hd3, hGg⟩ := Row.one hR16
            have hi16' := hi16
            obtain ⟨A16, cu16, rfl, _⟩ := hi16'
            have HLp := Lp.start hi16 (fun k hk => (hk16 k hk).2)
            have HK : Hid (∀ W, Lp w16 W (.slice A16 x.2.2.2.length cu16) x.2.2.2.length → Kp w W F11 p w.heap.size w7.heap.size x (.slice Au x.2.2.2.length cu) (.slice A9 x.2.2.2.length c9) [x] ∧ Blk W g 30 cs16) :=
              hid fun W hL => ⟨K15.quiet (Upd.young ((hu16.mono fun _ _ h => h.elim).next hL.1) fun k hk => hG16 k (hk16 k hk).1), Lp.box hL hb16 fun k hk => (hk16 k hk).2⟩
            have hd := (hb16.cell (off + 3)).trans hd3
            have H3 := hid hd3
            clear hR16 hi16 hk16 hd0 hd1 hd2 hd3 K15 hG16
            go_wp2
            obtain ⟨wo3, hwo3⟩ : ∃ wo3 : World, wo3 = w16 := ⟨_, rfl⟩
            go_loopw [92] (fun vv W => ∃ j : Nat, j ≤ x.2.2.2.length ∧ vv = .int .i64 j ∧ Hid (Lp w16 W (.slice A16 x.2.2.2.length cu16) x.2.2.2.length)) (fun vv _ => x.2.2.2.length - (intOf vv).toNat)
            case atStart => exact ⟨0, by omega, rfl, hid HLp⟩
            case round =>
              obtain ⟨j, hj, rfl, hH⟩ := hrel
              by_cases hlt : j < x.2.2.2.length
              · obtain ⟨g2, off2, cg, cs, hve, hB, hcs⟩ := hH.out.2 (by omega)
                simp only [Value.slice.injEq, true_and] at hve
                obtain ⟨rfl, rfl⟩ := hve
                obtain ⟨zx, hzx⟩ := hcs j hlt
                have hcj : wr.cell? ⟨g2, off2 + j, none⟩ = some (.int .i64 zx) := (hB.cell _).trans hzx
                have hfj := hB.free (off2 + j)
                have q3 := ((HK.out wr hH.out).2.cell (off + 3)).trans H3.out
                have hj1 : (0 : Int) ≤ (j : Int) := by omega
                have hj2 : (j : Int) < (x.2.2.2.length : Int) := by omega
                have HN := hid (fun z => Lp.put hH.out rfl hB hcs hlt z)
                clear hzx hd
                go_wp2
                go_roundw
                case rel => exact ⟨j + 1, by omega, by go_num, hid (HN.out _)⟩
                case measure => simp [intOf]; omega
              · obtain rfl : j = x.2.2.2.length := by omega
                have K17 := (HK.out wr hH.out).1
                clear hH HK HLp hb16 hd H3
                generalize wr = w17 at *
                clear hwo3
                go_wp2_with (fail)
                refine (first_some p x [] F11 w17 K17.ib (by omega)).mono ?_
                rintro e w18 ⟨v18, rfl, hv18, hu18, hf18⟩
                have hv18' := hv18
                obtain ⟨A18, c18, rfl, _⟩ := hv18'
                simp only [val]
                have hal18 : Upd No w18 (w18.alloc (.cells #[.string x.1, .int .u64 x.2.1, .int .i64 x.2.2.1, .slice A18 x.2.2.2.length c18] 30)) := (Upd.refl _ _).alloc _
                have hb18 := Blk.fresh w18 30 #[.string x.1, .int .u64 x.2.1, .int .i64 x.2.2.1, .slice A18 x.2.2.2.length c18]
                have K19 := hid (K17.quiet (hu18.next hal18))
                have hv18a := hv18.upd hal18 (fun _ _ => no_ _)
                clear hv18 hf18 hu18 hal18 K17
                obtain ⟨y0, y1, y2, y3⟩ := box hb18
                obtain ⟨z0, z1, z2, z3⟩ := box K19.out.box1
                go_wp2_with (fail)
                generalize (w18.alloc (.cells #[.string x.1, .int .u64 x.2.1, .int .i64 x.2.2.1, .slice A18 x.2.2.2.length c18] 30)) = w19 at *
                have HPN := hid (push_nil x (.slice Au x.2.2.2.length cu) w19)
                unfold val at HPN
                refine Calls.mono HPN.out ?_
                rintro e w20 ⟨rfl, hu20⟩
                clear y0 y1 y2 y3 z0 z1 z2 z3 HPN
                have K20 := hid (K19.out.quiet hu20)
                have hv20 := hv18a.upd hu20 (fun _ _ => no_ _)
                obtain ⟨y0, y1, y2, y3⟩ := box (hb18.upd hu20 (no_ _))
                obtain ⟨z0, z1, z2, z3⟩ := box K20.out.box9
                have HS := hid (same_ x x _ _ w20 hv20 K20.out.i9)
                unfold val at HS
                have HL := hid (len_nil w20)
                have HA := hid (all_nil w20)
                have HE := hid (enc_nil w20)
                have hbel := hid K20.out.bel
                clear hb18 hu20 hv18a hv20 K19
                go_wp2_with (fail)
                refine Calls.mono HL.out ?_
                rintro e w21 ⟨rfl, rfl⟩
                go_wp2_with (fail)
                refine Calls.mono HA.out ?_
                rintro e w21 ⟨rfl, rfl⟩
                go_wp2_with (fail)
                refine Calls.mono HE.out ?_
                rintro e w21 ⟨rfl, rfl⟩
                go_wp2_with (fail)
                refine Calls.mono HS.out ?_
                rintro e w21 ⟨rfl, hu21⟩
                have hbel2 := hid (hbel.out.trans (hu21.old hbel.out.size))
                clear hu21
                go_wp2
                go_ret
                exact ⟨by simp, hbel2.out⟩
end Go.Proofs.Ytgbdpplnfcfhmaa.Iz
