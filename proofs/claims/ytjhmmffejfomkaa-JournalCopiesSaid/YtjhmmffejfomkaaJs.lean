/-
  A journal of the call's own; reevelaw16.awake; the walk of JournalState.
-/
import Derived.Test.YtjhmmffejfomkaaJb
import Derived.Test.YtjhmmffejfomkaaOp
import Derived.Test.YtjhmmffejfomkaaJe

set_option linter.unusedVariables false
set_option linter.unusedSimpArgs false
namespace Go.Proofs.Ytjhmmffejfomkaa.Jn
open Go.ChangeShapes Go.WideShapes Go.ChangeAt Go.RowKit Go.Proofs.Ytjhmmffejfomkaa Go.Proofs.Ytjhmmffejfomkaa.B Go.Proofs.Ytjhmmffejfomkaa.Op
/-- The journal at p is new since w. -/
structure On (w W : World) (F : Nat → Prop) (p : Nat) (s : S) : Prop where
  jd : Jd W F p s
  own : ∀ k, F k → w.heap.size ≤ k
  bel : Below w.heap.size w W
  ok : Ok s
  le : s.2.1.length ≤ 16
section
variable {w W W' : World} {F F' H : Nat → Prop} {p : Nat} {s t : S}
theorem On.moved (h : On w W F p s) (hw : Jd W' F' p t) (hm : Mv F F' W W') (ok : Ok t) (le : t.2.1.length ≤ 16) : On w W' F' p t where
  jd := hw
  own := fun k hk => (hm.sub k hk).elim (h.own k) fun hs => Nat.le_trans h.bel.size hs
  bel := h.bel.trans (hm.upd.below h.bel.size h.own)
  ok := ok
  le := le
theorem On.quiet (h : On w W F p s) (hu : Upd No W W') : On w W' F p s where
  jd := h.jd.upd hu fun _ _ => no_ _
  own := h.own
  bel := h.bel.trans (hu.old h.bel.size)
  ok := h.ok
  le := h.le
theorem On.upd (h : On w W F p s) (hu : Upd H W W') (hb : Below w.heap.size w W') (hn : ∀ k, F k → ¬ H k) : On w W' F p s where
  jd := h.jd.upd hu hn
  own := h.own
  bel := hb
  ok := h.ok
  le := h.le
end
theorem new2 (w W : World) (hb : Below w.heap.size w W) : Calls Try.prog 9 #[] W fun e w' => e = .returned (.pointer (some ⟨W.heap.size, 0, none⟩)) ∧ On w w' (fun k => k = W.heap.size) W.heap.size s0 ∧ Upd No W w' := by
  refine (new_ W).mono ?_
  rintro e w' ⟨h1, rfl⟩
  have hu : Upd No W (W.alloc (.cells (jc s0.1 (.slice none 0 0) 0) 46)) := (Upd.refl _ _).alloc _
  exact ⟨h1, ⟨Jd.new rfl, fun k hk => by rw [hk]; exact hb.size, hb.trans (hu.old hb.size), Ok.s0, by simp [s0]⟩, hu⟩
/-- The registers, all events done. -/
def fullS (s : S) : List Int := sts s.1 s.2.1
theorem fullS_fold (s : S) (n : Nat) : fullS (foldS s n) = fullS s := by
  unfold fullS foldS
  rw [← sts_append, List.take_append_drop]
theorem addS_ok {s : S} {l : List Ev} (h : Ok s) (h16 : s.2.1.length ≤ 16) : Ok (addS s l).2 ∧ (addS s l).2.2.1.length ≤ 16 := by
  unfold addS
  split
  · exact ⟨h, h16⟩
  · rename_i hb
    simp only [Bool.not_eq_true] at hb
    rw [List.any_eq_false] at hb
    refine ⟨⟨?_, ?_, fun e he => ?_⟩, ?_⟩
    · simp only [foldS]; rw [sts_length]; exact h.b8
    · simp only [foldS, List.length_drop]; omega
    · have := List.mem_of_mem_drop he
      rcases List.mem_append.1 this with he | he
      · exact h.ev e he
      · exact (bad_iff e).1 (by simpa using hb e he)
    · simp only [foldS, List.length_drop]; omega
theorem foldS_ok {s : S} (n : Nat) (h : Ok s) (h16 : s.2.1.length ≤ 16) : Ok (foldS s n) ∧ (foldS s n).2.1.length ≤ 16 := by
  refine ⟨⟨?_, ?_, fun e he => h.ev e (List.mem_of_mem_drop he)⟩, ?_⟩
  · simp only [foldS]; rw [sts_length]; exact h.b8
  · have := h.le; simp only [foldS, List.length_drop]; omega
  · simp only [foldS, List.length_drop]; omega
theorem addS_good {s : S} {l : List Ev} (h : ∀ e ∈ l, EvOk e) : (addS s l).1 = 0 ∧ fullS (addS s l).2 = sts (fullS s) l ∧ (addS s l).2.2.2 = IntKind.u64.wrap (s.2.2 + l.length) := by
  have hb : l.any bad = false := List.any_eq_false.2 fun e he => by rw [(bad_iff e).2 (h e he)]; simp
  unfold addS
  rw [hb]
  refine ⟨rfl, ?_, rfl⟩
  simp only [Bool.false_eq_true, if_false]
  rw [fullS_fold]
  simp only [fullS]
  rw [sts_append]
theorem Rd_lit2 (w : World) (t : TypeId) (e : Ev) : Rd (w.alloc (.cells #[.int .i64 e.1, .int .i64 e.2] t)) 2 (some ⟨w.heap.size, 0, none⟩) [e].length (ecs [e]) := Rd_lit w t 2 1 [.int .i64 e.1, .int .i64 e.2] rfl
set_option maxHeartbeats 2000000 in
theorem awake (w : World) : Calls Try.prog 8 #[] w fun e w' => e = .returned (.bool true) ∧ Below w.heap.size w w' := by
  have E1 : Hid (addS s0 [(1, 5)] = (0, ([0, 0, 0, 0, 0, 0, 0, 0], [(1, 5)], 1)) ∧ arr (sts [0, 0, 0, 0, 0, 0, 0, 0] [(1, 5)]) = #[.int .i64 0, .int .i64 5, .int .i64 0, .int .i64 0, .int .i64 0, .int .i64 0, .int .i64 0, .int .i64 0]) := hid ⟨by decide, rfl⟩
  have hidx : ∀ w, (Instr.index 27 (.agg #[.int .i64 0, .int .i64 5, .int .i64 0, .int .i64 0, .int .i64 0, .int .i64 0, .int .i64 0, .int .i64 0]) (.int .i64 1)).run Try.prog w = .ok (.int .i64 5) w := fun _ => by kernel_rfl
  go_enter Try.func8, Try.ntmps8
  go_wp2_with (fail)
  refine Calls.mono (new2 w w (Below.refl _ _)) ?_
  rintro e w1 ⟨rfl, hO1, _⟩
  have HO1 := hid hO1
  clear hO1
  have hA := add (c := 1) (l := [(1, 5)]) ((HO1.out.quiet ((Upd.refl No w1).alloc (.cells #[.int .i64 1, .int .i64 5] 33))).jd) HO1.out.ok HO1.out.le (Rd_lit2 w1 _ (1, 5)) (by simp)
  unfold AddOut at hA
  have hok := addS_ok (l := [(1, 5)]) HO1.out.ok HO1.out.le
  rw [E1.out.1] at hA hok
  have HA := hid hA
  have HK := hid hok
  clear hA hok
  go_wp2_with (fail)
  refine Calls.mono HA.out ?_
  rintro e w2 ⟨rfl, F2, hw2, hm2⟩
  have HO2 := hid ((HO1.out.quiet ((Upd.refl No w1).alloc (.cells #[.int .i64 1, .int .i64 5] 33))).moved hw2 hm2 HK.out.1 HK.out.2)
  clear hw2 hm2
  have hS := state HO2.out.jd HO2.out.ok
  simp only [E1.out.2] at hS
  have HS := hid hS
  clear hS
  go_wp2_with (fail)
  refine Calls.mono HS.out ?_
  rintro e w3 ⟨rfl, hu3⟩
  have HO3 := hid (HO2.out.quiet hu3)
  have HV := hid (version HO3.out.jd)
  clear hu3
  go_wp2_with (fail)
  refine Calls.mono HV.out ?_
  rintro e w4 ⟨rfl, rfl⟩
  go_wp2
  go_ret
  exact ⟨rfl, HO3.out.bel⟩
/-! arguments -/
theorem open_evs {H : Type} {enc : TypeId × Value → H} {W : World} {base : Nat} {v : Value} {d : DataW H} {p : List MemPlace}
    (hv : Value.okWide Try.prog W .any base 22 v) (h : DataW.Trod enc Try.prog W 0 (fun _ => true) true 22 v d p) :
    ∃ (xs : List Ev) (A : Option Addr) (c : Nat), v = .slice A xs.length c ∧ Rd W 2 A xs.length (ecs xs) ∧ (xs.length ≤ maxLen ∧ ∀ x ∈ xs, (-9223372036854775808 ≤ x.1 ∧ x.1 ≤ 9223372036854775807) ∧ (-9223372036854775808 ≤ x.2 ∧ x.2 ≤ 9223372036854775807)) := by
  obtain ⟨xs, A, c, h1, h2, h3, h4, h5, h6, h7, h8⟩ := open_rows (α := Ev) 2 ec (fun x _ => (-9223372036854775808 ≤ x.1 ∧ x.1 ≤ 9223372036854775807) ∧ (-9223372036854775808 ≤ x.2 ∧ x.2 ≤ 9223372036854775807)) Try.underlying22 (by kernel_rfl) (by omega)
    (fun n cs x hx hl => by
      obtain ⟨ys, k, hk, hxy, _, hxl, hf⟩ := DataW.trod_struct Try.underlying29 hx
      match ys, hxl, cs, hl with
      | [y0, y1], _, [v0, v1], _ =>
        have g0 := hf 0 _ rfl
        have g1 := hf 1 _ rfl
        have e0 : Try.prog.cellsOf 3 = 1 := by kernel_rfl
        have e1 : Try.prog.cellsOf 2 = 1 := by kernel_rfl
        simp [e0, e1] at g0 g1
        obtain ⟨x0, z0, _, w0⟩ := DataW.trod_int Try.underlying3 g0
        obtain ⟨x1, z1, _, w1⟩ := DataW.trod_int Try.underlying2 g1
        simp only [List.cons.injEq, and_true] at z0 z1
        subst z0 z1
        exact ⟨(x0, x1), rfl, Law.wf_i64 w0, Law.wf_i64 w1⟩) hv h
  exact ⟨xs, A, c, h1, h2, Nat.le_trans h4 h5, fun x hx => (h7 x hx).elim fun _ h => h⟩
set_option maxHeartbeats 4000000 in
set_option maxRecDepth 100000 in
theorem law_state (A : Option Addr) (c : Nat) (xs : List Ev) (wrong folds : Int) (w : World) (hr : Rd w 2 A xs.length (ecs xs)) (hl : xs.length ≤ maxLen) (hx : ∀ x ∈ xs, (-9223372036854775808 ≤ x.1 ∧ x.1 ≤ 9223372036854775807) ∧ (-9223372036854775808 ≤ x.2 ∧ x.2 ≤ 9223372036854775807))
    (hw1 : -9223372036854775808 ≤ wrong ∧ wrong ≤ 9223372036854775807) (hf1 : 0 ≤ folds ∧ folds ≤ 18446744073709551615) :
    Calls Try.prog 3 #[.slice A xs.length c, .int .i64 wrong, .int .u64 folds] w fun e w' => e = .returned (.bool true) ∧ Below w.heap.size w w' := by
  simp only [maxLen] at hl
  by_cases h300 : 300 < xs.length
  · have h300' : (300 : Int) < (xs.length : Int) := by omega
    go_enter Try.func3, Try.ntmps3
    go_wp2_with (fail)
    refine Calls.mono (awake w) ?_
    rintro e w1 ⟨rfl, hb1⟩
    have HB1 := hid hb1
    clear hb1
    go_wp2_with (fail)
    refine Calls.mono (awake w1) ?_
    rintro e w2 ⟨rfl, hb2⟩
    have HB2 := hid (HB1.out.trans (hb2.mono HB1.out.size))
    clear hb2
    go_wp2
    go_ret
    exact ⟨rfl, HB2.out⟩
  have hx300 : ¬ (300 : Int) < (xs.length : Int) := by omega
  have hxn : xs.length ≤ 300 := by omega
  have HXs := hid hx
  clear h300 hx
  go_enter Try.func3, Try.ntmps3
  go_wp2_with (fail)
  refine Calls.mono (awake w) ?_
  rintro e w1 ⟨rfl, hb1⟩
  have HB1 := hid hb1
  clear hb1
  go_wp2_with (fail)
  refine Calls.mono (new2 w w1 HB1.out) ?_
  rintro e w2 ⟨rfl, hO2, _⟩
  have HW0 : Hid (∃ (w3 : World) (p g : Nat) (F : Nat → Prop), w3 = w2.alloc (.cells (arr s0.1) 27) ∧ p = w1.heap.size ∧ g = w2.heap.size ∧ On w w3 F p s0 ∧ Blk w3 g 27 (arr s0.1) ∧ ¬ F g ∧ w.heap.size ≤ g) :=
    hid ⟨_, _, _, _, rfl, rfl, rfl, hO2.quiet ((Upd.refl _ _).alloc _), Blk.fresh _ _ _, fun h => by have := hO2.jd.lt _ h; omega, hO2.bel.size⟩
  clear hO2
  go_wp2_with (fail)
  obtain ⟨w3, p, g, F0, hw3, hp, hg, hO3, hB3, hn3, hgw⟩ := HW0.out
  simp only [arr, s0] at hw3
  change _ = (w2.alloc (.cells #[.int .i64 0, .int .i64 0, .int .i64 0, .int .i64 0, .int .i64 0, .int .i64 0, .int .i64 0, .int .i64 0] 27)) at hw3
  rw [← hw3, ← hp, ← hg]
  have HS3 := hid (And.intro hO3 (And.intro hB3 hn3))
  clear hw3 hp hg hO3 hB3 hn3 HW0
  go_loopw [9, 24] (fun v9 v24 W => ∃ (j : Nat) (F : Nat → Prop) (s : S), j ≤ xs.length ∧ v24 = .int .i64 j ∧ v9 = .int .u64 j ∧ Hid (On w W F p s) ∧ Hid (Blk W g 27 (arr (fullS s)) ∧ ¬ F g) ∧ Hid (s.2.2 = j)) (fun _ v24 _ => xs.length - (intOf v24).toNat)
  case atStart => exact ⟨0, F0, s0, by omega, rfl, rfl, hid HS3.out.1, hid HS3.out.2, hid rfl⟩
  case round =>
    obtain ⟨j, F, s, hj, rfl, rfl, HO, HB, HV⟩ := hrel
    by_cases hlt : j < xs.length
    · obtain ⟨ad, rfl, d0, d1⟩ := rd_ev (Rd.below hr (by omega) HO.out.bel) hlt
      rw [add_field _ _ _ (by omega)] at d1
      have hxx := HXs.out _ (List.getElem_mem hlt)
      generalize xs[j] = e0 at *
      obtain ⟨r, y⟩ := e0
      simp only at d0 d1 hxx
      have hj2 : (j : Int) < (xs.length : Int) := by omega
      have ht : ∃ t : Nat, t < 8 ∧ wrap64 ((IntKind.u64.wrap r).tmod 8) = (t : Int) := by
        refine ⟨((r % 18446744073709551616) % 8).toNat, by omega, ?_⟩
        rw [show IntKind.u64.wrap r = r % 18446744073709551616 from rfl, Int.tmod_eq_emod_of_nonneg (by omega), IntWalk.wrap64_in _ (by omega)]
        omega
      obtain ⟨t, ht8, hte⟩ := ht
      have HTE := hid hte
      have hok1 := addS_ok (l := [((t : Int), y)]) HO.out.ok HO.out.le
      obtain ⟨hg1, hg2, hg3⟩ := addS_good (s := s) (l := [((t : Int), y)]) (fun e he => by
        obtain rfl := List.mem_singleton.1 he
        exact ⟨by simp, by simp; omega⟩)
      have hw1' : IntKind.u64.wrap (s.2.2 + (1 : Int)) = (j : Int) + 1 := by
        rw [HV.out, show IntKind.u64.wrap ((j : Int) + 1) = ((j : Int) + 1) % 18446744073709551616 from rfl]
        omega
      replace hg3 : (addS s [((t : Int), y)]).2.2.2 = IntKind.u64.wrap (s.2.2 + (1 : Int)) := hg3
      have hA := fun (W : World) A (h1 : Jd W F p s) (h2 : Rd W 2 A [((t : Int), y)].length (ecs [((t : Int), y)])) => add (c := 1) h1 HO.out.ok HO.out.le h2 (by simp)
      unfold AddOut at hA
      have hful : fullS (addS s [((t : Int), y)]).2 = (fullS s).set t y := by rw [hg2]; simp [sts, st1]
      have hfl8 : (fullS s).length = 8 := by unfold fullS; rw [sts_length]; exact HO.out.ok.b8
      rw [hg1] at hA
      generalize (addS s [((t : Int), y)]).2 = s5 at *
      have HA := hid hA
      have HG := hid (And.intro hful (And.intro hfl8 (And.intro (hg3.trans hw1') hok1)))
      have hwj : IntKind.u64.wrap ((j : Int) + 1) = (j : Int) + 1 := by
        rw [show IntKind.u64.wrap ((j : Int) + 1) = ((j : Int) + 1) % 18446744073709551616 from rfl]
        omega
      have HWJ := hid hwj
      clear hA hful hg1 hg2 hg3 hfl8 hw1' hok1 hte hwj
      have HW : Hid (∃ w4, w4 = ((wr.alloc (.cells #[.int .i64 (t : Int), .int .i64 y] 29)).alloc (.cells #[.int .i64 (t : Int), .int .i64 y] 33)) ∧ Blk w4 wr.heap.size 29 #[.int .i64 (t : Int), .int .i64 y] ∧ Rd w4 2 (some ⟨wr.heap.size + 1, 0, none⟩) [((t : Int), y)].length (ecs [((t : Int), y)]) ∧ Upd No wr w4) :=
        hid ⟨_, rfl, (Blk.fresh _ _ _).alloc _, by
          have := Rd_lit2 (wr.alloc (.cells #[.int .i64 (t : Int), .int .i64 y] 29)) 33 ((t : Int), y)
          simpa using this, ((Upd.refl _ _).alloc _).alloc _⟩
      have hFl := HO.out.jd.lt
      go_wp2_with (fail)
      rw [HTE.out]
      obtain ⟨w4, hw4, hE4, hR4, hu4⟩ := HW.out
      rw [← hw4]
      have HU4 := hid hu4
      clear hw4 HW d0 d1
      refine Calls.mono (HA.out w4 _ (HO.out.quiet hu4).jd hR4) ?_
      rintro e w5 ⟨rfl, F5, h5, hm5⟩
      have hO5 := (HO.out.quiet HU4.out).moved h5 hm5 HG.out.2.2.2.1 HG.out.2.2.2.2
      have hg5 : Blk w5 g 27 (arr (fullS s)) := (HB.out.1.upd HU4.out (no_ _)).upd hm5.upd HB.out.2
      have hgl := HB.out.1.lt
      have hn5 : ¬ F5 g := fun h => (hm5.sub g h).elim HB.out.2 fun h => by have := HU4.out.size; omega
      have hE5 := hE4.upd hm5.upd (fun h => by have := hFl _ h; omega)
      obtain ⟨y0, y1⟩ := box2 hE5
      have k0 := hg5.cell t
      have f0 := hg5.free t
      rw [arr_get _ t ht8] at k0
      have HE6 : Hid (∃ w6, w6 = w5.setCell ⟨g, t, none⟩ (.int .i64 y) ∧ On w w6 F5 p s5 ∧ Blk w6 g 27 (arr (fullS s5))) := by
        have hu : Upd (fun k => k = g) w5 (w5.setCell ⟨g, t, none⟩ (.int .i64 y)) := (Upd.refl _ _).set1 t _
        exact hid ⟨_, rfl, hO5.upd hu (hO5.bel.trans (hu.below hO5.bel.size fun k hk => by omega)) fun k hk e => hn5 (e ▸ hk), by rw [HG.out.1]; exact aput hg5 HG.out.2.1 ht8 y⟩
      have hj0 : (0 : Int) ≤ (j : Int) := by omega
      have ht8' : (t : Int) < 8 := by omega
      have HN5 := hid hn5
      clear hu4 hR4 hE4 h5 hm5 hO5 hg5 hn5 hE5
      go_wp2_with (fail)
      all_goals
        obtain ⟨w6, hw6, hO6, hB6⟩ := HE6.out
        rw [← hw6]
        have HO6 := hid hO6
        have HB6 := hid hB6
        clear hw6 hO6 hB6 HE6 k0 f0 y0 y1
        first
          | (refine Calls.mono (Fold HO6.out.jd HO6.out.ok) ?_
             rintro e w7 ⟨rfl, F7, h7, hm7⟩
             have hk7 := foldS_ok s5.2.1.length HO6.out.ok HO6.out.le
             have HO7 := hid (HO6.out.moved h7 hm7 hk7.1 hk7.2)
             have HB7 : Hid (Blk w7 g 27 (arr (fullS (foldS s5 s5.2.1.length))) ∧ ¬ F7 g) := hid ⟨by rw [fullS_fold]; exact HB6.out.upd hm7.upd HN5.out, fun h => (hm7.sub g h).elim HN5.out fun h => by have := HB6.out.lt; omega⟩
             have HV7 : Hid ((foldS s5 s5.2.1.length).2.2 = (j : Int) + 1) := hid HG.out.2.2.1
             generalize foldS s5 s5.2.1.length = s7 at *
             clear h7 hm7 hk7
             go_wp2_with (fail))
          | (obtain ⟨w7, rfl⟩ : ∃ w7, w7 = w6 := ⟨_, rfl⟩
             obtain ⟨F7, rfl⟩ : ∃ F7, F7 = F5 := ⟨_, rfl⟩
             have HO7 := hid HO6.out
             have HB7 := hid (And.intro HB6.out HN5.out)
             have HV7 := hid HG.out.2.2.1
             obtain ⟨s7, rfl⟩ : ∃ s7, s7 = s5 := ⟨_, rfl⟩)
        have hS := fun W (hu : Upd No w7 W) => state (HO7.out.quiet hu).jd HO7.out.ok
        have hV := fun W (hu : Upd No w7 W) => version (HO7.out.quiet hu).jd
        have hE := fun W (hu : Upd No w7 W) => events (HO7.out.quiet hu).jd (by have := HO7.out.le; omega)
        have hle7 := HO7.out.le
        have hb7 := HB7.out.1
        rw [show sts s7.1 s7.2.1 = fullS s7 from rfl] at hS
        rw [HV7.out] at hV
        unfold arr at hS
        have HS := hid hS
        have hEq := fun w => eq_arr (fullS s7) w
        unfold arr at hEq
        have HVv := hid hV
        have HEv := hid hE
        have hle7' : ¬ (16 : Int) < (s7.2.1.length : Int) := by omega
        clear hS hV hE hle7
        generalize s7.2.1 = es7 at *
        refine wp_region_held_drew (S := fun W => Upd No w7 W) (by kernel_rfl) (Upd.refl No w7).drew (fun hS => ?_)
        refine rg_at 0 (by decide) (fun oi hoi => ?_)
        have ho2 := hoi; simp only [List.getElem?_toArray, List.getElem?_cons_succ, List.getElem?_cons_zero, Option.some.injEq] at ho2; subst ho2
        refine rg_take (v := ?_) 0 hoi (by kernel_rfl) (by kernel_rfl) (by kernel_rfl) (fun _ _ _ h => h) (by rfl) ?_ hS ?_
        rotate_left
        · intro w _; go_simp; try with_reducible rfl
        clear hoi; try simp only [Act.put, List.setIfInBounds_toArray, List.set_cons_zero, List.set_cons_succ]
        refine rg_at 2 (by decide) (fun oi hoi => ?_)
        have ho2 := hoi; simp only [List.getElem?_toArray, List.getElem?_cons_succ, List.getElem?_cons_zero, Option.some.injEq] at ho2; subst ho2
        refine rg_take (v := ?_) 2 hoi (by kernel_rfl) (by kernel_rfl) (by kernel_rfl) (fun _ _ _ h => h) (by rfl) ?_ hS ?_
        rotate_left
        · intro w hw; have hf := abox (hb7.upd hw (no_ _)); clear hw; go_simp; try with_reducible rfl
        clear hoi; try simp only [Act.put, List.setIfInBounds_toArray, List.set_cons_zero, List.set_cons_succ]
        refine rg_at 1 (by decide) (fun oi hoi => ?_)
        have ho2 := hoi; simp only [List.getElem?_toArray, List.getElem?_cons_succ, List.getElem?_cons_zero, Option.some.injEq] at ho2; subst ho2
        refine rg_call 1 (by kernel_rfl) hoi (by rfl) (fun K hK => ?_)
        clear hoi
        go_simp
        refine Calls.mono (HS.out _ hS) ?_
        rintro e w8 ⟨rfl, hu8⟩
        have hS8 := Upd.next hS hu8
        go_wp2_with (fail)
        refine hK.out _ _ ((by exact hS8)) (fun hS => ?_)
        clear hK K
        try simp only [Act.put, List.setIfInBounds_toArray, List.set_cons_zero, List.set_cons_succ]
        refine rg_at 3 (by decide) (fun oi hoi => ?_)
        have ho2 := hoi; simp only [List.getElem?_toArray, List.getElem?_cons_succ, List.getElem?_cons_zero, Option.some.injEq] at ho2; subst ho2
        refine rg_take (v := ?_) 3 hoi (by kernel_rfl) (by kernel_rfl) (by kernel_rfl) (fun _ _ _ h => h) (by rfl) ?_ hS ?_
        rotate_left
        · intro w _; go_simp; try with_reducible rfl
        clear hoi; try simp only [Act.put, List.setIfInBounds_toArray, List.set_cons_zero, List.set_cons_succ]
        refine rg_at 4 (by decide) (fun oi hoi => ?_)
        have ho2 := hoi; simp only [List.getElem?_toArray, List.getElem?_cons_succ, List.getElem?_cons_zero, Option.some.injEq] at ho2; subst ho2
        refine rg_take (v := ?_) 4 hoi (by kernel_rfl) (by kernel_rfl) (by kernel_rfl) (fun _ _ _ h => h) (by rfl) ?_ hS ?_
        rotate_left
        · intro w _; go_simp; try with_reducible rfl
        clear hoi; try simp only [Act.put, List.setIfInBounds_toArray, List.set_cons_zero, List.set_cons_succ]
        refine rg_at 5 (by decide) (fun oi hoi => ?_)
        have ho2 := hoi; simp only [List.getElem?_toArray, List.getElem?_cons_succ, List.getElem?_cons_zero, Option.some.injEq] at ho2; subst ho2
        refine rg_take (v := ?_) 5 hoi (by kernel_rfl) (by kernel_rfl) (by kernel_rfl) (fun _ _ _ h => h) (by rfl) ?_ hS ?_
        rotate_left
        · intro w _; go_simp; try with_reducible rfl
        clear hoi; try simp only [Act.put, List.setIfInBounds_toArray, List.set_cons_zero, List.set_cons_succ]
        refine rg_at 7 (by decide) (fun oi hoi => ?_)
        have ho2 := hoi; simp only [List.getElem?_toArray, List.getElem?_cons_succ, List.getElem?_cons_zero, Option.some.injEq] at ho2; subst ho2
        refine rg_take (v := ?_) 7 hoi (by kernel_rfl) (by kernel_rfl) (by kernel_rfl) (fun _ _ _ h => h) (by rfl) ?_ hS ?_
        rotate_left
        · intro w _; go_simp; try with_reducible rfl
        clear hoi; try simp only [Act.put, List.setIfInBounds_toArray, List.set_cons_zero, List.set_cons_succ]
        refine rg_at 6 (by decide) (fun oi hoi => ?_)
        have ho2 := hoi; simp only [List.getElem?_toArray, List.getElem?_cons_succ, List.getElem?_cons_zero, Option.some.injEq] at ho2; subst ho2
        refine rg_call 6 (by kernel_rfl) hoi (by rfl) (fun K hK => ?_)
        clear hoi
        go_simp
        refine Calls.mono (HVv.out _ hS) ?_
        rintro e w9 ⟨rfl, rfl⟩
        go_wp2_with (fail)
        refine hK.out _ _ ((by exact hS)) (fun hS => ?_)
        clear hK K
        try simp only [Act.put, List.setIfInBounds_toArray, List.set_cons_zero, List.set_cons_succ]
        refine rg_at 8 (by decide) (fun oi hoi => ?_)
        have ho2 := hoi; simp only [List.getElem?_toArray, List.getElem?_cons_succ, List.getElem?_cons_zero, Option.some.injEq] at ho2; subst ho2
        refine rg_take (v := ?_) 8 hoi (by kernel_rfl) (by kernel_rfl) (by kernel_rfl) (fun _ _ _ h => h) (by rfl) ?_ hS ?_
        rotate_left
        · intro w _; go_simp; try with_reducible rfl
        clear hoi; try simp only [Act.put, List.setIfInBounds_toArray, List.set_cons_zero, List.set_cons_succ]
        refine rg_at 9 (by decide) (fun oi hoi => ?_)
        have ho2 := hoi; simp only [List.getElem?_toArray, List.getElem?_cons_succ, List.getElem?_cons_zero, Option.some.injEq] at ho2; subst ho2
        refine rg_take (v := ?_) 9 hoi (by kernel_rfl) (by kernel_rfl) (by kernel_rfl) (fun _ _ _ h => h) (by rfl) ?_ hS ?_
        rotate_left
        · intro w _; go_simp; try with_reducible rfl
        clear hoi; try simp only [Act.put, List.setIfInBounds_toArray, List.set_cons_zero, List.set_cons_succ]
        refine rg_at 10 (by decide) (fun oi hoi => ?_)
        have ho2 := hoi; simp only [List.getElem?_toArray, List.getElem?_cons_succ, List.getElem?_cons_zero, Option.some.injEq] at ho2; subst ho2
        refine rg_take (v := ?_) 10 hoi (by kernel_rfl) (by kernel_rfl) (by kernel_rfl) (fun _ _ _ h => h) (by rfl) ?_ hS ?_
        rotate_left
        · intro w _; go_simp; try with_reducible rfl
        clear hoi; try simp only [Act.put, List.setIfInBounds_toArray, List.set_cons_zero, List.set_cons_succ]
        refine rg_at 11 (by decide) (fun oi hoi => ?_)
        have ho2 := hoi; simp only [List.getElem?_toArray, List.getElem?_cons_succ, List.getElem?_cons_zero, Option.some.injEq] at ho2; subst ho2
        refine rg_take (v := ?_) 11 hoi (by kernel_rfl) (by kernel_rfl) (by kernel_rfl) (fun _ _ _ h => h) (by rfl) ?_ hS ?_
        rotate_left
        · intro w _; go_simp; try with_reducible rfl
        clear hoi; try simp only [Act.put, List.setIfInBounds_toArray, List.set_cons_zero, List.set_cons_succ]
        refine rg_at 12 (by decide) (fun oi hoi => ?_)
        have ho2 := hoi; simp only [List.getElem?_toArray, List.getElem?_cons_succ, List.getElem?_cons_zero, Option.some.injEq] at ho2; subst ho2
        refine rg_call 12 (by kernel_rfl) hoi (by rfl) (fun K hK => ?_)
        clear hoi
        go_simp
        refine Calls.mono (HEv.out _ hS) ?_
        rintro e w10 ⟨A10, c10, rfl, ho10, hu10⟩
        have hS10 := Upd.next hS hu10
        go_wp2_with (fail)
        refine hK.out _ _ ((by exact hS10)) (fun hS => ?_)
        clear hK K
        try simp only [Act.put, List.setIfInBounds_toArray, List.set_cons_zero, List.set_cons_succ]
        refine rg_at 13 (by decide) (fun oi hoi => ?_)
        have ho2 := hoi; simp only [List.getElem?_toArray, List.getElem?_cons_succ, List.getElem?_cons_zero, Option.some.injEq] at ho2; subst ho2
        refine rg_take (v := ?_) 13 hoi (by kernel_rfl) (by kernel_rfl) (by kernel_rfl) (fun _ _ _ h => h) (by rfl) ?_ hS ?_
        rotate_left
        · intro w _; go_simp; try with_reducible rfl
        clear hoi; try simp only [Act.put, List.setIfInBounds_toArray, List.set_cons_zero, List.set_cons_succ]
        refine rg_at 14 (by decide) (fun oi hoi => ?_)
        have ho2 := hoi; simp only [List.getElem?_toArray, List.getElem?_cons_succ, List.getElem?_cons_zero, Option.some.injEq] at ho2; subst ho2
        refine rg_take (v := ?_) 14 hoi (by kernel_rfl) (by kernel_rfl) (by kernel_rfl) (fun _ _ _ h => h) (by rfl) ?_ hS ?_
        rotate_left
        · intro w _; go_simp; try with_reducible rfl
        clear hoi; try simp only [Act.put, List.setIfInBounds_toArray, List.set_cons_zero, List.set_cons_succ]
        refine rg_at 15 (by decide) (fun oi hoi => ?_)
        have ho2 := hoi; simp only [List.getElem?_toArray, List.getElem?_cons_succ, List.getElem?_cons_zero, Option.some.injEq] at ho2; subst ho2
        refine rg_take (v := ?_) 15 hoi (by kernel_rfl) (by kernel_rfl) (by kernel_rfl) (fun _ _ _ h => h) (by rfl) ?_ hS ?_
        rotate_left
        · intro w _; go_simp; try with_reducible rfl
        clear hoi; try simp only [Act.put, List.setIfInBounds_toArray, List.set_cons_zero, List.set_cons_succ]
        refine wpAnyH_done (by kernel_rfl) ?_ _
        have HOz := hid (HO7.out.quiet hS)
        have HBz := hid (And.intro (HB7.out.1.upd hS (no_ _)) HB7.out.2)
        clear hS hb7 HS HVv HEv hEq
        go_wp2
        go_roundw
        case rel => exact ⟨j + 1, F7, _, by omega, by go_num, by go_num, HOz, HBz, hid (by rw [HV7.out]; simp)⟩
        case measure => simp [intOf]; omega
    · obtain rfl : j = xs.length := by omega
      by_cases hgood : 0 ≤ wrong ∧ wrong ≤ 7
      · obtain ⟨hg1, hg2⟩ := hgood
        have HE := hid HO.out.bel
        go_wp2
        go_ret
        exact ⟨rfl, HE.out⟩
      · have hbad : (addS s [(1, 99), (wrong, 5)]) = (3, s) := by
          unfold addS
          rw [if_pos]
          refine List.any_eq_true.2 ⟨(wrong, 5), by simp, ?_⟩
          simp [bad]
          omega
        have hcase : (¬ 0 ≤ wrong) ∨ (0 ≤ wrong ∧ ¬ wrong ≤ 7) := by omega
        have HW : Hid (∃ w4, w4 = wr.alloc (.cells #[.int .i64 1, .int .i64 99, .int .i64 wrong, .int .i64 5] 33) ∧ Rd w4 2 (some ⟨wr.heap.size, 0, none⟩) [((1 : Int), (99 : Int)), (wrong, 5)].length (ecs [(1, 99), (wrong, 5)]) ∧ Upd No wr w4) :=
          hid ⟨_, rfl, Rd_lit wr 33 2 2 [.int .i64 1, .int .i64 99, .int .i64 wrong, .int .i64 5] rfl, (Upd.refl _ _).alloc _⟩
        have hA := fun (W : World) A (h1 : Jd W F p s) (h2 : Rd W 2 A [((1 : Int), (99 : Int)), (wrong, 5)].length (ecs [(1, 99), (wrong, 5)])) => add (c := 2) h1 HO.out.ok HO.out.le h2 (by simp)
        unfold AddOut at hA
        rw [hbad] at hA
        have HA := hid hA
        clear hA hbad hgood
        rcases hcase with hc | ⟨hc, hc'⟩
        all_goals
          go_wp2_with (fail)
          obtain ⟨w4, hw4, hR4, hu4⟩ := HW.out
          rw [← hw4]
          have HU4 := hid hu4
          refine Calls.mono (HA.out w4 _ (HO.out.quiet hu4).jd hR4) ?_
          rintro e w5 ⟨rfl, F5, h5, hm5⟩
          have HO5 := hid ((HO.out.quiet HU4.out).moved h5 hm5 HO.out.ok HO.out.le)
          have hb5 := (HB.out.1.upd HU4.out (no_ _)).upd hm5.upd HB.out.2
          clear hw4 hR4 hu4 h5 hm5
          have hS := fun W (hu : Upd No w5 W) => state (HO5.out.quiet hu).jd HO5.out.ok
          have hV := fun W (hu : Upd No w5 W) => version (HO5.out.quiet hu).jd
          rw [show sts s.1 s.2.1 = fullS s from rfl] at hS
          rw [HV.out] at hV
          unfold arr at hS
          have HS := hid hS
          have HVv := hid hV
          have hEq := fun w => eq_arr (fullS s) w
          unfold arr at hEq
          clear hS hV
          go_wp2_with (fail)
          refine wp_region_held_drew (S := fun W => Upd No w5 W) (by kernel_rfl) (Upd.refl No w5).drew (fun hS => ?_)
          refine rg_at 0 (by decide) (fun oi hoi => ?_)
          have ho2 := hoi; simp only [List.getElem?_toArray, List.getElem?_cons_succ, List.getElem?_cons_zero, Option.some.injEq] at ho2; subst ho2
          refine rg_take (v := ?_) 0 hoi (by kernel_rfl) (by kernel_rfl) (by kernel_rfl) (fun _ _ _ h => h) (by rfl) ?_ hS ?_
          rotate_left
          · intro w _; go_simp; try with_reducible rfl
          clear hoi; try simp only [Act.put, List.setIfInBounds_toArray, List.set_cons_zero, List.set_cons_succ]
          refine rg_at 1 (by decide) (fun oi hoi => ?_)
          have ho2 := hoi; simp only [List.getElem?_toArray, List.getElem?_cons_succ, List.getElem?_cons_zero, Option.some.injEq] at ho2; subst ho2
          refine rg_take (v := ?_) 1 hoi (by kernel_rfl) (by kernel_rfl) (by kernel_rfl) (fun _ _ _ h => h) (by rfl) ?_ hS ?_
          rotate_left
          · intro w _; go_simp; try with_reducible rfl
          clear hoi; try simp only [Act.put, List.setIfInBounds_toArray, List.set_cons_zero, List.set_cons_succ]
          refine rg_at 2 (by decide) (fun oi hoi => ?_)
          have ho2 := hoi; simp only [List.getElem?_toArray, List.getElem?_cons_succ, List.getElem?_cons_zero, Option.some.injEq] at ho2; subst ho2
          refine rg_take (v := ?_) 2 hoi (by kernel_rfl) (by kernel_rfl) (by kernel_rfl) (fun _ _ _ h => h) (by rfl) ?_ hS ?_
          rotate_left
          · intro w _; go_simp; try with_reducible rfl
          clear hoi; try simp only [Act.put, List.setIfInBounds_toArray, List.set_cons_zero, List.set_cons_succ]
          refine rg_at 3 (by decide) (fun oi hoi => ?_)
          have ho2 := hoi; simp only [List.getElem?_toArray, List.getElem?_cons_succ, List.getElem?_cons_zero, Option.some.injEq] at ho2; subst ho2
          refine rg_take (v := ?_) 3 hoi (by kernel_rfl) (by kernel_rfl) (by kernel_rfl) (fun _ _ _ h => h) (by rfl) ?_ hS ?_
          rotate_left
          · intro w _; go_simp; try with_reducible rfl
          clear hoi; try simp only [Act.put, List.setIfInBounds_toArray, List.set_cons_zero, List.set_cons_succ]
          refine rg_at 5 (by decide) (fun oi hoi => ?_)
          have ho2 := hoi; simp only [List.getElem?_toArray, List.getElem?_cons_succ, List.getElem?_cons_zero, Option.some.injEq] at ho2; subst ho2
          refine rg_take (v := ?_) 5 hoi (by kernel_rfl) (by kernel_rfl) (by kernel_rfl) (fun _ _ _ h => h) (by rfl) ?_ hS ?_
          rotate_left
          · intro w hw; have hf := abox (hb5.upd hw (no_ _)); clear hw; go_simp; try with_reducible rfl
          clear hoi; try simp only [Act.put, List.setIfInBounds_toArray, List.set_cons_zero, List.set_cons_succ]
          refine rg_at 4 (by decide) (fun oi hoi => ?_)
          have ho2 := hoi; simp only [List.getElem?_toArray, List.getElem?_cons_succ, List.getElem?_cons_zero, Option.some.injEq] at ho2; subst ho2
          refine rg_call 4 (by kernel_rfl) hoi (by rfl) (fun K hK => ?_)
          clear hoi
          go_simp
          refine Calls.mono (HS.out _ hS) ?_
          rintro e w8 ⟨rfl, hu8⟩
          have hS8 := Upd.next hS hu8
          go_wp2_with (fail)
          refine hK.out _ _ ((by exact hS8)) (fun hS => ?_)
          clear hK K
          try simp only [Act.put, List.setIfInBounds_toArray, List.set_cons_zero, List.set_cons_succ]
          refine rg_at 6 (by decide) (fun oi hoi => ?_)
          have ho2 := hoi; simp only [List.getElem?_toArray, List.getElem?_cons_succ, List.getElem?_cons_zero, Option.some.injEq] at ho2; subst ho2
          refine rg_take (v := ?_) 6 hoi (by kernel_rfl) (by kernel_rfl) (by kernel_rfl) (fun _ _ _ h => h) (by rfl) ?_ hS ?_
          rotate_left
          · intro w _; go_simp; try with_reducible rfl
          clear hoi; try simp only [Act.put, List.setIfInBounds_toArray, List.set_cons_zero, List.set_cons_succ]
          refine rg_at 7 (by decide) (fun oi hoi => ?_)
          have ho2 := hoi; simp only [List.getElem?_toArray, List.getElem?_cons_succ, List.getElem?_cons_zero, Option.some.injEq] at ho2; subst ho2
          refine rg_take (v := ?_) 7 hoi (by kernel_rfl) (by kernel_rfl) (by kernel_rfl) (fun _ _ _ h => h) (by rfl) ?_ hS ?_
          rotate_left
          · intro w _; go_simp; try with_reducible rfl
          clear hoi; try simp only [Act.put, List.setIfInBounds_toArray, List.set_cons_zero, List.set_cons_succ]
          refine rg_at 8 (by decide) (fun oi hoi => ?_)
          have ho2 := hoi; simp only [List.getElem?_toArray, List.getElem?_cons_succ, List.getElem?_cons_zero, Option.some.injEq] at ho2; subst ho2
          refine rg_take (v := ?_) 8 hoi (by kernel_rfl) (by kernel_rfl) (by kernel_rfl) (fun _ _ _ h => h) (by rfl) ?_ hS ?_
          rotate_left
          · intro w _; go_simp; try with_reducible rfl
          clear hoi; try simp only [Act.put, List.setIfInBounds_toArray, List.set_cons_zero, List.set_cons_succ]
          refine rg_at 9 (by decide) (fun oi hoi => ?_)
          have ho2 := hoi; simp only [List.getElem?_toArray, List.getElem?_cons_succ, List.getElem?_cons_zero, Option.some.injEq] at ho2; subst ho2
          refine rg_take (v := ?_) 9 hoi (by kernel_rfl) (by kernel_rfl) (by kernel_rfl) (fun _ _ _ h => h) (by rfl) ?_ hS ?_
          rotate_left
          · intro w _; go_simp; try with_reducible rfl
          clear hoi; try simp only [Act.put, List.setIfInBounds_toArray, List.set_cons_zero, List.set_cons_succ]
          refine rg_at 11 (by decide) (fun oi hoi => ?_)
          have ho2 := hoi; simp only [List.getElem?_toArray, List.getElem?_cons_succ, List.getElem?_cons_zero, Option.some.injEq] at ho2; subst ho2
          refine rg_take (v := ?_) 11 hoi (by kernel_rfl) (by kernel_rfl) (by kernel_rfl) (fun _ _ _ h => h) (by rfl) ?_ hS ?_
          rotate_left
          · intro w _; go_simp; try with_reducible rfl
          clear hoi; try simp only [Act.put, List.setIfInBounds_toArray, List.set_cons_zero, List.set_cons_succ]
          refine rg_at 10 (by decide) (fun oi hoi => ?_)
          have ho2 := hoi; simp only [List.getElem?_toArray, List.getElem?_cons_succ, List.getElem?_cons_zero, Option.some.injEq] at ho2; subst ho2
          refine rg_call 10 (by kernel_rfl) hoi (by rfl) (fun K hK => ?_)
          clear hoi
          go_simp
          refine Calls.mono (HVv.out _ hS) ?_
          rintro e w9 ⟨rfl, rfl⟩
          go_wp2_with (fail)
          refine hK.out _ _ ((by exact hS)) (fun hS => ?_)
          clear hK K
          try simp only [Act.put, List.setIfInBounds_toArray, List.set_cons_zero, List.set_cons_succ]
          refine rg_at 12 (by decide) (fun oi hoi => ?_)
          have ho2 := hoi; simp only [List.getElem?_toArray, List.getElem?_cons_succ, List.getElem?_cons_zero, Option.some.injEq] at ho2; subst ho2
          refine rg_take (v := ?_) 12 hoi (by kernel_rfl) (by kernel_rfl) (by kernel_rfl) (fun _ _ _ h => h) (by rfl) ?_ hS ?_
          rotate_left
          · intro w _; go_simp; try with_reducible rfl
          clear hoi; try simp only [Act.put, List.setIfInBounds_toArray, List.set_cons_zero, List.set_cons_succ]
          refine rg_at 13 (by decide) (fun oi hoi => ?_)
          have ho2 := hoi; simp only [List.getElem?_toArray, List.getElem?_cons_succ, List.getElem?_cons_zero, Option.some.injEq] at ho2; subst ho2
          refine rg_take (v := ?_) 13 hoi (by kernel_rfl) (by kernel_rfl) (by kernel_rfl) (fun _ _ _ h => h) (by rfl) ?_ hS ?_
          rotate_left
          · intro w _; go_simp; try with_reducible rfl
          clear hoi; try simp only [Act.put, List.setIfInBounds_toArray, List.set_cons_zero, List.set_cons_succ]
          refine rg_at 14 (by decide) (fun oi hoi => ?_)
          have ho2 := hoi; simp only [List.getElem?_toArray, List.getElem?_cons_succ, List.getElem?_cons_zero, Option.some.injEq] at ho2; subst ho2
          refine rg_call 14 (by kernel_rfl) hoi (by rfl) (fun K hK => ?_)
          clear hoi
          skip
          go_simp
          refine hK.out _ _ ((by exact hS)) (fun hS => ?_)
          clear hK K
          try simp only [Act.put, List.setIfInBounds_toArray, List.set_cons_zero, List.set_cons_succ]
          refine wpAnyH_done (by kernel_rfl) ?_ _
          have HE := hid (HO5.out.quiet hS).bel
          clear hS hb5 HS HVv hEq
          go_wp2
          go_ret
          exact ⟨rfl, HE.out⟩
end Go.Proofs.Ytjhmmffejfomkaa.Jn
