/-
  Nil journals; the walk of JournalNil.
-/
import Derived.Test.YtjhmmffejfomkaaJs
set_option linter.unusedVariables false
set_option linter.unusedSimpArgs false
namespace Go.Proofs.Ytjhmmffejfomkaa.Jn
open Go.RowKit Go.Proofs.Ytjhmmffejfomkaa Go.Proofs.Ytjhmmffejfomkaa.B Go.Proofs.Ytjhmmffejfomkaa.Op
set_option maxHeartbeats 1000000
theorem nil_add (w : World) : Calls Try.prog 10 #[.pointer none, .slice none 0 0] w fun e w' => e = .returned (.int .i64 1) ∧ w = w' := by
  go_enter Try.func10, Try.ntmps10
  go_wp2
  go_ret
  exact ⟨rfl, rfl⟩
theorem nil_state (w : World) : Calls Try.prog 12 #[.pointer none] w fun e w' => e = .returned (.agg #[.int .i64 0, .int .i64 0, .int .i64 0, .int .i64 0, .int .i64 0, .int .i64 0, .int .i64 0, .int .i64 0]) ∧ Upd No w w' := by
  go_enter Try.func12, Try.ntmps12
  go_wp2_with (fail)
  exact bodyPost_ret (v := .agg #[.int .i64 0, .int .i64 0, .int .i64 0, .int .i64 0, .int .i64 0, .int .i64 0, .int .i64 0, .int .i64 0]) (by simp [results, go_sem]) rfl ⟨rfl, (Upd.refl _ _).alloc _⟩
theorem nil_base (w : World) : Calls Try.prog 21 #[.pointer none] w fun e w' => e = .returned (.agg #[.int .i64 0, .int .i64 0, .int .i64 0, .int .i64 0, .int .i64 0, .int .i64 0, .int .i64 0, .int .i64 0]) ∧ Upd No w w' := by
  go_enter Try.func21, Try.ntmps21
  go_wp2_with (fail)
  exact bodyPost_ret (v := .agg #[.int .i64 0, .int .i64 0, .int .i64 0, .int .i64 0, .int .i64 0, .int .i64 0, .int .i64 0, .int .i64 0]) (by simp [results, go_sem]) rfl ⟨rfl, (Upd.refl _ _).alloc _⟩
theorem nil_events (w : World) : Calls Try.prog 14 #[.pointer none] w fun e w' => e = .returned (.slice none 0 0) ∧ w = w' := by
  go_enter Try.func14, Try.ntmps14
  go_wp2
  go_ret
  exact ⟨rfl, rfl⟩
theorem nil_version (w : World) : Calls Try.prog 13 #[.pointer none] w fun e w' => e = .returned (.int .u64 0) ∧ w = w' := by
  go_enter Try.func13, Try.ntmps13
  go_wp2
  go_ret
  exact ⟨rfl, rfl⟩
theorem nil_fold (w : World) : Calls Try.prog 11 #[.pointer none] w fun e w' => e = .returned (.int .i64 0) ∧ w = w' := by
  go_enter Try.func11, Try.ntmps11
  go_wp2
  go_ret
  exact ⟨rfl, rfl⟩
theorem nil_encode (w : World) : Calls Try.prog 20 #[.pointer none] w fun e w' => e = .returned (.slice none 0 0) ∧ w = w' := by
  go_enter Try.func20, Try.ntmps20
  go_wp2
  go_ret
  exact ⟨rfl, rfl⟩
set_option maxHeartbeats 4000000 in
set_option maxRecDepth 100000 in
theorem law_nil (x : Int) (w : World) (hx : -9223372036854775808 ≤ x ∧ x ≤ 9223372036854775807) :
    Calls Try.prog 6 #[.int .i64 x] w fun e w' => e = .returned (.bool true) ∧ Below w.heap.size w w' := by
  have E1 : Hid (addS s0 [(2, x)] = (0, ([0, 0, 0, 0, 0, 0, 0, 0], [(2, x)], 1)) ∧ arr (sts [0, 0, 0, 0, 0, 0, 0, 0] [(2, x)]) = #[.int .i64 0, .int .i64 0, .int .i64 x, .int .i64 0, .int .i64 0, .int .i64 0, .int .i64 0, .int .i64 0]) := hid ⟨by rfl, rfl⟩
  have hidx : ∀ w, (Instr.index 27 (.agg #[.int .i64 0, .int .i64 0, .int .i64 x, .int .i64 0, .int .i64 0, .int .i64 0, .int .i64 0, .int .i64 0]) (.int .i64 2)).run Try.prog w = .ok (.int .i64 x) w := fun _ => by kernel_rfl
  have hEq : ∀ w, (Op.equalIn 10000 27 (.agg #[.int .i64 0, .int .i64 0, .int .i64 0, .int .i64 0, .int .i64 0, .int .i64 0, .int .i64 0, .int .i64 0]) (.agg #[.int .i64 0, .int .i64 0, .int .i64 0, .int .i64 0, .int .i64 0, .int .i64 0, .int .i64 0, .int .i64 0])).run Try.prog w = .ok true w := fun w => eq_arr s0.1 w
  go_enter Try.func6, Try.ntmps6
  go_wp2_with (fail)
  refine Calls.mono (awake w) ?_
  rintro e w0 ⟨rfl, hb0⟩
  have HB0 := hid hb0
  clear hb0
  go_wp2_with (fail)
  refine Calls.mono (new2 w w0 HB0.out) ?_
  rintro e w1 ⟨rfl, hO1, _⟩
  have HO1 := hid hO1
  clear hO1
  have hA := add (c := 1) (l := [(2, x)]) ((HO1.out.quiet ((Upd.refl No w1).alloc (.cells #[.int .i64 2, .int .i64 x] 33))).jd) HO1.out.ok HO1.out.le (Rd_lit2 w1 _ (2, x)) (by simp)
  unfold AddOut at hA
  have hok := addS_ok (l := [(2, x)]) HO1.out.ok HO1.out.le
  rw [E1.out.1] at hA hok
  have HA := hid hA
  have HK := hid hok
  clear hA hok
  go_wp2_with (fail)
  refine Calls.mono HA.out ?_
  rintro e w2 ⟨rfl, F2, hw2, hm2⟩
  have HO2 := hid ((HO1.out.quiet ((Upd.refl No w1).alloc (.cells #[.int .i64 2, .int .i64 x] 33))).moved hw2 hm2 HK.out.1 HK.out.2)
  clear hw2 hm2 HA
  have hE := events HO2.out.jd (by simp)
  unfold RowOut at hE
  have HE := hid hE
  clear hE
  go_wp2_with (fail)
  refine Calls.mono HE.out ?_
  rintro e w3 ⟨A3, c3, rfl, ho3, hu3⟩
  have hs3 := Sl.of_own ho3
  obtain ⟨g, off, rfl, d0, d1, hgw⟩ := ev_at (es := [(2, x)]) (hs3.base_ (Nat.zero_le _)) (j := 0) (Nat.zero_lt_succ _)
  simp only [List.getElem_cons_zero, Nat.zero_mul, Nat.add_zero] at d0 d1
  have hgb := (hs3.lt g rfl).1
  obtain ⟨cs, hbg⟩ := hs3.blk (k := g) rfl
  have f1 := hbg.free (off + 1)
  have HO3 : Hid (∀ u, On w (w3.setCell ⟨g, off + 1, none⟩ u) F2 w0.heap.size ([0, 0, 0, 0, 0, 0, 0, 0], [(2, x)], 1)) := hid fun u => by
    have h3 := HO2.out.quiet hu3
    have hu : Upd (fun k => k = g) w3 (w3.setCell ⟨g, off + 1, none⟩ u) := (Upd.refl _ _).set1 _ u
    have hgs := HO2.out.bel.size
    refine h3.upd hu (h3.bel.trans (hu.below h3.bel.size fun k hk => by omega)) fun k hk e => ?_
    have := HO2.out.jd.lt k hk
    omega
  have hlen : ([(2, x)] : List Ev).length = 1 := rfl
  simp only [hlen]
  clear ho3 hu3 hs3 hbg HE HK
  go_wp2_with (fail)
  have HO4 := hid (HO3.out (.int .i64 (wrap64 (x + 1))))
  generalize w3.setCell ⟨g, off + 1, none⟩ (.int .i64 (wrap64 (x + 1))) = w4 at *
  clear HO3 d0 d1 f1 hgw hgb
  refine Calls.mono (nil_add w4) ?_
  rintro e w5 ⟨rfl, rfl⟩
  go_wp2_with (fail)
  refine Calls.mono (nil_state w4) ?_
  rintro e w5 ⟨rfl, hu5⟩
  have HO5 := hid (HO4.out.quiet hu5)
  clear hu5
  go_wp2_with (fail)
  refine Calls.mono (nil_base w5) ?_
  rintro e w6 ⟨rfl, hu6⟩
  have HO6 := hid (HO5.out.quiet hu6)
  clear hu6
  go_wp2_with (fail)
  refine Calls.mono (nil_events w6) ?_
  rintro e w7 ⟨rfl, rfl⟩
  go_wp2_with (fail)
  refine Calls.mono (nil_version w6) ?_
  rintro e w7 ⟨rfl, rfl⟩
  go_wp2_with (fail)
  refine Calls.mono (nil_fold w6) ?_
  rintro e w7 ⟨rfl, rfl⟩
  go_wp2_with (fail)
  refine Calls.mono (nil_encode w6) ?_
  rintro e w7 ⟨rfl, rfl⟩
  have hE := events HO6.out.jd (by simp)
  unfold RowOut at hE
  have HE := hid hE
  clear hE
  go_wp2_with (fail)
  refine Calls.mono HE.out ?_
  rintro e w7 ⟨A7, c7, rfl, ho7, hu7⟩
  have hs7 := Sl.of_own ho7
  obtain ⟨g7, off7, rfl, d0, d1, hgw⟩ := ev_at (es := [(2, x)]) (hs7.base_ (Nat.zero_le _)) (j := 0) (Nat.zero_lt_succ _)
  simp only [List.getElem_cons_zero, Nat.zero_mul, Nat.add_zero] at d0 d1
  have HO7 := hid (HO6.out.quiet hu7)
  have hS := state HO7.out.jd HO7.out.ok
  simp only [E1.out.2] at hS
  have HS := hid hS
  simp only [hlen]
  clear hS ho7 hu7 hs7 HE
  go_wp2_with (fail)
  refine Calls.mono HS.out ?_
  rintro e w8 ⟨rfl, hu8⟩
  have HO8 := hid (HO7.out.quiet hu8)
  clear hu8
  go_wp2
  go_ret
  exact ⟨rfl, HO8.out.bel⟩
end Go.Proofs.Ytjhmmffejfomkaa.Jn
