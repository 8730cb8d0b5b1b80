/-
  The walk of WindowNil.
-/
import Derived.Test.YtogijfgfcdmbnaaWo
set_option linter.unusedVariables false
set_option linter.unusedSimpArgs false
namespace Go.Proofs.Ytogijfgfcdmbnaa.Ww
open Go.RowKit Go.Proofs.Ytogijfgfcdmbnaa Go.Proofs.Ytogijfgfcdmbnaa.B Go.Proofs.Ytogijfgfcdmbnaa.Df Go.Proofs.Ytogijfgfcdmbnaa.Ws Go.Proofs.Ytogijfgfcdmbnaa.Mp Go.Proofs.Ytogijfgfcdmbnaa.Wp
theorem n_seen (c s : Int) (w : World) : Calls Try.prog 12 #[.pointer none, .int .u64 c, .int .u64 s] w fun e w' => e = .returned (.bool false) ∧ w = w' := by
  go_enter Try.func12, Try.ntmps12
  go_wp2
  go_ret
  exact ⟨rfl, rfl⟩
theorem n_add (c s : Int) (w : World) : Calls Try.prog 11 #[.pointer none, .int .u64 c, .int .u64 s] w fun e w' => e = .returned (.bool false) ∧ Upd No w w' := by
  have hu1 : Upd No w (w.alloc (.cells #[.int .u64 c] 22)) := (Upd.refl _ _).alloc _
  go_enter Try.func11, Try.ntmps11
  go_wp2
  go_ret
  exact ⟨rfl, hu1⟩
theorem n_serials (c : Int) (w : World) : Calls Try.prog 13 #[.pointer none, .int .u64 c] w fun e w' => e = .returned (.slice none 0 0) ∧ w = w' := by
  go_enter Try.func13, Try.ntmps13
  go_wp2
  go_ret
  exact ⟨rfl, rfl⟩
theorem n_clients (w : World) : Calls Try.prog 19 #[.pointer none] w fun e w' => e = .returned (.slice none 0 0) ∧ w = w' := by
  go_enter Try.func19, Try.ntmps19
  go_wp2
  go_ret
  exact ⟨rfl, rfl⟩
theorem n_encode (w : World) : Calls Try.prog 20 #[.pointer none] w fun e w' => e = .returned (.slice none 0 0) ∧ w = w' := by
  go_enter Try.func20, Try.ntmps20
  go_wp2
  go_ret
  exact ⟨rfl, rfl⟩
theorem add_one (c s : Int) : addX [] c s = (true, [(c, [s])]) := by simp [addX, sr, laid, rest, cut4, cut64]
set_option maxHeartbeats 2000000 in
theorem law_nil (c s : Int) (w : World) (hc : Wp.Key c) (hs : Wp.Key s) :
    Calls Try.prog 7 #[.int .u64 c, .int .u64 s] w fun e w' => e = .returned (.bool true) ∧ Below w.heap.size w w' := by
  go_enter Try.func7, Try.ntmps7
  go_wp2_with (fail)
  refine Calls.mono (awake w) ?_
  rintro e w1 ⟨rfl, hb1⟩
  have HB1 := hid hb1
  clear hb1
  go_wp2_with (fail)
  refine Calls.mono (new2 w w1 HB1.out) ?_
  rintro e w2 ⟨rfl, hO2, _⟩
  have HO2 := hid hO2
  clear hO2
  obtain ⟨p, hp⟩ : ∃ p, p = w1.heap.size := ⟨_, rfl⟩
  rw [← hp] at HO2 ⊢
  clear hp
  have HA := hid (add c s HO2.out.wd hc hs Ok.nil (by omega))
  rw [add_one] at HA
  have HKk := hid (Ok.nil.add hc hs)
  rw [add_one] at HKk
  go_wp2_with (fail)
  refine Calls.mono HA.out ?_
  rintro e w3 ⟨rfl, F3, hw3, hm3⟩
  have HO3 := hid (HO2.out.moved hw3 hm3 HKk.out)
  have HL := hid (HO3.out.wd.lt)
  clear hw3 hm3 HA
  have HS := hid (serials c HO3.out.wd hc (by simp [sr]))
  simp only [sr, if_true] at HS
  go_wp2_with (fail)
  refine Calls.mono HS.out ?_
  rintro e w4 ⟨A4, c4, rfl, ho4, hu4⟩
  obtain ⟨g4, _, hv4, _, hl4⟩ := ho4.form (by simp)
  simp only [Value.slice.injEq, true_and] at hv4
  obtain ⟨rfl, rfl⟩ := hv4
  have HO4 := hid (HO3.out.quiet hu4)
  have HC := hid (clients HO4.out.wd (by simp))
  rw [show ks [(c, [s])] = [c] from rfl] at HC
  have HR4 := hid ho4
  have hz4 := hu4.size
  clear ho4 hu4
  go_wp2_with (fail)
  refine Calls.mono HC.out ?_
  rintro e w5 ⟨A5, c5, rfl, ho5, hu5⟩
  obtain ⟨g5, _, hv5, hb5, hl5⟩ := ho5.form (by simp)
  simp only [Value.slice.injEq, true_and] at hv5
  obtain ⟨rfl, rfl⟩ := hv5
  have HO5 := hid (HO4.out.quiet hu5)
  have hb4 := (HR4.out.lt g4 rfl).1
  have hw5z := hu5.size
  obtain ⟨cs4, hB4⟩ := own_blk (own_upd HR4.out hu5 (fun g _ => no_ g)) (k := g4) rfl
  obtain ⟨cs5, hB5⟩ := own_blk ho5 (k := g5) rfl
  have h4c := (own_upd HR4.out hu5 (fun g _ => no_ g)).cells (g := g4) rfl 0 (.int .u64 s) rfl
  have h5c := ho5.cells (g := g5) rfl 0 (.int .u64 c) rfl
  rw [add_plain] at h4c h5c
  have f4 := hB4.free 0
  have f5 := hB5.free 0
  have hgl := (ho5.lt g5 rfl).1
  have hne : g5 ≠ g4 := by have := (HR4.out.lt g4 rfl).2; omega
  have e5 : (w5.setCell ⟨g4, 0, none⟩ (.int .u64 (IntKind.u64.wrap (s + 1)))).cell? ⟨g5, 0, none⟩ = some (.int .u64 c) := (((Upd.refl (fun k => k = g4) w5).set1 0 _).cell (p := ⟨g5, 0, none⟩) hB5.lt hne).trans h5c
  have e6 := (hB5.far (p := ⟨g4, 0, none⟩) hne (.int .u64 (IntKind.u64.wrap (s + 1)))).free 0
  have HO7 : Hid (On w ((w5.setCell ⟨g4, 0, none⟩ (.int .u64 (IntKind.u64.wrap (s + 1)))).setCell ⟨g5, 0, none⟩ (.int .u64 (IntKind.u64.wrap (c + 1)))) F3 p 1 [(c, [s])]) := by
    have hu : Upd (fun k => k = g4 ∨ k = g5) w5 ((w5.setCell ⟨g4, 0, none⟩ (.int .u64 (IntKind.u64.wrap (s + 1)))).setCell ⟨g5, 0, none⟩ (.int .u64 (IntKind.u64.wrap (c + 1)))) :=
      ((Upd.refl _ _).set (p := ⟨g4, 0, none⟩) (.inl (.inl rfl)) _).set (p := ⟨g5, 0, none⟩) (.inl (.inr rfl)) _
    have hwz := HO3.out.bel.size
    exact hid (HO5.out.upd hu (HO5.out.bel.trans (hu.below HO5.out.bel.size fun k hk => by omega)) fun k hk h => by have := HL.out k hk; omega)
  clear ho5 hu5 hB4 hB5
  go_wp2_with (fail)
  generalize (w5.setCell ⟨g4, 0, none⟩ (.int .u64 (IntKind.u64.wrap (s + 1)))).setCell ⟨g5, 0, none⟩ (.int .u64 (IntKind.u64.wrap (c + 1))) = w7 at *
  clear h4c h5c f4 f5 e5 e6
  refine Calls.mono (n_seen c s w7) ?_
  rintro e w8 ⟨rfl, rfl⟩
  go_wp2_with (fail)
  refine Calls.mono (n_add c s w7) ?_
  rintro e w8 ⟨rfl, hu8⟩
  have HO8 := hid (HO7.out.quiet hu8)
  clear hu8
  go_wp2_with (fail)
  refine Calls.mono (n_serials c w8) ?_
  rintro e w9 ⟨rfl, rfl⟩
  go_wp2_with (fail)
  refine Calls.mono (n_clients w8) ?_
  rintro e w9 ⟨rfl, rfl⟩
  go_wp2_with (fail)
  refine Calls.mono (n_encode w8) ?_
  rintro e w9 ⟨rfl, rfl⟩
  have HSn := hid (seen c s HO8.out.wd hc)
  rw [show decide (s ∈ sr [(c, [s])] c) = true from by simp [sr]] at HSn
  go_wp2_with (fail)
  refine Calls.mono HSn.out ?_
  rintro e w9 ⟨rfl, rfl⟩
  go_wp2_with (fail)
  have HC8 := clients HO8.out.wd (by simp)
  rw [show ks [(c, [s])] = [c] from rfl] at HC8
  refine Calls.mono HC8 ?_
  rintro e w9 ⟨A9, c9, rfl, ho9, hu9⟩
  obtain ⟨g9, _, hv9, _, hl9⟩ := ho9.form (by simp)
  simp only [Value.slice.injEq, true_and] at hv9
  obtain ⟨rfl, rfl⟩ := hv9
  have h9c := ho9.cells (g := g9) rfl 0 (.int .u64 c) rfl
  rw [add_plain] at h9c
  have HE := hid (HO8.out.quiet hu9).bel
  clear ho9 hu9
  go_wp2
  go_ret
  exact ⟨rfl, HE.out⟩
end Go.Proofs.Ytogijfgfcdmbnaa.Ww
