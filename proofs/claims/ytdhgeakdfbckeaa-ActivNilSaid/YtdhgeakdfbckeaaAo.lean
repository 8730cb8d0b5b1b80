/-
  The walk of ActivNil.
-/
import Derived.Test.YtdhgeakdfbckeaaAl
set_option linter.unusedVariables false
set_option linter.unusedSimpArgs false
namespace Go.Proofs.Ytdhgeakdfbckeaa.At
open Go.RowKit Go.Proofs.Ytdhgeakdfbckeaa Go.Proofs.Ytdhgeakdfbckeaa.B Go.Proofs.Ytdhgeakdfbckeaa.Df Go.Proofs.Ytdhgeakdfbckeaa.Op
theorem n_touch (k : ByteArray) (w : World) : Calls Try.prog 10 #[.pointer none, .string k] w fun e w' => e = .returned (.tuple #[.string ⟨#[]⟩, .bool false]) ∧ w = w' := by
  go_enter Try.func10, Try.ntmps10
  go_wp2
  go_ret2
  exact ⟨rfl, rfl⟩
theorem n_has (k : ByteArray) (w : World) : Calls Try.prog 14 #[.pointer none, .string k] w fun e w' => e = .returned (.bool false) ∧ w = w' := by
  go_enter Try.func14, Try.ntmps14
  go_wp2
  go_ret
  exact ⟨rfl, rfl⟩
theorem n_drop (k : ByteArray) (w : World) : Calls Try.prog 12 #[.pointer none, .string k] w fun e w' => e = .returned (.bool false) ∧ Upd No w w' := by
  have hu1 : Upd No w (w.alloc (.cells #[.string k] 9)) := (Upd.refl _ _).alloc _
  have e1 := box1 (Blk.fresh w 9 #[.string k])
  go_enter Try.func12, Try.ntmps12
  go_wp2_with (fail)
  refine Calls.mono (n_has k _) ?_
  rintro e w' ⟨rfl, rfl⟩
  go_wp2
  go_ret
  exact ⟨rfl, hu1⟩
theorem n_list (w : World) : Calls Try.prog 17 #[.pointer none] w fun e w' => e = .returned (.slice none 0 0) ∧ w = w' := by
  go_enter Try.func17, Try.ntmps17
  go_wp2
  go_ret
  exact ⟨rfl, rfl⟩
theorem n_most (w : World) : Calls Try.prog 18 #[.pointer none] w fun e w' => e = .returned (.int .i64 0) ∧ w = w' := by
  go_enter Try.func18, Try.ntmps18
  go_wp2
  go_ret
  exact ⟨rfl, rfl⟩
theorem touch_one (k : ByteArray) : touchX [] (mst 3) k = ([k], ⟨#[]⟩, false) := by
  unfold touchX
  rw [if_pos (by simp [laidk, strike, mst])]
  rfl
set_option maxHeartbeats 2000000 in
theorem law_nil (k : ByteArray) (w : World) (hk : k.size ≤ 140737488351232) :
    Calls Try.prog 5 #[.string k] w fun e w' => e = .returned (.bool true) ∧ Below w.heap.size w w' := by
  have HN := hid fun W (hb : Below w.heap.size w W) => new2 3 w W hb
  rw [show clip 3 = 3 from by decide] at HN
  go_enter Try.func5, Try.ntmps5
  go_wp2_with (fail)
  refine Calls.mono (awake w) ?_
  rintro e w1 ⟨rfl, hb1⟩
  have HB1 := hid hb1
  clear hb1
  go_wp2_with (fail)
  refine Calls.mono (n_touch k w1) ?_
  rintro e w2 ⟨rfl, rfl⟩
  go_wp2_with (fail)
  refine Calls.mono (HN.out w1 HB1.out) ?_
  rintro e w2 ⟨rfl, hO2, _⟩
  have HO2 := hid hO2
  clear hO2
  obtain ⟨p, hp⟩ : ∃ p, p = w1.heap.size := ⟨_, rfl⟩
  rw [← hp] at HO2 ⊢
  clear hp
  have HT := hid (touch k HO2.out.ta (by simp))
  rw [touch_one] at HT
  go_wp2_with (fail)
  refine Calls.mono HT.out ?_
  rintro e w3 ⟨rfl, F3, hw3, hm3⟩
  have HO3 := hid (HO2.out.moved hw3 hm3 (by simp))
  have HL := hid HO3.out.ta.lt
  clear hw3 hm3 HT
  go_wp2_with (fail)
  refine Calls.mono (list_ HO3.out.ta (by simp)) ?_
  rintro e w4 ⟨A4, c4, rfl, ho4, hu4⟩
  obtain ⟨g4, _, hv4, hb4, hl4⟩ := ho4.form (by simp)
  simp only [Value.slice.injEq, true_and] at hv4
  obtain ⟨rfl, rfl⟩ := hv4
  have HO4 := hid (HO3.out.quiet hu4)
  obtain ⟨cs4, hB4⟩ := own_blk ho4 (k := g4) rfl
  have h4c := ho4.cells (g := g4) rfl 0 (.string k) rfl
  rw [add_plain] at h4c
  have f4 := hB4.free 0
  have hgl := (ho4.lt g4 rfl).1
  have HU : Hid (∀ u, On w (w4.setCell ⟨g4, 0, none⟩ u) F3 p 3 [k]) := hid fun u => by
    have hwz := HO3.out.bel.size
    have hu : Upd (fun k => k = g4) w4 (w4.setCell ⟨g4, 0, none⟩ u) := (Upd.refl _ _).set1 0 _
    exact HO4.out.upd hu (HO4.out.bel.trans (hu.below HO4.out.bel.size fun k hk => by omega)) fun k hk h => by have := HL.out k hk; omega
  clear ho4 hu4 hB4
  go_wp2_with (fail)
  have HO5 := hid (HU.out (.string (k ++ ⟨#[63]⟩)))
  generalize w4.setCell ⟨g4, 0, none⟩ (.string (k ++ ⟨#[63]⟩)) = w5 at *
  clear h4c f4
  refine Calls.mono (n_has k w5) ?_
  rintro e w6 ⟨rfl, rfl⟩
  go_wp2_with (fail)
  refine Calls.mono (n_drop k w5) ?_
  rintro e w6 ⟨rfl, hu6⟩
  have HO6 := hid (HO5.out.quiet hu6)
  clear hu6
  go_wp2_with (fail)
  refine Calls.mono (n_list w6) ?_
  rintro e w7 ⟨rfl, rfl⟩
  go_wp2_with (fail)
  refine Calls.mono (n_most w6) ?_
  rintro e w7 ⟨rfl, rfl⟩
  go_wp2_with (fail)
  refine Calls.mono (list_ HO6.out.ta (by simp)) ?_
  rintro e w7 ⟨A7, c7, rfl, ho7, hu7⟩
  obtain ⟨g7, _, hv7, hb7, hl7⟩ := ho7.form (by simp)
  simp only [Value.slice.injEq, true_and] at hv7
  obtain ⟨rfl, rfl⟩ := hv7
  have h7c := ho7.cells (g := g7) rfl 0 (.string k) rfl
  rw [add_plain] at h7c
  have HE := hid (HO6.out.quiet hu7).bel
  clear ho7 hu7
  go_wp2
  go_ret
  exact ⟨rfl, HE.out⟩
end Go.Proofs.Ytdhgeakdfbckeaa.At
