/-
  Proved: the card of TopOrder (Rows.TopOrderCardSaid), under no condition.
-/
import Derived.Test.YtclfmpieapbfnaaGreatDoorZ52
import Derived.Test.YtclfmpieapbfnaaGreatDoorZ03
import Derived.Test.YtclfmpieapbfnaaGreatDoorZ04
set_option linter.unusedVariables false
set_option linter.unusedSimpArgs false
section
namespace Go.Proofs.YtclfmpieapbfnaaGreatDoor.topOrder
open Go.RowKit
set_option maxRecDepth 100000 in
theorem closed:joinedFacts Tryz.prog 3 Tryz.f3 Rows.topOrderSpec Rows.topOrderRow = true:=by
 unfold joinedFacts
 exact and2 (and2 (and2 (and2 (and2 (and2 (and2 (and2 (and2 (and2 (and2 (and2 (and2 (and2 (and2 (and2 (and2 (and2 (and2 (and2 (and2 (and2 (and2 (and2 (and2 (and2 (and2 (and2 (and2 (and2 (and2 f1 f2) f3) f4) f5) f6) f7) f8) f9) f10) f11) f12) f13) f14) f15) f16) f17) f18) f19) f20) f21) f22) f23) f24) f25) f26) f27) f28) f29) f30) f31) f32
theorem over:Rows.topOrderRow.holds Tryz.pinned (OpenSpec.ofChange Rows.topOrderSpec):=
 OpenClaim.holds_of_wide 3 Tryz.f3 rfl rfl rfl rfl rfl rfl rfl ⟨rfl,rfl,rfl,rfl,rfl⟩ rfl rfl rfl rfl rfl (by kernel_rfl) Tryz.func3 closed
  (of_decide_eq_true (by kernel_rfl)) (by unfold Func.isWrapper; first | (rw [if_pos (by decide +kernel)]; kernel_rfl) | (rw [if_neg (by decide +kernel)]; exact ⟨rfl,rfl⟩))
  (fun os started H enc _ => lifted os started H enc)
theorem proved:Rows.TopOrderCardSaid:=
 Claim7.holds_tied_plain_at .later [] [.data, .data, .data, .data, .sentinel, .sentinel, .pinned] true (true, "465e8cf24ddac9b7602db069d9ef38b020000be1acb44b3403008180c8d01417") true over (fun _ h => by cases h) g1 (fun _ h => by cases h) topOrder_row_tie rfl ⟨rfl, rfl⟩ g2 rfl
  (fun f fn hf hfn => by
   obtain rfl:f = 3:=Option.some.inj (g6.symm.trans hf) |>.symm
   obtain rfl:fn = Tryz.f3:=(Option.some.inj (Tryz.func3.symm.trans hfn)).symm
   exact ⟨g3,fun j t ht => by
    rw [Tryz.params3] at ht
    have hm:t ∈ [22,23]:=by simpa using Array.mem_of_getElem? ht
    exact (show Tryz.prog.wantsStandIn t = false by simpa using List.all_eq_true.1 g5 t hm)⟩)
  g4
end Go.Proofs.YtclfmpieapbfnaaGreatDoor.topOrder
end
