/- Part 04: lemmas, no conditions. -/
import Derived.Test.YtclfmpieapbfnaaGreatDoorTie
import Derived.Test.YtclfmpieapbfnaaGreatDoorCards
import Derived.ProofKit
import Derived.SevenTiedAt
set_option linter.unusedVariables false
set_option linter.unusedSimpArgs false
section
namespace Go.Proofs.YtclfmpieapbfnaaGreatDoor.topOrder
open Go.RowKit
theorem g1:Rows.topOrderRow.wfByText (OpenSpec.ofChange Rows.topOrderSpec) = true:=by kernel_rfl
theorem g2 : Tryz.pinned.checked.prog.mainIs = some (true, "465e8cf24ddac9b7602db069d9ef38b020000be1acb44b3403008180c8d01417".toList) := by kernel_rfl
theorem g3:true = Tryz.pinned.checked.prog.looks []:=by kernel_rfl
theorem g5:([22,23].all fun u => !Tryz.prog.wantsStandIn u) = true:=by kernel_rfl
theorem g6 : Tryz.prog.funcNamed "reeve/reevetop.TopOrder" = some 3 := by kernel_rfl
theorem g7:((Tryz.prog.closure 3).any fun g => (Tryz.prog.funcs[g]?).any Func.goes) = false:=by kernel_rfl
theorem g8:Tryz.prog.funcs.any Func.goes = false:=by kernel_rfl
set_option maxRecDepth 100000 in
theorem goes4:Tryz.prog.goes 3 = false:=by
 unfold Program.goes
 rw [g7,g8,Bool.and_false,Bool.false_or]
theorem pg:Tryz.pinned.checked.prog = Tryz.prog:=by kernel_rfl
theorem gf : Rows.topOrderRow.func = "reeve/reevetop.TopOrder" := by kernel_rfl
theorem gs:Rows.topOrderRow.start = .entering:=by kernel_rfl
theorem g4:false = Rows.topOrderRow.goesBy Tryz.pinned.checked.prog:=by
 unfold OpenClaim.goesBy
 rw [pg,gf,gs]
 unfold Program.goesAt Program.goesFrom
 rw [g6,Option.any_some,goes4]
 rfl
end Go.Proofs.YtclfmpieapbfnaaGreatDoor.topOrder
end
