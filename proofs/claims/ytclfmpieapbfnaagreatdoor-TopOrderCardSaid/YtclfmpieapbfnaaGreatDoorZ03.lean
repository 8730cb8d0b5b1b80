/- Part 03: lemmas, no conditions. -/
import Derived.Test.YtclfmpieapbfnaaGreatDoorRows
import Derived.ProofKit
import Derived.Stop.Joined
set_option linter.unusedVariables false
set_option linter.unusedSimpArgs false
section
namespace Go.Proofs.YtclfmpieapbfnaaGreatDoor.topOrder
open Go.RowKit
theorem and2 {a b:Bool} (ha:a = true) (hb:b = true):(a && b) = true:=by rw [ha,hb]; rfl
theorem f1:Rows.topOrderRow.wf (OpenSpec.ofChange Rows.topOrderSpec) = true:=by kernel_rfl
theorem f2:laidOutB Tryz.prog = true:=by kernel_rfl
theorem f3:mapsRowed Tryz.prog = true:=by kernel_rfl
theorem f4:Tryz.f3.params.all (Tryz.prog.readableRec ·) = true:=by kernel_rfl
theorem f5:namedTie Tryz.prog Rows.topOrderRow.named Rows.topOrderSpec.vars = true:=by kernel_rfl
theorem f6:(Rows.topOrderRow.stops == []) = true:=by kernel_rfl
theorem f7:(Tryz.prog.stops == []) = true:=by kernel_rfl
theorem f8:(Rows.topOrderRow.knobs == []) = true:=by kernel_rfl
theorem f9:(Tryz.prog.stopKnobs == []) = true:=by kernel_rfl
theorem f10:(Rows.topOrderRow.inPlace == Tryz.prog.inPlace 3) = true:=by kernel_rfl
theorem f11:(Rows.topOrderRow.unfollowed == Tryz.prog.unfollowed 3) = true:=by kernel_rfl
theorem f12:(Rows.topOrderRow.recurses == Tryz.prog.recurses 3) = true:=by kernel_rfl
theorem f13:(Rows.topOrderRow.named == Tryz.prog.varsNamed 3) = true:=by kernel_rfl
theorem f14:(Rows.topOrderRow.maps == (Tryz.f3.params.toList ++ Rows.topOrderSpec.plain.varTypes Tryz.prog).any (Tryz.prog.mapsRec ·)) = true:=by kernel_rfl
theorem f15:(Rows.topOrderRow.ifaces == (Tryz.f3.params.toList ++ Rows.topOrderSpec.plain.varTypes Tryz.prog).any (Tryz.prog.ifacesRec ·)) = true:=by kernel_rfl
theorem f16:(Rows.topOrderRow.mapsOut == Tryz.prog.mapsAmong Tryz.f3.resultTypes.toList) = true:=by kernel_rfl
theorem f17:(Rows.topOrderRow.loops == (Tryz.f3.params.toList ++ Rows.topOrderSpec.plain.varTypes Tryz.prog).any (Tryz.prog.loopsFrom ·)) = true:=by kernel_rfl
theorem f18:(Rows.topOrderRow.wideKeys == (Tryz.f3.params.toList ++ Rows.topOrderSpec.plain.varTypes Tryz.prog ++ Tryz.f3.resultTypes.toList).any (Tryz.prog.wideKeysFrom ·)) = true:=by kernel_rfl
theorem f19:Rows.topOrderSpec.vars.all (Tryz.prog.varReadable ·) = true:=by kernel_rfl
theorem f20:Tryz.f3.resultTypes.all (fun t => Tryz.prog.readableRec t && decide (t < Tryz.prog.types.size)) = true:=by kernel_rfl
theorem f21:(Rows.topOrderRow.ifacesOut == Tryz.f3.resultTypes.toList.any (Tryz.prog.ifacesRec ·)) = true:=by kernel_rfl
theorem f22:(Rows.topOrderRow.loopsOut == Tryz.f3.resultTypes.toList.any (Tryz.prog.loopsFrom ·)) = true:=by kernel_rfl
theorem f23:(Rows.topOrderRow.plainKeys == Tryz.prog.plainKeys) = true:=by kernel_rfl
theorem f24:Rows.topOrderRow.shortTexts.isNone = true:=by kernel_rfl
theorem f25:Tryz.prog.stopsHeard = true:=by kernel_rfl
theorem f26:Tryz.prog.mayEnter = true:=by kernel_rfl
theorem f27:(Rows.topOrderRow.lifted == Tryz.prog.liftsFinal) = true:=by kernel_rfl
theorem f28:(Tryz.prog.make == some Rows.topOrderRow.make) = true:=by kernel_rfl
theorem f29:(Rows.topOrderRow.kinds == (if Rows.topOrderRow.domain.isEmpty then [] else Tryz.f3.params.toList.map fun t => match Tryz.prog.underlying t with | some (.int k) => some k | _ => none)) = true:=by kernel_rfl
theorem f30:(Rows.topOrderRow.pinned == Rows.topOrderRow.pinnedBy) = true:=by kernel_rfl
theorem f31:(Rows.topOrderRow.veiled == (Tryz.f3.params.toList ++ Rows.topOrderSpec.plain.varTypes Tryz.prog ++ Tryz.f3.resultTypes.toList).any (Tryz.prog.veiledRec ·)) = true:=by kernel_rfl
theorem f32:Rows.topOrderRow.veiledFits Tryz.prog Tryz.f3.params.toList (Tryz.f3.params.toList ++ Rows.topOrderSpec.plain.varTypes Tryz.prog ++ Tryz.f3.resultTypes.toList) = true:=by kernel_rfl
end Go.Proofs.YtclfmpieapbfnaaGreatDoor.topOrder
end
