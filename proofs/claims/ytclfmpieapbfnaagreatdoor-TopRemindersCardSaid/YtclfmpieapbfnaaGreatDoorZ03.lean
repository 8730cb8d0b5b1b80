/-
  Part 3 of the proof of the statement that the last part ends in: lemmas, no conditions of their own.
-/
import Derived.Test.YtclfmpieapbfnaaGreatDoorRows
import Derived.ProofKit
import Derived.Stop.Joined
set_option linter.unusedVariables false
set_option linter.unusedSimpArgs false
section
namespace Go.Proofs.YtclfmpieapbfnaaGreatDoor.topReminders
open Go.RowKit
theorem and2 {a b:Bool} (ha:a = true) (hb:b = true):(a && b) = true:=by rw [ha,hb]; rfl
theorem f1:Rows.topRemindersRow.wf (OpenSpec.ofChange Rows.topRemindersSpec) = true:=by kernel_rfl
theorem f2:laidOutB Tryz.prog = true:=by kernel_rfl
theorem f3:mapsRowed Tryz.prog = true:=by kernel_rfl
theorem f4:Tryz.f4.params.all (Tryz.prog.readableRec ·) = true:=by kernel_rfl
theorem f5:namedTie Tryz.prog Rows.topRemindersRow.named Rows.topRemindersSpec.vars = true:=by kernel_rfl
theorem f6:(Rows.topRemindersRow.stops == []) = true:=by kernel_rfl
theorem f7:(Tryz.prog.stops == []) = true:=by kernel_rfl
theorem f8:(Rows.topRemindersRow.knobs == []) = true:=by kernel_rfl
theorem f9:(Tryz.prog.stopKnobs == []) = true:=by kernel_rfl
theorem f10:(Rows.topRemindersRow.inPlace == Tryz.prog.inPlace 4) = true:=by kernel_rfl
theorem f11:(Rows.topRemindersRow.unfollowed == Tryz.prog.unfollowed 4) = true:=by kernel_rfl
theorem f12:(Rows.topRemindersRow.recurses == Tryz.prog.recurses 4) = true:=by kernel_rfl
theorem f13:(Rows.topRemindersRow.named == Tryz.prog.varsNamed 4) = true:=by kernel_rfl
theorem f14:(Rows.topRemindersRow.maps == (Tryz.f4.params.toList ++ Rows.topRemindersSpec.plain.varTypes Tryz.prog).any (Tryz.prog.mapsRec ·)) = true:=by kernel_rfl
theorem f15:(Rows.topRemindersRow.ifaces == (Tryz.f4.params.toList ++ Rows.topRemindersSpec.plain.varTypes Tryz.prog).any (Tryz.prog.ifacesRec ·)) = true:=by kernel_rfl
theorem f16:(Rows.topRemindersRow.mapsOut == Tryz.prog.mapsAmong Tryz.f4.resultTypes.toList) = true:=by kernel_rfl
theorem f17:(Rows.topRemindersRow.loops == (Tryz.f4.params.toList ++ Rows.topRemindersSpec.plain.varTypes Tryz.prog).any (Tryz.prog.loopsFrom ·)) = true:=by kernel_rfl
theorem f18:(Rows.topRemindersRow.wideKeys == (Tryz.f4.params.toList ++ Rows.topRemindersSpec.plain.varTypes Tryz.prog ++ Tryz.f4.resultTypes.toList).any (Tryz.prog.wideKeysFrom ·)) = true:=by kernel_rfl
theorem f19:Rows.topRemindersSpec.vars.all (Tryz.prog.varReadable ·) = true:=by kernel_rfl
theorem f20:Tryz.f4.resultTypes.all (fun t => Tryz.prog.readableRec t && decide (t < Tryz.prog.types.size)) = true:=by kernel_rfl
theorem f21:(Rows.topRemindersRow.ifacesOut == Tryz.f4.resultTypes.toList.any (Tryz.prog.ifacesRec ·)) = true:=by kernel_rfl
theorem f22:(Rows.topRemindersRow.loopsOut == Tryz.f4.resultTypes.toList.any (Tryz.prog.loopsFrom ·)) = true:=by kernel_rfl
theorem f23:(Rows.topRemindersRow.plainKeys == Tryz.prog.plainKeys) = true:=by kernel_rfl
theorem f24:Rows.topRemindersRow.shortTexts.isNone = true:=by kernel_rfl
theorem f25:Tryz.prog.stopsHeard = true:=by kernel_rfl
theorem f26:Tryz.prog.mayEnter = true:=by kernel_rfl
theorem f27:(Rows.topRemindersRow.lifted == Tryz.prog.liftsFinal) = true:=by kernel_rfl
theorem f28:(Tryz.prog.make == some Rows.topRemindersRow.make) = true:=by kernel_rfl
theorem f29:(Rows.topRemindersRow.kinds == (if Rows.topRemindersRow.domain.isEmpty then [] else Tryz.f4.params.toList.map fun t => match Tryz.prog.underlying t with | some (.int k) => some k | _ => none)) = true:=by kernel_rfl
theorem f30:(Rows.topRemindersRow.pinned == Rows.topRemindersRow.pinnedBy) = true:=by kernel_rfl
theorem f31:(Rows.topRemindersRow.veiled == (Tryz.f4.params.toList ++ Rows.topRemindersSpec.plain.varTypes Tryz.prog ++ Tryz.f4.resultTypes.toList).any (Tryz.prog.veiledRec ·)) = true:=by kernel_rfl
theorem f32:Rows.topRemindersRow.veiledFits Tryz.prog Tryz.f4.params.toList (Tryz.f4.params.toList ++ Rows.topRemindersSpec.plain.varTypes Tryz.prog ++ Tryz.f4.resultTypes.toList) = true:=by kernel_rfl
end Go.Proofs.YtclfmpieapbfnaaGreatDoor.topReminders
end
