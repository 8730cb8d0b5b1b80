/-
  Part 22 of the proof of the statement that the last part ends in: lemmas, no conditions of their own.
-/
import Derived.Test.YtclfmpieapbfnaaGreatDoorZ17
set_option linter.unusedVariables false
set_option linter.unusedSimpArgs false
section
namespace Go.Proofs.YtclfmpieapbfnaaGreatDoor.Up
open Go.RowKit B Cm Sm Dk
def Fit (d:Dm):Prop:=∀ x ∈ d.log,x.2.length = 256 ∧ Byte x.2
end Go.Proofs.YtclfmpieapbfnaaGreatDoor.Up
end
