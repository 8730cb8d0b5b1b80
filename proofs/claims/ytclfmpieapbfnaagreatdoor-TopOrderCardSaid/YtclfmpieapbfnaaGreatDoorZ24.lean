/- Part 24: lemmas, no conditions. -/
import Derived.Test.YtclfmpieapbfnaaGreatDoorZ19
set_option linter.unusedVariables false
set_option linter.unusedSimpArgs false
section
namespace Go.Proofs.YtclfmpieapbfnaaGreatDoor.Up
open Go.RowKit B Cm Sm Dk
def Fit (d:Dm):Prop:=∀ x ∈ d.log,x.2.length = 256 ∧ Byte x.2
end Go.Proofs.YtclfmpieapbfnaaGreatDoor.Up
end
