/- Part 35: lemmas, no conditions. -/
import Derived.Test.YtclfmpieapbfnaaGreatDoorZ33
import Derived.Test.YtclfmpieapbfnaaGreatDoorZ18
import Derived.Test.YtclfmpieapbfnaaGreatDoorZ14
import Derived.SizedLaws
set_option linter.unusedVariables false
set_option linter.unusedSimpArgs false
section
namespace Go.Proofs.YtclfmpieapbfnaaGreatDoor.Nd
open Go.ChangeShapes Go.WideShapes Go.ChangeAt Go.RowKit B Go.Proofs.YtclfmpieapbfnaaGreatDoor.Op
abbrev Oi:=Int × Rm × Int
def ocells (o:Oi):List Value:=.int .i64 o.1 :: (rc o.2.1 ++ [.int .i64 o.2.2])
end Go.Proofs.YtclfmpieapbfnaaGreatDoor.Nd
end
