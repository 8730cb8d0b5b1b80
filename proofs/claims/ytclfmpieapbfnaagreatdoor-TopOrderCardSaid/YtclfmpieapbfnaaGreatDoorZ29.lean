/- Part 29: lemmas, no conditions. -/
import Derived.Test.YtclfmpieapbfnaaGreatDoorZ07
import Derived.Test.YtclfmpieapbfnaaGreatDoorZ09
import Derived.Test.YtclfmpieapbfnaaGreatDoorProg
import Derived.Lib.SliceRun
import Derived.Lib.AppendZerosOnto
import Derived.Lib.Overlaps
import Derived.Laws.CopyRow
import Derived.Laws.AppendOwn
import Derived.Laws.Externs
import Derived.Deep.RegionHeld3
import Derived.Deep.RegionLaw
import Derived.Deep.DrawnRows
set_option linter.unusedVariables false
set_option linter.unusedSimpArgs false
section
namespace Go.Proofs.YtclfmpieapbfnaaGreatDoor.Nd
open Go.RowKit B
theorem Upd.setRow {w:World} (g:Nat) (cur:Array Value):Upd (fun k => k = g) w (w.setRow g cur):=
 ⟨rfl,rfl,rfl,by simp,fun k _ hk => setRow_other w g k _ fun e => hk e⟩
theorem Blk.row {w:World} {g:Nat} {t:TypeId} {cs:Array Value} (h:Blk w g t cs) (cur:Array Value):Blk (w.setRow g cur) g t cur:=setRow_heap w g _ cur t (0,0) h
section
variable {P:Program}
section
variable {ops:Array Oper} {rest:List Oper} {o:Oper} {a:Act} {Q:Exit → Act → World → Prop} {K:Act → World → Prop} {E:Prop}
end
end
end Go.Proofs.YtclfmpieapbfnaaGreatDoor.Nd
end
