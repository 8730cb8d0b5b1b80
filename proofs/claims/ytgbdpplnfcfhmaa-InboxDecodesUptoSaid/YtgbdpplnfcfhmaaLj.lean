/-
  letter's Decode and the reference's; the walk of LetterDecodes.
-/
import Derived.Test.YtgbdpplnfcfhmaaLi
import Derived.Test.YtgbdpplnfcfhmaaLe
import Derived.Test.YtgbdpplnfcfhmaaLq
set_option linter.unusedVariables false
set_option linter.unusedSimpArgs false
namespace Go.Proofs.Ytgbdpplnfcfhmaa.Lj
open Go.RowKit Go.Proofs.Ytgbdpplnfcfhmaa Go.Proofs.Ytgbdpplnfcfhmaa.B Go.Proofs.Ytgbdpplnfcfhmaa.Cw Go.Proofs.Ytgbdpplnfcfhmaa.Cr Go.Proofs.Ytgbdpplnfcfhmaa.Cd Go.Proofs.Ytgbdpplnfcfhmaa.Lt Go.Proofs.Ytgbdpplnfcfhmaa.Ib Go.Proofs.Ytgbdpplnfcfhmaa.Lk
/-- What bytes are: a letter and 0, or none and 2. -/
def decL (l : List Int) : L × Int := if (takeL l false).2.2.2 && (!(takeL l false).2.2.1 && decide ((takeL l false).2.1.length = 0)) then ((takeL l false).1, 0) else (zero, 2)
def DcOut (w : World) (r : L × Int) (e : Ending) (w' : World) : Prop := ∃ v, e = .returned (.tuple #[val r.1 v, .int .i64 r.2]) ∧ In w' r.1 v ∧ Upd No w w'
theorem DcOut.of {w : World} {r : L × Int} {e : Ending} {w' : World} (h : ∃ v, e = .returned (.tuple #[val r.1 v, .int .i64 r.2]) ∧ In w' r.1 v ∧ Upd No w w') : DcOut w r e w' := h
end Go.Proofs.Ytgbdpplnfcfhmaa.Lj
