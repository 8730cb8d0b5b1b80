/-
  letter.Same; Encode, of any letter.
-/
import Derived.Test.YtgbdpplnfcfhmaaLe
import Derived.Test.YtgbdpplnfcfhmaaLd
import Derived.Test.YtgbdpplnfcfhmaaLs
set_option linter.unusedVariables false
set_option linter.unusedSimpArgs false
namespace Go.Proofs.Ytgbdpplnfcfhmaa.Lq
open Go.RowKit Go.Proofs.Ytgbdpplnfcfhmaa.B Go.Proofs.Ytgbdpplnfcfhmaa.Lt Go.Proofs.Ytgbdpplnfcfhmaa.Ib Go.Proofs.Ytgbdpplnfcfhmaa.Ls Go.Proofs.Ytgbdpplnfcfhmaa.Lc
/-- What Encode answers. -/
def encL (x : L) : List Int := if formed x then lb x else []
def encC (x : L) : Int := if formed x then 0 else 1
def EncR (w : World) (x : L) (e : Ending) (w' : World) : Prop := ∃ A c, e = .returned (.tuple #[.slice A (encL x).length c, .int .i64 (encC x)]) ∧ Rn w' .u8 A (encL x) ∧ Upd No w w'
theorem EncR.of {w : World} {x : L} {e : Ending} {w' : World} (h : ∃ A c, e = .returned (.tuple #[.slice A (encL x).length c, .int .i64 (encC x)]) ∧ Rn w' .u8 A (encL x) ∧ Upd No w w') : EncR w x e w' := h
end Go.Proofs.Ytgbdpplnfcfhmaa.Lq
