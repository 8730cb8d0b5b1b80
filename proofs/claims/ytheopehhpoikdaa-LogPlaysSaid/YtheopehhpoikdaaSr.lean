/-
  The walk of the reference's Seal.
-/
import Derived.Test.YtheopehhpoikdaaSw
set_option linter.unusedVariables false
set_option linter.unusedSimpArgs false
namespace Go.Proofs.Ytheopehhpoikdaa.Sw
open Go.RowKit Go.Proofs.Ytheopehhpoikdaa.B Go.Proofs.Ytheopehhpoikdaa.Cm Go.Proofs.Ytheopehhpoikdaa.Sm
end Go.Proofs.Ytheopehhpoikdaa.Sw
