/-
  The walk of the reference's Seal.
-/
import Derived.Test.YtbcmaobopglooaaSw
set_option linter.unusedVariables false
set_option linter.unusedSimpArgs false
namespace Go.Proofs.Ytbcmaobopglooaa.Sw
open Go.RowKit Go.Proofs.Ytbcmaobopglooaa.B Go.Proofs.Ytbcmaobopglooaa.Cm Go.Proofs.Ytbcmaobopglooaa.Sm
end Go.Proofs.Ytbcmaobopglooaa.Sw
